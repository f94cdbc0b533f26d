/-
  What one call hands out is its own: filled, stand, handed, fields2 and the law RecordOwn, walked.
-/
import Derived.Test.YtikodgaomhmbmaaDoorMH
import Derived.Test.YtikodgaomhmbmaaDoorMWb
import Derived.Test.YtikodgaomhmbmaaDoorM6
import Derived.Test.YtikodgaomhmbmaaDoorF3
import Derived.Test.YtikodgaomhmbmaaDoorM2
set_option linter.unusedVariables false
set_option linter.unusedSimpArgs false
namespace Go.Proofs.YtikodgaomhmbmaaDoor
open Go.RowKit

/-- A slice of a row: its cells, its length, where it begins, its room. -/
abbrev GA := List Value × Nat × Option Addr × Nat
def GA.val (x : GA) : Value := .slice x.2.2.1 x.2.1 x.2.2.2
/-- Where two lists both have a cell they have the same. -/
def AgreesG (m k : List Value) : Prop := ∀ (j : Nat) (x y : Value), m[j]? = some x → k[j]? = some y → x = y
theorem agreesG_of_prefix {m k f : List Value} (h1 : m <+: f) (h2 : k <+: f) : AgreesG m k := by
  intro j x y hx hy
  obtain ⟨t1, rfl⟩ := h1
  obtain ⟨t2, e⟩ := h2
  have h1 : (m ++ t1)[j]? = some x := by rw [List.getElem?_append_left (List.getElem?_eq_some_iff.1 hx).1]; exact hx
  have h2 : (k ++ t2)[j]? = some y := by rw [List.getElem?_append_left (List.getElem?_eq_some_iff.1 hy).1]; exact hy
  rw [e, h1] at h2
  injection h2
/-- What an append onto a row of one's own leaves. -/
structure GrewG (e : TypeId) (size : Nat) (w : World) (base : Nat) (A : Option Addr) (c n : Nat) (xs news : List Value) (m : Nat) (A1 : Option Addr) (c1 : Nat) (w1 : World) : Prop where
  made : w1.ownsRow base e size (.slice A1 (n + m) c1) (n + m) (xs ++ news)
  grown : w.grownBy w1 (A.map (·.block))
  lies : (A1 = A ∧ c1 = c) ∨ (w.grownBy w1 none ∧ ∀ ad, A1 = some ad → w.heap.size ≤ ad.block)
  also : ∀ n2 ys, w.ownsRow base e size (.slice A n2 c) n2 ys → AgreesG ys (xs ++ news) → w1.ownsRow base e size (.slice A n2 c) n2 ys
set_option maxRecDepth 100000 in
theorem run_append_share {P : Program} (w : World) (base : Nat) (t ty e : TypeId) (i : TypeInfo) (z : Value) (size bytes : Nat) (ht : P.underlying t = some (.slice e)) (hi : P.info? e = some i) (hz : i.zero = some z)
    (hsize : i.size = size) (hby : i.bytes = bytes) (hzs : z.cells.size = size) (hsz : 0 < size)
    (A : Option Addr) (c0 n : Nat) (xs : List Value) (hown : w.ownsRow base e size (.slice A n c0) n xs)
    (a : Addr) (m c : Nat) (news : List Value) (hl : news.length = m * size) (hnews : ∀ j u, news[j]? = some u → w.cell? (a.add j) = some u) (h1 : ∀ u ∈ news, u.oneCell' = true)
    (hb0 : 0 < bytes) (hbytes : (n + m) * bytes ≤ 140737488355328) (hbase : base ≤ w.heap.size) :
    ∃ A1 c1 w', (Builtin.append_ #[t, t] ty #[.slice A n c0, .slice (some a) m c]).run P w = .ok (.slice A1 (n + m) c1) w' ∧ GrewG e size w base A c0 n xs news m A1 c1 w' := by
  have hlen0 : n + m ≤ 140737488355328 := Nat.le_trans (Nat.le_mul_of_pos_right _ hb0) hbytes
  have h63 : n + m ≤ maxLen := by simp only [maxLen]; omega
  have h0 := hown
  rcases hown.2 with ⟨hv, hn0⟩ | ⟨g, cap, cur, hv, hbg, hg, hnc, hcm, hcs, htake⟩
  · injection hv with e1 _ e3
    subst e1 e3 hn0
    have hx : xs = [] := List.eq_nil_of_length_eq_zero (by simpa using hown.1)
    subst hx
    obtain ⟨v', w1, hrun, ho, hgr, _, _⟩ := run_append_own_at (P := P) w w.heap.size t ty e i z size bytes ht hi hz hsize hby hzs hsz (.slice none 0 0) 0 [] (own_nil w _ _ _) a m c news hl hnews h1 h63 hbytes (Nat.le_refl _)
    obtain ⟨A1, c1, rfl⟩ := own_slice ho
    have hg' : w.grownBy w1 none := hgr
    refine ⟨A1, c1, w1, hrun, own_mono ho hbase, hg', .inr ⟨hg', fun ad e2 => ?_⟩, fun n2 ys hy _ => hy.kept hg' (.inl rfl)⟩
    have := own_base ho ad.block (by rw [e2]; rfl)
    exact this
  · injection hv with e1 _ e3
    subst e1 e3
    have hlen : (xs ++ news).length = (n + m) * size := by rw [List.length_append, hown.1, hl, Nat.add_mul]
    by_cases hroom : n + m ≤ c0
    · have hfit : n * i.size + news.length ≤ cur.size := by rw [hl, hcs, hsize, ← Nat.add_mul]; exact Nat.mul_le_mul_right _ hroom
      have hr := run_append_room (P := P) w t ty e i ht hi g n c0 cur hg a m c news (by rw [hsize]; exact hl) hnews h1 hroom hfit
      rw [hsize] at hr hfit
      have hgr : w.grownBy (w.setRow g (cur.toList.take (n * size) ++ news ++ cur.toList.drop (n * size + news.length)).toArray) (some g) := ⟨rfl, rfl, rfl, by simp, fun k _ hk => setRow_other w g k _ (fun e => hk (by rw [e]))⟩
      have hsz2 : (cur.toList.take (n * size) ++ news ++ cur.toList.drop (n * size + news.length)).toArray.size = c0 * size := by
        simp only [List.size_toArray, List.length_append, List.length_take, List.length_drop, Array.length_toList]
        omega
      refine ⟨some ⟨g, 0, none⟩, c0, _, hr, ⟨hlen, .inr ⟨g, c0, _, rfl, hbg, setRow_heap w g cur _ e _ hg, hroom, hcm, hsz2, ?_⟩⟩, hgr, .inl ⟨rfl, rfl⟩, fun n2 ys hy hag => ⟨hy.1, .inr ⟨g, c0, _, rfl, hbg, setRow_heap w g cur _ e _ hg, ?_, hcm, hsz2, ?_⟩⟩⟩
      · rw [htake, ← hlen]
        exact List.take_left
      · rcases hy.2 with ⟨h2, h3⟩ | ⟨g', cap', cur', hv', _, _, hn2, _⟩
        · omega
        · injection hv' with _ _ e3
          omega
      · rcases hy.2 with ⟨h2, h3⟩ | ⟨g', cap', cur', hv', _, hg', hn2, _, _, ht2⟩
        · cases h2
        · injection hv' with e1 _ e3
          injection e1 with e1
          injection e1 with e1
          subst e1
          rw [hg] at hg'
          injection hg' with hg'
          injection hg' with e4 _ _
          subst e4
          rw [htake]
          apply List.ext_getElem?
          intro j
          rw [List.getElem?_take]
          by_cases hj : j < n2 * size
          · rw [if_pos hj]
            have hyj : cur.toList[j]? = ys[j]? := by rw [← ht2, List.getElem?_take, if_pos hj]
            have hjy : j < ys.length := by rw [hy.1]; exact hj
            rcases Nat.lt_or_ge j (xs ++ news).length with hjl | hjl
            · rw [List.getElem?_append_left hjl, List.getElem?_eq_getElem hjl, List.getElem?_eq_getElem hjy]
              rw [hag j ys[j] (xs ++ news)[j] (List.getElem?_eq_getElem hjy) (List.getElem?_eq_getElem hjl)]
            · rw [List.getElem?_append_right hjl, List.getElem?_drop, ← hyj]
              congr 1
              rw [List.length_append] at hjl ⊢
              have := hown.1
              omega
          · rw [if_neg hj, List.getElem?_eq_none (by rw [hy.1]; omega)]
    · have holds : ∀ j u, xs[j]? = some u → w.cell? ((⟨g, 0, none⟩ : Addr).add j) = some u := h0.cells (g := g) rfl
      have hr := run_append_grow (P := P) w t ty e i z ht hi hz ⟨g, 0, none⟩ n c0 xs (by rw [hsize]; exact hown.1) holds a m c news (by rw [hsize]; exact hl) hnews (by omega) (by omega) (by rw [hby]; exact growslice_fits (by omega) hbytes)
      have hge := grownCap_ge w (n + m) c0 e
      have hcm2 : grownCap w (n + m) c0 e ≤ maxLen := grownCap_le_maxLen w (n + m) c0 e h63
      generalize grownCap w (n + m) c0 e = c1 at hr hge hcm2
      have hgr : ∀ row, w.grownBy (w.drew.alloc (.cells (xs.toArray ++ news.toArray ++ Builtin.zeroCells z.cells (c1 - (n + m))) e)) row := fun row => ⟨rfl, rfl, rfl, by simp, fun k hk _ => Below.heap_alloc w.drew _ k hk⟩
      refine ⟨some ⟨w.heap.size, 0, none⟩, c1, _, hr, ⟨hlen, .inr ⟨w.heap.size, _, _, rfl, hbase, heap_alloc_new w.drew _, hge, hcm2, ?_, ?_⟩⟩, hgr _, .inr ⟨hgr none, fun ad' e2 => by injection e2 with e2; subst e2; exact Nat.le_refl _⟩, fun n2 ys hy _ => hy.kept (hgr none) (by cases Value.ownBlock _ <;> simp)⟩
      · simp only [Array.size_append, List.size_toArray, size_zeroCells, hzs, hown.1, hl, ← Nat.add_mul]
        congr 1
        omega
      · simp only [Array.toList_append, List.append_assoc]
        rw [← List.append_assoc, ← hlen]
        exact List.take_left
section
variable {P : Program} {ops : Array Oper} {rest : List Oper} {o : Oper} {a : Act} {Q : Exit → Act → World → Prop} {W : World}
theorem ev_append_share (hgd : o.guard = none) {s x : Operand} {t : TypeId} (ho : o.op = .call { callee := .builtin .append, args := #[s, x], argTypes := #[t, t] })
    {base : Nat} {e : TypeId} {z : Value} {size bytes : Nat} (ht : P.underlying t = some (.slice e)) (hinfo : (P.info? e).map (fun i => (i.zero, i.size, i.bytes)) = some (some z, size, bytes))
    (hzs : z.cells.size = size) (hsz : 0 < size) {A0 : Option Addr} {c0 n : Nat} {xs : List Value} (hs : a.eval s = .slice A0 n c0) (hown : W.ownsRow base e size (.slice A0 n c0) n xs)
    {ad : Addr} {m c : Nat} {news : List Value} (hx : a.eval x = .slice (some ad) m c) (hl : news.length = m * size) (hnews : ∀ j u, news[j]? = some u → W.cell? (ad.add j) = some u) (h1 : ∀ u ∈ news, u.oneCell' = true)
    (hbytes : (n + m) * bytes ≤ 140737488355328) (hb0 : 0 < bytes) (hbase : base ≤ W.heap.size)
    (h : ∀ A1 c1 w1, GrewG e size W base A0 c0 n xs news m A1 c1 w1 → wpList P ops Q rest (a.put o.dst (.slice A1 (n + m) c1)) w1) : wpList P ops Q (o :: rest) a W := by
  obtain ⟨i0, hi, hz0, hz1, hz2⟩ := info_parts hinfo
  obtain ⟨A1, c1, w1, hrun, hG⟩ := run_append_share (P := P) W base t o.type e i0 z size bytes ht hi hz0 hz1 hz2 hzs hsz A0 c0 n xs hown ad m c news hl hnews h1 hb0 hbytes hbase
  refine ev_run hgd (w1 := w1) (v := .slice A1 (n + m) c1) ?_ (h A1 c1 w1 hG)
  simp only [execOp, ho, resolve, invoke, builtin, Sem.run_bind, Sem.run_pure, Result.andThen_ok, List.map_toArray, List.map_cons, List.map_nil, hs, hx, hrun]
end

/-! ### Lists of such rows -/
structure OGs (e : TypeId) (size : Nat) (w : World) (base : Nat) (os : List GA) : Prop where
  all : ∀ x ∈ os, w.ownsRow base e size x.val x.2.1 x.1
  apart : os.Pairwise fun x y => Apart x.2.2.1 y.2.2.1
theorem own_lt_at {w : World} {base n c size : Nat} {e : TypeId} {A : Option Addr} {xs : List Value} (h : w.ownsRow base e size (.slice A n c) n xs) {ad : Addr} (hA : A = some ad) : base ≤ ad.block ∧ ad.block < w.heap.size := by
  subst hA
  exact h.lt _ rfl
section
variable {e : TypeId} {size : Nat} {w w' : World} {base : Nat} {os : List GA}
theorem OGs.nil : OGs e size w base [] := ⟨fun x hx => (by cases hx), List.Pairwise.nil⟩
theorem OGs.lt (h : OGs e size w base os) : ∀ x ∈ os, ∀ ad, x.2.2.1 = some ad → base ≤ ad.block ∧ ad.block < w.heap.size := fun x hx _ e => own_lt_at (h.all x hx) e
theorem OGs.kept {row : Option Nat} (h : OGs e size w base os) (hgr : w.grownBy w' row) (hne : ∀ x ∈ os, ∀ ad, x.2.2.1 = some ad → some ad.block ≠ row) : OGs e size w' base os := by
  refine ⟨fun x hx => (h.all x hx).kept hgr ?_, h.apart⟩
  unfold GA.val
  cases hA : x.2.2.1 with
  | none => exact .inl rfl
  | some ad => exact .inr fun e => hne x hx ad hA e
theorem OGs.next (h : OGs e size w base os) (hb : Below w.heap.size w w') : OGs e size w' base os := h.kept (grown_of_below hb) (by simp)
theorem OGs.mono {base' : Nat} (h : OGs e size w base os) (hb : base' ≤ base) : OGs e size w base' os := ⟨fun x hx => own_mono (h.all x hx) hb, h.apart⟩
theorem OGs.ne_own {base' size' n : Nat} {e' : TypeId} {v : Value} {xs : List Value} (h : OGs e size w base os) (ho : w.ownsRow base' e' size' v n xs) (hne : e ≠ e') : ∀ x ∈ os, ∀ ad, x.2.2.1 = some ad → some ad.block ≠ v.ownBlock := fun x hx ad hA he => by
  have h1 := h.all x hx
  unfold GA.val at h1
  rw [hA] at h1
  rcases own_ty_ne h1 ho hne with h2 | h2
  · cases h2
  · exact h2 he
theorem OGs.ne_blk {g : Nat} {t : TypeId} {cs : Array Value} (h : OGs e size w base os) (hg : Blk w g t cs) (hne : e ≠ t) : ∀ x ∈ os, ∀ ad, x.2.2.1 = some ad → some ad.block ≠ some g := fun x hx ad hA he => by
  have h1 := h.all x hx
  unfold GA.val at h1
  rw [hA] at h1
  exact own_blk_ne h1 hg hne he
theorem OGs.snoc {y : GA} (h : OGs e size w base os) (hy : w.ownsRow base e size y.val y.2.1 y.1) (hd : ∀ x ∈ os, Apart x.2.2.1 y.2.2.1) : OGs e size w base (os ++ [y]) := by
  constructor
  · intro x hx
    rcases List.mem_append.1 hx with hx | hx
    · exact h.all x hx
    · obtain rfl : x = y := by simpa using hx
      exact hy
  · refine List.pairwise_append.2 ⟨h.apart, List.pairwise_singleton _ _, ?_⟩
    intro a ha b hb
    obtain rfl : b = y := by simpa using hb
    exact hd a ha
theorem OGs.others (h : OGs e size w base os) {k : Nat} {y : GA} (hk : os[k]? = some y) {j : Nat} {x : GA} (hj : os[j]? = some x) (hne : j ≠ k) : Apart x.2.2.1 y.2.2.1 := by
  have hp := List.pairwise_iff_getElem.1 h.apart
  obtain ⟨hk1, rfl⟩ := List.getElem?_eq_some_iff.1 hk
  obtain ⟨hj1, rfl⟩ := List.getElem?_eq_some_iff.1 hj
  rcases Nat.lt_or_gt_of_ne hne with hl | hl
  · exact hp j k hj1 hk1 hl
  · exact (hp k j hk1 hj1 hl).symm
/-- A new row lies apart from those that were there. -/
theorem OGs.apart_new {base' n c : Nat} {A : Option Addr} {xs : List Value} (h : OGs e size w base os) (h' : w'.ownsRow base' e size (.slice A n c) n xs) (hb : w.heap.size ≤ base') : ∀ x ∈ os, Apart x.2.2.1 A := fun x hx a b ha hb' e2 => by
  have h1 := (h.lt x hx a ha).2
  have h2 := (own_lt_at h' hb').1
  omega
/-- One of the rows holds other cells, the others stay. -/
theorem OGs.set_ (h : OGs e size w base os) {k : Nat} {xs ys : List Value} {n g c : Nat} (hk : os[k]? = some (xs, n, some ⟨g, 0, none⟩, c)) (hy : w'.ownsRow base e size (.slice (some ⟨g, 0, none⟩) n c) n ys) (hgr : w.grownBy w' (some g)) : OGs e size w' base (os.set k (ys, n, some ⟨g, 0, none⟩, c)) := by
  have hkl : k < os.length := (List.getElem?_eq_some_iff.1 hk).1
  constructor
  · intro x hx
    obtain ⟨j, hj⟩ := List.mem_iff_getElem?.1 hx
    by_cases e1 : k = j
    · subst e1
      rw [List.getElem?_set_self hkl] at hj
      injection hj with hj
      subst hj
      exact hy
    · rw [List.getElem?_set_ne e1] at hj
      refine (h.all x (List.mem_of_getElem? hj)).kept hgr ?_
      unfold GA.val
      cases hA : x.2.2.1 with
      | none => exact .inl rfl
      | some ad =>
        refine .inr fun e' => ?_
        injection e' with e'
        exact h.others hk hj (fun e2 => e1 e2.symm) ad ⟨g, 0, none⟩ hA rfl e'
  · rw [List.pairwise_iff_getElem]
    intro i j hi hj hij
    have e1 : ∀ (i : Nat) (hi : i < (os.set k (ys, n, some ⟨g, 0, none⟩, c)).length), (os.set k (ys, n, some ⟨g, 0, none⟩, c))[i].2.2.1 = (os[i]'(by simpa using hi)).2.2.1 := by
      intro i hi
      rw [List.getElem_set]
      split
      · rename_i e2
        subst e2
        obtain ⟨_, e2⟩ := List.getElem?_eq_some_iff.1 hk
        rw [e2]
      · rfl
    rw [e1 i hi, e1 j hj]
    exact List.pairwise_iff_getElem.1 h.apart i j _ _ hij
end

/-! ### Families -/
structure FamG (e : TypeId) (size : Nat) (F : Nat → List Value) (w : World) (base : Nat) (os : List (Nat × GA)) : Prop where
  all : ∀ x ∈ os, w.ownsRow base e size x.2.val x.2.2.1 x.2.1
  pre : ∀ x ∈ os, x.2.1 <+: F x.1
  pair : ∀ x ∈ os, ∀ y ∈ os, Apart x.2.2.2.1 y.2.2.2.1 ∨ (x.1 = y.1 ∧ x.2.2.2 = y.2.2.2)
section
variable {e : TypeId} {size : Nat} {F : Nat → List Value} {w w' : World} {base : Nat} {os : List (Nat × GA)}
theorem FamG.sub {qs : List (Nat × GA)} (h : FamG e size F w base os) (hs : ∀ x ∈ qs, x ∈ os) : FamG e size F w base qs := ⟨fun x hx => h.all x (hs x hx), fun x hx => h.pre x (hs x hx), fun x hx y hy => h.pair x (hs x hx) y (hs y hy)⟩
theorem FamG.kept {row : Option Nat} (h : FamG e size F w base os) (hgr : w.grownBy w' row) (hne : ∀ x ∈ os, ∀ ad, x.2.2.2.1 = some ad → some ad.block ≠ row) : FamG e size F w' base os := by
  refine ⟨fun x hx => (h.all x hx).kept hgr ?_, h.pre, h.pair⟩
  unfold GA.val
  cases hA : x.2.2.2.1 with
  | none => exact .inl rfl
  | some ad => exact .inr fun e => hne x hx ad hA e
theorem FamG.next (h : FamG e size F w base os) (hb : Below w.heap.size w w') : FamG e size F w' base os := h.kept (grown_of_below hb) (by simp)
theorem FamG.ne_own {base' size' n : Nat} {e' : TypeId} {v : Value} {xs : List Value} (h : FamG e size F w base os) (ho : w.ownsRow base' e' size' v n xs) (hne : e ≠ e') : ∀ x ∈ os, ∀ ad, x.2.2.2.1 = some ad → some ad.block ≠ v.ownBlock := fun x hx ad hA he => by
  have h1 := h.all x hx
  unfold GA.val at h1
  rw [hA] at h1
  rcases own_ty_ne h1 ho hne with h2 | h2
  · cases h2
  · exact h2 he
theorem FamG.ne_blk {g : Nat} {t : TypeId} {cs : Array Value} (h : FamG e size F w base os) (hg : Blk w g t cs) (hne : e ≠ t) : ∀ x ∈ os, ∀ ad, x.2.2.2.1 = some ad → some ad.block ≠ some g := fun x hx ad hA he => by
  have h1 := h.all x hx
  unfold GA.val at h1
  rw [hA] at h1
  exact own_blk_ne h1 hg hne he
theorem FamG.append (h : FamG e size F w base os) {t n c m : Nat} {A : Option Addr} {xs news : List Value} (hx : (t, xs, n, A, c) ∈ os) (hp : xs ++ news <+: F t) {A1 : Option Addr} {c1 : Nat} {w1 : World} (hG : GrewG e size w base A c n xs news m A1 c1 w1) :
    FamG e size F w1 base ((t, xs ++ news, n + m, A1, c1) :: os) := by
  have hold : ∀ y ∈ os, w1.ownsRow base e size y.2.val y.2.2.1 y.2.1 := fun y hy => by
    rcases h.pair y hy _ hx with hap | ⟨ht, hloc⟩
    · refine (h.all y hy).kept hG.grown ?_
      unfold GA.val
      cases hyA : y.2.2.2.1 with
      | none => exact .inl rfl
      | some ad =>
        refine .inr fun e2 => ?_
        cases hA : A with
        | none => rw [hA] at e2; cases e2
        | some ad' =>
          rw [hA] at e2
          injection e2 with e2
          exact hap ad ad' hyA hA e2
    · have e1 : y.2.2.2.1 = A := congrArg Prod.fst hloc
      have e2 : y.2.2.2.2 = c := congrArg Prod.snd hloc
      have hy' := h.all y hy
      unfold GA.val at hy' ⊢
      rw [e1, e2] at hy' ⊢
      exact hG.also _ _ hy' (agreesG_of_prefix (by have := h.pre y hy; rwa [show y.1 = t from ht] at this) hp)
  have hrel : ∀ y ∈ os, Apart y.2.2.2.1 A1 ∨ (y.1 = t ∧ y.2.2.2 = (A1, c1)) := fun y hy => by
    rcases hG.lies with ⟨rfl, rfl⟩ | ⟨_, hnew⟩
    · exact h.pair y hy _ hx
    · refine .inl fun a b ha hb e2 => ?_
      have h1 := (own_lt_at (h.all y hy) ha).2
      have h2 := hnew b hb
      omega
  refine ⟨fun y hy => ?_, fun y hy => ?_, fun x hx y hy => ?_⟩
  · rcases List.mem_cons.1 hy with rfl | hy
    · exact hG.made
    · exact hold y hy
  · rcases List.mem_cons.1 hy with rfl | hy
    · exact hp
    · exact h.pre y hy
  · rcases List.mem_cons.1 hx with rfl | hx <;> rcases List.mem_cons.1 hy with rfl | hy
    · exact .inr ⟨rfl, rfl⟩
    · rcases hrel y hy with h1 | ⟨h1, h2⟩
      · exact .inl h1.symm
      · exact .inr ⟨h1.symm, h2.symm⟩
    · exact hrel x hx
    · exact h.pair x hx y hy
end
def taggedG (os : List GA) : List (Nat × GA) := os.zipIdx.map fun x => (x.2, x.1)
theorem taggedG_mem {os : List GA} {x : Nat × GA} : x ∈ taggedG os ↔ os[x.1]? = some x.2 := by
  unfold taggedG
  rw [List.mem_map]
  constructor
  · rintro ⟨⟨y, i⟩, hy, rfl⟩
    rw [List.mem_zipIdx_iff_getElem?] at hy
    simpa using hy
  · intro h
    exact ⟨(x.2, x.1), by rw [List.mem_zipIdx_iff_getElem?]; simpa using h, rfl⟩
theorem FamG.of_rows {e : TypeId} {size : Nat} {F : Nat → List Value} {w : World} {base : Nat} {os : List GA} (h : OGs e size w base os) (hp : ∀ i x, os[i]? = some x → x.1 <+: F i) : FamG e size F w base (taggedG os) := by
  refine ⟨fun x hx => h.all _ (List.mem_of_getElem? (taggedG_mem.1 hx)), fun x hx => hp _ _ (taggedG_mem.1 hx), fun x hx y hy => ?_⟩
  by_cases e1 : x.1 = y.1
  · have h1 := taggedG_mem.1 hx
    have h2 := taggedG_mem.1 hy
    rw [e1, h2] at h1
    injection h1 with h1
    exact .inr ⟨e1, by rw [h1]⟩
  · exact .inl (h.others (taggedG_mem.1 hy) (taggedG_mem.1 hx) e1)
end Go.Proofs.YtikodgaomhmbmaaDoor
namespace Go.Proofs.YtikodgaomhmbmaaDoor
open Go.RowKit

theorem MK_add (i j k : Nat) : MK i j ++ MK i k = MK i (j + k) := by unfold MK; rw [List.replicate_append_replicate]
/-- What may stand in a row and behind it. -/
def F3 (l : List BA) (i : Nat) : List UInt8 := MK i (2 * (((l[i]?).map fun x => x.1.length).getD 0) + 70)
theorem F3_pre {l : List BA} {i : Nat} {x : BA} (h : l[i]? = some x) {j : Nat} (hj : j ≤ x.1.length + 70) : MK i (x.1.length + j) <+: F3 l i := by
  have e : F3 l i = MK i (2 * x.1.length + 70) := by simp [F3, h]
  rw [e]
  refine ⟨MK i (x.1.length + 70 - j), ?_⟩
  rw [MK_add, show x.1.length + j + (x.1.length + 70 - j) = 2 * x.1.length + 70 by omega]
/-- What filled hands out for the rows l. -/
structure More3 (l : List BA) (k : Nat) (ms : List (Nat × BA)) : Prop where
  len : ms.length = k
  at_ : ∀ i x, i < k → l[i]? = some x → ∃ y : Nat × BA, ms[i]? = some y ∧ y.2.1 = MK i (2 * x.1.length + 70)
theorem More3.nil {l : List BA} : More3 l 0 [] := ⟨rfl, fun i x h => by omega⟩
theorem More3.snoc {l : List BA} {k : Nat} {ms : List (Nat × BA)} (h : More3 l k ms) {x : BA} (hx : l[k]? = some x) {y : Nat × BA} (h1 : y.2.1 = MK k (2 * x.1.length + 70)) : More3 l (k + 1) (ms ++ [y]) := by
  refine ⟨by simp [h.len], fun i z hi hz => ?_⟩
  rcases Nat.lt_or_ge i k with hik | hik
  · obtain ⟨a, ha, r⟩ := h.at_ i z hik hz
    exact ⟨a, by rw [List.getElem?_append_left (by rw [h.len]; omega)]; exact ha, r⟩
  · obtain rfl : i = k := by omega
    rw [hx] at hz
    injection hz with hz
    subst hz
    exact ⟨y, by rw [List.getElem?_append_right (by rw [h.len]; omega), h.len, Nat.sub_self]; rfl, h1⟩
theorem blk_bytes {w : World} {g : Nat} {t : TypeId} {b : UInt8} (h : Blk w g t #[.int .u8 b.toNat]) : ∀ j u, (u8s [b])[j]? = some u → w.cell? ((⟨g, 0, none⟩ : Addr).add j) = some u := by
  intro j u hu
  have e : (⟨g, 0, none⟩ : Addr).add j = ⟨g, j, none⟩ := by unfold Addr.add; split <;> simp_all
  rw [e, h.cell]
  simpa [u8s] using hu
theorem fill_start3 {w wr : World} {l : List BA} {base i j : Nat} (hQ : OBs w base l) (h : Filling w l base wr i j (marks l)) (hbase : base ≤ w.heap.size) : Fill (F3 l) w l base wr (tagged (marks l)) := by
  refine Fill.start h.rows h.sp (fun x hx => ?_) (fun k x hx => ?_) hbase
  · obtain ⟨k, hk⟩ := List.mem_iff_getElem?.1 hx
    rw [marks_get] at hk
    obtain ⟨y, hy, rfl⟩ := Option.map_eq_some_iff.1 hk
    exact ⟨y, List.mem_of_getElem? hy, rfl⟩
  · rw [marks_get] at hx
    obtain ⟨y, hy, rfl⟩ := Option.map_eq_some_iff.1 hx
    exact F3_pre hy (j := 0) (by omega)
/-- What filled says. -/
def FillSaid3 (l : List BA) (n base : Nat) (w : World) (e : Ending) (w' : World) : Prop :=
  ∃ (A' : Option Addr) (c' : Nat) (ts : List (Nat × BA)), e = .returned (.slice A' n c') ∧ Aside (More3 l n ts) ∧ w'.ownsRow w.heap.size 25 1 (.slice A' n c') n (baCells (ts.map (·.2))) ∧ Fill (F3 l) w l base w' (tagged (marks l) ++ ts)

set_option maxHeartbeats 4000000 in
set_option maxRecDepth 100000 in
theorem filled3_calls (l : List BA) (n : Nat) (hn : l.length = n) (A : Option Addr) (c b0 base : Nat) (hl : n ≤ 1000000000) (hs : ∀ x ∈ l, x.1.length ≤ 70368744170000) (w : World) (hbase : base ≤ w.heap.size) (hQ : OBs w base l) (ho : w.ownsRow b0 25 1 (.slice A n c) n (baCells l)) :
    Calls Tryd.prog 15 #[.slice A n c] w (FillSaid3 l n base w) := by
  have Hn := Lib.hid hn
  have Hs := Lib.hid hs
  have Hf := Lib.hid (Filling.start hQ)
  have HQ := Lib.hid hQ
  have Ho := Lib.hid ho
  clear hn hs hQ ho
  go_enter Tryd.func15, Tryd.ntmps15
  go_wp2
  go_loopg [4] n (fun m v4 wr => ∃ i : Nat, m + i = n ∧ v4 = .int .i64 i ∧ Aside (∃ cur, Filling w l base wr i 0 cur))
  case atStart => exact ⟨0, by omega, rfl, ⟨_, Hf.out⟩⟩
  case round =>
    clear Hf
    obtain ⟨gm, rfl⟩ : ∃ gm, gm = gk := ⟨_, rfl⟩
    obtain ⟨i, hm, rfl, HA⟩ := hrel
    obtain ⟨cur, HF⟩ := HA.out
    clear HA
    by_cases hlt : i < n
    · have s1 : decide ((i : Int) < (n : Int)) = true := by rw [decide_eq_true_eq]; omega
      have s1' : decide (i < n) = true := by rw [decide_eq_true_eq]; exact hlt
      obtain ⟨gB, rfl, _⟩ := own_at Ho.out (by omega)
      obtain ⟨x, hx⟩ : ∃ x, l[i]? = some x := ⟨_, List.getElem?_eq_getElem (by rw [Hn.out]; exact hlt)⟩
      obtain ⟨b, Ai, ci⟩ := x
      have Hx := Lib.hid hx
      have hcell : ∀ (W : World), Spared w W l → W.cell? ⟨gB, i, none⟩ = some (.slice Ai b.length ci) := fun W h => own_cellN (own_spared Ho.out h HQ.out (by decide)) i (baCells_get Hx.out)
      have Hcell := Lib.hid hcell
      have tm : (i : Int).tmod 250 = (i : Int) % 250 := by rw [Int.tmod_eq_emod_of_nonneg (by omega)]
      have tw : IntKind.u8.wrap ((1 : Int) + (i : Int) % 250) = ((UInt8.ofNat (1 + i % 250)).toNat : Int) := by rw [mk_num, IntKind.wrap_u8]; omega
      obtain ⟨nb, hnb⟩ : ∃ nb, b.length = nb := ⟨_, rfl⟩
      rw [hnb] at Hcell
      have hnbl : nb ≤ 70368744170000 := by have := Hs.out _ (List.mem_of_getElem? hx); simp only at this; omega
      have Hnb := Lib.hid hnb
      clear hx hcell hnb
      go_wp2
      go_loopg [5] nb (fun m v5 wr => ∃ (j : Nat), m + j = nb ∧ v5 = .int .i64 j ∧ Aside (∃ cur, Filling w l base wr i j cur))
      case atStart => exact ⟨0, by omega, rfl, ⟨_, HF⟩⟩
      case round =>
        clear HF
        obtain ⟨j, hm2, rfl, HA⟩ := hrel
        obtain ⟨cur, HF⟩ := HA.out
        clear HA
        have hcw := Hcell.out _ HF.sp
        by_cases hj : j < nb
        · have r1 : decide ((j : Int) < (nb : Int)) = true := by rw [decide_eq_true_eq]; omega
          have r1' : decide (j < nb) = true := by rw [decide_eq_true_eq]; exact hj
          obtain ⟨b', hb', hbl⟩ := HF.get Hx.out
          have hB := HF.rows.all _ (List.mem_of_getElem? hb')
          have hjb : j < b.length := by rw [Hnb.out]; exact hj
          obtain ⟨gi, hgi, _⟩ := hB.at_ (by simp only [hbl]; omega)
          simp only at hgi
          subst hgi
          have hjb' : j < b'.length := by omega
          have Hb' := Lib.hid hb'
          have HFF := Lib.hid HF
          clear hb' HF hbl
          go_wp2_with (first
            | ((with_reducible refine gate_store (p := 33) rfl ?_); refine ev_store_ob (b := UInt8.ofNat (1 + i % 250)) rfl rfl rfl hB (k := j) hjb' rfl rfl (by kernel_rfl) ?_; intro W2 B9 hgr))
          go_roundg (gk - 1)
          case measure => omega
          case rel => exact ⟨j + 1, by omega, by go_num, ⟨_, HFF.out.byte Hx.out Hb'.out hjb B9 hgr⟩⟩
        · have r1 : decide ((j : Int) < (nb : Int)) = false := by rw [decide_eq_false_iff_not]; omega
          have r1' : decide (j < nb) = false := by rw [decide_eq_false_iff_not]; exact hj
          obtain rfl : j = nb := by omega
          go_wp2
          go_roundg (gm - 1)
          case measure => omega
          case rel => exact ⟨i + 1, by omega, by go_num, ⟨cur, HF.next_row Hx.out Hnb.out.symm⟩⟩
    · have hin : l.length = i := by rw [Hn.out]; omega
      have s1 : decide ((i : Int) < (n : Int)) = false := by rw [decide_eq_false_iff_not]; omega
      have s1' : decide (i < n) = false := by rw [decide_eq_false_iff_not]; exact hlt
      rw [← hin] at HF
      have hcur := HF.done
      subst hcur
      have X0 := fill_start3 HQ.out HF hbase
      have HX0 := Lib.hid X0
      clear HF hin X0
      go_wp2
      go_loopg [3, 6] n (fun m v3 v6 wr => ∃ (k : Nat) (A5 : Option Addr) (c5 : Nat) (ts : List (Nat × BA)), m + k = n ∧ v6 = .int .i64 k ∧ v3 = .slice A5 k c5 ∧ Aside (More3 l k ts ∧ wr.ownsRow w.heap.size 25 1 (.slice A5 k c5) k (baCells (ts.map (·.2))) ∧ Fill (F3 l) w l base wr (tagged (marks l) ++ ts)))
      case atStart => exact ⟨0, none, 0, [], by omega, rfl, rfl, ⟨More3.nil, own_nil _ _ _ _, by simpa using HX0.out⟩⟩
      case round =>
        clear HX0
        obtain ⟨gm2, rfl⟩ : ∃ gm2, gm2 = gk := ⟨_, rfl⟩
        obtain ⟨k, A5, c5, ts, hm2, rfl, rfl, HA⟩ := hrel
        obtain ⟨hmore, o5, X1⟩ := HA.out
        clear HA
        have Hmore := Lib.hid hmore
        clear hmore
        by_cases hk : k < n
        · have r1 : decide ((k : Int) < (n : Int)) = true := by rw [decide_eq_true_eq]; omega
          have r1' : decide (k < n) = true := by rw [decide_eq_true_eq]; exact hk
          obtain ⟨gB, rfl, _⟩ := own_at Ho.out (by omega)
          obtain ⟨x, hx⟩ : ∃ x, l[k]? = some x := ⟨_, List.getElem?_eq_getElem (by rw [Hn.out]; exact hk)⟩
          obtain ⟨b, Ai, ci⟩ := x
          have Hx := Lib.hid hx
          have hcell : ∀ (W : World), Spared w W l → W.cell? ⟨gB, k, none⟩ = some (.slice Ai b.length ci) := fun W h => own_cellN (own_spared Ho.out h HQ.out (by decide)) k (baCells_get Hx.out)
          have Hcell := Lib.hid hcell
          have hmem : (k, MK k b.length, Ai, ci) ∈ tagged (marks l) ++ ts := List.mem_append_left _ (tagged_mem.2 (by rw [marks_get, Hx.out]; rfl))
          have hpj : ∀ j, j < b.length + 70 → MK k (b.length + j) ++ MK k 1 <+: F3 l k := fun j hj => by
            rw [MK_add]
            exact F3_pre Hx.out (j := j + 1) (by simp only; omega)
          obtain ⟨nb, hnb⟩ : ∃ nb, b.length = nb := ⟨_, rfl⟩
          have hnbl : nb ≤ 70368744170000 := by have := Hs.out _ (List.mem_of_getElem? hx); simp only at this; omega
          rw [hnb] at Hcell hmem hpj
          have Hnb := Lib.hid hnb
          have Hmem := Lib.hid hmem
          have Hpj := Lib.hid hpj
          have hcw := Hcell.out _ X1.sp
          have X2 := X1.sub (qs := (k, MK k (nb + 0), Ai, ci) :: (tagged (marks l) ++ ts)) (fun x hx => by
            rcases List.mem_cons.1 hx with rfl | hx
            · exact Hmem.out
            · exact hx)
          have tm : (k : Int).tmod 250 = (k : Int) % 250 := by rw [Int.tmod_eq_emod_of_nonneg (by omega)]
          have tw := mark_wrap k
          have hone : MK k 1 = [UInt8.ofNat (1 + k % 250)] := rfl
          have Hone := Lib.hid hone
          clear X1 hone
          have HX2 := Lib.hid X2
          clear X2 hx hcell hnb hmem hpj
          go_wp2
          go_loopg [7, 8] (nb + 70) (fun m v7 v8 wr => ∃ (j : Nat) (A3 : Option Addr) (c3 : Nat), m + j = nb + 70 ∧ v8 = .int .i64 j ∧ v7 = .slice A3 (nb + j) c3 ∧ Aside (wr.ownsRow w.heap.size 25 1 (.slice A5 k c5) k (baCells (ts.map (·.2))) ∧ Fill (F3 l) w l base wr ((k, MK k (nb + j), A3, c3) :: (tagged (marks l) ++ ts))))
          case atStart => exact ⟨0, Ai, ci, by omega, rfl, rfl, ⟨o5, HX2.out⟩⟩
          case round =>
            clear o5 HX2 hcw
            obtain ⟨j, A3, c3, hm3, rfl, rfl, HA⟩ := hrel
            obtain ⟨o5, X1⟩ := HA.out
            clear HA
            have hcw := Hcell.out _ X1.sp
            by_cases hj : j < nb + 70
            · have q1 : decide ((j : Int) < (nb : Int) + 70) = true := by rw [decide_eq_true_eq]; omega
              have q1' : decide (j < nb + 70) = true := by rw [decide_eq_true_eq]; exact hj
              have Hpp := Lib.hid (Hpj.out j hj)
              have hlen : (MK k (nb + j)).length = nb + j := MK_len _ _
              have Hlen := Lib.hid hlen
              clear hlen
              generalize hmb : UInt8.ofNat (1 + k % 250) = mb at tw Hone
              go_wp2_with (first
                | ((with_reducible refine gate_dst (N := 59) rfl ?_); refine ev_lit rfl rfl (#[.int .u8 mb.toNat]) 5 1 (by first | (go_simp; done) | (go_simp; rfl)) ?_; intro g5 W1 hg5 hsz hbn; have hgr := grown_of_below hbn; have zg5 : w.heap.size ≤ g5 := (by have := X1.size; omega); replace o5 := o5.kept hgr (by cases Value.ownBlock _ <;> simp); replace X1 := X1.grown hgr; have hcg5 := hg5.cell; have hfg5 := hg5.frozen; clear hsz hbn hgr)
                | ((with_reducible refine gate_dst (N := 60) rfl ?_); refine ev_append_ob rfl rfl rfl Hlen.out (X1.fam.all _ List.mem_cons_self) (by have := X1.ok; have := X1.size; omega) rfl (MK_len k 1) (by rw [Hone.out]; exact blk_bytes hg5) (by omega) ?_; intro A4 c4 W2 hG; replace o5 := own_fam o5 X1.fam List.mem_cons_self hG.grown (by decide); replace X1 := X1.append List.mem_cons_self Hpp.out hG; clear hG))
              have X3 := X1.sub (qs := (k, MK k (nb + (j + 1)), A4, c4) :: (tagged (marks l) ++ ts)) (fun x hx => by
                rcases List.mem_cons.1 hx with rfl | hx
                · rw [show MK k (nb + (j + 1)) = MK k (nb + j) ++ MK k 1 from (MK_add k (nb + j) 1).symm]
                  exact List.mem_cons_self
                · exact List.mem_cons_of_mem _ (List.mem_cons_of_mem _ hx))
              go_roundg (gk - 1)
              case measure => omega
              case rel => exact ⟨j + 1, A4, c4, by omega, by go_num, rfl, ⟨o5, X3⟩⟩
            · have q1 : decide ((j : Int) < (nb : Int) + 70) = false := by rw [decide_eq_false_iff_not]; omega
              have q1' : decide (j < nb + 70) = false := by rw [decide_eq_false_iff_not]; exact hj
              obtain ⟨nz, hnz⟩ : ∃ nz, nz = nb + j := ⟨_, rfl⟩
              have hnz2 : nz = 2 * nb + 70 := by omega
              rw [← hnz] at X1 ⊢
              have X3 := X1.sub (qs := tagged (marks l) ++ (ts ++ [(k, MK k nz, A3, c3)])) (fun x hx => by
                simp only [List.mem_append, List.mem_cons, List.not_mem_nil, or_false] at hx ⊢
                rcases hx with h | h | h <;> simp [h])
              have Hm2 := Lib.hid (Hmore.out.snoc Hx.out (y := (k, MK k nz, A3, c3)) (by simp only [Hnb.out, hnz2]))
              clear X1 hnz hnz2
              go_wp2_with (first
                | ((with_reducible refine gate_dst (N := 63) rfl ?_); refine ev_lit rfl rfl (#[.slice A3 nz c3]) 25 1 (by first | (go_simp; done) | (go_simp; rfl)) ?_; intro g5 W1 hg5 hsz hbn; have hgr := grown_of_below hbn; have zg5 : w.heap.size ≤ g5 := (by have := X3.size; omega); replace o5 := o5.kept hgr (by cases Value.ownBlock _ <;> simp); replace X3 := X3.grown hgr; have hcg5 := hg5.cell; have hfg5 := hg5.frozen; clear hsz hbn hgr)
                | ((with_reducible refine gate_dst (N := 64) rfl ?_); refine ev_append rfl rfl Tryd.underlying24 info_bytes rfl (by omega) rfl o5 rfl (hg5.reads (size := 1) (n := 1) rfl) (fun u hu => by simp at hu; subst hu; rfl) (by omega) (by omega) (by have := X3.size; omega) ?_; intro A6 c6 W2 on hgr hat; replace X3 := X3.kept hgr (X3.ne_own o5 (by decide)); replace o5 := on; clear on hgr hat))
              go_roundg (gm2 - 1)
              case measure => omega
              case rel => exact ⟨k + 1, A6, c6, _, by omega, by go_num, rfl, ⟨Hm2.out, by rw [List.map_append, baCells_append]; simpa [baCells, MK_len] using o5, X3⟩⟩
        · obtain rfl : k = n := by omega
          have r1 : decide ((k : Int) < (k : Int)) = false := by simp
          have r1' : decide (k < k) = false := by simp
          go_wp2
          go_ret
          exact ⟨A5, c5, ts, rfl, Hmore.out, o5, X1⟩
end Go.Proofs.YtikodgaomhmbmaaDoor
namespace Go.Proofs.YtikodgaomhmbmaaDoor
open Go.RowKit

/-- What stand is asked of reads as it should. -/
structure Stands3 (w : World) (l : List BA) (n : Nat) (A B : Option Addr) (ts : List (Nat × BA)) : Prop where
  more : More3 l n ts
  len : l.length = n
  rowA : Reads w w.heap.size 1 A n (baCells l)
  rowB : Reads w w.heap.size 1 B n (baCells (ts.map (·.2)))
  marks : ∀ i x, l[i]? = some x → RB w x.2.1 (MK i x.1.length)
  longs : ∀ y ∈ ts, RB w y.2.2.1 y.2.1
  short : n ≤ 1000000000 ∧ ∀ x ∈ l, x.1.length ≤ 70368744170000
theorem stands3_of_fam {w : World} {base b1 b2 n c d : Nat} {l : List BA} {A B : Option Addr} {ts : List (Nat × BA)} (hm : More3 l n ts) (hn : l.length = n) (hA : w.ownsRow b1 25 1 (.slice A n c) n (baCells l)) (hB : w.ownsRow b2 25 1 (.slice B n d) n (baCells (ts.map (·.2))))
    (hV : Fam (F3 l) w base (tagged (marks l) ++ ts)) (hs : n ≤ 1000000000) (hs2 : ∀ x ∈ l, x.1.length ≤ 70368744170000) : Stands3 w l n A B ts := by
  refine ⟨hm, hn, Reads.of_own hA, Reads.of_own hB, fun i x hx => ?_, fun y hy => (hV.all y (List.mem_append_right _ hy)).rb, hs, hs2⟩
  have h1 : (i, MK i x.1.length, x.2) ∈ tagged (marks l) ++ ts := List.mem_append_left _ (tagged_mem.2 (by rw [marks_get, hx]; rfl))
  exact (hV.all _ h1).rb
theorem Stands3.next {w w' : World} {l : List BA} {n : Nat} {A B : Option Addr} {ts : List (Nat × BA)} (h : Stands3 w l n A B ts) (hb : Below w.heap.size w w') : Stands3 w' l n A B ts :=
  ⟨h.more, h.len, Reads.next h.rowA hb, Reads.next h.rowB hb, fun i x hx => (h.marks i x hx).next hb, fun y hy => (h.longs y hy).next hb, h.short⟩

set_option maxHeartbeats 4000000 in
set_option maxRecDepth 100000 in
theorem stand3_calls (l : List BA) (n : Nat) (A B : Option Addr) (c d : Nat) (ts : List (Nat × BA)) (w : World) (hS : Stands3 w l n A B ts) :
    Calls Tryd.prog 17 #[.slice A n c, .slice B n d] w fun e w' => e = .returned (.bool true) ∧ Below w.heap.size w w' := by
  have HB := Below.refl w.heap.size w
  have HS := Lib.hid hS
  have hl := hS.short.1
  clear hS
  go_enter Tryd.func17, Tryd.ntmps17
  go_wp2
  go_loopg [5] n (fun m v5 wr => ∃ i : Nat, m + i = n ∧ v5 = .int .i64 i ∧ Aside (Below w.heap.size w wr))
  case atStart => exact ⟨0, by omega, rfl, HB⟩
  case round =>
    clear HB
    obtain ⟨gm, rfl⟩ : ∃ gm, gm = gk := ⟨_, rfl⟩
    obtain ⟨i, hm, rfl, HA⟩ := hrel
    have HB := HA.out
    clear HA
    by_cases hi : i < n
    · have s1 : decide ((i : Int) < (n : Int)) = true := by rw [decide_eq_true_eq]; omega
      have s1' : decide (i < n) = true := by rw [decide_eq_true_eq]; exact hi
      obtain ⟨x, hx⟩ : ∃ x, l[i]? = some x := ⟨_, List.getElem?_eq_getElem (by rw [HS.out.len]; exact hi)⟩
      obtain ⟨b, Ai, ci⟩ := x
      have hbl := HS.out.short.2 _ (List.mem_of_getElem? hx)
      obtain ⟨nb, hnb⟩ : ∃ nb, b.length = nb := ⟨_, rfl⟩
      simp only [hnb] at hbl
      obtain ⟨ad, had, _, _⟩ := HS.out.rowA.2 (by omega)
      obtain ⟨bd, hbd, _, _⟩ := HS.out.rowB.2 (by omega)
      obtain ⟨y, hy, ey⟩ := HS.out.more.at_ i _ hi hx
      simp only [hnb] at ey
      have hlen : y.2.1.length = 2 * nb + 70 := by rw [ey, MK_len]
      have Hyr := Lib.hid (HS.out.longs y (List.mem_of_getElem? hy))
      have Hc0 := Lib.hid (fun (W : World) (hb : Below w.heap.size w W) => show W.cell? (ad.add i) = some (.slice Ai nb ci) from by
        have := (HS.out.next hb).rowA.cell_at (baCells_get hx) had
        rwa [show ((b, Ai, ci) : BA).1.length = nb from hnb] at this)
      have Hc1 := Lib.hid (fun (W : World) (hb : Below w.heap.size w W) => show W.cell? (bd.add i) = some (.slice y.2.2.1 (2 * nb + 70) y.2.2.2) from by
        have := (HS.out.next hb).rowB.cell_at (k := i) (baCells_get (by rw [List.getElem?_map, hy]; rfl)) hbd
        rwa [hlen] at this)
      have hc0 := Hc0.out _ HB
      have hc1 := Hc1.out _ HB
      have Hx := Lib.hid hx
      have Hnb := Lib.hid hnb
      have Hey := Lib.hid ey
      subst had
      subst hbd
      clear hx hnb hy ey hlen
      have tm1 : (i : Int).tmod 250 = (i : Int) % 250 := by rw [Int.tmod_eq_emod_of_nonneg (by omega)]
      have tw1 := mark_wrap i
      go_wp2
      clear hc0 hc1
      go_loopg [8] (2 * nb + 70) (fun m v8 wr => ∃ j : Nat, m + j = 2 * nb + 70 ∧ v8 = .int .i64 j ∧ Aside (Below w.heap.size w wr))
      case atStart => exact ⟨0, by omega, rfl, HB⟩
      case round =>
        clear HB
        obtain ⟨j, hmj, rfl, HA⟩ := hrel
        have HB := HA.out
        clear HA
        have hc1 := Hc1.out _ HB
        have hc0 := Hc0.out _ HB
        by_cases hj : j < 2 * nb + 70
        · have q1 : decide ((j : Int) < 2 * (nb : Int) + 70) = true := by rw [decide_eq_true_eq]; omega
          have q1' : decide (j < 2 * nb + 70) = true := by rw [decide_eq_true_eq]; exact hj
          obtain ⟨yd, hyd, hc5⟩ := (Hyr.out.next HB).cell_at (k := j) (b := UInt8.ofNat (1 + i % 250)) (by rw [Hey.out]; exact MK_get hj)
          rw [hyd] at hc1
          by_cases hjn : j < nb
          · have q3 : decide ((j : Int) < (nb : Int)) = true := by rw [decide_eq_true_eq]; omega
            have q3' : decide (j < nb) = true := by rw [decide_eq_true_eq]; exact hjn
            obtain ⟨xd, hxd, hc6⟩ := ((HS.out.marks i _ Hx.out).next HB).cell_at (k := j) (b := UInt8.ofNat (1 + i % 250)) (by rw [show ((b, Ai, ci) : BA).1.length = nb from Hnb.out]; exact MK_get hjn)
            simp only at hxd
            rw [hxd] at hc0
            clear Hc0 Hc1
            go_wp2
            go_roundg (gk - 1)
            case measure => omega
            case rel => exact ⟨j + 1, by omega, by go_num, HB⟩
          · have q3 : decide ((j : Int) < (nb : Int)) = false := by rw [decide_eq_false_iff_not]; omega
            have q3' : decide (j < nb) = false := by rw [decide_eq_false_iff_not]; exact hjn
            clear Hc0 Hc1
            go_wp2
            go_roundg (gk - 1)
            case measure => omega
            case rel => exact ⟨j + 1, by omega, by go_num, HB⟩
        · have q1 : decide ((j : Int) < 2 * (nb : Int) + 70) = false := by rw [decide_eq_false_iff_not]; omega
          have q1' : decide (j < 2 * nb + 70) = false := by rw [decide_eq_false_iff_not]; exact hj
          go_wp2
          go_roundg (gm - 1)
          case measure => omega
          case rel => exact ⟨i + 1, by omega, by go_num, HB⟩
    · obtain rfl : i = n := by omega
      have s1 : decide ((i : Int) < (i : Int)) = false := by simp
      have s1' : decide (i < i) = false := by simp
      go_wp2
      go_ret
      exact ⟨rfl, HB⟩
end Go.Proofs.YtikodgaomhmbmaaDoor
namespace Go.Proofs.YtikodgaomhmbmaaDoor
open Go.RowKit
attribute [local go_sem] Rec.size_ Rec.g0 Rec.g1 Rec.g2 Rec.g3 Rec.g4 Rec.g5 Rec.g6 Rec.g7 Rec.g8 Rec.g9 Rec.g10 Rec.g11 Rec.fold Rec.lit_fold

theorem copied_ob (l : List UInt8) (n : Nat) (hn : l.length = n) (A : Option Addr) (c : Nat) (hl : n ≤ 140737488351232) (w : World) (hd : RB w A l) :
    Calls Tryd.prog 12 #[.slice A n c] w fun e w' => ∃ A' c', e = .returned (.slice A' n c') ∧ OB w' w.heap.size A' c' l ∧ Below w.heap.size w w' := by
  subst hn
  exact (copied_calls l A c hl w hd).mono fun e w' ⟨A', c', he, ho, hb⟩ => ⟨A', c', he, OB.of_own ho, hb⟩
theorem RZs.get {w : World} {os : List BA} (h : RZs w os) {k : Nat} {b : List UInt8} {A : Option Addr} {c : Nat} (hx : os[k]? = some (b, A, c)) : RU w A b := h _ (List.mem_of_getElem? hx)
set_option maxHeartbeats 2000000 in
set_option maxRecDepth 100000 in
theorem bytes2_calls (l : List BA) (n : Nat) (hn : l.length = n) (A : Option Addr) (c : Nat) (hl : n ≤ 1000000000) (hs : ∀ x ∈ l, x.1.length ≤ 140737488351232) (w : World) (hr : Reads w w.heap.size 1 A n (baCells l)) (hz : RZs w l) :
    Calls Tryd.prog 14 #[.slice A n c] w fun e w' => ∃ (A' : Option Addr) (c' : Nat) (os : List BA), e = .returned (.slice A' n c') ∧ Aside (os.map (·.1) = l.map (·.1)) ∧ w'.ownsRow w.heap.size 25 1 (.slice A' n c') n (baCells os) ∧ OBs w' w.heap.size os ∧ Below w.heap.size w w' := by
  have HB := Below.refl w.heap.size w
  have Hr := Lib.hid hr
  have Hz := Lib.hid hz
  have Hn := Lib.hid hn
  have Hs := Lib.hid hs
  clear hr hz hn hs
  go_enter Tryd.func14, Tryd.ntmps14
  go_wp2
  go_loopg [3, 4] n (fun m v3 v4 wr => ∃ (k : Nat) (A' : Option Addr) (c' : Nat) (os : List BA), m + k = n ∧ v4 = .int .i64 k ∧ v3 = .slice A' k c' ∧
    Aside (os.map (·.1) = (l.map (·.1)).take k ∧ wr.ownsRow w.heap.size 25 1 (.slice A' k c') k (baCells os) ∧ OBs wr w.heap.size os ∧ Below w.heap.size w wr))
  case atStart => exact ⟨0, none, 0, [], by omega, rfl, rfl, ⟨rfl, own_nil _ _ _ _, OBs.nil, HB⟩⟩
  case round =>
    clear HB
    obtain ⟨k, A2, c2, os, hm, rfl, rfl, HA⟩ := hrel
    obtain ⟨hos, o1, Qo, HB⟩ := HA.out
    clear HA
    have Hos := Lib.hid hos
    clear hos
    by_cases hlt : k < n
    · have s1 : decide ((k : Int) < (n : Int)) = true := by rw [decide_eq_true_eq]; omega
      have s1' : decide (k < n) = true := by rw [decide_eq_true_eq]; exact hlt
      obtain ⟨x, hx⟩ : ∃ x, l[k]? = some x := ⟨_, List.getElem?_eq_getElem (by rw [Hn.out]; exact hlt)⟩
      obtain ⟨b, Ab, cb⟩ := x
      have hbl := Hs.out _ (List.mem_of_getElem? hx)
      have hxd := (Hz.out.get hx).rb
      obtain ⟨ad, had, hadlt, _⟩ := Hr.out.2 (by omega)
      have hcell : wr.cell? (ad.add k) = some (.slice Ab b.length cb) := by
        rw [HB.cell (by rw [block_of_add]; exact hadlt)]
        exact Hr.out.cell_at (baCells_get hx) had
      have n3 : (l.map (·.1)).take (k + 1) = (l.map (·.1)).take k ++ [b] := by rw [List.take_add_one, List.getElem?_map, hx]; rfl
      have N3 := Lib.hid n3
      subst had
      clear hx n3
      obtain ⟨nb, hnb⟩ : ∃ nb, b.length = nb := ⟨_, rfl⟩
      simp only [hnb] at hbl hcell
      have Hnb := Lib.hid hnb
      clear hnb
      go_wp2_with (first
        | (go_at_call 12; (with_reducible refine (copied_ob b nb Hnb.out Ab cb hbl _ (hxd.next HB)).mono ?_); rintro e W1 ⟨A5, c5, rfl, B5, hb⟩; have hgr := grown_of_below hb; have dQoB5 := Qo.apart_new B5 (Nat.le_refl _); replace B5 := B5.mono HB.size; replace Qo := Qo.kept hgr (by simp); replace o1 := o1.kept hgr (by cases Value.ownBlock _ <;> simp); replace HB := HB.grown hgr (by have := HB.size; omega) (by simp); clear hb hgr)
        | ((with_reducible refine gate_dst (N := 17) rfl ?_); refine ev_lit rfl rfl (#[.slice A5 nb c5]) 25 1 (by first | (go_simp; done) | (go_simp; rfl)) ?_; intro g5 W2 hg5 hsz hbn; have hgr := grown_of_below hbn; have zg5 : w.heap.size ≤ g5 := (by have := HB.size; omega); replace B5 := B5.kept hgr (by simp); replace Qo := Qo.kept hgr (by simp); replace o1 := o1.kept hgr (by cases Value.ownBlock _ <;> simp); replace HB := HB.grown hgr (by have := HB.size; omega) (by simp); have hcg5 := hg5.cell; have hfg5 := hg5.frozen; clear hsz hbn hgr)
        | ((with_reducible refine gate_dst (N := 18) rfl ?_); refine ev_append rfl rfl Tryd.underlying24 info_bytes rfl (by omega) rfl o1 rfl (hg5.reads (size := 1) (n := 1) rfl) (fun u hu => by simp at hu; subst hu; rfl) (by omega) (by omega) (by have := HB.size; omega) ?_; intro A6 c6 W3 on hgr hat; replace B5 := B5.kept hgr (OB.ne_own B5 o1 (by decide)); replace Qo := Qo.kept hgr (OBs.ne_own Qo o1 (by decide)); replace HB := HB.grown hgr (by have := HB.size; omega) (own_base o1); replace o1 := on; clear on hgr hat))
      go_roundg (gk - 1)
      case measure => omega
      case rel => exact ⟨k + 1, A6, c6, os ++ [(b, A5, c5)], by omega, by go_num, rfl, ⟨by rw [List.map_append, Hos.out, N3.out]; rfl, by rw [baCells_append]; simpa [baCells, Hnb.out] using o1, Qo.snoc B5 dQoB5, HB⟩⟩
    · have s1 : decide ((k : Int) < (n : Int)) = false := by rw [decide_eq_false_iff_not]; omega
      have s1' : decide (k < n) = false := by rw [decide_eq_false_iff_not]; exact hlt
      obtain rfl : k = n := by omega
      have n3 : os.map (·.1) = l.map (·.1) := by rw [Hos.out, List.take_of_length_le (by rw [List.length_map, Hn.out]; omega)]
      go_wp2
      go_ret
      first | exact ⟨A2, c2, os, rfl, n3, o1, Qo, HB⟩ | exact ⟨A2, c2, rfl, os, n3, o1, Qo, HB⟩

set_option maxHeartbeats 2000000 in
set_option maxRecDepth 100000 in
theorem alikeAll_calls (l m : List BA) (n : Nat) (hn : l.length = n) (hlm : l.map (·.1) = m.map (·.1)) (A B : Option Addr) (c d : Nat) (hl : n ≤ 1000000000) (hs : ∀ x ∈ l, x.1.length ≤ 140737488351232) (w : World) (hra : Reads w w.heap.size 1 A n (baCells l)) (hrb : Reads w w.heap.size 1 B n (baCells m)) (hza : RZs w l) (hzb : RZs w m) :
    Calls Tryd.prog 16 #[.slice A n c, .slice B n d] w fun e w' => e = .returned (.bool true) ∧ Below w.heap.size w w' := by
  have HB := Below.refl w.heap.size w
  have hlen : m.length = n := by have := congrArg List.length hlm; simp at this; omega
  have t1 : ((n : Int) != (n : Int)) = false := by simp
  have Hlm := Lib.hid hlm
  have Ha := Lib.hid hra
  have Hb := Lib.hid hrb
  have Hza := Lib.hid hza
  have Hzb := Lib.hid hzb
  have Hn := Lib.hid hn
  have Hlen := Lib.hid hlen
  have Hs := Lib.hid hs
  clear hlm hra hrb hza hzb hn hlen hs
  go_enter Tryd.func16, Tryd.ntmps16
  go_wp2
  go_loopg [5] n (fun q v5 wr => ∃ k : Nat, q + k = n ∧ v5 = .int .i64 k ∧ Aside (Below w.heap.size w wr))
  case atStart => exact ⟨0, by omega, rfl, HB⟩
  case round =>
    clear HB
    obtain ⟨k, hq, rfl, HA⟩ := hrel
    have HB := HA.out
    clear HA
    by_cases hlt : k < n
    · have s1 : decide ((k : Int) < (n : Int)) = true := by rw [decide_eq_true_eq]; omega
      have s1' : decide (k < n) = true := by rw [decide_eq_true_eq]; exact hlt
      obtain ⟨x, hx⟩ : ∃ x, l[k]? = some x := ⟨_, List.getElem?_eq_getElem (by rw [Hn.out]; exact hlt)⟩
      obtain ⟨y, hy⟩ : ∃ y, m[k]? = some y := ⟨_, List.getElem?_eq_getElem (by rw [Hlen.out]; exact hlt)⟩
      have hxy : x.1 = y.1 := by
        have h := congrArg (fun z => z[k]?) Hlm.out
        simp only [List.getElem?_map, hx, hy, Option.map_some, Option.some.injEq] at h
        exact h
      obtain ⟨b, Ar, cr⟩ := x
      obtain ⟨b', Br, dr⟩ := y
      simp only at hxy
      subst hxy
      have hbl := Hs.out _ (List.mem_of_getElem? hx)
      simp only at hbl
      have hxd := (Hza.out.get hx).rb
      have hyd := (Hzb.out.get hy).rb
      obtain ⟨ad, had, hal, _⟩ := Ha.out.2 (by omega)
      obtain ⟨bd, hbd, hbdl, _⟩ := Hb.out.2 (by omega)
      have hca : ∀ (W : World), Below w.heap.size w W → W.cell? (ad.add k) = some (.slice Ar b.length cr) := fun W hb => by
        rw [hb.cell (by rw [block_of_add]; exact hal)]
        exact Ha.out.cell_at (baCells_get hx) had
      have hcb : ∀ (W : World), Below w.heap.size w W → W.cell? (bd.add k) = some (.slice Br b.length dr) := fun W hb => by
        rw [hb.cell (by rw [block_of_add]; exact hbdl)]
        exact Hb.out.cell_at (baCells_get hy) hbd
      have Hca := Lib.hid hca
      have Hcb := Lib.hid hcb
      have ca := fun w h1 h2 => alike_same b Ar Br cr dr w h1 h2 hbl
      have Ca := Lib.hid ca
      subst had
      subst hbd
      clear hx hy hca hcb ca
      go_wp2
      refine held_start (fun w' => Below w.heap.size w w') (by kernel_rfl) (fun wd hbd => ?_)
      replace HB := below_go HB hbd
      refine take_at (i := 0) (v := .slice (some ad) n c) 17 rfl rfl (by kernel_rfl) (by kernel_rfl) (by kernel_rfl) (fun _ _ _ h => h) (.inl ⟨rfl, fun w h => by simp [go_sem]⟩) HB ?_
      simp only [Act.put, List.getElem_toArray, List.getElem_cons_succ, List.getElem_cons_zero, List.setIfInBounds_toArray, List.set_cons_succ, List.set_cons_zero]
      refine take_at (i := 1) (v := .int .i64 k) 18 rfl rfl (by kernel_rfl) (by kernel_rfl) (by kernel_rfl) (fun _ _ _ h => h) (.inl ⟨rfl, fun w h => by simp [go_sem]⟩) HB ?_
      simp only [Act.put, List.getElem_toArray, List.getElem_cons_succ, List.getElem_cons_zero, List.setIfInBounds_toArray, List.set_cons_succ, List.set_cons_zero]
      refine take_at (i := 2) (v := .pointer (some (ad.add k))) 19 rfl rfl (by kernel_rfl) (by kernel_rfl) (by kernel_rfl) (fun _ _ _ h => h) (.inl ⟨rfl, fun w h => by simp [go_sem, hlt]⟩) HB ?_
      simp only [Act.put, List.getElem_toArray, List.getElem_cons_succ, List.getElem_cons_zero, List.setIfInBounds_toArray, List.set_cons_succ, List.set_cons_zero]
      refine take_at (i := 3) (v := .slice Ar b.length cr) 20 rfl rfl (by kernel_rfl) (by kernel_rfl) (by kernel_rfl) (fun _ _ _ h => h) (.inl ⟨rfl, fun w h => by simp [go_sem, Hca.out w h]⟩) HB ?_
      simp only [Act.put, List.getElem_toArray, List.getElem_cons_succ, List.getElem_cons_zero, List.setIfInBounds_toArray, List.set_cons_succ, List.set_cons_zero]
      refine take_at (i := 4) (v := .slice (some bd) n d) 21 rfl rfl (by kernel_rfl) (by kernel_rfl) (by kernel_rfl) (fun _ _ _ h => h) (.inl ⟨rfl, fun w h => by simp [go_sem]⟩) HB ?_
      simp only [Act.put, List.getElem_toArray, List.getElem_cons_succ, List.getElem_cons_zero, List.setIfInBounds_toArray, List.set_cons_succ, List.set_cons_zero]
      refine take_at (i := 5) (v := .int .i64 k) 22 rfl rfl (by kernel_rfl) (by kernel_rfl) (by kernel_rfl) (fun _ _ _ h => h) (.inl ⟨rfl, fun w h => by simp [go_sem]⟩) HB ?_
      simp only [Act.put, List.getElem_toArray, List.getElem_cons_succ, List.getElem_cons_zero, List.setIfInBounds_toArray, List.set_cons_succ, List.set_cons_zero]
      refine take_at (i := 6) (v := .pointer (some (bd.add k))) 23 rfl rfl (by kernel_rfl) (by kernel_rfl) (by kernel_rfl) (fun _ _ _ h => h) (.inl ⟨rfl, fun w h => by simp [go_sem, hlt]⟩) HB ?_
      simp only [Act.put, List.getElem_toArray, List.getElem_cons_succ, List.getElem_cons_zero, List.setIfInBounds_toArray, List.set_cons_succ, List.set_cons_zero]
      refine take_at (i := 7) (v := .slice Br b.length dr) 24 rfl rfl (by kernel_rfl) (by kernel_rfl) (by kernel_rfl) (fun _ _ _ h => h) (.inl ⟨rfl, fun w h => by simp [go_sem, Hcb.out w h]⟩) HB ?_
      simp only [Act.put, List.getElem_toArray, List.getElem_cons_succ, List.getElem_cons_zero, List.setIfInBounds_toArray, List.set_cons_succ, List.set_cons_zero]
      refine held_one (i := 8) (by kernel_rfl) rfl ?_
      (refine ev_call2 rfl rfl ⟨_, _, Tryd.func54, by kernel_rfl, rfl⟩ rfl rfl ?_; refine Calls.mono (Ca.out _ (hxd.next HB) (hyd.next HB)) ?_; rintro e W1 ⟨rfl, hb⟩; refine ⟨_, rfl, ?_⟩; have hgr := grown_of_below hb; replace HB := HB.grown hgr (by have := HB.size; omega) (by simp); clear hb hgr)
      refine ⟨HB, ?_⟩
      try simp only [Act.put, List.getElem_toArray, List.getElem_cons_succ, List.getElem_cons_zero, List.setIfInBounds_toArray, List.set_cons_succ, List.set_cons_zero]
      refine held_one (i := 9) (by kernel_rfl) rfl ?_
      refine ev_run rfl (w1 := W1) (v := .bool false) (by simp [go_sem]) ?_
      refine ⟨HB, ?_⟩
      try simp only [Act.put, List.getElem_toArray, List.getElem_cons_succ, List.getElem_cons_zero, List.setIfInBounds_toArray, List.set_cons_succ, List.set_cons_zero]
      refine wpAnyH_done (by kernel_rfl) ?_ _
      go_wp2
      go_roundg (gk - 1)
      case measure => omega
      case rel => exact ⟨k + 1, by omega, by go_num, HB⟩
    · have s1 : decide ((k : Int) < (n : Int)) = false := by rw [decide_eq_false_iff_not]; omega
      have s1' : decide (k < n) = false := by rw [decide_eq_false_iff_not]; exact hlt
      go_wp2
      go_ret
      exact ⟨rfl, HB⟩

/-- What laid adds. -/
def pad3 : List UInt8 := [91, 92, 93]
set_option maxHeartbeats 2000000 in
set_option maxRecDepth 100000 in
theorem laid3_calls (r : Rec) (A : Option Addr) (c : Nat) (hl : r.Data.length ≤ 100000000000) (w : World) (hd : RB w A r.Data) :
    Calls Tryd.prog 11 #[.agg (r.cells A c)] w fun e w' => ∃ A' c', e = .returned (.tuple #[.agg (r.cells A' c'), .slice A' (r.Data.length + 3) c']) ∧ OB w' w.heap.size A' c' (r.Data ++ pad3) ∧ Below w.heap.size w w' := by
  have HB := Below.refl w.heap.size w
  go_enter Tryd.func11, Tryd.ntmps11
  go_wp2_with (first
    | ((with_reducible refine gate_dst (N := 1) rfl ?_); refine ev_box rfl rfl (r.cells A c) rfl ?_; intro g1 W1 hg1 hsz hbn; have hgr := grown_of_below hbn; have zg1 : w.heap.size ≤ g1 := (by have := HB.size; omega); replace HB := HB.grown hgr (by have := HB.size; omega) (by simp); have hcg1 := hg1.cell; have hfg1 := hg1.frozen; clear hsz hbn hgr)
    | ((with_reducible refine gate_dst (N := 2) rfl ?_); refine ev_alloc rfl rfl _ rec_zero ?_; intro g2 W2 hg2 hsz hbn; have hgr := grown_of_below hbn; have ng1g2 : g1 ≠ g2 := (by have := hg1.lt; omega); replace hg2 : Blk W2 g2 _ (Rec.zero.cells none 0) := hg2; have zg2 : w.heap.size ≤ g2 := (by have := HB.size; omega); replace hg1 := hg1.grown hgr (by simp); replace HB := HB.grown hgr (by have := HB.size; omega) (by simp); have hcg2 := hg2.cell; have hfg2 := hg2.frozen; replace hcg1 := hg1.cell; replace hfg1 := hg1.frozen; clear hsz hbn hgr)
    | (go_at_call 12; (with_reducible refine (copied_calls r.Data A c (by omega) _ (hd.next HB)).mono ?_); rintro e W3 ⟨A3, c3, rfl, o3, hb⟩; have hgr := grown_of_below hb; replace o3 := own_mono o3 HB.size; replace hg1 := hg1.grown hgr (by simp); replace hg2 := hg2.grown hgr (by simp); replace HB := HB.grown hgr (by have := HB.size; omega) (by simp); replace hcg1 := hg1.cell; replace hfg1 := hg1.frozen; replace hcg2 := hg2.cell; replace hfg2 := hg2.frozen; clear hb hgr)
    | ((with_reducible refine gate_dst (N := 12) rfl ?_); refine ev_lit rfl rfl (#[.int .u8 91, .int .u8 92, .int .u8 93]) 5 3 (by first | (go_simp; done) | (go_simp; rfl)) ?_; intro g5 W4 hg5 hsz hbn; have hgr := grown_of_below hbn; have ng1g5 : g1 ≠ g5 := (by have := hg1.lt; omega); have ng2g5 : g2 ≠ g5 := (by have := hg2.lt; omega); have zg5 : w.heap.size ≤ g5 := (by have := HB.size; omega); replace hg1 := hg1.grown hgr (by simp); replace hg2 := hg2.grown hgr (by simp); replace o3 := o3.kept hgr (by cases Value.ownBlock _ <;> simp); replace HB := HB.grown hgr (by have := HB.size; omega) (by simp); have hcg5 := hg5.cell; have hfg5 := hg5.frozen; replace hcg1 := hg1.cell; replace hfg1 := hg1.frozen; replace hcg2 := hg2.cell; replace hfg2 := hg2.frozen; clear hsz hbn hgr)
    | ((with_reducible refine gate_dst (N := 13) rfl ?_); refine ev_append rfl rfl Tryd.underlying25 info_u8 rfl (by omega) rfl o3 rfl (hg5.reads (size := 1) (n := 3) rfl) (fun u hu => by simp at hu; rcases hu with rfl | rfl | rfl <;> rfl) (by omega) (by omega) (by have := HB.size; omega) ?_; intro A4 c4 W5 on hgr hat; replace hg1 := hg1.grown hgr (fun e => own_blk_ne o3 hg1 (by decide) e.symm); replace hg2 := hg2.grown hgr (fun e => own_blk_ne o3 hg2 (by decide) e.symm); replace HB := HB.grown hgr (by have := HB.size; omega) (own_base o3); replace o3 := on; replace hcg1 := hg1.cell; replace hfg1 := hg1.frozen; replace hcg2 := hg2.cell; replace hfg2 := hg2.frozen; clear on hgr hat; have hcap := own_room o3)
    | ((with_reducible refine gate_store (p := 17) rfl ?_); refine ev_store_cell rfl rfl rfl hg1 rfl (i := 11) (v := .slice A4 r.Data.length c4) rfl rfl (by kernel_rfl) (by first | exact (show (11 : Nat) < 12 by decide) | exact (show (11 : Nat) < 16 by decide)) ?_; intro W6 hgn hgr; replace hgn : Blk W6 g1 _ (r.cells A4 c4) := hgn; replace hg2 := hg2.grown hgr (by intro e; injection e with e; omega); replace o3 := o3.kept hgr (.inr (own_blk_ne o3 hg1 (by decide))); replace HB := HB.grown hgr (by have := HB.size; omega) (by intro k e; injection e with e; omega); replace hg1 := hgn; replace hcg1 := hg1.cell; replace hfg1 := hg1.frozen; replace hcg2 := hg2.cell; replace hfg2 := hg2.frozen; clear hgn hgr)
    | ((with_reducible refine gate_dst (N := 18) rfl ?_); refine wpList_load_row rfl _ _ rfl g1 rfl _ _ (0, 0) _ hg1 Tryd.underlying27 rfl rec_size ?_)
    | ((with_reducible refine gate_store (p := 2) rfl ?_); refine ev_store_row (cs := r.cells A4 c4) rfl rfl rfl hg2 rfl rfl rec_size rfl (cells_one _ _ _) ?_; intro W7 hgn hgr; replace hg1 := hg1.grown hgr (by intro e; injection e with e; omega); replace o3 := o3.kept hgr (.inr (own_blk_ne o3 hg2 (by decide))); replace HB := HB.grown hgr (by have := HB.size; omega) (by intro k e; injection e with e; omega); replace hg2 := hgn; replace hcg1 := hg1.cell; replace hfg1 := hg1.frozen; replace hcg2 := hg2.cell; replace hfg2 := hg2.frozen; clear hgn hgr))
  refine ret_row rfl hg2 rfl Tryd.underlying27 rfl rec_size rfl ?_
  exact ⟨A4, c4, rfl, OB.of_own (by rw [u8s_append, List.length_append]; exact o3), HB⟩

set_option maxHeartbeats 2000000 in
set_option maxRecDepth 100000 in
theorem untouched3_calls (b : List UInt8) (n : Nat) (hn : b.length = n) (A B : Option Addr) (c d : Nat) (hc : n + 3 ≤ c) (hl : n ≤ 100000000000) (w : World) (ha : RB w A (b ++ pad3)) (hb : RB w B b) :
    Calls Tryd.prog 20 #[.slice A (n + 3) c, .slice B n d] w fun e w' => e = .returned (.bool true) ∧ Below w.heap.size w w' := by
  have HB := Below.refl w.heap.size w
  subst hn
  obtain ⟨ad, hA, h1⟩ := ha.cell_at (k := b.length) (b := 91) (by rw [List.getElem?_append_right (Nat.le_refl _), Nat.sub_self]; rfl)
  obtain ⟨ad2, hA2, h2⟩ := ha.cell_at (k := b.length + 1) (b := 92) (by rw [List.getElem?_append_right (by omega), show b.length + 1 - b.length = 1 by omega]; rfl)
  obtain ⟨ad3, hA3, h3⟩ := ha.cell_at (k := b.length + 2) (b := 93) (by rw [List.getElem?_append_right (by omega), show b.length + 2 - b.length = 2 by omega]; rfl)
  have hpre : RB w A b := by
    refine ⟨by simp [u8s], fun hn => ?_⟩
    obtain ⟨ad, e, hlt, hcc⟩ := ha.2 (by rw [List.length_append]; omega)
    refine ⟨ad, e, hlt, fun j u hu => hcc j u ?_⟩
    have hj : j < (u8s b).length := (List.getElem?_eq_some_iff.1 hu).1
    rw [u8s_append, List.getElem?_append_left hj]
    exact hu
  subst hA
  injection hA2 with hA2
  injection hA3 with hA3
  subst hA2
  subst hA3
  have ca := fun w h1 h2 => alike_same b (some ad) B c d w h1 h2 (by omega)
  have Ca := Lib.hid ca
  have h1' : w.cell? (ad.add b.length) = some (.int .u8 91) := h1
  have h2' : w.cell? { block := ad.block, off := ad.off + (b.length + 1) } = some (.int .u8 92) := h2
  have h3' : w.cell? { block := ad.block, off := ad.off + (b.length + 2) } = some (.int .u8 93) := h3
  have H1 := Lib.hid (And.intro h1' (And.intro h2' h3'))
  have adl : ad.block < w.heap.size := by
    obtain ⟨ad4, e, hlt, _⟩ := ha.2 (by rw [List.length_append]; simp [pad3])
    injection e with e
    subst e
    exact hlt
  have hbc : b.length ≤ c := by omega
  generalize hnb : b.length = nb at Ca H1 hl hc hbc h1 h1' h2' h3' ⊢
  have Hpre := Lib.hid hpre
  have Hb := Lib.hid hb
  clear ca h1 h2 h3 h1' h2' h3' hpre ha hb hnb
  go_enter Tryd.func20, Tryd.ntmps20
  go_wp2_with (first
    | (go_at_call 54; (with_reducible refine (Ca.out _ Hpre.out Hb.out).mono ?_); rintro e w1 ⟨rfl, hb⟩; have x1 := (hb.cell (p := ad.add nb) (by rw [block_of_add]; exact adl)).trans H1.out.1; have x2 := (hb.cell (p := { block := ad.block, off := ad.off + (nb + 1) }) adl).trans H1.out.2.1; have x3 := (hb.cell (p := { block := ad.block, off := ad.off + (nb + 2) }) adl).trans H1.out.2.2))
  go_ret
  exact ⟨rfl, hb⟩
end Go.Proofs.YtikodgaomhmbmaaDoor
namespace Go.Proofs.YtikodgaomhmbmaaDoor
open Go.RowKit
attribute [local go_sem] Rec.size_ Rec.g0 Rec.g1 Rec.g2 Rec.g3 Rec.g4 Rec.g5 Rec.g6 Rec.g7 Rec.g8 Rec.g9 Rec.g10 Rec.g11 Rec.fold Rec.lit_fold

/-- What Encode answers. -/
noncomputable def encL (r : Rec) : List UInt8 := if r.chk = 0 then r.enc else []
theorem enc_ob (r : Rec) (A : Option Addr) (c : Nat) (hf : r.Fits) (w : World) (hT : Tabs w) (hd : RB w A r.Data) :
    Calls Tryd.prog 49 #[.agg (r.cells A c)] w fun e w' => ∃ A' c', e = .returned (.tuple #[.slice A' (encL r).length c', .int .i64 r.chk]) ∧ OB w' w.heap.size A' c' (encL r) ∧ Below w.heap.size w w' := by
  by_cases hc : r.chk = 0
  · have e1 : encL r = r.enc := if_pos hc
    rw [e1, hc]
    exact (encode_calls r A c hf w hT hd hc).mono fun e w' ⟨A', c', he, ho, hb⟩ => ⟨A', c', he, OB.of_own ho, hb⟩
  · have e1 : encL r = [] := if_neg hc
    rw [e1]
    exact (encode_bad r A c r.chk rfl hc hf w hT hd).mono fun e w' ⟨he, hb⟩ => ⟨none, 0, he, OB.nil, hb⟩
theorem dec_ob (v : Int) (l : List UInt8) (n : Nat) (hn : l.length = n) (L : Option Addr) (cl : Nat) (hcl : n ≤ cl) (hl : n ≤ 140737488351232) (w : World) (hT : Tabs w) (hd : RB w L l) :
    Calls Tryd.prog 47 #[.int .i64 v, .slice L n cl] w fun e w' => ∃ A' c', e = .returned (.tuple #[.agg ((decR v l).cells A' c'), .int .i64 (decE v l)]) ∧ OB w' w.heap.size A' c' (decR v l).Data ∧ Below w.heap.size w w' := by
  subst hn
  have := decode_calls v l L cl hcl hl w hT hd
  unfold DecSaid at this
  exact this.mono fun e w' ⟨A', c', he, ho, hb⟩ => ⟨A', c', he, OB.of_own ho, hb⟩
theorem clone_ob (r : Rec) (A : Option Addr) (c : Nat) (w : World) (hr : RB w A r.Data) (hl : r.Data.length ≤ 140737488351232) :
    Calls Tryd.prog 19 #[.agg (r.cells A c)] w fun e w' => ∃ A' c', e = .returned (.agg (r.cells A' c')) ∧ OB w' w.heap.size A' c' r.Data ∧ Below w.heap.size w w' :=
  (clone_calls r A c w hr hl).mono fun e w' ⟨A', c', he, ho, hb⟩ => ⟨A', c', he, OB.of_own ho, hb⟩

theorem enc_le (r : Rec) : (encL r).length ≤ 182600 := by
  unfold encL
  split
  · next h => exact encTo_short (valid_small h) 11 (by omega)
  · simp
theorem decR_le (v : Int) (l : List UInt8) : (decR v l).Data.length ≤ 16384 := by
  by_cases h0 : decE v l = 0
  · obtain ⟨_, e2, _, _⟩ := enc_of_dec h0
    exact (valid_small e2).2
  · rw [show decR v l = Rec.zero from if_neg h0]
    decide
/-- What handed takes of one record. -/
noncomputable def handB (r : Rec) : List (List UInt8) := [encL r, (decR r.V (encL r)).Data, r.Data]
noncomputable def handL (l : List Rec) : List (List UInt8) := l.flatMap handB
theorem handL_snoc (l : List Rec) (r : Rec) : handL (l ++ [r]) = handL l ++ handB r := by simp [handL]
theorem handL_len : ∀ l : List Rec, (handL l).length = 3 * l.length
  | [] => rfl
  | x :: l => by
    have := handL_len l
    unfold handL at this ⊢
    rw [List.flatMap_cons, List.length_append, this, List.length_cons]
    simp only [handB, List.length_cons, List.length_nil]
    omega
theorem handL_le {l : List Rec} (h : ∀ r ∈ l, r.Data.length ≤ 1048576) : ∀ b ∈ handL l, b.length ≤ 1048576 := fun b hb => by
  obtain ⟨r, hr, hb⟩ := List.mem_flatMap.1 hb
  have h1 := enc_le r
  have h2 := decR_le r.V (encL r)
  have h3 := h r hr
  simp only [handB, List.mem_cons, List.not_mem_nil, or_false] at hb
  rcases hb with rfl | rfl | rfl <;> omega
theorem OBs.snoc3 {w : World} {base : Nat} {os : List BA} {x y z : BA} (h : OBs w base os) (hx : OB w base x.2.1 x.2.2 x.1) (hy : OB w base y.2.1 y.2.2 y.1) (hz : OB w base z.2.1 z.2.2 z.1)
    (d1 : ∀ a ∈ os, Apart a.2.1 x.2.1) (d2 : ∀ a ∈ os, Apart a.2.1 y.2.1) (d3 : ∀ a ∈ os, Apart a.2.1 z.2.1) (dxy : Apart x.2.1 y.2.1) (dxz : Apart x.2.1 z.2.1) (dyz : Apart y.2.1 z.2.1) : OBs w base (os ++ [x, y, z]) := by
  have h1 := (h.snoc hx d1).snoc hy (fun a ha => by
    rcases List.mem_append.1 ha with ha | ha
    · exact d2 a ha
    · obtain rfl : a = x := by simpa using ha
      exact dxy)
  have h2 := h1.snoc hz (fun a ha => by
    rcases List.mem_append.1 ha with ha | ha
    · rcases List.mem_append.1 ha with ha | ha
      · exact d3 a ha
      · obtain rfl : a = x := by simpa using ha
        exact dxz
    · obtain rfl : a = y := by simpa using ha
      exact dyz)
  simpa [List.append_assoc] using h2
set_option maxHeartbeats 4000000 in
set_option maxRecDepth 100000 in
theorem handed_calls (l : List RA) (n n3 : Nat) (hn : l.length = n) (hn3 : n3 = 3 * n) (A : Option Addr) (c : Nat) (hl : n ≤ 1048576) (hfit : ∀ y ∈ l, y.1.Fits) (w : World) (hT : Tabs w) (hr : RR w A l) :
    Calls Tryd.prog 13 #[.slice A n c] w fun e w' => ∃ (A' : Option Addr) (c' : Nat) (os : List BA), e = .returned (.slice A' n3 c') ∧ Aside (os.map (·.1) = handL (l.map (·.1))) ∧ w'.ownsRow w.heap.size 25 1 (.slice A' n3 c') n3 (baCells os) ∧ OBs w' w.heap.size os ∧ Below w.heap.size w w' := by
  have HB := Below.refl w.heap.size w
  have HT := Lib.hid hT
  have Hr := Lib.hid hr
  have Hfit := Lib.hid hfit
  have Hn := Lib.hid hn
  have Hn3 := Lib.hid hn3
  clear hT hr hfit hn hn3
  go_enter Tryd.func13, Tryd.ntmps13
  go_wp2
  go_loopg [3, 4] n (fun m v3 v4 wr => ∃ (k q : Nat) (A' : Option Addr) (c' : Nat) (os : List BA), m + k = n ∧ v4 = .int .i64 k ∧ v3 = .slice A' q c' ∧
    Aside (q = 3 * k ∧ os.map (·.1) = handL ((l.map (·.1)).take k) ∧ wr.ownsRow w.heap.size 25 1 (.slice A' q c') q (baCells os) ∧ OBs wr w.heap.size os ∧ Below w.heap.size w wr))
  case atStart => exact ⟨0, 0, none, 0, [], by omega, rfl, rfl, ⟨rfl, rfl, own_nil _ _ _ _, OBs.nil, HB⟩⟩
  case round =>
    clear HB
    obtain ⟨k, q, A2, c2, os, hm, rfl, rfl, HA⟩ := hrel
    obtain ⟨hq, hos, o1, Qo, HB⟩ := HA.out
    clear HA
    have Hq := Lib.hid hq
    have Hos := Lib.hid hos
    clear hq hos
    by_cases hlt : k < n
    · have s1 : decide ((k : Int) < (n : Int)) = true := by rw [decide_eq_true_eq]; omega
      have s1' : decide (k < n) = true := by rw [decide_eq_true_eq]; exact hlt
      obtain ⟨x, hx⟩ : ∃ x, l[k]? = some x := ⟨_, List.getElem?_eq_getElem (by rw [Hn.out]; exact hlt)⟩
      obtain ⟨r, Ar, cr⟩ := x
      have hxm : (l.map (·.1))[k]? = some r := by rw [List.getElem?_map, hx]; rfl
      have hxf : r.Fits := Hfit.out _ (List.mem_of_getElem? hx)
      have hrl := hxf.data
      have hxd : RB w Ar r.Data := Hr.out.data _ (List.mem_of_getElem? hx)
      obtain ⟨ad, had, hadlt, _⟩ := Hr.out.get hx
      have hld := fun (W : World) (hb : Below w.heap.size w W) => (Hr.out.next hb).load hx had
      have Hld := Lib.hid hld
      have h00 : ∀ (W : World), Below w.heap.size w W → W.cell? (ad.add (k * 12)) = some (.int .i64 r.V) := fun W hb => by
        have := hld W hb 0 (.int .i64 r.V) rfl
        rwa [show (ad.add (k * 12)).add 0 = ad.add (k * 12) by unfold Addr.add; split <;> simp_all] at this
      have H00 := Lib.hid h00
      subst had
      have n3' : handL ((l.map (·.1)).take (k + 1)) = handL ((l.map (·.1)).take k) ++ handB r := by rw [List.take_add_one, hxm, ← handL_snoc]; rfl
      have N3 := Lib.hid n3'
      have cd := fun v => dec_ob v (encL r)
      have ce := fun w => enc_ob r Ar cr hxf w
      have el := enc_le r
      have dl := decR_le r.V (encL r)
      unfold handB at N3
      generalize encL r = E at ce cd N3 el dl
      have cd := cd r.V
      generalize decR r.V E = D at cd N3 dl
      generalize decE r.V E = de at cd
      generalize r.chk = ck at ce
      obtain ⟨ne, hne⟩ : ∃ ne, E.length = ne := ⟨_, rfl⟩
      have cd := fun L cl => cd ne hne L cl
      rw [hne] at el ce
      have Hne := Lib.hid hne
      have Cd := Lib.hid cd
      have Ce := Lib.hid ce
      clear hx hld n3' hxm cd ce hne h00
      go_wp2_with (first
        | ((with_reducible refine gate_dst (N := 20) rfl ?_); refine ev_load_at rfl rfl rfl (Hld.out _ HB) Tryd.underlying27 rfl rec_size ?_)
        | (go_at_call 49; (with_reducible refine (Ce.out _ (HT.out.next HB) (hxd.next HB)).mono ?_); rintro e W1 ⟨A5, c5, rfl, B5, hb⟩; have hgr := grown_of_below hb; have dQoB5 := Qo.apart_new B5 (Nat.le_refl _); replace B5 := B5.mono HB.size; replace Qo := Qo.kept hgr (by simp); replace o1 := o1.kept hgr (by cases Value.ownBlock _ <;> simp); replace HB := HB.grown hgr (by have := HB.size; omega) (by simp); clear hb hgr; have hx0 := H00.out _ HB; have hne5 := B5.len; rw [Hne.out] at hne5)
        | (go_at_call 47; (with_reducible refine (Cd.out A5 c5 hne5 (by omega) _ (HT.out.next HB) B5.rb).mono ?_); rintro e W2 ⟨A6, c6, rfl, B6, hb⟩; have hgr := grown_of_below hb; have dQoB6 := Qo.apart_new B6 (Nat.le_refl _); have dB5B6 := B5.apart_new B6 (Nat.le_refl _); replace B6 := B6.mono HB.size; replace B5 := B5.kept hgr (by simp); replace Qo := Qo.kept hgr (by simp); replace o1 := o1.kept hgr (by cases Value.ownBlock _ <;> simp); replace HB := HB.grown hgr (by have := HB.size; omega) (by simp); clear hb hgr)
        | ((with_reducible refine gate_dst (N := 7) rfl ?_); refine ev_alloc rfl rfl _ rec_zero ?_; intro g7 W3 hg7 hsz hbn; have hgr := grown_of_below hbn; replace hg7 : Blk W3 g7 _ (Rec.zero.cells none 0) := hg7; have zg7 : w.heap.size ≤ g7 := (by have := HB.size; omega); replace B6 := B6.kept hgr (by simp); replace B5 := B5.kept hgr (by simp); replace Qo := Qo.kept hgr (by simp); replace o1 := o1.kept hgr (by cases Value.ownBlock _ <;> simp); replace HB := HB.grown hgr (by have := HB.size; omega) (by simp); have hcg7 := hg7.cell; have hfg7 := hg7.frozen; clear hsz hbn hgr)
        | ((with_reducible refine gate_store (p := 7) rfl ?_); refine ev_store_row (cs := D.cells A6 c6) rfl rfl rfl hg7 rfl rfl rec_size rfl (cells_one _ _ _) ?_; intro W4 hgn hgr; replace B6 := B6.kept hgr (OB.ne_blk B6 hg7 (by decide)); replace B5 := B5.kept hgr (OB.ne_blk B5 hg7 (by decide)); replace Qo := Qo.kept hgr (OBs.ne_blk Qo hg7 (by decide)); replace o1 := o1.kept hgr (.inr (own_blk_ne o1 hg7 (by decide))); replace HB := HB.grown hgr (by have := HB.size; omega) (by intro k e; injection e with e; omega); replace hg7 := hgn; replace hcg7 := hg7.cell; replace hfg7 := hg7.frozen; clear hgn hgr)
        | ((with_reducible refine gate_dst (N := 37) rfl ?_); refine ev_load_at rfl rfl rfl (Hld.out _ HB) Tryd.underlying27 rfl rec_size ?_)
        | (go_at_call 19; (with_reducible refine (clone_ob r Ar cr _ (hxd.next HB) hrl).mono ?_); rintro e W5 ⟨A8, c8, rfl, B8, hb⟩; have hgr := grown_of_below hb; have dQoB8 := Qo.apart_new B8 (Nat.le_refl _); have dB5B8 := B5.apart_new B8 (Nat.le_refl _); have dB6B8 := B6.apart_new B8 (Nat.le_refl _); replace B8 := B8.mono HB.size; replace B6 := B6.kept hgr (by simp); replace B5 := B5.kept hgr (by simp); replace Qo := Qo.kept hgr (by simp); replace hg7 := hg7.grown hgr (by simp); replace o1 := o1.kept hgr (by cases Value.ownBlock _ <;> simp); replace HB := HB.grown hgr (by have := HB.size; omega) (by simp); replace hcg7 := hg7.cell; replace hfg7 := hg7.frozen; clear hb hgr)
        | ((with_reducible refine gate_dst (N := 9) rfl ?_); refine ev_alloc rfl rfl _ rec_zero ?_; intro g9 W6 hg9 hsz hbn; have hgr := grown_of_below hbn; have ng7g9 : g7 ≠ g9 := (by have := hg7.lt; omega); replace hg9 : Blk W6 g9 _ (Rec.zero.cells none 0) := hg9; have zg9 : w.heap.size ≤ g9 := (by have := HB.size; omega); replace B8 := B8.kept hgr (by simp); replace B6 := B6.kept hgr (by simp); replace B5 := B5.kept hgr (by simp); replace Qo := Qo.kept hgr (by simp); replace hg7 := hg7.grown hgr (by simp); replace o1 := o1.kept hgr (by cases Value.ownBlock _ <;> simp); replace HB := HB.grown hgr (by have := HB.size; omega) (by simp); have hcg9 := hg9.cell; have hfg9 := hg9.frozen; replace hcg7 := hg7.cell; replace hfg7 := hg7.frozen; clear hsz hbn hgr)
        | ((with_reducible refine gate_store (p := 9) rfl ?_); refine ev_store_row (cs := r.cells A8 c8) rfl rfl rfl hg9 rfl rfl rec_size rfl (cells_one _ _ _) ?_; intro W7 hgn hgr; replace B8 := B8.kept hgr (OB.ne_blk B8 hg9 (by decide)); replace B6 := B6.kept hgr (OB.ne_blk B6 hg9 (by decide)); replace B5 := B5.kept hgr (OB.ne_blk B5 hg9 (by decide)); replace Qo := Qo.kept hgr (OBs.ne_blk Qo hg9 (by decide)); replace hg7 := hg7.grown hgr (by intro e; injection e with e; omega); replace o1 := o1.kept hgr (.inr (own_blk_ne o1 hg9 (by decide))); replace HB := HB.grown hgr (by have := HB.size; omega) (by intro k e; injection e with e; omega); replace hg9 := hgn; replace hcg7 := hg7.cell; replace hfg7 := hg7.frozen; replace hcg9 := hg9.cell; replace hfg9 := hg9.frozen; clear hgn hgr)
        | ((with_reducible refine gate_dst (N := 45) rfl ?_); refine ev_lit rfl rfl (#[.slice A5 ne c5, .slice A6 D.Data.length c6, .slice A8 r.Data.length c8]) 25 3 (by first | (go_simp; done) | (go_simp; rfl)) ?_; intro g5 W8 hg5 hsz hbn; have hgr := grown_of_below hbn; have ng7g5 : g7 ≠ g5 := (by have := hg7.lt; omega); have ng9g5 : g9 ≠ g5 := (by have := hg9.lt; omega); have zg5 : w.heap.size ≤ g5 := (by have := HB.size; omega); replace B8 := B8.kept hgr (by simp); replace B6 := B6.kept hgr (by simp); replace B5 := B5.kept hgr (by simp); replace Qo := Qo.kept hgr (by simp); replace hg7 := hg7.grown hgr (by simp); replace hg9 := hg9.grown hgr (by simp); replace o1 := o1.kept hgr (by cases Value.ownBlock _ <;> simp); replace HB := HB.grown hgr (by have := HB.size; omega) (by simp); have hcg5 := hg5.cell; have hfg5 := hg5.frozen; replace hcg7 := hg7.cell; replace hfg7 := hg7.frozen; replace hcg9 := hg9.cell; replace hfg9 := hg9.frozen; clear hsz hbn hgr)
        | ((with_reducible refine gate_dst (N := 46) rfl ?_); refine ev_append rfl rfl Tryd.underlying24 info_bytes rfl (by omega) rfl o1 rfl (hg5.reads (size := 1) (n := 3) rfl) (fun u hu => by simp at hu; rcases hu with rfl | rfl | rfl <;> rfl) (by have := Hq.out; omega) (by omega) (by have := HB.size; omega) ?_; intro A10 c10 W9 on hgr hat; replace B8 := B8.kept hgr (OB.ne_own B8 o1 (by decide)); replace B6 := B6.kept hgr (OB.ne_own B6 o1 (by decide)); replace B5 := B5.kept hgr (OB.ne_own B5 o1 (by decide)); replace Qo := Qo.kept hgr (OBs.ne_own Qo o1 (by decide)); replace hg7 := hg7.grown hgr (fun e => own_blk_ne o1 hg7 (by decide) e.symm); replace hg9 := hg9.grown hgr (fun e => own_blk_ne o1 hg9 (by decide) e.symm); replace HB := HB.grown hgr (by have := HB.size; omega) (own_base o1); replace o1 := on; replace hcg7 := hg7.cell; replace hfg7 := hg7.frozen; replace hcg9 := hg9.cell; replace hfg9 := hg9.frozen; clear on hgr hat))
      go_roundg (gk - 1)
      case measure => omega
      case rel => exact ⟨k + 1, q + 3, A10, c10, os ++ [(E, A5, c5), (D.Data, A6, c6), (r.Data, A8, c8)], by omega, by go_num, rfl, ⟨by have := Hq.out; omega, by rw [List.map_append, Hos.out, N3.out]; rfl, by rw [baCells_append]; simpa [baCells, Hne.out] using o1, Qo.snoc3 B5 B6 B8 dQoB5 dQoB6 dQoB8 dB5B6 dB5B8 dB6B8, HB⟩⟩
    · have s1 : decide ((k : Int) < (n : Int)) = false := by rw [decide_eq_false_iff_not]; omega
      have s1' : decide (k < n) = false := by rw [decide_eq_false_iff_not]; exact hlt
      obtain rfl : k = n := by omega
      have n3' : os.map (·.1) = handL (l.map (·.1)) := by rw [Hos.out, List.take_of_length_le (by rw [List.length_map, Hn.out]; omega)]
      obtain rfl : q = n3 := by have := Hq.out; have := Hn3.out; omega
      go_wp2
      go_ret
      first | exact ⟨A2, c2, os, rfl, n3', o1, Qo, HB⟩ | exact ⟨A2, c2, rfl, os, n3', o1, Qo, HB⟩
end Go.Proofs.YtikodgaomhmbmaaDoor
namespace Go.Proofs.YtikodgaomhmbmaaDoor
open Go.RowKit

theorem info_ints : (Tryd.prog.info? 83).map (fun i => (i.zero, i.size, i.bytes)) = some (some (.slice none 0 0), 1, 24) := by kernel_rfl
/-- The tags that fields2 asks in its i-th turn. -/
def tg (i : Nat) : List Nat := fieldsOf (1 + ((i / 2 % 3 : Nat) : Int)) (1 + ((i / 6 : Nat) : Int))
theorem tg_len : ∀ i < 42, 2 ≤ (tg i).length ∧ (tg i).length ≤ 11 := by decide +kernel
theorem tg_odd {i m : Nat} (h : i % 2 = 1) (hm : m + 1 = i) : tg m = tg i := by
  unfold tg
  have e1 : m / 2 = i / 2 := by omega
  have e2 : m / 6 = i / 6 := by omega
  rw [e1, e2]
def MKI (i n : Nat) : List Value := List.replicate n (.int .i64 (100 + (i : Int)))
theorem MKI_len (i n : Nat) : (MKI i n).length = n := by simp [MKI]
theorem MKI_add (i j k : Nat) : MKI i j ++ MKI i k = MKI i (j + k) := by unfold MKI; rw [List.replicate_append_replicate]
theorem MKI_get {i n j : Nat} (h : j < n) : (MKI i n)[j]? = some (.int .i64 (100 + (i : Int))) := by unfold MKI; rw [List.getElem?_replicate, if_pos h]
def FI (k : Nat) : List Value := MKI k ((tg k).length + 20)
theorem FI_pre {k j : Nat} (h : j ≤ (tg k).length + 20) : MKI k j <+: FI k := ⟨MKI k ((tg k).length + 20 - j), by rw [MKI_add]; unfold FI; congr 1; omega⟩
def gaCells (l : List GA) : List Value := l.map GA.val
theorem gaCells_append (l m : List GA) : gaCells (l ++ m) = gaCells l ++ gaCells m := by simp [gaCells]
theorem cell_ga {w : World} {base g n c : Nat} {e : TypeId} {ls : List GA} (h : w.ownsRow base e 1 (.slice (some ⟨g, 0, none⟩) n c) n (gaCells ls)) {k : Nat} {xs : List Value} {m d : Nat} {A : Option Addr} (hx : ls[k]? = some (xs, m, A, d)) : w.cell? ⟨g, k, none⟩ = some (.slice A m d) :=
  own_cellN h k (by simp [gaCells, hx, GA.val])
theorem blk_one {w : World} {g : Nat} {t : TypeId} {v : Value} (h : Blk w g t #[v]) : ∀ j u, [v][j]? = some u → w.cell? ((⟨g, 0, none⟩ : Addr).add j) = some u := by
  intro j u hu
  have e : (⟨g, 0, none⟩ : Addr).add j = ⟨g, j, none⟩ := by unfold Addr.add; split <;> simp_all
  rw [e, h.cell]
  simpa using hu
theorem gaCells_get {l : List GA} {k : Nat} {x : GA} (h : l[k]? = some x) : (gaCells l)[k]? = some x.val := by simp [gaCells, h]
/-- The first k lists. -/
structure Got (k : Nat) (ls : List GA) : Prop where
  len : ls.length = k
  at_ : ∀ i x, ls[i]? = some x → x.1 = nats (tg i) ∧ x.2.1 = (tg i).length
theorem Got.nil : Got 0 [] := ⟨rfl, fun i x h => by simp at h⟩
theorem Got.snoc {k : Nat} {ls : List GA} (h : Got k ls) (A : Option Addr) (c : Nat) : Got (k + 1) (ls ++ [(nats (tg k), (tg k).length, A, c)]) := by
  refine ⟨by simp [h.len], fun i x hx => ?_⟩
  rcases Nat.lt_or_ge i k with hi | hi
  · rw [List.getElem?_append_left (by rw [h.len]; exact hi)] at hx
    exact h.at_ i x hx
  · rw [List.getElem?_append_right (by rw [h.len]; exact hi), h.len] at hx
    obtain ⟨hl, hx⟩ := List.getElem?_eq_some_iff.1 hx
    simp at hl
    obtain rfl : i = k := by omega
    simp at hx
    subst hx
    exact ⟨rfl, rfl⟩
theorem Got.get {k : Nat} {ls : List GA} (h : Got k ls) {i : Nat} (hi : i < k) : ∃ A c, ls[i]? = some (nats (tg i), (tg i).length, A, c) := by
  have hl : i < ls.length := by rw [h.len]; exact hi
  have hx := List.getElem?_eq_getElem hl
  obtain ⟨h1, h2⟩ := h.at_ i _ hx
  refine ⟨ls[i].2.2.1, ls[i].2.2.2, ?_⟩
  rw [hx, ← h1, ← h2]
theorem apart_of_own {A B : Option Addr} {n m c d : Nat} (h : (Value.slice A n c).ownBlock = none ∨ (Value.slice A n c).ownBlock ≠ (Value.slice B m d).ownBlock) : Apart A B := by
  intro a b ha hb e
  subst ha
  subst hb
  rcases h with h | h
  · cases h
  · exact h (by simp [Value.ownBlock, e])
theorem take_set_succ {α : Type} : ∀ (l : List α) (j : Nat) (v : α), j < l.length → (l.set j v).take (j + 1) = l.take j ++ [v]
  | [], j, v, h => by simp at h
  | x :: l, 0, v, _ => by simp
  | x :: l, j + 1, v, h => by simp only [List.set_cons_succ, List.take_succ_cons, List.cons_append]; rw [take_set_succ l j v (by simpa using h)]

/-- What holds until all marks are written: the lists ls and the copies ws lie in rows of their own; cur: what the lists' rows hold now. -/
structure FS (w wr : World) (A1 : Option Addr) (c1 : Nat) (A2 : Option Addr) (c2 : Nat) (ls ws cur : List GA) (i j : Nat) : Prop where
  below : Below w.heap.size w wr
  gotL : Got 42 ls
  gotW : Got 42 ws
  rowL : wr.ownsRow w.heap.size 83 1 (.slice A1 42 c1) 42 (gaCells ls)
  rowW : wr.ownsRow w.heap.size 83 1 (.slice A2 42 c2) 42 (gaCells ws)
  rows : OGs 3 1 wr w.heap.size cur
  was : OGs 3 1 wr w.heap.size ws
  apart : ∀ x ∈ cur, ∀ y ∈ ws, Apart x.2.2.1 y.2.2.1
  len : cur.length = 42
  at_ : ∀ k x, ls[k]? = some x → ∃ y, cur[k]? = some y ∧ y.2 = x.2 ∧ (k < i → y.1 = MKI k x.2.1) ∧ (k = i → y.1.take j = MKI i j)
section
variable {w wr W : World} {A1 A2 : Option Addr} {c1 c2 : Nat} {ls ws cur : List GA} {i j : Nat}
theorem FS.start (h1 : Below w.heap.size w wr) (h2 : Got 42 ls) (h3 : Got 42 ws) (h4 : wr.ownsRow w.heap.size 83 1 (.slice A1 42 c1) 42 (gaCells ls)) (h5 : wr.ownsRow w.heap.size 83 1 (.slice A2 42 c2) 42 (gaCells ws))
    (h6 : OGs 3 1 wr w.heap.size ls) (h7 : OGs 3 1 wr w.heap.size ws) (h8 : ∀ x ∈ ls, ∀ y ∈ ws, Apart x.2.2.1 y.2.2.1) : FS w wr A1 c1 A2 c2 ls ws ls 0 0 :=
  ⟨h1, h2, h3, h4, h5, h6, h7, h8, h2.len, fun k x hx => ⟨x, hx, rfl, fun h => absurd h (by omega), fun _ => by simp [MKI]⟩⟩
theorem FS.next (h : FS w wr A1 c1 A2 c2 ls ws cur i j) (hb : Below wr.heap.size wr W) : FS w W A1 c1 A2 c2 ls ws cur i j :=
  ⟨below_go h.below hb, h.gotL, h.gotW, own_next h.rowL hb, own_next h.rowW hb, h.rows.next hb, h.was.next hb, h.apart, h.len, h.at_⟩
theorem FS.cellL (h : FS w wr A1 c1 A2 c2 ls ws cur i j) {k : Nat} (hk : k < 42) : ∃ g A c, A1 = some ⟨g, 0, none⟩ ∧ ls[k]? = some (nats (tg k), (tg k).length, A, c) ∧ ∀ (u : Later wr), u.1.cell? ⟨g, k, none⟩ = some (.slice A (tg k).length c) := by
  obtain ⟨A, c, hx⟩ := h.gotL.get hk
  obtain ⟨g, hg, _⟩ := own_at h.rowL (by omega)
  subst hg
  exact ⟨g, A, c, rfl, hx, fun u => own_cellN (own_next h.rowL u.2) k (gaCells_get hx)⟩
theorem FS.cellW (h : FS w wr A1 c1 A2 c2 ls ws cur i j) {k : Nat} (hk : k < 42) : ∃ g A c, A2 = some ⟨g, 0, none⟩ ∧ ws[k]? = some (nats (tg k), (tg k).length, A, c) ∧ ∀ (u : Later wr), u.1.cell? ⟨g, k, none⟩ = some (.slice A (tg k).length c) := by
  obtain ⟨A, c, hx⟩ := h.gotW.get hk
  obtain ⟨g, hg, _⟩ := own_at h.rowW (by omega)
  subst hg
  exact ⟨g, A, c, rfl, hx, fun u => own_cellN (own_next h.rowW u.2) k (gaCells_get hx)⟩
theorem FS.readL (h : FS w wr A1 c1 A2 c2 ls ws ls i j) {k n : Nat} {xs : List Value} {A : Option Addr} {c : Nat} (hx : ls[k]? = some (xs, n, A, c)) (u : Later wr) : Reads u.1 u.1.heap.size 1 A n xs :=
  Reads.next (Reads.of_own (h.rows.all _ (List.mem_of_getElem? hx))) u.2
theorem FS.readW (h : FS w wr A1 c1 A2 c2 ls ws cur i j) {k n : Nat} {xs : List Value} {A : Option Addr} {c : Nat} (hx : ws[k]? = some (xs, n, A, c)) (u : Later wr) : Reads u.1 u.1.heap.size 1 A n xs :=
  Reads.next (Reads.of_own (h.was.all _ (List.mem_of_getElem? hx))) u.2
/-- The row of the i-th list as it is now. -/
theorem FS.row (h : FS w wr A1 c1 A2 c2 ls ws cur i j) {n : Nat} {xs : List Value} {A : Option Addr} {c : Nat} (hx : ls[i]? = some (xs, n, A, c)) : ∃ ys, cur[i]? = some (ys, n, A, c) ∧ wr.ownsRow w.heap.size 3 1 (.slice A n c) n ys ∧ ys.length = n := by
  obtain ⟨y, hy, e, _, _⟩ := h.at_ i _ hx
  obtain ⟨ys, r⟩ := y
  simp only at e
  subst e
  have := h.rows.all _ (List.mem_of_getElem? hy)
  exact ⟨ys, hy, this, by have := this.1; simpa using this⟩
theorem FS.byte (h : FS w wr A1 c1 A2 c2 ls ws cur i j) {n g c : Nat} {ys xs : List Value} (hx : ls[i]? = some (xs, n, some ⟨g, 0, none⟩, c)) (hy : cur[i]? = some (ys, n, some ⟨g, 0, none⟩, c)) (hj : j < n) (hl : ys.length = n)
    (hB : W.ownsRow w.heap.size 3 1 (.slice (some ⟨g, 0, none⟩) n c) n (ys.set j (.int .i64 (100 + (i : Int))))) (hgr : wr.grownBy W (some g)) : FS w W A1 c1 A2 c2 ls ws (cur.set i (ys.set j (.int .i64 (100 + (i : Int))), n, some ⟨g, 0, none⟩, c)) i (j + 1) := by
  have hil : i < cur.length := (List.getElem?_eq_some_iff.1 hy).1
  have hmem := List.mem_of_getElem? hy
  have hold := h.rows.all _ hmem
  have hg1 : w.heap.size ≤ g := own_base hold g rfl
  refine ⟨h.below.grown hgr h.below.size (fun k e => by injection e with e; omega), h.gotL, h.gotW, h.rowL.kept hgr ?_, h.rowW.kept hgr ?_, h.rows.set_ hy hB hgr, h.was.kept hgr (fun y hy' ad e e2 => ?_), fun x hx' y hy' => ?_, by simpa using h.len, fun k x hx' => ?_⟩
  · exact own_sym (own_ty_ne hold h.rowL (by decide))
  · exact own_sym (own_ty_ne hold h.rowW (by decide))
  · injection e2 with e2
    exact h.apart _ hmem y hy' ⟨g, 0, none⟩ ad rfl e e2.symm
  · rcases List.mem_or_eq_of_mem_set hx' with hx' | rfl
    · exact h.apart x hx' y hy'
    · exact h.apart _ hmem y hy'
  · obtain ⟨y, hyk, e1, e2, e3⟩ := h.at_ k x hx'
    by_cases hk : i = k
    · subst hk
      rw [hy] at hyk
      injection hyk with hyk
      subst hyk
      refine ⟨_, List.getElem?_set_self hil, e1, fun hlt => absurd hlt (by omega), fun _ => ?_⟩
      simp only
      rw [take_set_succ ys j _ (by omega), e3 rfl, show MKI i (j + 1) = MKI i j ++ MKI i 1 from (MKI_add i j 1).symm]
      rfl
    · exact ⟨y, by rw [List.getElem?_set_ne hk]; exact hyk, e1, e2, fun e => absurd e.symm hk⟩
theorem FS.next_row (h : FS w wr A1 c1 A2 c2 ls ws cur i j) {xs : List Value} {A : Option Addr} {c : Nat} (hx : ls[i]? = some (xs, j, A, c)) : FS w wr A1 c1 A2 c2 ls ws cur (i + 1) 0 := by
  refine ⟨h.below, h.gotL, h.gotW, h.rowL, h.rowW, h.rows, h.was, h.apart, h.len, fun k x hx' => ?_⟩
  obtain ⟨y, hyk, e1, e2, e3⟩ := h.at_ k x hx'
  refine ⟨y, hyk, e1, fun hlt => ?_, fun _ => by simp [MKI]⟩
  rcases Nat.lt_or_ge k i with hki | hki
  · exact e2 hki
  · obtain rfl : k = i := by omega
    have h1 := e3 rfl
    rw [hx] at hx'
    injection hx' with hx'
    subst hx'
    obtain ⟨ys, r⟩ := y
    simp only at e1
    subst e1
    have h2 := (h.rows.all _ (List.mem_of_getElem? hyk)).1
    simp only at h1 h2 ⊢
    rw [← h1, List.take_of_length_le (by omega)]
end

/-! ### While the lists are lengthened, and after -/
structure FL (b : Nat) (w wr : World) (A1 : Option Addr) (c1 : Nat) (A2 : Option Addr) (c2 : Nat) (ls ws : List GA) (fam : List (Nat × GA)) : Prop where
  below : Below w.heap.size w wr
  size : w.heap.size ≤ b ∧ b ≤ wr.heap.size
  gotL : Got 42 ls
  gotW : Got 42 ws
  rowL : wr.ownsRow w.heap.size 83 1 (.slice A1 42 c1) 42 (gaCells ls)
  rowW : wr.ownsRow w.heap.size 83 1 (.slice A2 42 c2) 42 (gaCells ws)
  ltL : ∀ k, (Value.slice A1 42 c1).ownBlock = some k → k < b
  ltW : ∀ k, (Value.slice A2 42 c2).ownBlock = some k → k < b
  was : OGs 3 1 wr w.heap.size ws
  fam_ : FamG 3 1 FI wr w.heap.size fam
  apart : ∀ x ∈ fam, ∀ y ∈ ws, Apart x.2.2.2.1 y.2.2.1
  has : ∀ k x, ls[k]? = some x → (k, MKI k x.2.1, x.2) ∈ fam
section
variable {b : Nat} {w wr W : World} {A1 A2 : Option Addr} {c1 c2 : Nat} {ls ws cur : List GA} {fam : List (Nat × GA)}
theorem FS.filled (h : FS w wr A1 c1 A2 c2 ls ws cur 42 0) : FL wr.heap.size w wr A1 c1 A2 c2 ls ws (taggedG cur) := by
  have hat : ∀ k y, cur[k]? = some y → ∃ x, ls[k]? = some x ∧ y.2 = x.2 ∧ y.1 = MKI k x.2.1 := fun k y hy => by
    have hk : k < 42 := by rw [← h.len]; exact (List.getElem?_eq_some_iff.1 hy).1
    obtain ⟨A, c, hx⟩ := h.gotL.get hk
    obtain ⟨y', hy', e1, e2, _⟩ := h.at_ k _ hx
    rw [hy] at hy'
    injection hy' with hy'
    subst hy'
    exact ⟨_, hx, e1, e2 hk⟩
  refine ⟨h.below, ⟨h.below.size, Nat.le_refl _⟩, h.gotL, h.gotW, h.rowL, h.rowW, fun k e => own_lt h.rowL k e, fun k e => own_lt h.rowW k e, h.was, FamG.of_rows h.rows (fun k y hy => ?_), fun x hx y hy => h.apart _ (List.mem_of_getElem? (taggedG_mem.1 hx)) y hy, fun k x hx => ?_⟩
  · obtain ⟨x, hx, _, e⟩ := hat k y hy
    rw [e, (h.gotL.at_ k x hx).2]
    exact FI_pre (by omega)
  · have hk : k < 42 := by rw [← h.gotL.len]; exact (List.getElem?_eq_some_iff.1 hx).1
    obtain ⟨y, hy, e1, e2, _⟩ := h.at_ k x hx
    rw [taggedG_mem]
    simp only
    rw [hy, ← e2 hk, ← e1]
theorem FL.kept {row : Option Nat} (h : FL b w wr A1 c1 A2 c2 ls ws fam) (hgr : wr.grownBy W row) (hne : (∀ x ∈ fam, ∀ ad, x.2.2.2.1 = some ad → some ad.block ≠ row) ∧ (∀ x ∈ ws, ∀ ad, x.2.2.1 = some ad → some ad.block ≠ row) ∧ ∀ k, row = some k → b ≤ k) : FL b w W A1 c1 A2 c2 ls ws fam := by
  refine ⟨h.below.grown hgr h.below.size (fun k e => by have := hne.2.2 k e; have := h.size; omega), ⟨h.size.1, Nat.le_trans h.size.2 hgr.size⟩, h.gotL, h.gotW, h.rowL.kept hgr ?_, h.rowW.kept hgr ?_, h.ltL, h.ltW, h.was.kept hgr hne.2.1, h.fam_.kept hgr hne.1, h.apart, h.has⟩
  · cases hv : (Value.slice A1 42 c1).ownBlock with
    | none => exact .inl rfl
    | some k => exact .inr fun e => by have := h.ltL k hv; have := hne.2.2 k e.symm; omega
  · cases hv : (Value.slice A2 42 c2).ownBlock with
    | none => exact .inl rfl
    | some k => exact .inr fun e => by have := h.ltW k hv; have := hne.2.2 k e.symm; omega
theorem FL.grown (h : FL b w wr A1 c1 A2 c2 ls ws fam) (hgr : wr.grownBy W none) : FL b w W A1 c1 A2 c2 ls ws fam := h.kept hgr ⟨by simp, by simp, fun k e => by cases e⟩
theorem FL.ne_own {n size : Nat} {v : Value} {xs : List Value} (h : FL b w wr A1 c1 A2 c2 ls ws fam) (ho : wr.ownsRow b 83 size v n xs) (hne : 3 ≠ 83) : (∀ x ∈ fam, ∀ ad, x.2.2.2.1 = some ad → some ad.block ≠ v.ownBlock) ∧ (∀ x ∈ ws, ∀ ad, x.2.2.1 = some ad → some ad.block ≠ v.ownBlock) ∧ ∀ k, v.ownBlock = some k → b ≤ k :=
  ⟨h.fam_.ne_own ho hne, h.was.ne_own ho hne, own_base ho⟩
theorem FL.sub {fam' : List (Nat × GA)} (h : FL b w wr A1 c1 A2 c2 ls ws fam) (hs : ∀ x ∈ fam', x ∈ fam) (hh : ∀ k x, ls[k]? = some x → (k, MKI k x.2.1, x.2) ∈ fam') : FL b w wr A1 c1 A2 c2 ls ws fam' :=
  ⟨h.below, h.size, h.gotL, h.gotW, h.rowL, h.rowW, h.ltL, h.ltW, h.was, h.fam_.sub hs, fun x hx => h.apart x (hs x hx), hh⟩
theorem own_famG {F : Nat → List Value} {w w1 : World} {base b size n s : Nat} {e e' : TypeId} {v : Value} {xs : List Value} {os : List (Nat × GA)} (ho : w.ownsRow b e size v n xs) (h : FamG e' s F w base os) {x : Nat × GA} (hx : x ∈ os) (hgr : w.grownBy w1 (x.2.2.2.1.map (·.block))) (hne : e' ≠ e) : w1.ownsRow b e size v n xs := by
  refine ho.kept hgr ?_
  cases hA : x.2.2.2.1 with
  | none => cases v.ownBlock <;> simp
  | some ad => exact .inr fun e2 => h.ne_own ho hne x hx ad hA e2.symm
/-- One of the lists is lengthened by what comes next of its mark. -/
theorem FL.append (h : FL b w wr A1 c1 A2 c2 ls ws fam) {t n c m : Nat} {A : Option Addr} {xs news : List Value} (hx : (t, xs, n, A, c) ∈ fam) (hp : xs ++ news <+: FI t) {A3 : Option Addr} {c3 : Nat} (hG : GrewG 3 1 wr w.heap.size A c n xs news m A3 c3 W) :
    FL b w W A1 c1 A2 c2 ls ws ((t, xs ++ news, n + m, A3, c3) :: fam) := by
  have hA : ∀ k, A.map (·.block) = some k → w.heap.size ≤ k := fun k e => by
    cases hA : A with
    | none => rw [hA] at e; cases e
    | some ad =>
      subst hA
      injection e with e
      have e : ad.block = k := e
      have := (own_lt_at (h.fam_.all _ hx) (ad := ad) rfl).1
      omega
  refine ⟨h.below.grown hG.grown h.below.size hA, ⟨h.size.1, Nat.le_trans h.size.2 hG.grown.size⟩, h.gotL, h.gotW, own_famG h.rowL h.fam_ hx hG.grown (by decide), own_famG h.rowW h.fam_ hx hG.grown (by decide), h.ltL, h.ltW, h.was.kept hG.grown (fun y hy ad e e2 => ?_), h.fam_.append hx hp hG, fun x hx' y hy => ?_, fun k x hx' => List.mem_cons_of_mem _ (h.has k x hx')⟩
  · cases hA : A with
    | none => rw [hA] at e2; cases e2
    | some ad' =>
      subst hA
      injection e2 with e2
      exact h.apart _ hx y hy ad' ad rfl e e2.symm
  · rcases List.mem_cons.1 hx' with rfl | hx'
    · rcases hG.lies with ⟨rfl, rfl⟩ | ⟨_, hnew⟩
      · exact h.apart _ hx y hy
      · intro a d ha hd e
        have h1 := (h.was.lt y hy d hd).2
        have h2 := hnew a ha
        omega
    · exact h.apart x hx' y hy
end
/-- What the lengthened lists are. -/
structure MoreI (k : Nat) (ts : List (Nat × GA)) : Prop where
  len : ts.length = k
  at_ : ∀ i, i < k → ∃ A c, ts[i]? = some (i, MKI i ((tg i).length + 20), (tg i).length + 20, A, c)
theorem MoreI.nil : MoreI 0 [] := ⟨rfl, fun i h => by omega⟩
theorem MoreI.snoc {k : Nat} {ts : List (Nat × GA)} (h : MoreI k ts) (A : Option Addr) (c : Nat) : MoreI (k + 1) (ts ++ [(k, MKI k ((tg k).length + 20), (tg k).length + 20, A, c)]) := by
  refine ⟨by simp [h.len], fun i hi => ?_⟩
  rcases Nat.lt_or_ge i k with hik | hik
  · obtain ⟨A', c', ha⟩ := h.at_ i hik
    exact ⟨A', c', by rw [List.getElem?_append_left (by rw [h.len]; omega)]; exact ha⟩
  · obtain rfl : i = k := by omega
    exact ⟨A, c, by rw [List.getElem?_append_right (by rw [h.len]; omega), h.len, Nat.sub_self]; rfl⟩
end Go.Proofs.YtikodgaomhmbmaaDoor
namespace Go.Proofs.YtikodgaomhmbmaaDoor
open Go.RowKit

set_option maxHeartbeats 8000000 in
set_option maxRecDepth 100000 in
theorem fields2_calls (w : World) (ht : Tab w 0 maysL) :
    Calls Tryd.prog 10 #[] w fun e w' => e = .returned (.bool true) ∧ Below w.heap.size w w' := by
  have HB := Below.refl w.heap.size w
  have Ht := Lib.hid ht
  clear ht
  go_enter Tryd.func10, Tryd.ntmps10
  go_wp2
  go_loopg [1, 2, 3] 42 (fun m v1 v2 v3 wr => ∃ (k : Nat) (A1 : Option Addr) (c1 : Nat) (A2 : Option Addr) (c2 : Nat) (ls ws : List GA), m + k = 42 ∧ v3 = .int .i64 k ∧ v1 = .slice A1 k c1 ∧ v2 = .slice A2 k c2 ∧
    Aside (Got k ls ∧ Got k ws ∧ wr.ownsRow w.heap.size 83 1 (.slice A1 k c1) k (gaCells ls) ∧ wr.ownsRow w.heap.size 83 1 (.slice A2 k c2) k (gaCells ws) ∧ OGs 3 1 wr w.heap.size ls ∧ OGs 3 1 wr w.heap.size ws ∧
      (∀ x ∈ ls, ∀ y ∈ ws, Apart x.2.2.1 y.2.2.1) ∧ ((Value.slice A1 k c1).ownBlock = none ∨ (Value.slice A1 k c1).ownBlock ≠ (Value.slice A2 k c2).ownBlock) ∧ Below w.heap.size w wr))
  case atStart => exact ⟨0, none, 0, none, 0, [], [], by omega, rfl, rfl, rfl, ⟨Got.nil, Got.nil, own_nil _ _ _ _, own_nil _ _ _ _, OGs.nil, OGs.nil, fun x hx => (by cases hx), .inl rfl, HB⟩⟩
  case round =>
    clear HB
    obtain ⟨k, A1, c1, A2, c2, ls, ws, hm, rfl, rfl, rfl, HA⟩ := hrel
    obtain ⟨hg1, hg2, o1, o2, G1, G2, hap, do1o2, HB⟩ := HA.out
    clear HA
    have Hg1 := Lib.hid hg1
    have Hg2 := Lib.hid hg2
    have Hap := Lib.hid hap
    clear hg1 hg2 hap
    by_cases hlt : k < 42
    · have s1 : decide ((k : Int) < 42) = true := by rw [decide_eq_true_eq]; omega
      have s1' : decide (k < 42) = true := by rw [decide_eq_true_eq]; exact hlt
      obtain ⟨hl2, hl11⟩ := tg_len k hlt
      obtain ⟨h2, hh2⟩ : ∃ h2, h2 = k / 2 := ⟨_, rfl⟩
      obtain ⟨p, hp⟩ : ∃ p, p = k / 2 % 3 := ⟨_, rfl⟩
      obtain ⟨q, hq⟩ : ∃ q, q = k / 6 := ⟨_, rfl⟩
      have td : (k : Int).tdiv 2 = (h2 : Int) := by rw [Int.tdiv_eq_ediv_of_nonneg (by omega)]; omega
      have tm : (h2 : Int).tmod 3 = (p : Int) := by rw [Int.tmod_eq_emod_of_nonneg (by omega)]; omega
      have tq : (k : Int).tdiv 6 = (q : Int) := by rw [Int.tdiv_eq_ediv_of_nonneg (by omega)]; omega
      have hp3 : p < 3 := by omega
      have hh21 : h2 ≤ 21 := by omega
      have hq7 : q < 7 := by omega
      have hT : fieldsOf (1 + (p : Int)) (1 + (q : Int)) = tg k := by unfold tg; rw [hp, hq]
      have N1 := Lib.hid (Hg1.out.snoc)
      have N2 := Lib.hid (Hg2.out.snoc)
      obtain ⟨nt, hnt⟩ : ∃ nt, (tg k).length = nt := ⟨_, rfl⟩
      rw [hnt] at hl2 hl11 N1 N2
      have HnT := Lib.hid hnt
      have Hfa := Lib.hid (fields_all hT hnt)
      clear hp hq hh2 hT hnt
      generalize tg k = T at N1 N2 HnT Hfa
      go_wp2_with (first
        | (go_at_call 58; (with_reducible refine (Hfa.out _ (Ht.out.next HB)).mono ?_); rintro e W1 ⟨A5, c5, rfl, o5, hb⟩; have hgr := grown_of_below hb; have do1o5 := own_apart o1 o5 (Nat.le_refl _); have do2o5 := own_apart o2 o5 (Nat.le_refl _); have dG1o5 := G1.apart_new o5 (Nat.le_refl _); have dG2o5 := G2.apart_new o5 (Nat.le_refl _); replace o5 := own_mono o5 HB.size; replace G2 := G2.kept hgr (by simp); replace G1 := G1.kept hgr (by simp); replace o1 := o1.kept hgr (by cases Value.ownBlock _ <;> simp); replace o2 := o2.kept hgr (by cases Value.ownBlock _ <;> simp); replace HB := HB.grown hgr (by have := HB.size; omega) (by simp); clear hb hgr; have r5 := Reads.of_own o5)
        | ((with_reducible refine gate_dst (N := 30) rfl ?_); refine ev_append_nil rfl rfl Tryd.underlying83 info_int rfl (by omega) rfl rfl r5 nats_one (by omega) (by omega) ?_; intro A6 c6 W2 o6 hbn; have hgr := grown_of_below hbn; have do1o6 := own_apart o1 o6 (Nat.le_refl _); have do2o6 := own_apart o2 o6 (Nat.le_refl _); have do5o6 := own_apart o5 o6 (Nat.le_refl _); have dG1o6 := G1.apart_new o6 (Nat.le_refl _); have dG2o6 := G2.apart_new o6 (Nat.le_refl _); replace o6 := own_mono o6 HB.size; replace G2 := G2.kept hgr (by simp); replace G1 := G1.kept hgr (by simp); replace o1 := o1.kept hgr (by cases Value.ownBlock _ <;> simp); replace o2 := o2.kept hgr (by cases Value.ownBlock _ <;> simp); replace o5 := o5.kept hgr (by cases Value.ownBlock _ <;> simp); replace HB := HB.grown hgr (by have := HB.size; omega) (by simp); clear hbn hgr)
        | ((with_reducible refine gate_dst (N := 33) rfl ?_); refine ev_lit rfl rfl (#[.slice A6 nt c6]) 83 1 (by first | (go_simp; done) | (go_simp; rfl)) ?_; intro g5 W3 hg5 hsz hbn; have hgr := grown_of_below hbn; have zg5 : w.heap.size ≤ g5 := (by have := HB.size; omega); replace G2 := G2.kept hgr (by simp); replace G1 := G1.kept hgr (by simp); replace o1 := o1.kept hgr (by cases Value.ownBlock _ <;> simp); replace o2 := o2.kept hgr (by cases Value.ownBlock _ <;> simp); replace o5 := o5.kept hgr (by cases Value.ownBlock _ <;> simp); replace o6 := o6.kept hgr (by cases Value.ownBlock _ <;> simp); replace HB := HB.grown hgr (by have := HB.size; omega) (by simp); have hcg5 := hg5.cell; have hfg5 := hg5.frozen; clear hsz hbn hgr)
        | ((with_reducible refine gate_dst (N := 34) rfl ?_); refine ev_append rfl rfl Tryd.underlying82 info_ints rfl (by omega) rfl o2 rfl (hg5.reads (size := 1) (n := 1) rfl) (fun u hu => by simp at hu; subst hu; rfl) (by omega) (by omega) (by have := HB.size; omega) ?_; intro A7 c7 W4 on hgr hat; have eo1o2 := own_apart_app o1 do1o2 hat; replace G2 := G2.kept hgr (OGs.ne_own G2 o2 (by decide)); replace G1 := G1.kept hgr (OGs.ne_own G1 o2 (by decide)); replace o1 := o1.kept hgr (do1o2); replace o5 := o5.kept hgr (by first | assumption | exact own_ty_ne o5 o2 (by decide) | exact own_sym (by assumption)); replace o6 := o6.kept hgr (by first | assumption | exact own_ty_ne o6 o2 (by decide) | exact own_sym (by assumption)); replace HB := HB.grown hgr (by have := HB.size; omega) (own_base o2); replace do1o2 := eo1o2; clear eo1o2; replace o2 := on; clear on hgr hat; have do2o1 := own_sym do1o2)
        | ((with_reducible refine gate_dst (N := 37) rfl ?_); refine ev_lit rfl rfl (#[.slice A5 nt c5]) 83 1 (by first | (go_simp; done) | (go_simp; rfl)) ?_; intro g6 W5 hg6 hsz hbn; have hgr := grown_of_below hbn; have zg6 : w.heap.size ≤ g6 := (by have := HB.size; omega); replace G2 := G2.kept hgr (by simp); replace G1 := G1.kept hgr (by simp); replace o1 := o1.kept hgr (by cases Value.ownBlock _ <;> simp); replace o2 := o2.kept hgr (by cases Value.ownBlock _ <;> simp); replace o5 := o5.kept hgr (by cases Value.ownBlock _ <;> simp); replace o6 := o6.kept hgr (by cases Value.ownBlock _ <;> simp); replace HB := HB.grown hgr (by have := HB.size; omega) (by simp); have hcg6 := hg6.cell; have hfg6 := hg6.frozen; clear hsz hbn hgr)
        | ((with_reducible refine gate_dst (N := 38) rfl ?_); refine ev_append rfl rfl Tryd.underlying82 info_ints rfl (by omega) rfl o1 rfl (hg6.reads (size := 1) (n := 1) rfl) (fun u hu => by simp at hu; subst hu; rfl) (by omega) (by omega) (by have := HB.size; omega) ?_; intro A8 c8 W6 on hgr hat; have eo2o1 := own_apart_app o2 do2o1 hat; replace G2 := G2.kept hgr (OGs.ne_own G2 o1 (by decide)); replace G1 := G1.kept hgr (OGs.ne_own G1 o1 (by decide)); replace o2 := o2.kept hgr (do2o1); replace o5 := o5.kept hgr (by first | assumption | exact own_ty_ne o5 o1 (by decide) | exact own_sym (by assumption)); replace o6 := o6.kept hgr (by first | assumption | exact own_ty_ne o6 o1 (by decide) | exact own_sym (by assumption)); replace HB := HB.grown hgr (by have := HB.size; omega) (own_base o1); replace do2o1 := eo2o1; clear eo2o1; replace o1 := on; clear on hgr hat))
      go_roundg (gk - 1)
      case measure => omega
      case rel => exact ⟨k + 1, A8, c8, A7, c7, ls ++ [(nats T, nt, A5, c5)], ws ++ [(nats T, nt, A6, c6)], by omega, by go_num, rfl, rfl,
        ⟨N1.out A5 c5, N2.out A6 c6, by rw [gaCells_append]; exact o1, by rw [gaCells_append]; exact o2, G1.snoc o5 dG1o5, G2.snoc o6 dG2o6, fun x hx y hy => by
          rcases List.mem_append.1 hx with hx | hx <;> rcases List.mem_append.1 hy with hy | hy
          · exact Hap.out x hx y hy
          · obtain rfl : y = _ := by simpa using hy
            exact dG1o6 x hx
          · obtain rfl : x = _ := by simpa using hx
            exact (dG2o5 y hy).symm
          · obtain rfl : x = _ := by simpa using hx
            obtain rfl : y = _ := by simpa using hy
            exact apart_of_own do5o6, own_sym do2o1, HB⟩⟩
    · obtain rfl : k = 42 := by omega
      have s1 : decide (((42 : Nat) : Int) < 42) = false := by decide
      have s1' : decide ((42 : Nat) < 42) = false := by decide
      have HS0 := Lib.hid (FS.start HB Hg1.out Hg2.out o1 o2 G1 G2 Hap.out)
      clear HB o1 o2 G1 G2 do1o2 Hap Hg1 Hg2
      go_wp2
      go_loopg [6] 42 (fun m v6 wr => ∃ k : Nat, m + k = 42 ∧ v6 = .int .i64 k ∧ Aside (FS w wr A1 c1 A2 c2 ls ws ls 0 0))
      case atStart => exact ⟨0, by omega, rfl, HS0.out⟩
      case round =>
        clear HS0
        obtain ⟨k, hm2, rfl, HA⟩ := hrel
        have HS := HA.out
        clear HA
        by_cases hk : k < 42
        · have r1 : decide ((k : Int) < 42) = true := by rw [decide_eq_true_eq]; omega
          have r1' : decide (k < 42) = true := by rw [decide_eq_true_eq]; exact hk
          obtain ⟨gA, Ak, ck, hA1, hxL, hcL⟩ := HS.cellL hk
          obtain ⟨gW, Bk, dk, hA2, hxW, hcW⟩ := HS.cellW hk
          have rL := HS.readL hxL
          have rW := HS.readW hxW
          obtain ⟨hl2, hl11⟩ := tg_len k hk
          by_cases hodd : k % 2 = 1
          · obtain ⟨m, hmk⟩ : ∃ m, m + 1 = k := ⟨k - 1, by omega⟩
            obtain ⟨gA', Am, cm, hA1', hxM, hcM⟩ := HS.cellL (k := m) (by omega)
            have rM := HS.readL hxM
            rw [tg_odd hodd hmk] at hcM rM
            rw [hA1] at hA1'
            injection hA1' with hA1'
            injection hA1' with hA1'
            subst hA1'
            have tm2 : (k : Int).tmod 2 = 1 := by rw [Int.tmod_eq_emod_of_nonneg (by omega)]; omega
            have e1 : (k : Int) - 1 = (m : Int) := by omega
            obtain ⟨nt, hnt⟩ : ∃ nt, (tg k).length = nt := ⟨_, rfl⟩
            rw [hnt] at hl2 hl11 rL rW rM hcL hcW hcM
            have HnT := Lib.hid hnt
            have HSS := Lib.hid HS
            have r2 : decide ((nt : Int) < 2) = false := by rw [decide_eq_false_iff_not]; omega
            have r2' : decide (nt < 2) = false := by rw [decide_eq_false_iff_not]; omega
            subst hA1
            subst hA2
            clear hxL hxW hxM hnt HS
            go_wp2
            refine wp_region_later (by kernel_rfl) (by kernel_rfl) ?_
            repeat (go_big_quiet_step ((go_at_call 59; first | exact calls_later (sameNats_self HnT.out _ _ _ _ _ (rL _) (rW _) hl11) | exact calls_later (sameNats_self HnT.out _ _ _ _ _ (rL _) (rM _) hl11))))
            refine later_end (fun wq hbq => ?_)
            have HS := HSS.out.next hbq
            clear rL rW rM hcL hcW hcM HSS
            go_wp2
            go_roundg (gk - 1)
            case measure => omega
            case rel => exact ⟨k + 1, by omega, by go_num, HS⟩
          · have tm2 : (k : Int).tmod 2 = 0 := by rw [Int.tmod_eq_emod_of_nonneg (by omega)]; omega
            obtain ⟨nt, hnt⟩ : ∃ nt, (tg k).length = nt := ⟨_, rfl⟩
            rw [hnt] at hl2 hl11 rL rW hcL hcW
            have HnT := Lib.hid hnt
            have HSS := Lib.hid HS
            have r2 : decide ((nt : Int) < 2) = false := by rw [decide_eq_false_iff_not]; omega
            have r2' : decide (nt < 2) = false := by rw [decide_eq_false_iff_not]; omega
            subst hA1
            subst hA2
            clear hxL hxW hnt HS hodd
            go_wp2
            refine wp_region_later (by kernel_rfl) (by kernel_rfl) ?_
            repeat (go_big_quiet_step ((go_at_call 59; exact calls_later (sameNats_self HnT.out _ _ _ _ _ (rL _) (rW _) hl11))))
            refine later_end (fun wq hbq => ?_)
            have HS := HSS.out.next hbq
            clear rL rW hcL hcW HSS
            go_wp2
            go_roundg (gk - 1)
            case measure => omega
            case rel => exact ⟨k + 1, by omega, by go_num, HS⟩
        · obtain rfl : k = 42 := by omega
          have HS0 := Lib.hid HS
          clear HS
          go_wp2
          go_loopg [7] 42 (fun m v7 wr => ∃ i : Nat, m + i = 42 ∧ v7 = .int .i64 i ∧ Aside (∃ cur, FS w wr A1 c1 A2 c2 ls ws cur i 0))
          case atStart => exact ⟨0, by omega, rfl, ⟨_, HS0.out⟩⟩
          case round =>
            clear HS0
            obtain ⟨gm, rfl⟩ : ∃ gm, gm = gk := ⟨_, rfl⟩
            obtain ⟨i, hm3, rfl, HA⟩ := hrel
            obtain ⟨cur, HS⟩ := HA.out
            clear HA
            by_cases hi : i < 42
            · have r1 : decide ((i : Int) < 42) = true := by rw [decide_eq_true_eq]; omega
              have r1' : decide (i < 42) = true := by rw [decide_eq_true_eq]; exact hi
              obtain ⟨gA, Ai, ci, hA1, hxL, _⟩ := HS.cellL hi
              obtain ⟨_, hl11⟩ := tg_len i hi
              subst hA1
              obtain ⟨nt, hnt⟩ : ∃ nt, (tg i).length = nt := ⟨_, rfl⟩
              rw [hnt] at hl11 hxL
              have HxL := Lib.hid hxL
              have HS0 := Lib.hid HS
              clear hxL hnt HS
              go_wp2
              go_loopg [8] nt (fun m v8 wr => ∃ j : Nat, m + j = nt ∧ v8 = .int .i64 j ∧ Aside (∃ cur, FS w wr (some ⟨gA, 0, none⟩) c1 A2 c2 ls ws cur i j))
              case atStart => exact ⟨0, by omega, rfl, ⟨_, HS0.out⟩⟩
              case round =>
                clear HS0
                obtain ⟨j, hm4, rfl, HA⟩ := hrel
                obtain ⟨cur, HS⟩ := HA.out
                clear HA
                have hcw := cell_ga HS.rowL HxL.out
                by_cases hj : j < nt
                · have q1 : decide ((j : Int) < (nt : Int)) = true := by rw [decide_eq_true_eq]; omega
                  have q1' : decide (j < nt) = true := by rw [decide_eq_true_eq]; exact hj
                  obtain ⟨ys, hy, hB, hyl⟩ := HS.row HxL.out
                  obtain ⟨gi, hgi, _⟩ := own_at hB (by omega)
                  subst hgi
                  have Hy := Lib.hid hy
                  have Hyl := Lib.hid hyl
                  have HSS := Lib.hid HS
                  clear hy hyl HS
                  go_wp2_with (first
                    | ((with_reducible refine gate_store (p := 99) rfl ?_); refine ev_store_ownN rfl rfl rfl hB (k := j) (by omega) rfl rfl (by kernel_rfl) (by kernel_rfl) ?_; intro W2 oB hgr))
                  go_roundg (gk - 1)
                  case measure => omega
                  case rel => exact ⟨j + 1, by omega, by go_num, ⟨_, HSS.out.byte HxL.out Hy.out hj Hyl.out oB hgr⟩⟩
                · have q1 : decide ((j : Int) < (nt : Int)) = false := by rw [decide_eq_false_iff_not]; omega
                  have q1' : decide (j < nt) = false := by rw [decide_eq_false_iff_not]; exact hj
                  obtain rfl : j = nt := by omega
                  have HSS := Lib.hid (HS.next_row HxL.out)
                  clear HS
                  go_wp2
                  go_roundg (gm - 1)
                  case measure => omega
                  case rel => exact ⟨i + 1, by omega, by go_num, ⟨cur, HSS.out⟩⟩
            · obtain rfl : i = 42 := by omega
              have HF := HS.filled
              obtain ⟨b, hb⟩ : ∃ b, b = wr.heap.size := ⟨_, rfl⟩
              obtain ⟨fam0, hf⟩ : ∃ f, f = taggedG cur := ⟨_, rfl⟩
              rw [← hb, ← hf] at HF
              have Has0 := Lib.hid HF.has
              have HF0 := Lib.hid HF
              clear HF HS hf hb
              go_wp2
              go_loopg [9, 10] 42 (fun m v9 v10 wr => ∃ (k : Nat) (A9 : Option Addr) (c9 : Nat) (ts : List (Nat × GA)), m + k = 42 ∧ v10 = .int .i64 k ∧ v9 = .slice A9 k c9 ∧ Aside (MoreI k ts ∧ wr.ownsRow b 83 1 (.slice A9 k c9) k (gaCells (ts.map (·.2))) ∧ FL b w wr A1 c1 A2 c2 ls ws (fam0 ++ ts)))
              case atStart => exact ⟨0, none, 0, [], by omega, rfl, rfl, ⟨MoreI.nil, own_nil _ _ _ _, by simpa using HF0.out⟩⟩
              case round =>
                clear HF0
                obtain ⟨gm2, rfl⟩ : ∃ gm2, gm2 = gk := ⟨_, rfl⟩
                obtain ⟨k, A9, c9, ts, hm5, rfl, rfl, HA⟩ := hrel
                obtain ⟨hmore, o9, X1⟩ := HA.out
                clear HA
                have Hmore := Lib.hid hmore
                clear hmore
                by_cases hk : k < 42
                · have r1 : decide ((k : Int) < 42) = true := by rw [decide_eq_true_eq]; omega
                  have r1' : decide (k < 42) = true := by rw [decide_eq_true_eq]; exact hk
                  obtain ⟨Ak, ck, hx⟩ := X1.gotL.get hk
                  obtain ⟨gA, hgA, _⟩ := own_at X1.rowL (by omega)
                  subst hgA
                  obtain ⟨_, hl11⟩ := tg_len k hk
                  have hmem := X1.has k _ hx
                  have hm2 := Hmore.out.snoc
                  have hpj : ∀ j, j < 20 → MKI k ((tg k).length + j) ++ MKI k 1 <+: FI k := fun j hj => by
                    rw [MKI_add]
                    exact FI_pre (by omega)
                  have hcw := cell_ga X1.rowL hx
                  obtain ⟨nt, hnt⟩ : ∃ nt, (tg k).length = nt := ⟨_, rfl⟩
                  rw [hnt] at hl11 hcw hpj
                  simp only [hnt] at hmem hm2
                  have Hmem := Lib.hid hmem
                  have Hpj := Lib.hid hpj
                  have Hm2 := Lib.hid hm2
                  have HX2 := Lib.hid (X1.sub (fam' := (k, MKI k (nt + 0), nt + 0, Ak, ck) :: (fam0 ++ ts)) (fun x hx => by
                    rcases List.mem_cons.1 hx with rfl | hx
                    · exact Hmem.out
                    · exact hx) (fun q x hq => List.mem_cons_of_mem _ (X1.has q x hq)))
                  clear X1 hx hnt hmem hm2 hpj
                  go_wp2
                  go_loopg [11, 12] 20 (fun m v11 v12 wr => ∃ (j : Nat) (A3 : Option Addr) (c3 : Nat), m + j = 20 ∧ v12 = .int .i64 j ∧ v11 = .slice A3 (nt + j) c3 ∧ Aside (wr.ownsRow b 83 1 (.slice A9 k c9) k (gaCells (ts.map (·.2))) ∧ FL b w wr (some ⟨gA, 0, none⟩) c1 A2 c2 ls ws ((k, MKI k (nt + j), nt + j, A3, c3) :: (fam0 ++ ts))))
                  case atStart => exact ⟨0, Ak, ck, by omega, rfl, rfl, ⟨o9, HX2.out⟩⟩
                  case round =>
                    clear o9 HX2 hcw
                    obtain ⟨j, A3, c3, hm6, rfl, rfl, HA⟩ := hrel
                    obtain ⟨o9, X1⟩ := HA.out
                    clear HA
                    by_cases hj : j < 20
                    · have q1 : decide ((j : Int) < 20) = true := by rw [decide_eq_true_eq]; omega
                      have q1' : decide (j < 20) = true := by rw [decide_eq_true_eq]; exact hj
                      have Hpp := Lib.hid (Hpj.out j hj)
                      go_wp2_with (first
                        | ((with_reducible refine gate_dst (N := 115) rfl ?_); refine ev_lit rfl rfl (#[.int .i64 (100 + (k : Int))]) 3 1 (by first | (go_simp; done) | (go_simp; rfl)) ?_; intro g5 W1 hg5 hsz hbn; have hgr := grown_of_below hbn; have zg5 : w.heap.size ≤ g5 := (by have := X1.size; omega); replace o9 := o9.kept hgr (by cases Value.ownBlock _ <;> simp); replace X1 := X1.grown hgr; have hcg5 := hg5.cell; have hfg5 := hg5.frozen; clear hsz hbn hgr)
                        | ((with_reducible refine gate_dst (N := 116) rfl ?_); refine ev_append_share rfl rfl Tryd.underlying83 info_int rfl (by omega) rfl (X1.fam_.all _ List.mem_cons_self) (m := 1) (news := MKI k 1) rfl rfl (blk_one hg5) (fun u hu => by simp [MKI] at hu; subst hu; rfl) (by omega) (by omega) (by have := X1.size; omega) ?_; intro A4 c4 W2 hG; replace o9 := own_famG o9 X1.fam_ List.mem_cons_self hG.grown (by decide); replace X1 := X1.append List.mem_cons_self Hpp.out hG; clear hG))
                      have X3 := X1.sub (fam' := (k, MKI k (nt + (j + 1)), nt + (j + 1), A4, c4) :: (fam0 ++ ts)) (fun x hx => by
                        rcases List.mem_cons.1 hx with rfl | hx
                        · rw [show MKI k (nt + (j + 1)) = MKI k (nt + j) ++ MKI k 1 from (MKI_add k (nt + j) 1).symm]
                          exact List.mem_cons_self
                        · exact List.mem_cons_of_mem _ (List.mem_cons_of_mem _ hx)) (fun q x hq => List.mem_cons_of_mem _ (List.mem_append_left _ (Has0.out q x hq)))
                      go_roundg (gk - 1)
                      case measure => omega
                      case rel => exact ⟨j + 1, A4, c4, by omega, by go_num, rfl, ⟨o9, X3⟩⟩
                    · obtain rfl : j = 20 := by omega
                      have q1 : decide (((20 : Nat) : Int) < 20) = false := by decide
                      have q1' : decide ((20 : Nat) < 20) = false := by decide
                      have X3 := X1.sub (fam' := fam0 ++ (ts ++ [(k, MKI k (nt + 20), nt + 20, A3, c3)])) (fun x hx => by
                        simp only [List.mem_append, List.mem_cons, List.not_mem_nil, or_false] at hx ⊢
                        rcases hx with h | h | h <;> simp [h]) (fun q x hq => List.mem_append_left _ (Has0.out q x hq))
                      clear X1
                      go_wp2_with (first
                        | ((with_reducible refine gate_dst (N := 119) rfl ?_); refine ev_lit rfl rfl (#[.slice A3 (nt + 20) c3]) 83 1 (by first | (go_simp; done) | (go_simp; rfl)) ?_; intro g5 W1 hg5 hsz hbn; have hgr := grown_of_below hbn; have zg5 : w.heap.size ≤ g5 := (by have := X3.size; omega); replace o9 := o9.kept hgr (by cases Value.ownBlock _ <;> simp); replace X3 := X3.grown hgr; have hcg5 := hg5.cell; have hfg5 := hg5.frozen; clear hsz hbn hgr)
                        | ((with_reducible refine gate_dst (N := 120) rfl ?_); refine ev_append rfl rfl Tryd.underlying82 info_ints rfl (by omega) rfl o9 rfl (hg5.reads (size := 1) (n := 1) rfl) (fun u hu => by simp at hu; subst hu; rfl) (by omega) (by omega) (by have := X3.size; omega) ?_; intro A6 c6 W2 on hgr hat; replace X3 := X3.kept hgr (X3.ne_own o9 (by decide)); replace o9 := on; clear on hgr hat))
                      go_roundg (gm2 - 1)
                      case measure => omega
                      case rel => exact ⟨k + 1, A6, c6, _, by omega, by go_num, rfl, ⟨Hm2.out A3 c3, by rw [List.map_append, gaCells_append]; exact o9, X3⟩⟩
                · obtain rfl : k = 42 := by omega
                  have HX0 := Lib.hid X1
                  have Ho0 := Lib.hid o9
                  clear X1 o9
                  go_wp2
                  go_loopg [13] 42 (fun m v13 wr => ∃ i : Nat, m + i = 42 ∧ v13 = .int .i64 i ∧ Aside (wr.ownsRow b 83 1 (.slice A9 42 c9) 42 (gaCells (ts.map (·.2))) ∧ FL b w wr A1 c1 A2 c2 ls ws (fam0 ++ ts)))
                  case atStart => exact ⟨0, by omega, rfl, ⟨Ho0.out, HX0.out⟩⟩
                  case round =>
                    clear HX0 Ho0
                    obtain ⟨gm3, rfl⟩ : ∃ gm3, gm3 = gk := ⟨_, rfl⟩
                    obtain ⟨k, hm7, rfl, HA⟩ := hrel
                    obtain ⟨o9, X1⟩ := HA.out
                    clear HA
                    by_cases hk : k < 42
                    · have r1 : decide ((k : Int) < 42) = true := by rw [decide_eq_true_eq]; omega
                      have r1' : decide (k < 42) = true := by rw [decide_eq_true_eq]; exact hk
                      obtain ⟨hl2, hl11⟩ := tg_len k hk
                      obtain ⟨h2, hh2⟩ : ∃ h2, h2 = k / 2 := ⟨_, rfl⟩
                      obtain ⟨p, hp⟩ : ∃ p, p = k / 2 % 3 := ⟨_, rfl⟩
                      obtain ⟨q, hq⟩ : ∃ q, q = k / 6 := ⟨_, rfl⟩
                      have td : (k : Int).tdiv 2 = (h2 : Int) := by rw [Int.tdiv_eq_ediv_of_nonneg (by omega)]; omega
                      have tm : (h2 : Int).tmod 3 = (p : Int) := by rw [Int.tmod_eq_emod_of_nonneg (by omega)]; omega
                      have tq : (k : Int).tdiv 6 = (q : Int) := by rw [Int.tdiv_eq_ediv_of_nonneg (by omega)]; omega
                      have hp3 : p < 3 := by omega
                      have hh21 : h2 ≤ 21 := by omega
                      have hq7 : q < 7 := by omega
                      have hT : fieldsOf (1 + (p : Int)) (1 + (q : Int)) = tg k := by unfold tg; rw [hp, hq]
                      obtain ⟨Bk, dk, hxW⟩ := X1.gotW.get hk
                      obtain ⟨Ak, ck, hxL⟩ := X1.gotL.get hk
                      obtain ⟨Ck, ek, hxM⟩ := Hmore.out.at_ k hk
                      have hxM' : (ts.map (·.2))[k]? = some (MKI k ((tg k).length + 20), (tg k).length + 20, Ck, ek) := by rw [List.getElem?_map, hxM]; rfl
                      have hmL := X1.has k _ hxL
                      have hmM : _ ∈ fam0 ++ ts := List.mem_append_right _ (List.mem_of_getElem? hxM)
                      have hmW := List.mem_of_getElem? hxW
                      obtain ⟨gA, hgA, _⟩ := own_at X1.rowL (by omega)
                      obtain ⟨gW, hgW, _⟩ := own_at X1.rowW (by omega)
                      obtain ⟨g9, hg9, _⟩ := own_at o9 (by omega)
                      subst hgA
                      subst hgW
                      subst hg9
                      obtain ⟨nt, hnt⟩ : ∃ nt, (tg k).length = nt := ⟨_, rfl⟩
                      simp only [hnt] at hmL hmM hmW hxM' hxW hxL
                      rw [hnt] at hl2 hl11
                      have HnT := Lib.hid hnt
                      have Hfa := Lib.hid (fields_all hT hnt)
                      have HmL := Lib.hid hmL
                      have HmM := Lib.hid hmM
                      have HmW := Lib.hid hmW
                      have HxM := Lib.hid hxM'
                      have HxW := Lib.hid hxW
                      have HxL := Lib.hid hxL
                      clear hp hq hh2 hT hnt hxM hxM' hmL hmM hmW hxW hxL
                      go_wp2_with (first
                        | (go_at_call 58; (with_reducible refine (Hfa.out _ (Ht.out.next X1.below)).mono ?_); rintro e W1 ⟨A14, c14, rfl, o14, hb⟩; have hgr := grown_of_below hb; replace o9 := o9.kept hgr (by cases Value.ownBlock _ <;> simp); replace X1 := X1.grown hgr; clear hb hgr; have r14 := Reads.of_own o14; have hcw := cell_ga X1.rowW HxW.out; have rW := Reads.of_own (X1.was.all _ HmW.out))
                        | (go_at_call 59; (with_reducible refine (sameNats_self HnT.out _ _ _ _ _ r14 rW hl11).mono ?_); rintro e W2 ⟨rfl, hb⟩; have hgr := grown_of_below hb; replace o9 := o9.kept hgr (by cases Value.ownBlock _ <;> simp); replace X1 := X1.grown hgr; clear hb hgr))
                      clear r14 hcw rW o14
                      have HX0 := Lib.hid X1
                      have Ho0 := Lib.hid o9
                      clear X1 o9
                      go_loopg [15] (nt + 20) (fun m v15 wr => ∃ j : Nat, m + j = nt + 20 ∧ v15 = .int .i64 j ∧ Aside (wr.ownsRow b 83 1 (.slice (some ⟨g9, 0, none⟩) 42 c9) 42 (gaCells (ts.map (·.2))) ∧ FL b w wr (some ⟨gA, 0, none⟩) c1 (some ⟨gW, 0, none⟩) c2 ls ws (fam0 ++ ts)))
                      case atStart => exact ⟨0, by omega, rfl, ⟨Ho0.out, HX0.out⟩⟩
                      case round =>
                        clear HX0 Ho0
                        obtain ⟨j, hm8, rfl, HA⟩ := hrel
                        obtain ⟨o9, X1⟩ := HA.out
                        clear HA
                        have hc1 := cell_ga o9 HxM.out
                        have hc0 := cell_ga X1.rowL HxL.out
                        by_cases hj : j < nt + 20
                        · have q1 : decide ((j : Int) < (nt : Int) + 20) = true := by rw [decide_eq_true_eq]; omega
                          have q1' : decide (j < nt + 20) = true := by rw [decide_eq_true_eq]; exact hj
                          have oM : wr.ownsRow w.heap.size 3 1 (.slice Ck (nt + 20) ek) (nt + 20) (MKI k (nt + 20)) := X1.fam_.all _ HmM.out
                          obtain ⟨g3, hg3, _⟩ := own_at oM (by omega)
                          have hc5 : wr.cell? ⟨g3, j, none⟩ = some (.int .i64 (100 + (k : Int))) := by
                            rw [hg3] at oM
                            exact own_cellN oM j (MKI_get hj)
                          rw [hg3] at hc1
                          by_cases hjn : j < nt
                          · have q3 : decide ((j : Int) < (nt : Int)) = true := by rw [decide_eq_true_eq]; omega
                            have q3' : decide (j < nt) = true := by rw [decide_eq_true_eq]; exact hjn
                            have oL : wr.ownsRow w.heap.size 3 1 (.slice Ak nt ck) nt (MKI k nt) := X1.fam_.all _ HmL.out
                            obtain ⟨g4, hg4, _⟩ := own_at oL (by omega)
                            have hc6 : wr.cell? ⟨g4, j, none⟩ = some (.int .i64 (100 + (k : Int))) := by
                              rw [hg4] at oL
                              exact own_cellN oL j (MKI_get hjn)
                            rw [hg4] at hc0
                            have HX1 := Lib.hid X1
                            have Ho9 := Lib.hid o9
                            clear X1 o9 oM oL
                            go_wp2
                            go_roundg (gk - 1)
                            case measure => omega
                            case rel => exact ⟨j + 1, by omega, by go_num, ⟨Ho9.out, HX1.out⟩⟩
                          · have q3 : decide ((j : Int) < (nt : Int)) = false := by rw [decide_eq_false_iff_not]; omega
                            have q3' : decide (j < nt) = false := by rw [decide_eq_false_iff_not]; exact hjn
                            have HX1 := Lib.hid X1
                            have Ho9 := Lib.hid o9
                            clear X1 o9 oM
                            go_wp2
                            go_roundg (gk - 1)
                            case measure => omega
                            case rel => exact ⟨j + 1, by omega, by go_num, ⟨Ho9.out, HX1.out⟩⟩
                        · have q1 : decide ((j : Int) < (nt : Int) + 20) = false := by rw [decide_eq_false_iff_not]; omega
                          have q1' : decide (j < nt + 20) = false := by rw [decide_eq_false_iff_not]; exact hj
                          have HX1 := Lib.hid X1
                          have Ho9 := Lib.hid o9
                          clear X1 o9
                          go_wp2
                          go_roundg (gm3 - 1)
                          case measure => omega
                          case rel => exact ⟨k + 1, by omega, by go_num, ⟨Ho9.out, HX1.out⟩⟩
                    · obtain rfl : k = 42 := by omega
                      have r1 : decide (((42 : Nat) : Int) < 42) = false := by decide
                      have r1' : decide ((42 : Nat) < 42) = false := by decide
                      have hfin := X1.below
                      clear X1 o9
                      go_wp2
                      go_ret
                      exact ⟨rfl, hfin⟩
end Go.Proofs.YtikodgaomhmbmaaDoor
namespace Go.Proofs.YtikodgaomhmbmaaDoor
open Go.RowKit
attribute [local go_sem] Rec.size_ Rec.g0 Rec.g1 Rec.g2 Rec.g3 Rec.g4 Rec.g5 Rec.g6 Rec.g7 Rec.g8 Rec.g9 Rec.g10 Rec.g11 Rec.fold Rec.lit_fold

/-- The longer lists that the records' data are cut out of. -/
def longs (os : List RA) : List BA := os.map fun x => (x.1.Data ++ pad3, x.2.1, x.2.2)
theorem longs_snoc (os : List RA) (x : RA) : longs (os ++ [x]) = longs os ++ [(x.1.Data ++ pad3, x.2.1, x.2.2)] := by simp [longs]
theorem longs_get {os : List RA} {k : Nat} {x : RA} (h : os[k]? = some x) : (longs os)[k]? = some (x.1.Data ++ pad3, x.2.1, x.2.2) := by simp [longs, h]
theorem RB.begin_ {w : World} {A : Option Addr} {b m : List UInt8} (ha : RB w A (b ++ m)) : RB w A b := by
  refine ⟨by simp [u8s], fun hn => ?_⟩
  obtain ⟨ad, e, hlt, hcc⟩ := ha.2 (by rw [List.length_append]; omega)
  refine ⟨ad, e, hlt, fun j u hu => hcc j u ?_⟩
  have hj : j < (u8s b).length := (List.getElem?_eq_some_iff.1 hu).1
  rw [u8s_append, List.getElem?_append_left hj]
  exact hu
theorem RR.of_longs {w : World} {base b n c : Nat} {A : Option Addr} {e : TypeId} {os : List RA} (h : w.ownsRow base e 12 (.slice A n c) n (recCells os)) (hn : os.length = n) (Q : OBs w b (longs os)) : RR w A os := by
  subst hn
  refine ⟨Reads.of_own h, fun x hx => ?_⟩
  exact (Q.all (x.1.Data ++ pad3, x.2.1, x.2.2) (List.mem_map.2 ⟨x, hx, rfl⟩)).rb.begin_
theorem same3_true (a : Rec) (A B : Option Addr) (c d : Nat) (w : World) (ha : RB w A a.Data) (hb : RB w B a.Data) :
    Calls Tryd.prog 18 #[.agg (a.cells A c), .agg (a.cells B d)] w fun e w' => e = .returned (.bool true) ∧ Below w.heap.size w w' := by
  have := same_calls a a A B c d w ha hb
  rwa [Rec.same_self] at this

set_option maxHeartbeats 8000000 in
set_option maxRecDepth 100000 in
theorem recordOwn_calls (l : List RA) (A : Option Addr) (c : Nat) (hl : l.length ≤ 1048576) (hs : ∀ y ∈ l, y.1.Name.size ≤ 1048576 ∧ y.1.Data.length ≤ 1048576) (w : World) (hT : Tabs w) (hr : RR w A l) :
    Calls Tryd.prog 3 #[.slice A l.length c] w fun e w' => e = .returned (.bool true) ∧ Below w.heap.size w w' := by
  have HB := Below.refl w.heap.size w
  obtain ⟨n, hn⟩ : ∃ n, l.length = n := ⟨_, rfl⟩
  rw [hn] at hl ⊢
  obtain ⟨R, hR⟩ : ∃ R : List Rec, R = l.map (fun x => x.1) := ⟨_, rfl⟩
  have hRs : ∀ r ∈ R, r.Name.size ≤ 1048576 ∧ r.Data.length ≤ 1048576 := fun r h => by
    rw [hR] at h
    obtain ⟨y, hy, rfl⟩ := List.mem_map.1 h
    exact hs y hy
  have hRn : R.length = n := by rw [hR, List.length_map, hn]
  have HT := Lib.hid hT
  have Hr := Lib.hid hr
  have HR := Lib.hid hR
  have HRs := Lib.hid hRs
  have HRn := Lib.hid hRn
  have Hn := Lib.hid hn
  clear hT hr hn hR hs hRs hRn
  go_enter Tryd.func3, Tryd.ntmps3
  go_wp2_with (first
    | (go_at_call 9; (with_reducible refine (started3_calls _ (HT.out.next HB)).mono ?_); rintro e W1 ⟨rfl, hb⟩; have hgr := grown_of_below hb; replace HB := HB.grown hgr (by have := HB.size; omega) (by simp); clear hb hgr)
    | (go_at_call 10; (with_reducible refine (fields2_calls _ (HT.out.next HB).may).mono ?_); rintro e W2 ⟨rfl, hb⟩; have hgr := grown_of_below hb; replace HB := HB.grown hgr (by have := HB.size; omega) (by simp); clear hb hgr))
  go_loopg [4, 5, 6, 7] n (fun m v4 v5 v6 v7 wr => ∃ (k : Nat) (A4 : Option Addr) (c4 : Nat) (A5 : Option Addr) (c5 : Nat) (A6 : Option Addr) (c6 : Nat) (os : List RA) (is : List BA), m + k = n ∧ v7 = .int .i64 k ∧ v4 = .slice A4 k c4 ∧ v5 = .slice A5 k c5 ∧ v6 = .slice A6 k c6 ∧
    Aside (os.map (fun x => x.1) = R.take k ∧ is.map (fun x => x.1) = (R.take k).map (fun r => r.Data) ∧ wr.ownsRow w.heap.size 25 1 (.slice A4 k c4) k (baCells (longs os)) ∧ wr.ownsRow w.heap.size 25 1 (.slice A5 k c5) k (baCells is) ∧
      wr.ownsRow w.heap.size 27 12 (.slice A6 k c6) k (recCells os) ∧ OBs wr w.heap.size (longs os) ∧ OBs wr w.heap.size is ∧ ((Value.slice A4 k c4).ownBlock = none ∨ (Value.slice A4 k c4).ownBlock ≠ (Value.slice A5 k c5).ownBlock) ∧ Below w.heap.size w wr))
  case atStart => exact ⟨0, none, 0, none, 0, none, 0, [], [], by omega, rfl, rfl, rfl, rfl, ⟨rfl, rfl, own_nil _ _ _ _, own_nil _ _ _ _, own_nil _ _ _ _, OBs.nil, OBs.nil, .inl rfl, HB⟩⟩
  case round =>
    clear HB
    obtain ⟨k, A4, c4, A5, c5, A6, c6, os, is, hm, rfl, rfl, rfl, rfl, HA⟩ := hrel
    obtain ⟨hos, his, o4, o5, o6, Q4, Q5, do4o5, HB⟩ := HA.out
    clear HA
    have Hos := Lib.hid hos
    have His := Lib.hid his
    clear hos his
    by_cases hlt : k < n
    · have s1 : decide ((k : Int) < (n : Int)) = true := by rw [decide_eq_true_eq]; omega
      have s1' : decide (k < n) = true := by rw [decide_eq_true_eq]; exact hlt
      obtain ⟨x, hx⟩ : ∃ x, l[k]? = some x := ⟨_, List.getElem?_eq_getElem (by rw [Hn.out]; exact hlt)⟩
      obtain ⟨r, Ar, cr⟩ := x
      have hxm : R[k]? = some r := by rw [HR.out, List.getElem?_map, hx]; rfl
      have hrs := (HRs.out _ (List.mem_of_getElem? hxm)).2
      have hxd : RB w Ar r.Data := Hr.out.data _ (List.mem_of_getElem? hx)
      obtain ⟨ad, had, hadlt, _⟩ := Hr.out.get hx
      have hld := fun (W : World) (hb : Below w.heap.size w W) => (Hr.out.next hb).load hx had
      have Hld := Lib.hid hld
      have h11 : ∀ (W : World), Below w.heap.size w W → W.cell? { block := (ad.add (k * 12)).block, off := (ad.add (k * 12)).off + 11 } = some (.slice Ar r.Data.length cr) := fun W hb => hld W hb 11 _ rfl
      have H11 := Lib.hid h11
      subst had
      have n3 : R.take (k + 1) = R.take k ++ [r] := by rw [List.take_add_one, hxm]; rfl
      have N3 := Lib.hid n3
      clear hx hld n3 hxm h11
      go_wp2_with (first
        | ((with_reducible refine gate_dst (N := 34) rfl ?_); refine ev_load_at rfl rfl rfl (Hld.out _ HB) Tryd.underlying27 rfl rec_size ?_)
        | (go_at_call 11; (with_reducible refine (laid3_calls r Ar cr (by omega) _ (hxd.next HB)).mono ?_); rintro e W1 ⟨A7, c7, rfl, B7, hb⟩; have hgr := grown_of_below hb; have dQ4B7 := Q4.apart_new B7 (Nat.le_refl _); have dQ5B7 := Q5.apart_new B7 (Nat.le_refl _); replace B7 := B7.mono HB.size; replace Q5 := Q5.kept hgr (by simp); replace Q4 := Q4.kept hgr (by simp); replace o4 := o4.kept hgr (by cases Value.ownBlock _ <;> simp); replace o5 := o5.kept hgr (by cases Value.ownBlock _ <;> simp); replace o6 := o6.kept hgr (by cases Value.ownBlock _ <;> simp); replace HB := HB.grown hgr (by have := HB.size; omega) (by simp); clear hb hgr)
        | ((with_reducible refine gate_dst (N := 8) rfl ?_); refine ev_alloc rfl rfl _ rec_zero ?_; intro g8 W2 hg8 hsz hbn; have hgr := grown_of_below hbn; have no4g8 := own_new o4 hsz; have no5g8 := own_new o5 hsz; have no6g8 := own_new o6 hsz; replace hg8 : Blk W2 g8 _ (Rec.zero.cells none 0) := hg8; have zg8 : w.heap.size ≤ g8 := (by have := HB.size; omega); replace B7 := B7.kept hgr (by simp); replace Q5 := Q5.kept hgr (by simp); replace Q4 := Q4.kept hgr (by simp); replace o4 := o4.kept hgr (by cases Value.ownBlock _ <;> simp); replace o5 := o5.kept hgr (by cases Value.ownBlock _ <;> simp); replace o6 := o6.kept hgr (by cases Value.ownBlock _ <;> simp); replace HB := HB.grown hgr (by have := HB.size; omega) (by simp); have hcg8 := hg8.cell; have hfg8 := hg8.frozen; clear hsz hbn hgr)
        | ((with_reducible refine gate_store (p := 8) rfl ?_); refine ev_store_row (cs := r.cells A7 c7) rfl rfl rfl hg8 rfl rfl rec_size rfl (cells_one _ _ _) ?_; intro W3 hgn hgr; replace B7 := B7.kept hgr (OB.ne_blk B7 hg8 (by decide)); replace Q5 := Q5.kept hgr (OBs.ne_blk Q5 hg8 (by decide)); replace Q4 := Q4.kept hgr (OBs.ne_blk Q4 hg8 (by decide)); replace o4 := o4.kept hgr (.inr no4g8); replace o5 := o5.kept hgr (.inr no5g8); replace o6 := o6.kept hgr (.inr no6g8); replace HB := HB.grown hgr (by have := HB.size; omega) (by intro k e; injection e with e; omega); replace hg8 := hgn; replace hcg8 := hg8.cell; replace hfg8 := hg8.frozen; clear hgn hgr; have hx11 := H11.out _ HB)
        | (go_at_call 12; (with_reducible refine (copied_ob r.Data r.Data.length rfl Ar cr (by omega) _ (hxd.next HB)).mono ?_); rintro e W4 ⟨A9, c9, rfl, B9, hb⟩; have hgr := grown_of_below hb; have dQ4B9 := Q4.apart_new B9 (Nat.le_refl _); have dQ5B9 := Q5.apart_new B9 (Nat.le_refl _); have dB7B9 := B7.apart_new B9 (Nat.le_refl _); replace B9 := B9.mono HB.size; replace B7 := B7.kept hgr (by simp); replace Q5 := Q5.kept hgr (by simp); replace Q4 := Q4.kept hgr (by simp); replace hg8 := hg8.grown hgr (by simp); replace o4 := o4.kept hgr (by cases Value.ownBlock _ <;> simp); replace o5 := o5.kept hgr (by cases Value.ownBlock _ <;> simp); replace o6 := o6.kept hgr (by cases Value.ownBlock _ <;> simp); replace HB := HB.grown hgr (by have := HB.size; omega) (by simp); replace hcg8 := hg8.cell; replace hfg8 := hg8.frozen; clear hb hgr)
        | ((with_reducible refine gate_dst (N := 45) rfl ?_); refine ev_lit rfl rfl (#[.slice A9 r.Data.length c9]) 25 1 (by first | (go_simp; done) | (go_simp; rfl)) ?_; intro g5 W5 hg5 hsz hbn; have hgr := grown_of_below hbn; have ng8g5 : g8 ≠ g5 := (by have := hg8.lt; omega); have zg5 : w.heap.size ≤ g5 := (by have := HB.size; omega); replace B9 := B9.kept hgr (by simp); replace B7 := B7.kept hgr (by simp); replace Q5 := Q5.kept hgr (by simp); replace Q4 := Q4.kept hgr (by simp); replace hg8 := hg8.grown hgr (by simp); replace o4 := o4.kept hgr (by cases Value.ownBlock _ <;> simp); replace o5 := o5.kept hgr (by cases Value.ownBlock _ <;> simp); replace o6 := o6.kept hgr (by cases Value.ownBlock _ <;> simp); replace HB := HB.grown hgr (by have := HB.size; omega) (by simp); have hcg5 := hg5.cell; have hfg5 := hg5.frozen; replace hcg8 := hg8.cell; replace hfg8 := hg8.frozen; clear hsz hbn hgr)
        | ((with_reducible refine gate_dst (N := 46) rfl ?_); refine ev_append rfl rfl Tryd.underlying24 info_bytes rfl (by omega) rfl o5 rfl (hg5.reads (size := 1) (n := 1) rfl) (fun u hu => by simp at hu; subst hu; rfl) (by omega) (by omega) (by have := HB.size; omega) ?_; intro A10 c10 W6 on hgr hat; have eo4o5 := own_apart_app o4 do4o5 hat; replace B9 := B9.kept hgr (OB.ne_own B9 o5 (by decide)); replace B7 := B7.kept hgr (OB.ne_own B7 o5 (by decide)); replace Q5 := Q5.kept hgr (OBs.ne_own Q5 o5 (by decide)); replace Q4 := Q4.kept hgr (OBs.ne_own Q4 o5 (by decide)); replace hg8 := hg8.grown hgr (fun e => no5g8 e.symm); replace o4 := o4.kept hgr (do4o5); replace o6 := o6.kept hgr (by first | assumption | exact own_ty_ne o6 o5 (by decide) | exact own_sym (by assumption)); replace HB := HB.grown hgr (by have := HB.size; omega) (own_base o5); replace do4o5 := eo4o5; clear eo4o5; replace o5 := on; replace hcg8 := hg8.cell; replace hfg8 := hg8.frozen; clear on hgr hat; have do5o4 := own_sym do4o5)
        | ((with_reducible refine gate_dst (N := 48) rfl ?_); refine wpList_load_row rfl _ _ rfl g8 rfl _ _ (0, 0) _ hg8 Tryd.underlying27 rfl rec_size ?_)
        | ((with_reducible refine gate_dst (N := 49) rfl ?_); refine ev_lit rfl rfl (r.cells A7 c7) 27 1 (by first | (go_simp; done) | (go_simp; rfl)) ?_; intro g6 W7 hg6 hsz hbn; have hgr := grown_of_below hbn; have zg6 : w.heap.size ≤ g6 := (by have := HB.size; omega); replace B9 := B9.kept hgr (by simp); replace B7 := B7.kept hgr (by simp); replace Q5 := Q5.kept hgr (by simp); replace Q4 := Q4.kept hgr (by simp); replace o4 := o4.kept hgr (by cases Value.ownBlock _ <;> simp); replace o5 := o5.kept hgr (by cases Value.ownBlock _ <;> simp); replace o6 := o6.kept hgr (by cases Value.ownBlock _ <;> simp); replace HB := HB.grown hgr (by have := HB.size; omega) (by simp); have hcg6 := hg6.cell; have hfg6 := hg6.frozen; clear hsz hbn hgr)
        | ((with_reducible refine gate_dst (N := 50) rfl ?_); refine ev_append rfl rfl Tryd.underlying22 info_rec rfl (by omega) rfl o6 rfl (hg6.reads (size := 12) (n := 1) rfl) (recCells_1 (l := [(r, A7, c7)])) (by omega) (by omega) (by have := HB.size; omega) ?_; intro A11 c11 W8 on hgr hat; replace B9 := B9.kept hgr (OB.ne_own B9 o6 (by decide)); replace B7 := B7.kept hgr (OB.ne_own B7 o6 (by decide)); replace Q5 := Q5.kept hgr (OBs.ne_own Q5 o6 (by decide)); replace Q4 := Q4.kept hgr (OBs.ne_own Q4 o6 (by decide)); replace o4 := o4.kept hgr (by first | assumption | exact own_ty_ne o4 o6 (by decide) | exact own_sym (by assumption)); replace o5 := o5.kept hgr (by first | assumption | exact own_ty_ne o5 o6 (by decide) | exact own_sym (by assumption)); replace HB := HB.grown hgr (by have := HB.size; omega) (own_base o6); replace o6 := on; clear on hgr hat)
        | ((with_reducible refine gate_dst (N := 53) rfl ?_); refine ev_lit rfl rfl (#[.slice A7 (r.Data.length + 3) c7]) 25 1 (by first | (go_simp; done) | (go_simp; rfl)) ?_; intro g9 W9 hg9 hsz hbn; have hgr := grown_of_below hbn; have zg9 : w.heap.size ≤ g9 := (by have := HB.size; omega); replace B9 := B9.kept hgr (by simp); replace B7 := B7.kept hgr (by simp); replace Q5 := Q5.kept hgr (by simp); replace Q4 := Q4.kept hgr (by simp); replace o4 := o4.kept hgr (by cases Value.ownBlock _ <;> simp); replace o5 := o5.kept hgr (by cases Value.ownBlock _ <;> simp); replace o6 := o6.kept hgr (by cases Value.ownBlock _ <;> simp); replace HB := HB.grown hgr (by have := HB.size; omega) (by simp); have hcg9 := hg9.cell; have hfg9 := hg9.frozen; clear hsz hbn hgr)
        | ((with_reducible refine gate_dst (N := 54) rfl ?_); refine ev_append rfl rfl Tryd.underlying24 info_bytes rfl (by omega) rfl o4 rfl (hg9.reads (size := 1) (n := 1) rfl) (fun u hu => by simp at hu; subst hu; rfl) (by omega) (by omega) (by have := HB.size; omega) ?_; intro A12 c12 W10 on hgr hat; have eo5o4 := own_apart_app o5 do5o4 hat; replace B9 := B9.kept hgr (OB.ne_own B9 o4 (by decide)); replace B7 := B7.kept hgr (OB.ne_own B7 o4 (by decide)); replace Q5 := Q5.kept hgr (OBs.ne_own Q5 o4 (by decide)); replace Q4 := Q4.kept hgr (OBs.ne_own Q4 o4 (by decide)); replace o5 := o5.kept hgr (do5o4); replace o6 := o6.kept hgr (by first | assumption | exact own_ty_ne o6 o4 (by decide) | exact own_sym (by assumption)); replace HB := HB.grown hgr (by have := HB.size; omega) (own_base o4); replace do5o4 := eo5o4; clear eo5o4; replace o4 := on; clear on hgr hat))
      go_roundg (gk - 1)
      case measure => omega
      case rel => exact ⟨k + 1, A12, c12, A10, c10, A11, c11, os ++ [(r, A7, c7)], is ++ [(r.Data, A9, c9)], by omega, by go_num, rfl, rfl, rfl, ⟨by rw [List.map_append, Hos.out, N3.out]; rfl, by rw [List.map_append, His.out, N3.out, List.map_append]; rfl,
        by rw [longs_snoc, baCells_append]; simpa [baCells, pad3] using o4, by rw [baCells_append]; simpa [baCells] using o5, by rw [recCells_append, recCells_one]; simpa [RA.cs] using o6, by rw [longs_snoc]; exact Q4.snoc B7 dQ4B7, Q5.snoc B9 dQ5B9, own_sym do5o4, HB⟩⟩
    · obtain rfl : k = n := by omega
      have s1 : decide ((k : Int) < (k : Int)) = false := by simp
      have s1' : decide (k < k) = false := by simp
      have hosR : os.map (fun x => x.1) = R := by rw [Hos.out, List.take_of_length_le (by rw [HRn.out]; omega)]
      have hisR : is.map (fun x => x.1) = R.map (fun r => r.Data) := by rw [His.out, List.take_of_length_le (by rw [HRn.out]; omega)]
      have hosn : os.length = k := by have := congrArg List.length hosR; rw [List.length_map, HRn.out] at this; exact this
      have hfit : ∀ y ∈ os, y.1.Fits := fun y hy => by
        have h := HRs.out y.1 (by rw [← hosR]; exact List.mem_map.2 ⟨y, hy, rfl⟩)
        exact ⟨by omega, by omega⟩
      obtain ⟨n3, hn3⟩ : ∃ n3, n3 = 3 * k := ⟨_, rfl⟩
      have hn3l : n3 ≤ 3145728 := by omega
      have ch := fun w h1 h2 => handed_calls os k n3 hosn hn3 A6 c6 hl hfit w h1 h2
      have hlen : ∀ os' : List BA, os'.map (fun x => x.1) = handL R → os'.length = n3 := fun os' h => by
        have := congrArg List.length h
        rw [List.length_map, handL_len, HRn.out] at this
        omega
      have hle : ∀ os' : List BA, os'.map (fun x => x.1) = handL R → ∀ x ∈ os', x.1.length ≤ 1048576 := fun os' h x hx =>
        handL_le (fun r hr => (HRs.out r hr).2) x.1 (by rw [← h]; exact List.mem_map.2 ⟨x, hx, rfl⟩)
      rw [hosR] at ch
      generalize handL R = L at ch hlen hle
      have Ch := Lib.hid ch
      have Hlen := Lib.hid hlen
      have Hle := Lib.hid (show ∀ os' : List BA, os'.map (fun x => x.1) = L → ∀ x ∈ os', x.1.length ≤ 140737488351232 from fun os' h x hx => by have := hle os' h x hx; omega)
      have Hle7 := Lib.hid (show ∀ os' : List BA, os'.map (fun x => x.1) = L → ∀ x ∈ os', x.1.length ≤ 70368744170000 from fun os' h x hx => by have := hle os' h x hx; omega)
      have HosR := Lib.hid hosR
      have HisR := Lib.hid hisR
      have Hosn := Lib.hid hosn
      have k1 : True := trivial
      have k2 : True := trivial
      clear ch hlen hle hosR hisR hosn hfit hn3 Hos His do4o5
      go_wp2_with (first
        | (go_at_call 13; clear k1; (with_reducible refine (Ch.out _ (HT.out.next HB) (RR.of_longs o6 Hosn.out Q4)).mono ?_); rintro e W1 ⟨A10, c10, os10, rfl, ho10, o10, Q10, hb⟩; have hgr := grown_of_below hb; have do4o10 := own_apart o4 o10 (Nat.le_refl _); have do5o10 := own_apart o5 o10 (Nat.le_refl _); have do6o10 := own_apart o6 o10 (Nat.le_refl _); replace o10 := own_mono o10 HB.size; have dQ4Q10 := Q4.aparts_new Q10 (Nat.le_refl _); have dQ5Q10 := Q5.aparts_new Q10 (Nat.le_refl _); replace Q10 := Q10.mono HB.size; replace Q5 := Q5.kept hgr (by simp); replace Q4 := Q4.kept hgr (by simp); replace o4 := o4.kept hgr (by cases Value.ownBlock _ <;> simp); replace o5 := o5.kept hgr (by cases Value.ownBlock _ <;> simp); replace o6 := o6.kept hgr (by cases Value.ownBlock _ <;> simp); replace HB := HB.grown hgr (by have := HB.size; omega) (by simp); clear hb hgr)
        | (go_at_call 14; (with_reducible refine (bytes2_calls os10 n3 (Hlen.out _ ho10.out) A10 c10 (by omega) (Hle.out _ ho10.out) _ (Reads.of_own o10) Q10.rus).mono ?_); rintro e W2 ⟨A11, c11, os11, rfl, ho11, o11, Q11, hb⟩; have hgr := grown_of_below hb; have do4o11 := own_apart o4 o11 (Nat.le_refl _); have do5o11 := own_apart o5 o11 (Nat.le_refl _); have do6o11 := own_apart o6 o11 (Nat.le_refl _); have do10o11 := own_apart o10 o11 (Nat.le_refl _); replace o11 := own_mono o11 HB.size; have dQ4Q11 := Q4.aparts_new Q11 (Nat.le_refl _); have dQ5Q11 := Q5.aparts_new Q11 (Nat.le_refl _); have dQ10Q11 := Q10.aparts_new Q11 (Nat.le_refl _); replace Q11 := Q11.mono HB.size; replace Q10 := Q10.kept hgr (by simp); replace Q5 := Q5.kept hgr (by simp); replace Q4 := Q4.kept hgr (by simp); replace o4 := o4.kept hgr (by cases Value.ownBlock _ <;> simp); replace o5 := o5.kept hgr (by cases Value.ownBlock _ <;> simp); replace o6 := o6.kept hgr (by cases Value.ownBlock _ <;> simp); replace o10 := o10.kept hgr (by cases Value.ownBlock _ <;> simp); replace HB := HB.grown hgr (by have := HB.size; omega) (by simp); clear hb hgr)
        | (go_at_call 15; clear k2; have QF := Q10; (with_reducible refine (filled3_calls os10 n3 (Hlen.out _ ho10.out) A10 c10 _ w.heap.size (by omega) (Hle7.out _ ho10.out) _ HB.size QF o10).mono ?_); rintro e W3 ⟨A12, c12, ts, rfl, hmore, o12, hX⟩; have do4o12 := own_apart o4 o12 (Nat.le_refl _); have do5o12 := own_apart o5 o12 (Nat.le_refl _); have do6o12 := own_apart o6 o12 (Nat.le_refl _); have do10o12 := own_apart o10 o12 (Nat.le_refl _); have do11o12 := own_apart o11 o12 (Nat.le_refl _); replace o12 := own_mono o12 HB.size; replace o4 := own_spared o4 hX.sp QF (by decide); replace o5 := own_spared o5 hX.sp QF (by decide); replace o6 := own_spared o6 hX.sp QF (by decide); replace o10 := own_spared o10 hX.sp QF (by decide); replace o11 := own_spared o11 hX.sp QF (by decide); replace Q4 := Q4.spared hX.sp dQ4Q10.symm; replace Q5 := Q5.spared hX.sp dQ5Q10.symm; replace Q11 := Q11.spared hX.sp dQ10Q11; replace HB := hX.sp.keeps QF HB (Nat.le_refl _) HB.size; have V1 := hX.fam; clear hX QF))
      have k3 : True := trivial
      go_wp2_with (first
        | (go_at_call 13; clear k3; (with_reducible refine (Ch.out _ (HT.out.next HB) (RR.of_longs o6 Hosn.out Q4)).mono ?_); rintro e W1 ⟨A13, c13, os13, rfl, ho13, o13, Q13, hb⟩; have hgr := grown_of_below hb; have do4o13 := own_apart o4 o13 (Nat.le_refl _); have do5o13 := own_apart o5 o13 (Nat.le_refl _); have do6o13 := own_apart o6 o13 (Nat.le_refl _); have do10o13 := own_apart o10 o13 (Nat.le_refl _); have do11o13 := own_apart o11 o13 (Nat.le_refl _); have do12o13 := own_apart o12 o13 (Nat.le_refl _); replace o13 := own_mono o13 HB.size; have dQ4Q13 := Q4.aparts_new Q13 (Nat.le_refl _); have dQ5Q13 := Q5.aparts_new Q13 (Nat.le_refl _); have dQ11Q13 := Q11.aparts_new Q13 (Nat.le_refl _); have dV1Q13 := V1.aparts_new Q13 (Nat.le_refl _); replace Q13 := Q13.mono HB.size; replace V1 := V1.kept hgr (by simp); replace Q11 := Q11.kept hgr (by simp); replace Q5 := Q5.kept hgr (by simp); replace Q4 := Q4.kept hgr (by simp); replace o4 := o4.kept hgr (by cases Value.ownBlock _ <;> simp); replace o5 := o5.kept hgr (by cases Value.ownBlock _ <;> simp); replace o6 := o6.kept hgr (by cases Value.ownBlock _ <;> simp); replace o10 := o10.kept hgr (by cases Value.ownBlock _ <;> simp); replace o11 := o11.kept hgr (by cases Value.ownBlock _ <;> simp); replace o12 := o12.kept hgr (by cases Value.ownBlock _ <;> simp); replace HB := HB.grown hgr (by have := HB.size; omega) (by simp); clear hb hgr)
        | (go_at_call 16; (with_reducible refine (alikeAll_calls os13 os11 n3 (Hlen.out _ ho13.out) (ho13.out.trans (ho11.out.trans ho10.out).symm) A13 A11 c13 c11 (by omega) (Hle.out _ ho13.out) _ (Reads.of_own o13) (Reads.of_own o11) Q13.rus Q11.rus).mono ?_); rintro e W2 ⟨rfl, hb⟩; have hgr := grown_of_below hb; replace Q13 := Q13.kept hgr (by simp); replace V1 := V1.kept hgr (by simp); replace Q11 := Q11.kept hgr (by simp); replace Q5 := Q5.kept hgr (by simp); replace Q4 := Q4.kept hgr (by simp); replace o4 := o4.kept hgr (by cases Value.ownBlock _ <;> simp); replace o5 := o5.kept hgr (by cases Value.ownBlock _ <;> simp); replace o6 := o6.kept hgr (by cases Value.ownBlock _ <;> simp); replace o10 := o10.kept hgr (by cases Value.ownBlock _ <;> simp); replace o11 := o11.kept hgr (by cases Value.ownBlock _ <;> simp); replace o12 := o12.kept hgr (by cases Value.ownBlock _ <;> simp); replace o13 := o13.kept hgr (by cases Value.ownBlock _ <;> simp); replace HB := HB.grown hgr (by have := HB.size; omega) (by simp); clear hb hgr)
        | (go_at_call 17; (with_reducible refine (stand3_calls os10 n3 A10 A12 c10 c12 ts _ (stands3_of_fam hmore.out (Hlen.out _ ho10.out) o10 o12 V1 (by omega) (Hle7.out _ ho10.out))).mono ?_); rintro e W3 ⟨rfl, hb⟩; have hgr := grown_of_below hb; replace Q13 := Q13.kept hgr (by simp); replace V1 := V1.kept hgr (by simp); replace Q11 := Q11.kept hgr (by simp); replace Q5 := Q5.kept hgr (by simp); replace Q4 := Q4.kept hgr (by simp); replace o4 := o4.kept hgr (by cases Value.ownBlock _ <;> simp); replace o5 := o5.kept hgr (by cases Value.ownBlock _ <;> simp); replace o6 := o6.kept hgr (by cases Value.ownBlock _ <;> simp); replace o10 := o10.kept hgr (by cases Value.ownBlock _ <;> simp); replace o11 := o11.kept hgr (by cases Value.ownBlock _ <;> simp); replace o12 := o12.kept hgr (by cases Value.ownBlock _ <;> simp); replace o13 := o13.kept hgr (by cases Value.ownBlock _ <;> simp); replace HB := HB.grown hgr (by have := HB.size; omega) (by simp); clear hb hgr)
        | (go_at_call 15; have QF := Q13; (with_reducible refine (filled3_calls os13 n3 (Hlen.out _ ho13.out) A13 c13 _ w.heap.size (by omega) (Hle7.out _ ho13.out) _ HB.size QF o13).mono ?_); rintro e W4 ⟨A14, c14, ts2, rfl, hmore2, o14, hX⟩; have do4o14 := own_apart o4 o14 (Nat.le_refl _); have do5o14 := own_apart o5 o14 (Nat.le_refl _); have do6o14 := own_apart o6 o14 (Nat.le_refl _); have do10o14 := own_apart o10 o14 (Nat.le_refl _); have do11o14 := own_apart o11 o14 (Nat.le_refl _); have do12o14 := own_apart o12 o14 (Nat.le_refl _); have do13o14 := own_apart o13 o14 (Nat.le_refl _); replace o14 := own_mono o14 HB.size; replace o4 := own_spared o4 hX.sp QF (by decide); replace o5 := own_spared o5 hX.sp QF (by decide); replace o6 := own_spared o6 hX.sp QF (by decide); replace o10 := own_spared o10 hX.sp QF (by decide); replace o11 := own_spared o11 hX.sp QF (by decide); replace o12 := own_spared o12 hX.sp QF (by decide); replace o13 := own_spared o13 hX.sp QF (by decide); replace Q4 := Q4.spared hX.sp dQ4Q13.symm; replace Q5 := Q5.spared hX.sp dQ5Q13.symm; replace Q11 := Q11.spared hX.sp dQ11Q13.symm; replace V1 := V1.spared hX.sp dV1Q13; replace HB := hX.sp.keeps QF HB (Nat.le_refl _) HB.size; have V2 := hX.fam; clear hX QF))
      go_wp2_with (first
        | (go_at_call 13; (with_reducible refine (Ch.out _ (HT.out.next HB) (RR.of_longs o6 Hosn.out Q4)).mono ?_); rintro e W1 ⟨A15, c15, os15, rfl, ho15, o15, Q15, hb⟩; have hgr := grown_of_below hb; have do4o15 := own_apart o4 o15 (Nat.le_refl _); have do5o15 := own_apart o5 o15 (Nat.le_refl _); have do6o15 := own_apart o6 o15 (Nat.le_refl _); have do10o15 := own_apart o10 o15 (Nat.le_refl _); have do11o15 := own_apart o11 o15 (Nat.le_refl _); have do12o15 := own_apart o12 o15 (Nat.le_refl _); have do13o15 := own_apart o13 o15 (Nat.le_refl _); have do14o15 := own_apart o14 o15 (Nat.le_refl _); replace o15 := own_mono o15 HB.size; have dQ4Q15 := Q4.aparts_new Q15 (Nat.le_refl _); have dQ5Q15 := Q5.aparts_new Q15 (Nat.le_refl _); have dQ11Q15 := Q11.aparts_new Q15 (Nat.le_refl _); have dV1Q15 := V1.aparts_new Q15 (Nat.le_refl _); have dV2Q15 := V2.aparts_new Q15 (Nat.le_refl _); replace Q15 := Q15.mono HB.size; replace V2 := V2.kept hgr (by simp); replace V1 := V1.kept hgr (by simp); replace Q11 := Q11.kept hgr (by simp); replace Q5 := Q5.kept hgr (by simp); replace Q4 := Q4.kept hgr (by simp); replace o4 := o4.kept hgr (by cases Value.ownBlock _ <;> simp); replace o5 := o5.kept hgr (by cases Value.ownBlock _ <;> simp); replace o6 := o6.kept hgr (by cases Value.ownBlock _ <;> simp); replace o10 := o10.kept hgr (by cases Value.ownBlock _ <;> simp); replace o11 := o11.kept hgr (by cases Value.ownBlock _ <;> simp); replace o12 := o12.kept hgr (by cases Value.ownBlock _ <;> simp); replace o13 := o13.kept hgr (by cases Value.ownBlock _ <;> simp); replace o14 := o14.kept hgr (by cases Value.ownBlock _ <;> simp); replace HB := HB.grown hgr (by have := HB.size; omega) (by simp); clear hb hgr))
      have Ho4 := Lib.hid o4
      have Ho5 := Lib.hid o5
      have Ho6 := Lib.hid o6
      have Ho10 := Lib.hid o10
      have Ho11 := Lib.hid o11
      have Ho12 := Lib.hid o12
      have Ho13 := Lib.hid o13
      have Ho14 := Lib.hid o14
      have Ho15 := Lib.hid o15
      have HQ4 := Lib.hid Q4
      have HQ5 := Lib.hid Q5
      have HQ11 := Lib.hid Q11
      have HQ15 := Lib.hid Q15
      have HV1 := Lib.hid V1
      have HV2 := Lib.hid V2
      have HBB := Lib.hid HB
      clear o4 o5 o6 o10 o11 o12 o13 o14 o15 Q4 Q5 Q11 Q15 V1 V2 HB
      go_loopg [16] k (fun m v16 wr => ∃ i : Nat, m + i = k ∧ v16 = .int .i64 i ∧ Aside (Below W1.heap.size W1 wr))
      case atStart => exact ⟨0, by omega, rfl, Below.refl _ _⟩
      case round =>
        obtain ⟨i, hmi, rfl, HA⟩ := hrel
        have HB := HA.out
        clear HA
        by_cases hi : i < k
        · have r1 : decide ((i : Int) < (k : Int)) = true := by rw [decide_eq_true_eq]; omega
          have r1' : decide (i < k) = true := by rw [decide_eq_true_eq]; exact hi
          obtain ⟨x, hx⟩ : ∃ x, os[i]? = some x := ⟨_, List.getElem?_eq_getElem (by rw [Hosn.out]; exact hi)⟩
          obtain ⟨r, Ar, cr⟩ := x
          have hRi : R[i]? = some r := by rw [← HosR.out, List.getElem?_map, hx]; rfl
          have hrs := (HRs.out _ (List.mem_of_getElem? hRi)).2
          obtain ⟨y, hy⟩ : ∃ y, is[i]? = some y := ⟨_, List.getElem?_eq_getElem (by have := congrArg List.length HisR.out; rw [List.length_map, List.length_map, HRn.out] at this; omega)⟩
          have hyr : y.1 = r.Data := by
            have h := congrArg (fun z => z[i]?) HisR.out
            simp only [List.getElem?_map, hRi, hy, Option.map_some, Option.some.injEq] at h
            exact h
          obtain ⟨b, Bi, ci⟩ := y
          simp only at hyr
          subst hyr
          have hRR := RR.of_longs Ho6.out Hosn.out HQ4.out
          have hxd := hRR.data _ (List.mem_of_getElem? hx)
          obtain ⟨ad, had, _, _⟩ := hRR.get hx
          have hld := fun (W : World) (hb : Below W1.heap.size W1 W) => (hRR.next hb).load hx had
          have hq4 := (HQ4.out.all _ (List.mem_of_getElem? (longs_get hx)))
          have hq5 := (HQ5.out.all _ (List.mem_of_getElem? hy))
          have hcap : r.Data.length + 3 ≤ cr := by have := hq4.len; simpa [pad3] using this
          have hq4 := hq4.rb
          have hq5 := hq5.rb
          obtain ⟨a4, ha4, _, _⟩ := (Reads.of_own Ho4.out).2 (by omega)
          obtain ⟨a5, ha5, _, _⟩ := (Reads.of_own Ho5.out).2 (by omega)
          have hc4 : ∀ (W : World), Below W1.heap.size W1 W → W.cell? (a4.add i) = some (.slice Ar (r.Data.length + 3) cr) := fun W hb => by
            have := (Reads.next (Reads.of_own Ho4.out) hb).cell_at (baCells_get (longs_get hx)) ha4
            simpa [pad3] using this
          have hc5 : ∀ (W : World), Below W1.heap.size W1 W → W.cell? (a5.add i) = some (.slice Bi r.Data.length ci) := fun W hb =>
            (Reads.next (Reads.of_own Ho5.out) hb).cell_at (baCells_get hy) ha5
          have Hld := Lib.hid hld
          have Hc4 := Lib.hid hc4
          have Hc5 := Lib.hid hc5
          have Hq4 := Lib.hid hq4
          have Hq5 := Lib.hid hq5
          subst had
          subst ha4
          subst ha5
          clear hx hRi hy hRR hld hq4 hq5 hc4 hc5
          go_wp2
          refine held_start (fun w' => Below W1.heap.size W1 w') (by kernel_rfl) (fun wd hbd => ?_)
          replace HB := below_go HB hbd
          refine take_at (i := 0) (v := .slice (some ad) k c6) 84 rfl rfl (by kernel_rfl) (by kernel_rfl) (by kernel_rfl) (fun _ _ _ h => h) (.inl ⟨rfl, fun w h => by simp [go_sem]⟩) HB ?_
          simp only [Act.put, List.getElem_toArray, List.getElem_cons_succ, List.getElem_cons_zero, List.setIfInBounds_toArray, List.set_cons_succ, List.set_cons_zero]
          refine take_at (i := 1) (v := .int .i64 i) 85 rfl rfl (by kernel_rfl) (by kernel_rfl) (by kernel_rfl) (fun _ _ _ h => h) (.inl ⟨rfl, fun w h => by simp [go_sem]⟩) HB ?_
          simp only [Act.put, List.getElem_toArray, List.getElem_cons_succ, List.getElem_cons_zero, List.setIfInBounds_toArray, List.set_cons_succ, List.set_cons_zero]
          refine take_at (i := 2) (v := .pointer (some (ad.add (i * 12)))) 86 rfl rfl (by kernel_rfl) (by kernel_rfl) (by kernel_rfl) (fun _ _ _ h => h) (.inl ⟨rfl, fun w h => by simp [go_sem, hi]⟩) HB ?_
          simp only [Act.put, List.getElem_toArray, List.getElem_cons_succ, List.getElem_cons_zero, List.setIfInBounds_toArray, List.set_cons_succ, List.set_cons_zero]
          refine take_at (i := 3) (v := .agg (r.cells Ar cr)) 87 rfl rfl (by kernel_rfl) (by kernel_rfl) (by kernel_rfl) (fun _ _ _ h => h) (yields_at rfl rfl rfl (fun w h => Hld.out w h) Tryd.underlying27 rfl rec_size) HB ?_
          simp only [Act.put, List.getElem_toArray, List.getElem_cons_succ, List.getElem_cons_zero, List.setIfInBounds_toArray, List.set_cons_succ, List.set_cons_zero]
          refine take_at (i := 4) (v := .slice (some ad) k c6) 88 rfl rfl (by kernel_rfl) (by kernel_rfl) (by kernel_rfl) (fun _ _ _ h => h) (.inl ⟨rfl, fun w h => by simp [go_sem]⟩) HB ?_
          simp only [Act.put, List.getElem_toArray, List.getElem_cons_succ, List.getElem_cons_zero, List.setIfInBounds_toArray, List.set_cons_succ, List.set_cons_zero]
          refine take_at (i := 5) (v := .int .i64 i) 89 rfl rfl (by kernel_rfl) (by kernel_rfl) (by kernel_rfl) (fun _ _ _ h => h) (.inl ⟨rfl, fun w h => by simp [go_sem]⟩) HB ?_
          simp only [Act.put, List.getElem_toArray, List.getElem_cons_succ, List.getElem_cons_zero, List.setIfInBounds_toArray, List.set_cons_succ, List.set_cons_zero]
          refine take_at (i := 6) (v := .pointer (some (ad.add (i * 12)))) 90 rfl rfl (by kernel_rfl) (by kernel_rfl) (by kernel_rfl) (fun _ _ _ h => h) (.inl ⟨rfl, fun w h => by simp [go_sem, hi]⟩) HB ?_
          simp only [Act.put, List.getElem_toArray, List.getElem_cons_succ, List.getElem_cons_zero, List.setIfInBounds_toArray, List.set_cons_succ, List.set_cons_zero]
          refine take_at (i := 7) (v := .agg (r.cells Ar cr)) 91 rfl rfl (by kernel_rfl) (by kernel_rfl) (by kernel_rfl) (fun _ _ _ h => h) (yields_at rfl rfl rfl (fun w h => Hld.out w h) Tryd.underlying27 rfl rec_size) HB ?_
          simp only [Act.put, List.getElem_toArray, List.getElem_cons_succ, List.getElem_cons_zero, List.setIfInBounds_toArray, List.set_cons_succ, List.set_cons_zero]
          refine held_one (i := 8) (by kernel_rfl) rfl ?_
          (refine ev_call1 rfl rfl ⟨_, _, Tryd.func19, by kernel_rfl, rfl⟩ rfl ?_; refine Calls.mono (clone_ob r Ar cr _ (hxd.next HB) (by omega)) ?_; rintro e W1 ⟨A8, c8, rfl, B8, hb⟩; refine ⟨_, rfl, ?_⟩; have hgr := grown_of_below hb; replace B8 := B8.mono HB.size; replace HB := HB.grown hgr (by have := HB.size; omega) (by simp); clear hb hgr)
          refine ⟨HB, ?_⟩
          try simp only [Act.put, List.getElem_toArray, List.getElem_cons_succ, List.getElem_cons_zero, List.setIfInBounds_toArray, List.set_cons_succ, List.set_cons_zero]
          refine held_one (i := 9) (by kernel_rfl) rfl ?_
          (refine ev_call2 rfl rfl ⟨_, _, Tryd.func18, by kernel_rfl, rfl⟩ rfl rfl ?_; refine Calls.mono (same3_true r Ar A8 cr c8 _ (hxd.next HB) B8.rb) ?_; rintro e W2 ⟨rfl, hb⟩; refine ⟨_, rfl, ?_⟩; have hgr := grown_of_below hb; replace B8 := B8.kept hgr (by simp); replace HB := HB.grown hgr (by have := HB.size; omega) (by simp); clear hb hgr)
          refine ⟨HB, ?_⟩
          try simp only [Act.put, List.getElem_toArray, List.getElem_cons_succ, List.getElem_cons_zero, List.setIfInBounds_toArray, List.set_cons_succ, List.set_cons_zero]
          refine held_one (i := 10) (by kernel_rfl) rfl ?_
          refine ev_run rfl (w1 := W2) (v := .bool false) (by simp [go_sem]) ?_
          refine ⟨HB, ?_⟩
          try simp only [Act.put, List.getElem_toArray, List.getElem_cons_succ, List.getElem_cons_zero, List.setIfInBounds_toArray, List.set_cons_succ, List.set_cons_zero]
          refine held_one (i := 11) (by kernel_rfl) rfl ?_
          refine ev_run rfl (w1 := W2) (v := .bool false) (by simp [go_sem]) ?_
          refine ⟨HB, ?_⟩
          try simp only [Act.put, List.getElem_toArray, List.getElem_cons_succ, List.getElem_cons_zero, List.setIfInBounds_toArray, List.set_cons_succ, List.set_cons_zero]
          refine take_at (i := 12) (v := .slice (some a4) k c4) 96 rfl rfl (by kernel_rfl) (by kernel_rfl) (by kernel_rfl) (fun _ _ _ h => h) (.inl ⟨rfl, fun w h => by simp [go_sem]⟩) HB ?_
          simp only [Act.put, List.getElem_toArray, List.getElem_cons_succ, List.getElem_cons_zero, List.setIfInBounds_toArray, List.set_cons_succ, List.set_cons_zero]
          refine take_at (i := 13) (v := .int .i64 i) 97 rfl rfl (by kernel_rfl) (by kernel_rfl) (by kernel_rfl) (fun _ _ _ h => h) (.inl ⟨rfl, fun w h => by simp [go_sem]⟩) HB ?_
          simp only [Act.put, List.getElem_toArray, List.getElem_cons_succ, List.getElem_cons_zero, List.setIfInBounds_toArray, List.set_cons_succ, List.set_cons_zero]
          refine take_at (i := 14) (v := .pointer (some (a4.add i))) 98 rfl rfl (by kernel_rfl) (by kernel_rfl) (by kernel_rfl) (fun _ _ _ h => h) (.inl ⟨rfl, fun w h => by simp [go_sem, hi]⟩) HB ?_
          simp only [Act.put, List.getElem_toArray, List.getElem_cons_succ, List.getElem_cons_zero, List.setIfInBounds_toArray, List.set_cons_succ, List.set_cons_zero]
          refine take_at (i := 15) (v := .slice Ar (r.Data.length + 3) cr) 99 rfl rfl (by kernel_rfl) (by kernel_rfl) (by kernel_rfl) (fun _ _ _ h => h) (.inl ⟨rfl, fun w h => by simp [go_sem, Hc4.out w h]⟩) HB ?_
          simp only [Act.put, List.getElem_toArray, List.getElem_cons_succ, List.getElem_cons_zero, List.setIfInBounds_toArray, List.set_cons_succ, List.set_cons_zero]
          refine take_at (i := 16) (v := .slice (some a5) k c5) 100 rfl rfl (by kernel_rfl) (by kernel_rfl) (by kernel_rfl) (fun _ _ _ h => h) (.inl ⟨rfl, fun w h => by simp [go_sem]⟩) HB ?_
          simp only [Act.put, List.getElem_toArray, List.getElem_cons_succ, List.getElem_cons_zero, List.setIfInBounds_toArray, List.set_cons_succ, List.set_cons_zero]
          refine take_at (i := 17) (v := .int .i64 i) 101 rfl rfl (by kernel_rfl) (by kernel_rfl) (by kernel_rfl) (fun _ _ _ h => h) (.inl ⟨rfl, fun w h => by simp [go_sem]⟩) HB ?_
          simp only [Act.put, List.getElem_toArray, List.getElem_cons_succ, List.getElem_cons_zero, List.setIfInBounds_toArray, List.set_cons_succ, List.set_cons_zero]
          refine take_at (i := 18) (v := .pointer (some (a5.add i))) 102 rfl rfl (by kernel_rfl) (by kernel_rfl) (by kernel_rfl) (fun _ _ _ h => h) (.inl ⟨rfl, fun w h => by simp [go_sem, hi]⟩) HB ?_
          simp only [Act.put, List.getElem_toArray, List.getElem_cons_succ, List.getElem_cons_zero, List.setIfInBounds_toArray, List.set_cons_succ, List.set_cons_zero]
          refine take_at (i := 19) (v := .slice Bi r.Data.length ci) 103 rfl rfl (by kernel_rfl) (by kernel_rfl) (by kernel_rfl) (fun _ _ _ h => h) (.inl ⟨rfl, fun w h => by simp [go_sem, Hc5.out w h]⟩) HB ?_
          simp only [Act.put, List.getElem_toArray, List.getElem_cons_succ, List.getElem_cons_zero, List.setIfInBounds_toArray, List.set_cons_succ, List.set_cons_zero]
          refine held_one (i := 20) (by kernel_rfl) rfl ?_
          refine wpList_ungate (by first | rfl | simp [Region.wanted, yielded]) ?_
          (refine ev_call2 rfl rfl ⟨_, _, Tryd.func20, by kernel_rfl, rfl⟩ rfl rfl ?_; refine Calls.mono (untouched3_calls r.Data r.Data.length rfl Ar Bi cr ci hcap (by omega) _ (Hq4.out.next HB) (Hq5.out.next HB)) ?_; rintro e W3 ⟨rfl, hb⟩; refine ⟨_, rfl, ?_⟩; have hgr := grown_of_below hb; replace B8 := B8.kept hgr (by simp); replace HB := HB.grown hgr (by have := HB.size; omega) (by simp); clear hb hgr)
          refine ⟨HB, ?_⟩
          try simp only [Act.put, List.getElem_toArray, List.getElem_cons_succ, List.getElem_cons_zero, List.setIfInBounds_toArray, List.set_cons_succ, List.set_cons_zero]
          refine held_one (i := 21) (by kernel_rfl) rfl ?_
          refine wpList_ungate (by first | rfl | simp [Region.wanted, yielded]) ?_
          refine ev_run rfl (w1 := W3) (v := .bool false) (by simp [go_sem]) ?_
          refine ⟨HB, ?_⟩
          try simp only [Act.put, List.getElem_toArray, List.getElem_cons_succ, List.getElem_cons_zero, List.setIfInBounds_toArray, List.set_cons_succ, List.set_cons_zero]
          refine held_one (i := 22) (by kernel_rfl) rfl ?_
          refine ev_run rfl (w1 := W3) (v := .bool false) (by simp [go_sem]) ?_
          refine ⟨HB, ?_⟩
          try simp only [Act.put, List.getElem_toArray, List.getElem_cons_succ, List.getElem_cons_zero, List.setIfInBounds_toArray, List.set_cons_succ, List.set_cons_zero]
          refine wpAnyH_done (by kernel_rfl) ?_ _
          go_wp2
          go_roundg (gk - 1)
          case measure => omega
          case rel => exact ⟨i + 1, by omega, by go_num, HB⟩
        · obtain rfl : i = k := by omega
          have r1 : decide ((i : Int) < (i : Int)) = false := by simp
          have r1' : decide (i < i) = false := by simp
          have o10 := own_next Ho10.out HB
          have o11 := own_next Ho11.out HB
          have o12 := own_next Ho12.out HB
          have o13 := own_next Ho13.out HB
          have o14 := own_next Ho14.out HB
          have o15 := own_next Ho15.out HB
          have Q11 := HQ11.out.next HB
          have Q15 := HQ15.out.next HB
          have V1 := HV1.out.next HB
          have V2 := HV2.out.next HB
          replace HB := below_go HBB.out HB
          have k4 : True := trivial
          clear Ho4 Ho5 Ho6 Ho10 Ho11 Ho12 Ho13 Ho14 Ho15 HQ4 HQ5 HQ11 HQ15 HV1 HV2 HBB
          go_wp2_with (first
            | (go_at_call 16; (with_reducible refine (alikeAll_calls os15 os11 n3 (Hlen.out _ ho15.out) (ho15.out.trans (ho11.out.trans ho10.out).symm) A15 A11 c15 c11 (by omega) (Hle.out _ ho15.out) _ (Reads.of_own o15) (Reads.of_own o11) Q15.rus Q11.rus).mono ?_); rintro e W1 ⟨rfl, hb⟩; have hgr := grown_of_below hb; replace V2 := V2.kept hgr (by simp); replace V1 := V1.kept hgr (by simp); replace Q15 := Q15.kept hgr (by simp); replace Q11 := Q11.kept hgr (by simp); replace o10 := o10.kept hgr (by cases Value.ownBlock _ <;> simp); replace o11 := o11.kept hgr (by cases Value.ownBlock _ <;> simp); replace o12 := o12.kept hgr (by cases Value.ownBlock _ <;> simp); replace o13 := o13.kept hgr (by cases Value.ownBlock _ <;> simp); replace o14 := o14.kept hgr (by cases Value.ownBlock _ <;> simp); replace o15 := o15.kept hgr (by cases Value.ownBlock _ <;> simp); replace HB := HB.grown hgr (by have := HB.size; omega) (by simp); clear hb hgr)
            | (go_at_call 17; clear k4; (with_reducible refine (stand3_calls os10 n3 A10 A12 c10 c12 ts _ (stands3_of_fam hmore.out (Hlen.out _ ho10.out) o10 o12 V1 (by omega) (Hle7.out _ ho10.out))).mono ?_); rintro e W2 ⟨rfl, hb⟩; have hgr := grown_of_below hb; replace V2 := V2.kept hgr (by simp); replace V1 := V1.kept hgr (by simp); replace Q15 := Q15.kept hgr (by simp); replace Q11 := Q11.kept hgr (by simp); replace o10 := o10.kept hgr (by cases Value.ownBlock _ <;> simp); replace o11 := o11.kept hgr (by cases Value.ownBlock _ <;> simp); replace o12 := o12.kept hgr (by cases Value.ownBlock _ <;> simp); replace o13 := o13.kept hgr (by cases Value.ownBlock _ <;> simp); replace o14 := o14.kept hgr (by cases Value.ownBlock _ <;> simp); replace o15 := o15.kept hgr (by cases Value.ownBlock _ <;> simp); replace HB := HB.grown hgr (by have := HB.size; omega) (by simp); clear hb hgr)
            | (go_at_call 17; (with_reducible refine (stand3_calls os13 n3 A13 A14 c13 c14 ts2 _ (stands3_of_fam hmore2.out (Hlen.out _ ho13.out) o13 o14 V2 (by omega) (Hle7.out _ ho13.out))).mono ?_); rintro e W3 ⟨rfl, hb⟩; have hgr := grown_of_below hb; replace V2 := V2.kept hgr (by simp); replace V1 := V1.kept hgr (by simp); replace Q15 := Q15.kept hgr (by simp); replace Q11 := Q11.kept hgr (by simp); replace o10 := o10.kept hgr (by cases Value.ownBlock _ <;> simp); replace o11 := o11.kept hgr (by cases Value.ownBlock _ <;> simp); replace o12 := o12.kept hgr (by cases Value.ownBlock _ <;> simp); replace o13 := o13.kept hgr (by cases Value.ownBlock _ <;> simp); replace o14 := o14.kept hgr (by cases Value.ownBlock _ <;> simp); replace o15 := o15.kept hgr (by cases Value.ownBlock _ <;> simp); replace HB := HB.grown hgr (by have := HB.size; omega) (by simp); clear hb hgr))
          go_ret
          exact ⟨rfl, HB⟩
end Go.Proofs.YtikodgaomhmbmaaDoor
