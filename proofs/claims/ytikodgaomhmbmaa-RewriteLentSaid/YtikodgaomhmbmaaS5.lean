/-
  What annalslaw12.Marks keeps: lists of bytes and of records that were handed out, each full of its mark, and the longer ones.
-/
import Derived.Test.YtikodgaomhmbmaaS4
import Derived.Test.YtikodgaomhmbmaaH8
set_option linter.unusedVariables false
set_option linter.unusedSimpArgs false
namespace Go.Proofs.Ytikodgaomhmbmaa
open Go.RowKit

/-! ### A frame: the blocks Pr stay -/
structure KX (Pr : Nat → Prop) (w w' : World) : Prop where
  os_ : w'.os = w.os
  tape : w'.tape = w.tape
  output : w'.output = w.output
  size : w.heap.size ≤ w'.heap.size
  lt : ∀ k, Pr k → k < w.heap.size
  block : ∀ k, Pr k → w'.heap[k]? = w.heap[k]?
section
variable {Pr : Nat → Prop} {w w' w'' : World}
theorem KX.refl (h : ∀ k, Pr k → k < w.heap.size) : KX Pr w w := ⟨rfl, rfl, rfl, Nat.le_refl _, h, fun _ _ => rfl⟩
theorem KX.kept {row : Option Nat} (h : KX Pr w w') (hgr : w'.grownBy w'' row) (hne : ∀ k, row = some k → ¬ Pr k) : KX Pr w w'' :=
  ⟨hgr.os.trans h.os_, hgr.tape.trans h.tape, hgr.output.trans h.output, Nat.le_trans h.size hgr.size, h.lt, fun k hk => (hgr.block k (Nat.lt_of_lt_of_le (h.lt k hk) h.size) (fun e => hne k e.symm hk)).trans (h.block k hk)⟩
theorem KX.grown (h : KX Pr w w') (hgr : w'.grownBy w'' none) : KX Pr w w'' := h.kept hgr (by simp)
theorem KX.next (h : KX Pr w w') (hb : Below w'.heap.size w' w'') : KX Pr w w'' := h.grown (grown_of_below hb)
theorem KX.trans (h : KX Pr w w') (k : KX Pr w' w'') : KX Pr w w'' := ⟨k.os_.trans h.os_, k.tape.trans h.tape, k.output.trans h.output, Nat.le_trans h.size k.size, h.lt, fun i hi => (k.block i hi).trans (h.block i hi)⟩
theorem KX.sub {Qr : Nat → Prop} (h : KX Pr w w') (hs : ∀ k, Qr k → Pr k) : KX Qr w w' := ⟨h.os_, h.tape, h.output, h.size, fun k hk => h.lt k (hs k hk), fun k hk => h.block k (hs k hk)⟩
theorem KX.below (h : KX Pr w w') {N : Nat} (hN : ∀ k, k < N → Pr k) : Below N w w' := ⟨h.os_, h.tape, h.output, h.size, fun i hi => h.block i (hN i hi)⟩
theorem KX.row {b size n : Nat} {e : TypeId} {v : Value} {xs : List Value} (h : KX Pr w w') (ho : w.ownsRow b e size v n xs) (hp : ∀ k, v.ownBlock = some k → Pr k) : w'.ownsRow b e size v n xs := by
  refine ⟨ho.1, ?_⟩
  rcases ho.2 with h2 | ⟨g, cap, cur, hv, hb, hg, r⟩
  · exact .inl h2
  · exact .inr ⟨g, cap, cur, hv, hb, (h.block g (hp g (by rw [hv]; rfl))).trans hg, r⟩
theorem KX.ob {b c : Nat} {A : Option Addr} {l : List UInt8} (h : KX Pr w w') (hB : OB w b A c l) (hp : ∀ ad, A = some ad → Pr ad.block) : OB w' b A c l := by
  rcases hB with hB | ⟨g, cur, fz, ha, hb, hg, r⟩
  · exact .inl hB
  · exact .inr ⟨g, cur, fz, ha, hb, (h.block g (hp _ ha)).trans hg, r⟩
theorem KX.obs {b : Nat} {os : List BA} (h : KX Pr w w') (hQ : OBs w b os) (hp : ∀ x ∈ os, ∀ ad, x.2.1 = some ad → Pr ad.block) : OBs w' b os := ⟨fun x hx => h.ob (hQ.all x hx) (hp x hx), hQ.apart⟩
theorem kx_blk {g : Nat} (h : ¬ Pr g) : ∀ k, some g = some k → ¬ Pr k := fun k e => by injection e with e; subst e; exact h
theorem kx_app {v v' : Value} (h : KX Pr w w') (n : ∀ k, v.ownBlock = some k → ¬ Pr k) (hat : v'.ownBlock = v.ownBlock ∨ v'.ownBlock = some w'.heap.size) : ∀ k, v'.ownBlock = some k → ¬ Pr k := fun k hk hp => by
  rcases hat with e | e
  · exact n k (e ▸ hk) hp
  · rw [e] at hk
    injection hk with hk
    have := h.lt k hp
    have := h.size
    omega
theorem KX.kept_ob {A : Option Addr} (h : KX Pr w w') (hgr : w'.grownBy w'' (A.map (·.block))) (n : ∀ ad, A = some ad → ¬ Pr ad.block) : KX Pr w w'' := h.kept hgr fun k e => by
  cases hA : A with
  | none => rw [hA] at e; cases e
  | some a =>
    rw [hA] at e
    injection e with e
    have e : a.block = k := e
    rw [← e]
    exact n a hA
theorem kx_ob {base c c1 : Nat} {A A1 : Option Addr} {l l' : List UInt8} (h : KX Pr w w') (n : ∀ ad, A = some ad → ¬ Pr ad.block) (hG : Grew w' base A c l l' A1 c1 w'') : ∀ ad, A1 = some ad → ¬ Pr ad.block := by
  rcases hG.lies with ⟨rfl, _⟩ | ⟨_, hnew⟩
  · exact n
  · intro ad e hp
    have := hnew ad e
    have := h.lt _ hp
    have := h.size
    omega
end
theorem Fam.kept_apart {F : Nat → List UInt8} {w w' : World} {base : Nat} {A : Option Addr} {os : List (Nat × BA)} (h : Fam F w base os) (hgr : w.grownBy w' (A.map (·.block))) (hd : ∀ x ∈ os, Apart x.2.2.1 A) : Fam F w' base os := h.kept hgr fun x hx ad e e2 => by
  cases hA : A with
  | none => rw [hA] at e2; cases e2
  | some a =>
    rw [hA] at e2
    injection e2 with e2
    exact hd x hx ad a e hA e2
theorem apart_appv {F : Nat → List UInt8} {w W : World} {base base' c c1 : Nat} {A A1 : Option Addr} {l l' : List UInt8} {os : List (Nat × BA)} (h : Fam F w base' os) (d : ∀ x ∈ os, Apart x.2.2.1 A) (hG : Grew w base A c l l' A1 c1 W) : ∀ x ∈ os, Apart x.2.2.1 A1 := fun x hx => apart_app (wr := w) (h.all x hx) (d x hx) hG
theorem FamG.kept_ob {e : TypeId} {size : Nat} {F : Nat → List Value} {w w' : World} {base b c : Nat} {A : Option Addr} {l : List UInt8} {os : List (Nat × GA)} (h : FamG e size F w base os) (hB : OB w b A c l) (hgr : w.grownBy w' (A.map (·.block))) (hne : 5 ≠ e) : FamG e size F w' base os := h.kept hgr fun x hx ad e1 e2 => by
  cases hA : A with
  | none => rw [hA] at e2; cases e2
  | some a =>
    rw [hA] at e2
    injection e2 with e2
    refine hB.ne_own (h.all x hx) hne a hA ?_
    unfold GA.val
    rw [e1]
    exact congrArg some e2.symm

/-! ### Marks -/
theorem MK_add (i j k : Nat) : MK i j ++ MK i k = MK i (j + k) := by unfold MK; rw [List.replicate_append_replicate]
theorem MK_get {i n j : Nat} (h : j < n) : (MK i n)[j]? = some (UInt8.ofNat (1 + i % 250)) := by simp [MK, h]
theorem mark_wrap (i : Nat) : IntKind.u8.wrap ((1 : Int) + (i : Int) % 250) = ((UInt8.ofNat (1 + i % 250)).toNat : Int) := by rw [mk_num, IntKind.wrap_u8]; omega
def bigN : Nat := 1000000000000000
/-- What a list of bytes may hold, and what may stand behind it. -/
def FB (i : Nat) : List UInt8 := MK i bigN
theorem FB_pre {i k : Nat} (h : k ≤ 1000000000000000) : MK i k <+: FB i := by
  refine ⟨MK i (bigN - k), ?_⟩
  rw [MK_add, show k + (bigN - k) = bigN by unfold bigN; omega]
  rfl
/-- The marks of the first n lists. -/
def mks (n : Nat) : List UInt8 := (List.range n).map fun i => UInt8.ofNat (1 + i % 250)
theorem mks_len (n : Nat) : (mks n).length = n := by simp [mks]
theorem mks_snoc (n : Nat) : mks (n + 1) = mks n ++ [UInt8.ofNat (1 + n % 250)] := by simp [mks, List.range_succ]
theorem mks_get {n i : Nat} (h : i < n) : (mks n)[i]? = some (UInt8.ofNat (1 + i % 250)) := by simp [mks, h]
/-- The rows from the n-th mark on. -/
def marksN (n : Nat) (l : List BA) : List BA := l.mapIdx fun i x => (MK (n + i) x.1.length, x.2)
theorem marksN_len (n : Nat) (l : List BA) : (marksN n l).length = l.length := by simp [marksN]
theorem marksN_get (n : Nat) (l : List BA) (i : Nat) : (marksN n l)[i]? = l[i]?.map fun x => (MK (n + i) x.1.length, x.2) := by unfold marksN; rw [List.getElem?_mapIdx]
theorem baCells_marksN (n : Nat) (l : List BA) : baCells (marksN n l) = baCells l := by
  apply List.ext_getElem?
  intro i
  unfold baCells
  rw [List.getElem?_map, List.getElem?_map, marksN_get]
  cases l[i]? with
  | none => rfl
  | some x => simp [MK_len]
/-- Rows that are being filled: the first i are, of the next one the first j bytes. -/
structure Cur (n : Nat) (l : List BA) (i j : Nat) (cur : List BA) : Prop where
  len : cur.length = l.length
  at_ : ∀ k x, l[k]? = some x → ∃ b', cur[k]? = some (b', x.2) ∧ b'.length = x.1.length ∧ (k < i → b' = MK (n + k) x.1.length) ∧ (k = i → b'.take j = MK (n + k) j)
section
variable {n i j : Nat} {l cur : List BA}
theorem Cur.start (n : Nat) (l : List BA) : Cur n l 0 0 l := ⟨rfl, fun k x hx => ⟨x.1, hx, rfl, fun h => by omega, fun _ => by simp [MK]⟩⟩
theorem Cur.next_row (h : Cur n l i j cur) {x : BA} (hx : l[i]? = some x) (hj : j = x.1.length) : Cur n l (i + 1) 0 cur := by
  refine ⟨h.len, fun k y hy => ?_⟩
  obtain ⟨b', h1, h2, h3, h4⟩ := h.at_ k y hy
  refine ⟨b', h1, h2, fun hk => ?_, fun _ => by simp [MK]⟩
  rcases Nat.lt_or_ge k i with hki | hki
  · exact h3 hki
  · obtain rfl : k = i := by omega
    rw [hx] at hy
    injection hy with hy
    subst hy
    have := h4 rfl
    rw [hj, List.take_of_length_le (by omega)] at this
    exact this
theorem Cur.done (h : Cur n l l.length j cur) : cur = marksN n l := by
  apply List.ext_getElem?
  intro k
  rw [marksN_get]
  cases hx : l[k]? with
  | none => rw [List.getElem?_eq_none (by rw [h.len]; exact List.getElem?_eq_none_iff.1 hx)]; rfl
  | some x =>
    obtain ⟨b', h1, h2, h3, h4⟩ := h.at_ k x hx
    rw [h1, h3 (List.getElem?_eq_some_iff.1 hx).1]
    rfl
theorem Cur.byte (h : Cur n l i j cur) {b b' : List UInt8} {A : Option Addr} {c : Nat} (hx : l[i]? = some (b, A, c)) (hb : cur[i]? = some (b', A, c)) (hj : j < b.length) : Cur n l i (j + 1) (cur.set i (b'.set j (UInt8.ofNat (1 + (n + i) % 250)), A, c)) := by
  refine ⟨by rw [List.length_set]; exact h.len, fun k y hyk => ?_⟩
  obtain ⟨b2, h1, h2, h3, h4⟩ := h.at_ k y hyk
  by_cases hk : k = i
  · subst hk
    rw [hx] at hyk
    injection hyk with hyk
    subst hyk
    rw [hb] at h1
    injection h1 with h1
    injection h1 with h1 _
    subst h1
    refine ⟨b'.set j (UInt8.ofNat (1 + (n + k) % 250)), by rw [List.getElem?_set_self (List.getElem?_eq_some_iff.1 hb).1], by simpa using h2, fun h => by omega, fun _ => ?_⟩
    have h4 := h4 rfl
    have hjl : j < b'.length := by simpa [h2] using hj
    rw [List.take_add_one, List.take_set_of_le (Nat.le_refl _), h4, List.getElem?_set_self hjl]
    show MK (n + k) j ++ [UInt8.ofNat (1 + (n + k) % 250)] = _
    unfold MK
    rw [List.replicate_succ']
  · exact ⟨b2, by rw [List.getElem?_set_ne (fun e => hk e.symm)]; exact h1, h2, h3, fun e => absurd e hk⟩
theorem Cur.get (h : Cur n l i j cur) {k : Nat} {b : List UInt8} {A : Option Addr} {c : Nat} (hx : l[k]? = some (b, A, c)) : ∃ b', cur[k]? = some (b', A, c) ∧ b'.length = b.length := by
  obtain ⟨b', h1, h2, _⟩ := h.at_ k _ hx
  exact ⟨b', h1, h2⟩
/-- The rows lie where they lay. -/
theorem Cur.lies (h : Cur n l i j cur) {x : BA} (hx : x ∈ cur) : ∃ y ∈ l, y.2 = x.2 := by
  obtain ⟨k, hk⟩ := List.mem_iff_getElem?.1 hx
  have hkl : k < l.length := by rw [← h.len]; exact (List.getElem?_eq_some_iff.1 hk).1
  obtain ⟨b', h1, _⟩ := h.at_ k _ (List.getElem?_eq_getElem hkl)
  rw [hk] at h1
  injection h1 with h1
  exact ⟨_, List.getElem_mem hkl, by rw [h1]⟩
end

/-! ### Lists of lists of records -/
def gaCells (l : List GA) : List Value := l.map GA.val
theorem gaCells_append (l m : List GA) : gaCells (l ++ m) = gaCells l ++ gaCells m := by simp [gaCells]
theorem gaCells_get {l : List GA} {k : Nat} {x : GA} (h : l[k]? = some x) : (gaCells l)[k]? = some x.val := by simp [gaCells, h]
def inC (l : List Int) : List Value := l.map (Value.int .i64)
theorem inC_append (l m : List Int) : inC (l ++ m) = inC l ++ inC m := by simp [inC]
theorem inC_get {l : List Int} {k : Nat} {x : Int} (h : l[k]? = some x) : (inC l)[k]? = some (.int .i64 x) := by simp [inC, h]
/-- All n records are of the saga s. -/
def SagaC (cs : List Value) (n : Nat) (s : Int) : Prop := cs.length = n * 12 ∧ ∀ j, j < n → cs[j * 12 + 2]? = some (.int .i64 s)
/-- A record that has a saga alone. -/
def sagaR (s : Int) : Rec := { Rec.zero with Saga := s }
def padS (s : Int) (k : Nat) : List Value := recCells (List.replicate k (sagaR s, none, 0))
theorem padS_len (s : Int) (k : Nat) : (padS s k).length = k * 12 := by simp [padS, recCells_length]
theorem padS_add (s : Int) (j k : Nat) : padS s j ++ padS s k = padS s (j + k) := by unfold padS; rw [← recCells_append, List.replicate_append_replicate]
theorem SagaC.pad {cs : List Value} {n : Nat} {s : Int} (h : SagaC cs n s) (k : Nat) : SagaC (cs ++ padS s k) (n + k) s := by
  refine ⟨by rw [List.length_append, h.1, padS_len, Nat.add_mul], fun j hj => ?_⟩
  rcases Nat.lt_or_ge j n with hjn | hjn
  · rw [List.getElem?_append_left (by rw [h.1]; omega)]
    exact h.2 j hjn
  · rw [List.getElem?_append_right (by rw [h.1]; omega), h.1, show j * 12 + 2 - n * 12 = (j - n) * 12 + 2 by omega]
    unfold padS
    rw [recCells_get (x := (sagaR s, none, 0)) (by rw [List.getElem?_replicate, if_pos (by omega)]) 2 (by decide)]
    rfl
/-- The first i records have the saga s. -/
def sag (s : Int) (i : Nat) (os : List RA) : List RA := os.mapIdx fun k x => if k < i then ({ x.1 with Saga := s }, x.2) else x
theorem sag_len (s : Int) (i : Nat) (os : List RA) : (sag s i os).length = os.length := by simp [sag]
theorem sag_get (s : Int) (i : Nat) (os : List RA) (k : Nat) : (sag s i os)[k]? = os[k]?.map fun x => if k < i then ({ x.1 with Saga := s }, x.2) else x := by unfold sag; rw [List.getElem?_mapIdx]
theorem sag_zero (s : Int) (os : List RA) : sag s 0 os = os := by
  apply List.ext_getElem?
  intro k
  rw [sag_get]
  cases os[k]? <;> simp
theorem sag_at {s : Int} {i : Nat} {os : List RA} {x : RA} (h : os[i]? = some x) : (sag s i os)[i]? = some x := by rw [sag_get, h]; simp
theorem sag_succ {s : Int} {i : Nat} {os : List RA} {x : RA} (h : os[i]? = some x) : recCells (sag s (i + 1) os) = (recCells (sag s i os)).set (i * 12 + 2) (.int .i64 s) := by
  rw [← recCells_set (os := sag s i os) (i := i) (x := x) (x' := ({ x.1 with Saga := s }, x.2)) 2 _ (sag_at h) rfl (by decide)]
  congr 1
  apply List.ext_getElem?
  intro k
  rw [sag_get]
  by_cases hk : i = k
  · subst hk
    rw [List.getElem?_set_self (by rw [sag_len]; exact (List.getElem?_eq_some_iff.1 h).1), h]
    simp
  · rw [List.getElem?_set_ne hk, sag_get]
    cases os[k]? with
    | none => rfl
    | some y =>
      simp only [Option.map_some]
      by_cases h1 : k < i
      · rw [if_pos h1, if_pos (by omega)]
      · rw [if_neg h1, if_neg (by omega)]
theorem sag_all (s : Int) (os : List RA) : SagaC (recCells (sag s os.length os)) os.length s := by
  refine ⟨by rw [recCells_length, sag_len], fun j hj => ?_⟩
  rw [recCells_get (x := ({ os[j].1 with Saga := s }, os[j].2)) (by rw [sag_get, List.getElem?_eq_getElem hj]; simp [hj]) 2 (by decide)]
  rfl
end Go.Proofs.Ytikodgaomhmbmaa
