/-
  annalslaw12.Marks.put: a list of records that was handed out is written full and kept.
-/
import Derived.Test.YtikodgaomhmbmaaS5
set_option linter.unusedVariables false
set_option linter.unusedSimpArgs false
namespace Go.Proofs.Ytikodgaomhmbmaa
open Go.RowKit
attribute [local go_sem] Rec.size_ Rec.g0 Rec.g1 Rec.g2 Rec.g3 Rec.g4 Rec.g5 Rec.g6 Rec.g7 Rec.g8 Rec.g9 Rec.g10 Rec.g11 Rec.fold Rec.lit_fold

theorem info_rss : (Try.prog.info? 22).map (fun i => (i.zero, i.size, i.bytes)) = some (some (.slice none 0 0), 1, 24) := by kernel_rfl
abbrev AC := Option Addr × Nat
/-- What a row of records may hold: what it holds, and records of that saga behind. -/
def FRof (rs : List GA) (ss : List Int) (i : Nat) : List Value := ((rs[i]?).map fun z => z.1).getD [] ++ padS ((ss[i]?).getD 0) bigN
theorem FRof_at {rs : List GA} {ss : List Int} {i : Nat} {z : GA} {s : Int} (h : rs[i]? = some z) (hs : ss[i]? = some s) : FRof rs ss i = z.1 ++ padS s bigN := by simp [FRof, h, hs]
theorem FRof_pre {rs : List GA} {ss : List Int} {i : Nat} {z : GA} {s : Int} (h : rs[i]? = some z) (hs : ss[i]? = some s) {k : Nat} (hk : k ≤ 1000000000000000) : z.1 ++ padS s k <+: FRof rs ss i := by
  rw [FRof_at h hs]
  refine ⟨padS s (bigN - k), ?_⟩
  rw [List.append_assoc, padS_add, show k + (bigN - k) = bigN by unfold bigN; omega]
theorem FRof_snoc {rs : List GA} {ss : List Int} {i : Nat} {z : GA} {s : Int} (hi : i < rs.length) (hl : ss.length = rs.length) : FRof (rs ++ [z]) (ss ++ [s]) i = FRof rs ss i := by
  unfold FRof
  rw [List.getElem?_append_left hi, List.getElem?_append_left (by omega)]
/-- The blocks of a list of records and of their data. -/
def LB (A : Option Addr) (os : List RA) (k : Nat) : Prop := (∃ ad, A = some ad ∧ ad.block = k) ∨ ∃ q ∈ bs os, ∃ ad, q.2.1 = some ad ∧ ad.block = k

/-- What Marks keeps: n lists of bytes, x of them lengthened; m lists of records, y of them lengthened; none of it in a block of Pr. -/
structure Mk (Pr : Nat → Prop) (base : Nat) (w : World) (g n m x y : Nat) (a0 a1 a2 a3 a4 a5 : AC) (ls xs : List BA) (rs ys : List GA) (ss : List Int) : Prop where
  hg : Blk w g 37 #[.slice a0.1 n a0.2, .slice a1.1 n a1.2, .slice a2.1 m a2.2, .slice a3.1 m a3.2, .slice a4.1 x a4.2, .slice a5.1 y a5.2]
  o0 : w.ownsRow base 23 1 (.slice a0.1 n a0.2) n (baCells ls)
  B1 : OB w base a1.1 a1.2 (mks n)
  o2 : w.ownsRow base 22 1 (.slice a2.1 m a2.2) m (gaCells rs)
  o3 : w.ownsRow base 3 1 (.slice a3.1 m a3.2) m (inC ss)
  o4 : w.ownsRow base 23 1 (.slice a4.1 x a4.2) x (baCells xs)
  o5 : w.ownsRow base 22 1 (.slice a5.1 y a5.2) y (gaCells ys)
  V1 : Fam FB w base (tagged ls ++ tagged xs)
  J1 : FamG 25 12 (FRof rs ss) w base (taggedG rs ++ taggedG ys)
  do0o4 : (Value.slice a0.1 n a0.2).ownBlock = none ∨ (Value.slice a0.1 n a0.2).ownBlock ≠ (Value.slice a4.1 x a4.2).ownBlock
  do2o5 : (Value.slice a2.1 m a2.2).ownBlock = none ∨ (Value.slice a2.1 m a2.2).ownBlock ≠ (Value.slice a5.1 y a5.2).ownBlock
  dV1B1 : ∀ z ∈ tagged ls ++ tagged xs, Apart z.2.2.1 a1.1
  nKg0 : ¬ Pr g
  nKo0 : ∀ k, (Value.slice a0.1 n a0.2).ownBlock = some k → ¬ Pr k
  nKB1 : ∀ ad, a1.1 = some ad → ¬ Pr ad.block
  nKo2 : ∀ k, (Value.slice a2.1 m a2.2).ownBlock = some k → ¬ Pr k
  nKo3 : ∀ k, (Value.slice a3.1 m a3.2).ownBlock = some k → ¬ Pr k
  nKo4 : ∀ k, (Value.slice a4.1 x a4.2).ownBlock = some k → ¬ Pr k
  nKo5 : ∀ k, (Value.slice a5.1 y a5.2).ownBlock = some k → ¬ Pr k
  nKV : ∀ z ∈ tagged ls ++ tagged xs, ∀ ad, z.2.2.1 = some ad → ¬ Pr ad.block
  nKJ : ∀ z ∈ taggedG rs ++ taggedG ys, ∀ ad, z.2.2.2.1 = some ad → ¬ Pr ad.block
  hbase : base ≤ w.heap.size
  lls : ls.length = n
  lxs : xs.length = x
  lrs : rs.length = m
  lys : ys.length = y
  lss : ss.length = m
  hxn : x ≤ n
  hym : y ≤ m
  bl : ∀ (i : Nat) (z : BA), ls[i]? = some z → z.1 = MK i z.1.length ∧ z.1.length ≤ 1000000000
  bx : ∀ (i : Nat) (z : BA), xs[i]? = some z → ∃ u : BA, ls[i]? = some u ∧ z.1 = MK i (2 * u.1.length + 70)
  rl : ∀ (i : Nat) (z : GA) (s : Int), rs[i]? = some z → ss[i]? = some s → SagaC z.1 z.2.1 s ∧ z.2.1 ≤ 1000000000
  ry : ∀ (i : Nat) (z : GA) (s : Int), ys[i]? = some z → ss[i]? = some s → ∃ u : GA, rs[i]? = some u ∧ z.2.1 = 2 * u.2.1 + 20 ∧ SagaC z.1 z.2.1 s
section
variable {Pr Qr : Nat → Prop} {base : Nat} {w w' : World} {g n m x y : Nat} {a0 a1 a2 a3 a4 a5 : AC} {ls xs : List BA} {rs ys : List GA} {ss : List Int}
theorem Mk.next (h : Mk Pr base w g n m x y a0 a1 a2 a3 a4 a5 ls xs rs ys ss) (hb : Below w.heap.size w w') : Mk Pr base w' g n m x y a0 a1 a2 a3 a4 a5 ls xs rs ys ss :=
  ⟨h.hg.next hb, own_next h.o0 hb, h.B1.next hb, own_next h.o2 hb, own_next h.o3 hb, own_next h.o4 hb, own_next h.o5 hb, h.V1.next hb, h.J1.next hb, h.do0o4, h.do2o5, h.dV1B1, h.nKg0, h.nKo0, h.nKB1, h.nKo2, h.nKo3, h.nKo4, h.nKo5, h.nKV, h.nKJ, Nat.le_trans h.hbase hb.size, h.lls, h.lxs, h.lrs, h.lys, h.lss, h.hxn, h.hym, h.bl, h.bx, h.rl, h.ry⟩
/-- Other blocks stay: such as were among them, or are newer. -/
theorem Mk.reno (h : Mk Pr base w g n m x y a0 a1 a2 a3 a4 a5 ls xs rs ys ss) (hq : ∀ k, Qr k → Pr k ∨ w.heap.size ≤ k) : Mk Qr base w g n m x y a0 a1 a2 a3 a4 a5 ls xs rs ys ss := by
  have hlt : ∀ {e : TypeId} {size k : Nat} {v : Value} {cs : List Value}, w.ownsRow base e size v k cs → (∀ j, v.ownBlock = some j → ¬ Pr j) → ∀ j, v.ownBlock = some j → ¬ Qr j := fun ho hn j hj hQ => by
    rcases hq j hQ with h1 | h1
    · exact hn j hj h1
    · have := own_lt ho j hj
      omega
  refine ⟨h.hg, h.o0, h.B1, h.o2, h.o3, h.o4, h.o5, h.V1, h.J1, h.do0o4, h.do2o5, h.dV1B1, fun hQ => ?_, hlt h.o0 h.nKo0, fun ad e hQ => ?_, hlt h.o2 h.nKo2, hlt h.o3 h.nKo3, hlt h.o4 h.nKo4, hlt h.o5 h.nKo5, fun z hz ad e hQ => ?_, fun z hz ad e hQ => ?_, h.hbase, h.lls, h.lxs, h.lrs, h.lys, h.lss, h.hxn, h.hym, h.bl, h.bx, h.rl, h.ry⟩
  · rcases hq _ hQ with h1 | h1
    · exact h.nKg0 h1
    · have := h.hg.lt
      omega
  · rcases hq _ hQ with h1 | h1
    · exact h.nKB1 ad e h1
    · have := (h.B1.lt e).2
      omega
  · rcases hq _ hQ with h1 | h1
    · exact h.nKV z hz ad e h1
    · have := ((h.V1.all z hz).lt e).2
      omega
  · rcases hq _ hQ with h1 | h1
    · exact h.nKJ z hz ad e h1
    · have := (own_lt_at (h.J1.all z hz) e).2
      omega
end

/-- While a list is put: of its records the first i are done, of the next one's data the first j bytes. -/
structure PutSt (Pr : Nat → Prop) (base : Nat) (w wr : World) (g n m x y nl : Nat) (a0 a1 a2 a3 a4 a5 : AC) (A : Option Addr) (c : Nat) (os : List RA) (ls xs : List BA) (rs ys : List GA) (ss : List Int) (s : Int) (i j ni : Nat) (cur : List BA) : Prop where
  hni : ni = n + i
  K1 : KX Pr w wr
  hg : Blk wr g 37 #[.slice a0.1 ni a0.2, .slice a1.1 ni a1.2, .slice a2.1 m a2.2, .slice a3.1 m a3.2, .slice a4.1 x a4.2, .slice a5.1 y a5.2]
  o0 : wr.ownsRow base 23 1 (.slice a0.1 ni a0.2) ni (baCells (ls ++ (bs os).take i))
  B1 : OB wr base a1.1 a1.2 (mks ni)
  o2 : wr.ownsRow base 22 1 (.slice a2.1 m a2.2) m (gaCells rs)
  o3 : wr.ownsRow base 3 1 (.slice a3.1 m a3.2) m (inC ss)
  o4 : wr.ownsRow base 23 1 (.slice a4.1 x a4.2) x (baCells xs)
  o5 : wr.ownsRow base 22 1 (.slice a5.1 y a5.2) y (gaCells ys)
  oR : wr.ownsRow base 25 12 (.slice A nl c) nl (recCells (sag s i os))
  Q1 : OBs wr base cur
  V1 : Fam FB wr base (tagged ls ++ tagged xs)
  J1 : FamG 25 12 (FRof rs ss) wr base (taggedG rs ++ taggedG ys)
  hcur : Cur n (bs os) i j cur
  do0o4 : (Value.slice a0.1 ni a0.2).ownBlock = none ∨ (Value.slice a0.1 ni a0.2).ownBlock ≠ (Value.slice a4.1 x a4.2).ownBlock
  do2o5 : (Value.slice a2.1 m a2.2).ownBlock = none ∨ (Value.slice a2.1 m a2.2).ownBlock ≠ (Value.slice a5.1 y a5.2).ownBlock
  dV1B1 : ∀ z ∈ tagged ls ++ tagged xs, Apart z.2.2.1 a1.1
  dQ1B1 : ∀ z ∈ cur, Apart z.2.1 a1.1
  dV1Q1 : ∀ z ∈ tagged ls ++ tagged xs, ∀ q ∈ bs os, Apart z.2.2.1 q.2.1
  dJ1oR : ∀ z ∈ taggedG rs ++ taggedG ys, ∀ ad, z.2.2.2.1 = some ad → some ad.block ≠ (Value.slice A nl c).ownBlock
  nKg0 : ¬ Pr g
  nKo0 : ∀ k, (Value.slice a0.1 ni a0.2).ownBlock = some k → ¬ Pr k
  nKB1 : ∀ ad, a1.1 = some ad → ¬ Pr ad.block
  nKo2 : ∀ k, (Value.slice a2.1 m a2.2).ownBlock = some k → ¬ Pr k
  nKo3 : ∀ k, (Value.slice a3.1 m a3.2).ownBlock = some k → ¬ Pr k
  nKoR : ∀ k, (Value.slice A nl c).ownBlock = some k → ¬ Pr k
  nKQ : ∀ q ∈ bs os, ∀ ad, q.2.1 = some ad → ¬ Pr ad.block
section
variable {Pr : Nat → Prop} {base : Nat} {w wr W : World} {g n m x y nl : Nat} {a0 a1 a2 a3 a4 a5 : AC} {A : Option Addr} {c : Nat} {os : List RA} {ls xs : List BA} {rs ys : List GA} {ss : List Int} {s : Int} {i j ni : Nat} {cur : List BA}
theorem own_block_some {A : Option Addr} {n c k : Nat} (h : (Value.slice A n c).ownBlock = some k) : ∃ ad, A = some ad ∧ ad.block = k := by
  cases A with
  | none => cases h
  | some ad => exact ⟨ad, rfl, by simpa [Value.ownBlock] using h⟩
theorem PutSt.start (h : Mk (fun k => Pr k ∨ LB A os k) base w g n m x y a0 a1 a2 a3 a4 a5 ls xs rs ys ss) (hP : ∀ k, Pr k → k < w.heap.size) (hn : ∀ k, LB A os k → ¬ Pr k)
    (ho : w.ownsRow base 25 12 (.slice A nl c) nl (recCells os)) (hQ : OBs w base (bs os)) : PutSt Pr base w w g n m x y nl a0 a1 a2 a3 a4 a5 A c os ls xs rs ys ss s 0 0 n (bs os) :=
  ⟨rfl, KX.refl hP, h.hg, by simpa using h.o0, h.B1, h.o2, h.o3, h.o4, h.o5, by rw [sag_zero]; exact ho, hQ, h.V1, h.J1, Cur.start _ _, h.do0o4, h.do2o5, h.dV1B1,
    fun z hz a b ha hb e => h.nKB1 b hb (.inr (.inr ⟨z, hz, a, ha, e⟩)), fun z hz q hq a b ha hb e => h.nKV z hz a ha (.inr (.inr ⟨q, hq, b, hb, e.symm⟩)),
    fun z hz ad e e2 => by
      obtain ⟨b, hb, hk⟩ := own_block_some e2.symm
      exact h.nKJ z hz ad e (.inr (.inl ⟨b, hb, hk⟩)),
    fun hp => h.nKg0 (.inl hp), fun k hk hp => h.nKo0 k hk (.inl hp), fun ad e hp => h.nKB1 ad e (.inl hp), fun k hk hp => h.nKo2 k hk (.inl hp), fun k hk hp => h.nKo3 k hk (.inl hp),
    fun k hk => hn k (.inl (own_block_some hk)), fun q hq ad e => hn _ (.inr ⟨q, hq, ad, e, rfl⟩)⟩
theorem PutSt.byte (h : PutSt Pr base w wr g n m x y nl a0 a1 a2 a3 a4 a5 A c os ls xs rs ys ss s i j ni cur) {b b' : List UInt8} {gi ci : Nat} (hx : (bs os)[i]? = some (b, some ⟨gi, 0, none⟩, ci)) (hb : cur[i]? = some (b', some ⟨gi, 0, none⟩, ci)) (hj : j < b.length)
    (hB : OB W base (some ⟨gi, 0, none⟩) ci (b'.set j (UInt8.ofNat (1 + ni % 250)))) (hgr : wr.grownBy W (some gi)) :
    PutSt Pr base w W g n m x y nl a0 a1 a2 a3 a4 a5 A c os ls xs rs ys ss s i (j + 1) ni (cur.set i (b'.set j (UInt8.ofNat (1 + ni % 250)), some ⟨gi, 0, none⟩, ci)) := by
  have hold := h.Q1.all _ (List.mem_of_getElem? hb)
  have hg' : wr.grownBy W ((some (⟨gi, 0, none⟩ : Addr)).map (·.block)) := hgr
  refine ⟨h.hni, h.K1.kept_ob hg' (h.nKQ _ (List.mem_of_getElem? hx)), h.hg.kept_ob hold hg' (by decide), own_ob h.o0 hold hg' (by decide), h.B1.kept_apart hg' (h.dQ1B1 _ (List.mem_of_getElem? hb)), own_ob h.o2 hold hg' (by decide), own_ob h.o3 hold hg' (by decide), own_ob h.o4 hold hg' (by decide), own_ob h.o5 hold hg' (by decide), own_ob h.oR hold hg' (by decide),
    h.Q1.set_ hb hB hgr, h.V1.kept_apart hg' (fun z hz => h.dV1Q1 z hz _ (List.mem_of_getElem? hx)), h.J1.kept_ob hold hg' (by decide), ?_, h.do0o4, h.do2o5, h.dV1B1, fun z hz => ?_, h.dV1Q1, h.dJ1oR, h.nKg0, h.nKo0, h.nKB1, h.nKo2, h.nKo3, h.nKoR, h.nKQ⟩
  · have := h.hcur.byte hx hb hj
    rwa [← h.hni] at this
  · rcases List.mem_or_eq_of_mem_set hz with hz | rfl
    · exact h.dQ1B1 z hz
    · exact h.dQ1B1 (b', some ⟨gi, 0, none⟩, ci) (List.mem_of_getElem? hb)
theorem PutSt.next_row (h : PutSt Pr base w wr g n m x y nl a0 a1 a2 a3 a4 a5 A c os ls xs rs ys ss s i j ni cur) {z : BA} (hx : (bs os)[i]? = some z) (hj : j = z.1.length) : Cur n (bs os) (i + 1) 0 cur := h.hcur.next_row hx hj
end
/-- Rows that are full of the next marks join the family. -/
theorem fam_add {w : World} {base n : Nat} {ls xs q : List BA} (h : Fam FB w base (tagged ls ++ tagged xs)) (hQ : OBs w base q) (hn : ls.length = n) (hp : ∀ i z, q[i]? = some z → z.1 <+: FB (n + i)) (hx : xs.length ≤ n) (hd : ∀ z ∈ tagged ls ++ tagged xs, ∀ y ∈ q, Apart z.2.2.1 y.2.1) : Fam FB w base (tagged (ls ++ q) ++ tagged xs) := by
  have hm : ∀ z, z ∈ tagged (ls ++ q) ++ tagged xs → z ∈ tagged ls ++ tagged xs ∨ ∃ i, z.1 = n + i ∧ q[i]? = some z.2 := fun z hz => by
    rcases List.mem_append.1 hz with hz | hz
    · rw [tagged_mem] at hz
      rcases Nat.lt_or_ge z.1 ls.length with hl | hl
      · rw [List.getElem?_append_left hl] at hz
        exact .inl (List.mem_append_left _ (tagged_mem.2 hz))
      · rw [List.getElem?_append_right hl] at hz
        exact .inr ⟨z.1 - ls.length, by omega, hz⟩
    · exact .inl (List.mem_append_right _ hz)
  refine ⟨fun z hz => ?_, fun z hz => ?_, fun z hz u hu => ?_⟩
  · rcases hm z hz with hz | ⟨i, _, hz⟩
    · exact h.all z hz
    · exact hQ.all _ (List.mem_of_getElem? hz)
  · rcases hm z hz with hz | ⟨i, e, hz⟩
    · exact h.pre z hz
    · rw [e]; exact hp i _ hz
  · rcases hm z hz with hz | ⟨i, e, hz⟩ <;> rcases hm u hu with hu | ⟨k, e2, hu⟩
    · exact h.pair z hz u hu
    · exact .inl (hd z hz _ (List.mem_of_getElem? hu))
    · exact .inl (hd u hu _ (List.mem_of_getElem? hz)).symm
    · by_cases hik : i = k
      · subst hik
        rw [hz] at hu
        injection hu with hu
        exact .inr ⟨e.trans e2.symm, by rw [hu]⟩
      · exact .inl (hQ.others hu hz hik)
/-- A row of records joins the family. -/
theorem famG_add {w : World} {base m nl c : Nat} {A : Option Addr} {cs : List Value} {rs ys : List GA} {ss : List Int} {s : Int} (h : FamG 25 12 (FRof rs ss) w base (taggedG rs ++ taggedG ys)) (ho : w.ownsRow base 25 12 (.slice A nl c) nl cs) (hr : rs.length = m) (hs : ss.length = m) (hy : ys.length ≤ m)
    (hd : ∀ z ∈ taggedG rs ++ taggedG ys, ∀ ad, z.2.2.2.1 = some ad → some ad.block ≠ (Value.slice A nl c).ownBlock) : FamG 25 12 (FRof (rs ++ [(cs, nl, A, c)]) (ss ++ [s])) w base (taggedG (rs ++ [(cs, nl, A, c)]) ++ taggedG ys) := by
  have hm : ∀ z, z ∈ taggedG (rs ++ [(cs, nl, A, c)]) ++ taggedG ys → (z ∈ taggedG rs ++ taggedG ys ∧ z.1 < m) ∨ z = (m, cs, nl, A, c) := fun z hz => by
    rcases List.mem_append.1 hz with hz | hz
    · rw [taggedG_mem] at hz
      rcases Nat.lt_or_ge z.1 rs.length with hl | hl
      · rw [List.getElem?_append_left hl] at hz
        exact .inl ⟨List.mem_append_left _ (taggedG_mem.2 hz), by omega⟩
      · rw [List.getElem?_append_right hl] at hz
        obtain ⟨hl2, hz⟩ := List.getElem?_eq_some_iff.1 hz
        simp at hl2
        have hz1 : z.1 = m := by omega
        simp at hz
        exact .inr (Prod.ext hz1 hz.symm)
    · have := (List.getElem?_eq_some_iff.1 (taggedG_mem.1 hz)).1
      exact .inl ⟨List.mem_append_right _ hz, by omega⟩
  have hap : ∀ z ∈ taggedG rs ++ taggedG ys, Apart z.2.2.2.1 A := fun z hz a b ha hb e => by
    subst hb
    exact hd z hz a ha (by rw [e]; rfl)
  refine ⟨fun z hz => ?_, fun z hz => ?_, fun z hz u hu => ?_⟩
  · rcases hm z hz with ⟨hz, _⟩ | rfl
    · exact h.all z hz
    · exact ho
  · rcases hm z hz with ⟨hz, hl⟩ | rfl
    · rw [FRof_snoc (by omega) (by omega)]
      exact h.pre z hz
    · have e1 : (rs ++ [(cs, nl, A, c)])[m]? = some (cs, nl, A, c) := by rw [List.getElem?_append_right (by omega), hr]; simp
      have e2 : (ss ++ [s])[m]? = some s := by rw [List.getElem?_append_right (by omega), hs]; simp
      have := FRof_pre e1 e2 (k := 0) (by omega)
      simpa [padS, recCells] using this
  · rcases hm z hz with ⟨hz, _⟩ | rfl <;> rcases hm u hu with ⟨hu, _⟩ | rfl
    · exact h.pair z hz u hu
    · exact .inl (hap z hz)
    · exact .inl (hap u hu).symm
    · exact .inr ⟨rfl, rfl⟩
end Go.Proofs.Ytikodgaomhmbmaa
