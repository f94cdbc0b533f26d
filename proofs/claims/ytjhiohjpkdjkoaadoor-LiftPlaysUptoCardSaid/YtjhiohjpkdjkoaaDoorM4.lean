/-
  Scripts of steps, and the walks of the laws over them.
-/
import Derived.Test.YtjhiohjpkdjkoaaDoorM3
import Derived.Test.YtjhiohjpkdjkoaaDoorFU
set_option linter.unusedVariables false
set_option linter.unusedSimpArgs false
namespace Go.Proofs.YtjhiohjpkdjkoaaDoor
open Go.ChangeShapes Go.WideShapes Go.ChangeAt Go.RowKit Go.Deep

/-- A step: its call, its record, its versions, its records. -/
structure Step where
  k : Int
  r : Rec
  A : Option Addr
  c : Nat
  to : Int
  fr : Int
  B : Option Addr
  l : List RA
  d : Nat
def Step.cells (s : Step) : Array Value := opC s.k s.r s.A s.c s.to s.fr s.B s.l.length s.d
def opCells (l : List Step) : List Value := l.flatMap fun s => s.cells.toList
theorem opCells_length (l : List Step) : (opCells l).length = l.length * 16 := by
  unfold opCells
  induction l with
  | nil => rfl
  | cons x l ih => simp only [List.flatMap_cons, List.length_append, ih, List.length_cons]; simp [Step.cells, opC]; omega
theorem opCells_at : ∀ {l : List Step} {k : Nat} {x : Step}, l[k]? = some x → ((opCells l).drop (k * 16)).take 16 = x.cells.toList
  | [], k, x, h => by simp at h
  | y :: l, 0, x, h => by
    simp at h
    subst h
    simp [opCells, Step.cells, opC]
  | y :: l, k + 1, x, h => by
    have := opCells_at (l := l) (k := k) (x := x) (by simpa using h)
    rw [← this]
    have e : opCells (y :: l) = y.cells.toList ++ opCells l := by simp [opCells]
    have hy : y.cells.toList.length = 16 := by simp [Step.cells, opC]
    rw [e, List.drop_append, hy, List.drop_eq_nil_of_le (by omega), show (k + 1) * 16 - 16 = k * 16 by omega]
    rfl
theorem opCells_get {l : List Step} {k : Nat} {x : Step} (h : l[k]? = some x) (i : Nat) (hi : i < 16) : (opCells l)[k * 16 + i]? = x.cells[i]? := by
  have := opCells_at h
  rw [show x.cells[i]? = x.cells.toList[i]? by simp, ← this, List.getElem?_take, if_pos hi, List.getElem?_drop]
/-- The steps lie at A. -/
structure OR (w : World) (A : Option Addr) (l : List Step) : Prop where
  row : Reads w w.heap.size 16 A l.length (opCells l)
  data : ∀ x ∈ l, RB w x.A x.r.Data
  recs : ∀ x ∈ l, RR w x.B x.l
theorem OR.next {w w' : World} {A : Option Addr} {l : List Step} (h : OR w A l) (hb : Below w.heap.size w w') : OR w' A l := ⟨Reads.next h.row hb, fun x hx => (h.data x hx).next hb, fun x hx => (h.recs x hx).next hb⟩
theorem OR.load {w : World} {A : Option Addr} {l : List Step} (h : OR w A l) {k : Nat} {x : Step} (hx : l[k]? = some x) {ad : Addr} (he : A = some ad) : ∀ j v, x.cells[j]? = some v → w.cell? ((ad.add (k * 16)).add j) = some v := by
  have hk : k < l.length := (List.getElem?_eq_some_iff.1 hx).1
  obtain ⟨ad', e, _, hc⟩ := h.row.2 (by omega)
  rw [he] at e
  injection e with e
  subst e
  intro j v hv
  have hj : j < 16 := by have := (Array.getElem?_eq_some_iff.1 hv).1; simpa [Step.cells, opC] using this
  rw [add_of_add]
  exact hc _ _ (by rw [opCells_get hx j hj]; exact hv)

section
variable {H : Type} {enc : TypeId × Value → H} {w : World} {base : Nat} {spare : Nat → Bool} {held : Bool}
theorem bulk_pos (d : DataW H) : 1 ≤ Rows.uptoBulk d := by
  cases d with
  | lit v => cases v <;> simp [Rows.uptoBulk]
  | _ => simp [Rows.uptoBulk]
theorem bulk_len : ∀ ds : List (DataW H), ds.length ≤ Rows.uptoBulkAll ds
  | [] => by simp
  | d :: ds => by
    have := bulk_len ds
    have := bulk_pos d
    simp only [Rows.uptoBulkAll, List.length_cons]
    omega
/-- A record is not larger than its bulk. -/
theorem rec_bulk {r : Rec} {dd : DataW H} {N : Nat} (hd : (dd = .nil ∧ r.Data = []) ∨ ∃ sp, dd = .slice (u8d r.Data) sp) (h : Rows.uptoBulk (recd r dd) ≤ N) : r.Name.size ≤ N ∧ r.Data.length ≤ N := by
  have h3 : r.Name.data.toList.length ≤ Rows.uptoBulk (recd r dd) := by
    simp only [recd, Rows.uptoBulk, Rows.uptoBulkAll]
    omega
  have h4 : Rows.uptoBulk dd ≤ Rows.uptoBulk (recd r dd) := by
    simp only [recd, Rows.uptoBulk, Rows.uptoBulkAll]
    omega
  have e : r.Name.size = r.Name.data.toList.length := rfl
  refine ⟨by omega, ?_⟩
  rcases hd with ⟨_, h0⟩ | ⟨sp, rfl⟩
  · rw [h0]
    simp
  · have := bulk_len (u8d (H := H) r.Data)
    rw [u8d_length] at this
    simp only [Rows.uptoBulk] at h4
    omega
/-- A []api.Record, by its bulk. -/
theorem trod_recs_bulk {fuel : Nat} {cs : List Value} {x : DataW H × List MemPlace} (h : DataW.trod enc Tryd.prog w base spare held fuel 29 cs = some x) :
    ∃ (A : Option Addr) (l : List RA) (c : Nat), cs = [.slice A l.length c] ∧ RR w A l ∧ l.length ≤ c ∧ ∀ N, Rows.uptoBulk x.1 ≤ N → l.length ≤ N ∧ ∀ y ∈ l, y.1.Name.size ≤ N ∧ y.1.Data.length ≤ N := by
  rcases open_slice Tryd.underlying29 h with ⟨rfl, rfl⟩ | ⟨a, len, cap, m, n, D, Pl, rfl, hb, hl, hm, hmm, rfl, hx⟩
  · exact ⟨none, [], 0, rfl, RR.nil, by simp, fun N _ => ⟨by simp, fun y hy => by cases hy⟩⟩
  · have hlm : len ≤ m := by rw [hmm]; split <;> omega
    have hall : ∀ i, i < len → ∃ y : RA, w.cells? base (a.add (i * 12)) 12 = some y.cs ∧ RB w y.2.1 y.1.Data ∧ ∃ dd, D i = recd y.1 dd ∧ ((dd = .nil ∧ y.1.Data = []) ∨ ∃ sp, dd = .slice (u8d y.1.Data) sp) := by
      intro i hi
      obtain ⟨cs', h1, h2⟩ := hx i (by omega)
      rw [cells_rec] at h1
      obtain ⟨r, A, c, dd, rfl, hrb, _, _, he, hd⟩ := trod_rec h2
      exact ⟨(r, A, c), h1, hrb, dd, he, hd⟩
    haveI : Inhabited RA := ⟨(Rec.zero, none, 0)⟩
    obtain ⟨f, hf⟩ := choose_lt hall
    refine ⟨some a, (List.range len).map f, cap, by simp, ⟨⟨by rw [recCells_length], fun hn => ⟨a, rfl, ?_, ?_⟩⟩, ?_⟩, by simpa using hl, ?_⟩
    · simp at hn
      obtain ⟨h1, _⟩ := hf 0 hn
      obtain ⟨_, _, h3⟩ := World.cells?_some h1
      have := World.block_lt_of_cell? w _ ((h3 0 (by omega)).trans (by rw [RA.cs_get]; exact Rec.g0 _ _ _))
      rw [block_of_add, block_of_add] at this
      exact this
    · intro j u hu
      have hj : j < len * 12 := by
        have := (List.getElem?_eq_some_iff.1 hu).1
        rw [recCells_length] at this
        simpa using this
      have hk : j / 12 < len := by omega
      have hg : ((List.range len).map f)[j / 12]? = some (f (j / 12)) := by rw [List.getElem?_map, List.getElem?_range hk]; rfl
      have hr := recCells_get hg (j % 12) (by omega)
      rw [show j / 12 * 12 + j % 12 = j by omega, hu] at hr
      obtain ⟨h1, _⟩ := hf _ hk
      obtain ⟨_, _, h3⟩ := World.cells?_some h1
      have := h3 (j % 12) (by omega)
      rw [add_of_add, show j / 12 * 12 + j % 12 = j by omega, RA.cs_get, ← hr] at this
      exact this
    · intro x hx
      obtain ⟨i, hi, rfl⟩ := List.mem_map.1 hx
      exact (hf i (by simpa using hi)).2.1
    · intro N hN
      have hD : Rows.uptoBulkAll ((List.range len).map D) ≤ N := by
        simp only [Rows.uptoBulk] at hN
        omega
      constructor
      · have := bulk_len ((List.range len).map D)
        simp at this ⊢
        omega
      · intro y hy
        obtain ⟨i, hi, rfl⟩ := List.mem_map.1 hy
        have hi' : i < len := by simpa using hi
        obtain ⟨_, _, dd, he, hd⟩ := hf i hi'
        refine rec_bulk hd ?_
        rw [← he]
        have := bulk_mem (ds := (List.range len).map D) (d := D i) (List.mem_map.2 ⟨i, by simpa using hi', rfl⟩)
        omega
theorem list16 {α : Type} {l : List α} (h : l.length = 16) : ∃ a b c d e f g i j k m n o p q r, l = [a, b, c, d, e, f, g, i, j, k, m, n, o, p, q, r] := by
  match l, h with
  | [a, b, c, d, e, f, g, i, j, k, m, n, o, p, q, r], _ => exact ⟨a, b, c, d, e, f, g, i, j, k, m, n, o, p, q, r, rfl⟩
theorem list5 {α : Type} {l : List α} (h : l.length = 5) : ∃ a b c d e, l = [a, b, c, d, e] := by
  match l, h with
  | [a, b, c, d, e], _ => exact ⟨a, b, c, d, e, rfl⟩
theorem cells_op : Tryd.prog.cellsOf 129 = 16 := by kernel_rfl
theorem plays_small {r : Rec} {l : List RA} (h1 : r.Name.size ≤ 1048576 ∧ r.Data.length ≤ 1048576) (h2 : l.length ≤ 1048576 ∧ ∀ y ∈ l, y.1.Name.size ≤ 1048576 ∧ y.1.Data.length ≤ 1048576) : Plays r l l.length :=
  ⟨⟨by omega, by omega⟩, by omega, by omega, rfl, by omega, fun y hy => ⟨by have := h2.2 y hy; omega, by have := h2.2 y hy; omega⟩, fun y hy => by have := h2.2 y hy; omega, fun y hy => by have := h2.2 y hy; omega⟩
/-- A step. -/
theorem trod_op {fuel : Nat} {cs : List Value} {x : DataW H × List MemPlace} (h : DataW.trod enc Tryd.prog w base spare held fuel 129 cs = some x) :
    ∃ s : Step, cs = s.cells.toList ∧ RB w s.A s.r.Data ∧ RR w s.B s.l ∧ (Rows.uptoBulk x.1 ≤ 1048576 → Plays s.r s.l s.l.length) := by
  obtain ⟨xs, n, _, hx, hcl, hlen, hg⟩ := DataW.trod_struct Tryd.underlying129 h
  rw [cells_op] at hcl
  obtain ⟨c0, c1, c2, c3, c4, c5, c6, c7, c8, c9, c10, c11, c12, c13, c14, c15, rfl⟩ := list16 hcl
  obtain ⟨y0, y1, y2, y3, y4, rfl⟩ := list5 (l := xs) hlen
  have ci : Tryd.prog.cellsOf 3 = 1 := by kernel_rfl
  have cr : Tryd.prog.cellsOf 35 = 12 := cells_rec
  have cb : Tryd.prog.cellsOf 29 = 1 := by kernel_rfl
  obtain ⟨k, e0, z0, f0⟩ := DataW.trod_int Tryd.underlying3 (by simpa [ci] using hg 0 _ rfl)
  obtain ⟨r, A, c, dd, e1, hb, _, _, z1, hd⟩ := trod_rec (by simpa [cr] using hg 1 _ rfl)
  obtain ⟨to, e2, z2, f2⟩ := DataW.trod_int Tryd.underlying3 (by simpa [ci] using hg 2 _ rfl)
  obtain ⟨fr, e3, z3, f3⟩ := DataW.trod_int Tryd.underlying3 (by simpa [ci] using hg 3 _ rfl)
  obtain ⟨B, l, d, e4, hr, _, hN⟩ := trod_recs_bulk (by simpa [cb] using hg 4 _ rfl)
  simp only [Rec.cells, List.cons.injEq, and_true] at e0 e1 e2 e3 e4
  refine ⟨⟨k, r, A, c, to, fr, B, l, d⟩, ?_, hb, hr, fun hbulk => ?_⟩
  · obtain ⟨e1a, e1b, e1c, e1d, e1e, e1f, e1g, e1h, e1i, e1j, e1k, e1l⟩ := e1
    subst e0 e1a e1b e1c e1d e1e e1f e1g e1h e1i e1j e1k e1l e2 e3 e4
    rfl
  · rw [hx] at hbulk
    simp only [Rows.uptoBulk, List.map_cons, List.map_nil, Rows.uptoBulkAll] at hbulk
    refine plays_small (rec_bulk hd (N := 1048576) ?_) (hN 1048576 (by omega))
    rw [← z1]
    omega
/-- A script. -/
theorem trod_ops {fuel : Nat} {cs : List Value} {x : DataW H × List MemPlace} (h : DataW.trod enc Tryd.prog w base spare held fuel 83 cs = some x) :
    ∃ (A : Option Addr) (l : List Step) (c : Nat), cs = [.slice A l.length c] ∧ OR w A l ∧ (Rows.uptoBulk x.1 ≤ 1048576 → l.length ≤ 1048576 ∧ ∀ s ∈ l, Plays s.r s.l s.l.length) := by
  rcases open_slice Tryd.underlying83 h with ⟨rfl, rfl⟩ | ⟨a, len, cap, m, n, D, Pl, rfl, hb, hl, hm, hmm, rfl, hx⟩
  · exact ⟨none, [], 0, rfl, ⟨Reads.none_, (fun x hx => by cases hx), (fun x hx => by cases hx)⟩, fun _ => ⟨by simp, (fun y hy => by cases hy)⟩⟩
  · have hlm : len ≤ m := by rw [hmm]; split <;> omega
    have hall : ∀ i, i < len → ∃ y : Step, w.cells? base (a.add (i * 16)) 16 = some y.cells.toList ∧ RB w y.A y.r.Data ∧ RR w y.B y.l ∧ (Rows.uptoBulk (D i) ≤ 1048576 → Plays y.r y.l y.l.length) := by
      intro i hi
      obtain ⟨cs', h1, h2⟩ := hx i (by omega)
      rw [cells_op] at h1
      obtain ⟨s, rfl, b1, b2, b3⟩ := trod_op h2
      exact ⟨s, h1, b1, b2, b3⟩
    haveI : Inhabited Step := ⟨⟨0, Rec.zero, none, 0, 0, 0, none, [], 0⟩⟩
    obtain ⟨f, hf⟩ := choose_lt hall
    refine ⟨some a, (List.range len).map f, cap, by simp, ⟨⟨by rw [opCells_length], fun hn => ⟨a, rfl, ?_, ?_⟩⟩, ?_, ?_⟩, ?_⟩
    · simp at hn
      obtain ⟨h1, _⟩ := hf 0 hn
      obtain ⟨_, _, h3⟩ := World.cells?_some h1
      have := World.block_lt_of_cell? w _ ((h3 0 (by omega)).trans (by simp [Step.cells, opC]; rfl))
      rw [block_of_add, block_of_add] at this
      exact this
    · intro j u hu
      have hj : j < len * 16 := by
        have := (List.getElem?_eq_some_iff.1 hu).1
        rw [opCells_length] at this
        simpa using this
      have hk : j / 16 < len := by omega
      have hg : ((List.range len).map f)[j / 16]? = some (f (j / 16)) := by rw [List.getElem?_map, List.getElem?_range hk]; rfl
      have hr := opCells_get hg (j % 16) (by omega)
      rw [show j / 16 * 16 + j % 16 = j by omega, hu] at hr
      obtain ⟨h1, _⟩ := hf _ hk
      obtain ⟨_, _, h3⟩ := World.cells?_some h1
      have := h3 (j % 16) (by omega)
      rw [add_of_add, show j / 16 * 16 + j % 16 = j by omega, show ∀ i, (f (j / 16)).cells.toList[i]? = (f (j / 16)).cells[i]? by intro i; simp, ← hr] at this
      exact this
    · intro x hx
      obtain ⟨i, hi, rfl⟩ := List.mem_map.1 hx
      exact (hf i (by simpa using hi)).2.1
    · intro x hx
      obtain ⟨i, hi, rfl⟩ := List.mem_map.1 hx
      exact (hf i (by simpa using hi)).2.2.1
    · intro hN
      have hD : Rows.uptoBulkAll ((List.range len).map D) ≤ 1048576 := by
        simp only [Rows.uptoBulk] at hN
        omega
      constructor
      · have := bulk_len ((List.range len).map D)
        simp at this ⊢
        omega
      · intro y hy
        obtain ⟨i, hi, rfl⟩ := List.mem_map.1 hy
        have hi' : i < len := by simpa using hi
        refine (hf i hi').2.2.2 ?_
        have := bulk_mem (ds := (List.range len).map D) (d := D i) (List.mem_map.2 ⟨i, by simpa using hi', rfl⟩)
        omega
end
end Go.Proofs.YtjhiohjpkdjkoaaDoor
namespace Go.Proofs.YtjhiohjpkdjkoaaDoor
open Go.RowKit
attribute [local go_sem] Rec.size_ Rec.g0 Rec.g1 Rec.g2 Rec.g3 Rec.g4 Rec.g5 Rec.g6 Rec.g7 Rec.g8 Rec.g9 Rec.g10 Rec.g11 Rec.fold opC_size opC_0 opC_13 opC_14 opC_15

set_option maxHeartbeats 4000000 in
set_option maxRecDepth 100000 in
theorem upTo_calls (L : List Step) (A : Option Addr) (c : Nat) (lo hi : Int) (hL : L.length ≤ 1048576) (hp : ∀ s ∈ L, Plays s.r s.l s.l.length) (w : World) (hT : Tabs w) (ht : Tab w 2 waysL) (hR : RTabs w) (ho : OR w A L) :
    Calls Tryd.prog 73 #[.slice A L.length c, .int .i64 lo, .int .i64 hi] w fun e w' => e = .returned (.bool true) ∧ Below w.heap.size w w' := by
  have HB := Below.refl w.heap.size w
  have HT := Lib.hid hT
  have Ht := Lib.hid ht
  have HR := Lib.hid hR
  have Ho := Lib.hid ho
  have Hp := Lib.hid hp
  clear hT ht hR ho hp
  go_enter Tryd.func73, Tryd.ntmps73
  go_wp2
  go_loopg [7] L.length (fun m v7 wr => ∃ i : Nat, m + i = L.length ∧ v7 = .int .i64 i ∧ Aside (Below w.heap.size w wr))
  case atStart => exact ⟨0, by omega, rfl, HB⟩
  case round =>
    clear HB
    obtain ⟨i, hm, rfl, HA⟩ := hrel
    have HB := HA.out
    clear HA
    by_cases hlt : i < L.length
    · have s1 : decide ((i : Int) < (L.length : Int)) = true := by rw [decide_eq_true_eq]; omega
      have s1' : decide (i < L.length) = true := by rw [decide_eq_true_eq]; exact hlt
      obtain ⟨s, hs⟩ : ∃ s, L[i]? = some s := ⟨L[i], List.getElem?_eq_getElem hlt⟩
      have hsp := Hp.out _ (List.mem_of_getElem? hs)
      have hsd : RB w s.A s.r.Data := Ho.out.data _ (List.mem_of_getElem? hs)
      have hsr : RR w s.B s.l := Ho.out.recs _ (List.mem_of_getElem? hs)
      obtain ⟨ad, had, _, _⟩ := Ho.out.row.2 (by omega)
      have hld := fun (W : World) (hb : Below w.heap.size w W) => (Ho.out.next hb).load hs had
      have hk : ∀ (W : World), Below w.heap.size w W → W.cell? (ad.add (i * 16)) = some (.int .i64 s.k) := fun W hb => hld W hb 0 _ rfl
      have Hk := Lib.hid hk
      have Hld := Lib.hid hld
      subst had
      obtain ⟨k, r, Ar, cr, to, fr, B, l, d⟩ := s
      simp only [Step.cells] at Hld
      have cp := fun w => plays_calls k r Ar cr to fr l l.length B d hsp w
      have Cp := Lib.hid cp
      have xk := Hk.out _ HB
      clear hs hld hk cp hsp
      simp only at xk
      by_cases h1 : lo ≤ k
      · have t1 : decide (lo ≤ k) = true := decide_eq_true h1
        by_cases h2 : k ≤ hi
        · have t2 : decide (k ≤ hi) = true := decide_eq_true h2
          clear h1 h2
          go_wp2_with (first
            | ((with_reducible refine gate_dst (N := 34) rfl ?_); refine ev_load_at rfl rfl rfl (Hld.out _ HB) Tryd.underlying129 rfl op_size_ ?_)
            | (go_at_call 101; (with_reducible refine (Cp.out _ (HT.out.next HB) (Ht.out.next HB) (HR.out.next HB) (hsd.next HB) (hsr.next HB)).mono ?_); rintro e W1 ⟨rfl, hb⟩; have hgr := grown_of_below hb; replace HB := HB.grown hgr (by have := HB.size; omega) (by simp); clear hb hgr))
          go_roundg (gk - 1)
          case measure => omega
          case rel => exact ⟨i + 1, by omega, by go_num, HB⟩
        · have t2 : decide (k ≤ hi) = false := decide_eq_false h2
          clear h1 h2
          go_wp2
          go_roundg (gk - 1)
          case measure => omega
          case rel => exact ⟨i + 1, by omega, by go_num, HB⟩
      · have t1 : decide (lo ≤ k) = false := decide_eq_false h1
        clear h1
        go_wp2
        go_roundg (gk - 1)
        case measure => omega
        case rel => exact ⟨i + 1, by omega, by go_num, HB⟩
    · have s1 : decide ((i : Int) < (L.length : Int)) = false := by rw [decide_eq_false_iff_not]; omega
      have s1' : decide (i < L.length) = false := by rw [decide_eq_false_iff_not]; exact hlt
      go_wp2
      go_ret
      exact ⟨rfl, HB⟩
set_option maxRecDepth 100000 in
theorem liftUps_calls (L : List Step) (A : Option Addr) (c : Nat) (hL : L.length ≤ 1048576) (hp : ∀ s ∈ L, Plays s.r s.l s.l.length) (w : World) (hT : Tabs w) (ht : Tab w 2 waysL) (hR : RTabs w) (ho : OR w A L) :
    Calls Tryd.prog 16 #[.slice A L.length c] w fun e w' => e = .returned (.bool true) ∧ Below w.heap.size w w' := by
  have HB := Below.refl w.heap.size w
  have HT := Lib.hid hT
  have Ht := Lib.hid ht
  have HR := Lib.hid hR
  have Ho := Lib.hid ho
  have Hp := Lib.hid hp
  clear hT ht hR ho hp
  go_enter Tryd.func16, Tryd.ntmps16
  go_wp2_with (first
    | (go_at_call 48; (with_reducible refine (started_calls _ (HT.out.next HB) (Ht.out.next HB)).mono ?_); rintro e W1 ⟨rfl, hb⟩; have hgr := grown_of_below hb; replace HB := HB.grown hgr (by have := HB.size; omega) (by simp); clear hb hgr)
    | (go_at_call 73; (with_reducible refine (upTo_calls L A c 1 1 hL Hp.out _ (HT.out.next HB) (Ht.out.next HB) (HR.out.next HB) (Ho.out.next HB)).mono ?_); rintro e W2 ⟨rfl, hb⟩; have hgr := grown_of_below hb; replace HB := HB.grown hgr (by have := HB.size; omega) (by simp); clear hb hgr))
  go_ret
  exact ⟨rfl, HB⟩
set_option maxRecDepth 100000 in
theorem liftDowns_calls (L : List Step) (A : Option Addr) (c : Nat) (hL : L.length ≤ 1048576) (hp : ∀ s ∈ L, Plays s.r s.l s.l.length) (w : World) (hT : Tabs w) (ht : Tab w 2 waysL) (hR : RTabs w) (ho : OR w A L) :
    Calls Tryd.prog 17 #[.slice A L.length c] w fun e w' => e = .returned (.bool true) ∧ Below w.heap.size w w' := by
  have HB := Below.refl w.heap.size w
  have HT := Lib.hid hT
  have Ht := Lib.hid ht
  have HR := Lib.hid hR
  have Ho := Lib.hid ho
  have Hp := Lib.hid hp
  clear hT ht hR ho hp
  go_enter Tryd.func17, Tryd.ntmps17
  go_wp2_with (first
    | (go_at_call 48; (with_reducible refine (started_calls _ (HT.out.next HB) (Ht.out.next HB)).mono ?_); rintro e W1 ⟨rfl, hb⟩; have hgr := grown_of_below hb; replace HB := HB.grown hgr (by have := HB.size; omega) (by simp); clear hb hgr)
    | (go_at_call 73; (with_reducible refine (upTo_calls L A c 2 3 hL Hp.out _ (HT.out.next HB) (Ht.out.next HB) (HR.out.next HB) (Ho.out.next HB)).mono ?_); rintro e W2 ⟨rfl, hb⟩; have hgr := grown_of_below hb; replace HB := HB.grown hgr (by have := HB.size; omega) (by simp); clear hb hgr))
  go_ret
  exact ⟨rfl, HB⟩
set_option maxRecDepth 100000 in
theorem liftLists_calls (L : List Step) (A : Option Addr) (c : Nat) (hL : L.length ≤ 1048576) (hp : ∀ s ∈ L, Plays s.r s.l s.l.length) (w : World) (hT : Tabs w) (ht : Tab w 2 waysL) (hR : RTabs w) (ho : OR w A L) :
    Calls Tryd.prog 18 #[.slice A L.length c] w fun e w' => e = .returned (.bool true) ∧ Below w.heap.size w w' := by
  have HB := Below.refl w.heap.size w
  have HT := Lib.hid hT
  have Ht := Lib.hid ht
  have HR := Lib.hid hR
  have Ho := Lib.hid ho
  have Hp := Lib.hid hp
  clear hT ht hR ho hp
  go_enter Tryd.func18, Tryd.ntmps18
  go_wp2_with (first
    | (go_at_call 48; (with_reducible refine (started_calls _ (HT.out.next HB) (Ht.out.next HB)).mono ?_); rintro e W1 ⟨rfl, hb⟩; have hgr := grown_of_below hb; replace HB := HB.grown hgr (by have := HB.size; omega) (by simp); clear hb hgr)
    | (go_at_call 73; (with_reducible refine (upTo_calls L A c 4 4 hL Hp.out _ (HT.out.next HB) (Ht.out.next HB) (HR.out.next HB) (Ho.out.next HB)).mono ?_); rintro e W2 ⟨rfl, hb⟩; have hgr := grown_of_below hb; replace HB := HB.grown hgr (by have := HB.size; omega) (by simp); clear hb hgr))
  go_ret
  exact ⟨rfl, HB⟩
set_option maxRecDepth 100000 in
theorem liftPlays_calls (L : List Step) (A : Option Addr) (c : Nat) (hL : L.length ≤ 1048576) (hp : ∀ s ∈ L, Plays s.r s.l s.l.length) (w : World) (hT : Tabs w) (ht : Tab w 2 waysL) (hR : RTabs w) (ho : OR w A L) :
    Calls Tryd.prog 19 #[.slice A L.length c] w fun e w' => e = .returned (.bool true) ∧ Below w.heap.size w w' := by
  have HB := Below.refl w.heap.size w
  have HT := Lib.hid hT
  have Ht := Lib.hid ht
  have HR := Lib.hid hR
  have Ho := Lib.hid ho
  have Hp := Lib.hid hp
  clear hT ht hR ho hp
  go_enter Tryd.func19, Tryd.ntmps19
  go_wp2_with (first
    | (go_at_call 48; (with_reducible refine (started_calls _ (HT.out.next HB) (Ht.out.next HB)).mono ?_); rintro e W1 ⟨rfl, hb⟩; have hgr := grown_of_below hb; replace HB := HB.grown hgr (by have := HB.size; omega) (by simp); clear hb hgr)
    | (go_at_call 73; (with_reducible refine (upTo_calls L A c 1 5 hL Hp.out _ (HT.out.next HB) (Ht.out.next HB) (HR.out.next HB) (Ho.out.next HB)).mono ?_); rintro e W2 ⟨rfl, hb⟩; have hgr := grown_of_below hb; replace HB := HB.grown hgr (by have := HB.size; omega) (by simp); clear hb hgr))
  go_ret
  exact ⟨rfl, HB⟩
end Go.Proofs.YtjhiohjpkdjkoaaDoor
