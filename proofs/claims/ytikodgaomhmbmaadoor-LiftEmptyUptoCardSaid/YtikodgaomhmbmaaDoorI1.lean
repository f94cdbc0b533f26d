/-
  The walk of annalslaw4.lifted: the data of all answers is their own.
-/
import Derived.Test.YtikodgaomhmbmaaDoorMD
import Derived.Test.YtikodgaomhmbmaaDoorM2
set_option linter.unusedVariables false
set_option linter.unusedSimpArgs false
namespace Go.Proofs.YtikodgaomhmbmaaDoor
open Go.RowKit
attribute [local go_sem] Rec.size_ Rec.g0 Rec.g1 Rec.g2 Rec.g3 Rec.g4 Rec.g5 Rec.g6 Rec.g7 Rec.g8 Rec.g9 Rec.g10 Rec.g11 Rec.fold Rec.lit_fold

/-- What Up and Down answer of these records. -/
noncomputable def bothR (to : Int) (L : List Rec) : List Rec := L.flatMap fun r => [upR r to, downR r to]
theorem bothR_len (to : Int) (L : List Rec) : (bothR to L).length = 2 * L.length := by
  unfold bothR
  induction L with
  | nil => rfl
  | cons r L ih => simp only [List.flatMap_cons, List.length_append, ih, List.length_cons, List.length_nil]; omega
theorem bothR_snoc (to : Int) (L : List Rec) (r : Rec) : bothR to (L ++ [r]) = bothR to L ++ [upR r to, downR r to] := by simp [bothR]
theorem bothR_fits {to : Int} {L : List Rec} (h : ∀ r ∈ L, r.Fits) : ∀ r ∈ bothR to L, r.Fits := fun r hr => by
  obtain ⟨x, hx, hr⟩ := List.mem_flatMap.1 hr
  simp only [List.mem_cons, List.not_mem_nil, or_false] at hr
  rcases hr with rfl | rfl
  · exact (h x hx).up to
  · exact (h x hx).down to
/-- Two records' cells. -/
def twoCells (u : Rec) (A : Option Addr) (c : Nat) (v : Rec) (B : Option Addr) (d : Nat) : Array Value :=
  #[.int .i64 u.V, .int .i64 u.Kind, .int .i64 u.Saga, .int .i64 u.Step, .int .i64 u.Try, .int .i64 u.At, .int .i64 u.Last, .int .i64 u.Code, .int .i64 u.Count, .int .i64 u.Pivot, .string u.Name, .slice A u.Data.length c,
    .int .i64 v.V, .int .i64 v.Kind, .int .i64 v.Saga, .int .i64 v.Step, .int .i64 v.Try, .int .i64 v.At, .int .i64 v.Last, .int .i64 v.Code, .int .i64 v.Count, .int .i64 v.Pivot, .string v.Name, .slice B v.Data.length d]
theorem twoCells_list (u : Rec) (A : Option Addr) (c : Nat) (v : Rec) (B : Option Addr) (d : Nat) : (twoCells u A c v B d).toList = recCells [(u, A, c), (v, B, d)] := rfl
def halfCells (u : Rec) (A : Option Addr) (c : Nat) : Array Value :=
  #[.int .i64 u.V, .int .i64 u.Kind, .int .i64 u.Saga, .int .i64 u.Step, .int .i64 u.Try, .int .i64 u.At, .int .i64 u.Last, .int .i64 u.Code, .int .i64 u.Count, .int .i64 u.Pivot, .string u.Name, .slice A u.Data.length c, Value.int IntKind.i64 0, Value.int IntKind.i64 0, Value.int IntKind.i64 0, Value.int IntKind.i64 0, Value.int IntKind.i64 0, Value.int IntKind.i64 0, Value.int IntKind.i64 0, Value.int IntKind.i64 0, Value.int IntKind.i64 0, Value.int IntKind.i64 0, Value.string { data := #[] }, Value.slice none 0 0]
theorem halfCells_size (u : Rec) (A : Option Addr) (c : Nat) : (halfCells u A c).size = 24 := rfl
theorem two_fold1 (u : Rec) (A : Option Addr) (c : Nat) : Array.foldl (fun (cs : Array Value) (x : Value × Nat) => cs.setIfInBounds x.snd x.fst) #[Value.int IntKind.i64 0, Value.int IntKind.i64 0, Value.int IntKind.i64 0, Value.int IntKind.i64 0, Value.int IntKind.i64 0, Value.int IntKind.i64 0, Value.int IntKind.i64 0, Value.int IntKind.i64 0, Value.int IntKind.i64 0, Value.int IntKind.i64 0, Value.string { data := #[] }, Value.slice none 0 0, Value.int IntKind.i64 0, Value.int IntKind.i64 0, Value.int IntKind.i64 0, Value.int IntKind.i64 0, Value.int IntKind.i64 0, Value.int IntKind.i64 0, Value.int IntKind.i64 0, Value.int IntKind.i64 0, Value.int IntKind.i64 0, Value.int IntKind.i64 0, Value.string { data := #[] }, Value.slice none 0 0] (u.cells A c).zipIdx 0 12 = halfCells u A c := by
  unfold Rec.cells halfCells
  simp [Array.zipIdx]
theorem two_fold2 (u : Rec) (A : Option Addr) (c : Nat) (v : Rec) (B : Option Addr) (d : Nat) : Array.foldl (fun (cs : Array Value) (x : Value × Nat) => cs.setIfInBounds (12 + x.snd) x.fst) (halfCells u A c) (v.cells B d).zipIdx 0 12 = twoCells u A c v B d := by
  unfold Rec.cells halfCells twoCells
  simp [Array.zipIdx]
attribute [local go_sem] halfCells_size two_fold1 two_fold2

/-- What lifted hands out. -/
def LiftedSaid (to : Int) (L : List Rec) (w : World) (e : Ending) (w' : World) : Prop :=
  ∃ (A' : Option Addr) (c' : Nat) (os : List RA), e = .returned (.slice A' ((upAllR to L).length + 2 * L.length) c') ∧ os.map (·.1) = upAllR to L ++ bothR to L ∧
    w'.ownsRow w.heap.size 27 12 (.slice A' ((upAllR to L).length + 2 * L.length) c') ((upAllR to L).length + 2 * L.length) (recCells os) ∧ OBs w' w.heap.size (bs os) ∧ Below w.heap.size w w'
set_option maxHeartbeats 4000000 in
set_option maxRecDepth 100000 in
theorem lifted_calls (to : Int) (l : List RA) (n : Nat) (hn : l.length = n) (A : Option Addr) (c : Nat) (hl : n ≤ 100000000000) (hfit : ∀ y ∈ l, y.1.Fits) (w : World) (hT : Tabs w) (ht : Tab w 1 waysL) (hr : RR w A l) :
    Calls Tryd.prog 31 #[.int .i64 to, .slice A n c] w (LiftedSaid to (l.map (·.1)) w) := by
  have HB := Below.refl w.heap.size w
  have HT := Lib.hid hT
  have Ht := Lib.hid ht
  have Hr := Lib.hid hr
  have Hfit := Lib.hid hfit
  have Hn := Lib.hid hn
  have hnm : (l.map (·.1)).length = n := by simpa using hn
  have hul : (upAllR to (l.map (·.1))).length ≤ n := by rw [← hnm]; exact (upAllR_fits (mapped hfit)).2
  have cu : ∀ w, Tabs w → Tab w 1 waysL → RR w A l → Calls Tryd.prog 23 #[.int .i64 to, .slice A n c] w fun e w' => ∃ (A' : Option Addr) (c' : Nat) (os : List RA), e = .returned (.tuple #[.slice A' (upAllR to (l.map (·.1))).length c', .int .i64 (upAllAt to (l.map (·.1))), .int .i64 (upAllE to (l.map (·.1)))]) ∧ Aside (os.map (·.1) = upAllR to (l.map (·.1))) ∧
      w'.ownsRow w.heap.size 27 12 (.slice A' (upAllR to (l.map (·.1))).length c') (upAllR to (l.map (·.1))).length (recCells os) ∧ OBs w' w.heap.size (bs os) ∧ Below w.heap.size w w' := fun w hT ht hr => by
    have := upAll_own to l A c (by omega) hfit w hT ht hr
    rw [hn] at this
    exact this.mono fun e w' ⟨A', c', os, he, hos, ho, hQ, hb⟩ => ⟨A', c', os, by rw [he, len_of_map hos], hos, by rw [← len_of_map hos]; exact ho, hQ, hb⟩
  have Hb := Lib.hid (bothR_fits (to := to) (mapped hfit))
  unfold LiftedSaid
  rw [hnm]
  generalize hX : upAllR to (l.map (·.1)) = X at cu hul
  generalize hua : ((upAllAt to (l.map (·.1)) : Nat) : Int) = ua at cu
  generalize hue : upAllE to (l.map (·.1)) = ue at cu
  have Cu := Lib.hid cu
  obtain ⟨n0, hn0⟩ : ∃ n0, X.length = n0 := ⟨_, rfl⟩
  rw [hn0] at Cu hul
  rw [hn0]
  clear hT ht hr hfit hn cu hX hua hue hn0 hnm
  go_enter Tryd.func31, Tryd.ntmps31
  go_wp2_with (first
    | (go_at_call 23; (with_reducible refine (Cu.out _ (HT.out.next HB) (Ht.out.next HB) (Hr.out.next HB)).mono ?_); rintro e W1 ⟨A1, c1, os1, rfl, hos1, o1, Q1, hb⟩; have hgr := grown_of_below hb; replace o1 := own_mono o1 HB.size; replace Q1 := Q1.mono HB.size; replace HB := HB.grown hgr (by have := HB.size; omega) (by simp); clear hb hgr))
  have Hos1 := Lib.hid hos1.out
  clear hos1
  go_loopg [5, 8] n (fun m v5 v8 wr => ∃ (k : Nat) (A' : Option Addr) (c' : Nat) (os : List RA), m + k = n ∧ v8 = .int .i64 k ∧ v5 = .slice A' (n0 + 2 * k) c' ∧
    Aside (os.map (·.1) = X ++ bothR to ((l.map (·.1)).take k) ∧ wr.ownsRow w.heap.size 27 12 (.slice A' (n0 + 2 * k) c') (n0 + 2 * k) (recCells os) ∧ OBs wr w.heap.size (bs os) ∧ Below w.heap.size w wr))
  case atStart => exact ⟨0, A1, c1, os1, by omega, rfl, rfl, ⟨by rw [Hos1.out]; simp [bothR], o1, Q1, HB⟩⟩
  case round =>
    clear HB o1 Q1
    obtain ⟨k, A2, c2, os, hm, rfl, rfl, HA⟩ := hrel
    obtain ⟨hos, o1, Q1, HB⟩ := HA.out
    clear HA
    have Hos := Lib.hid hos
    clear hos
    by_cases hlt : k < n
    · have s1 : decide ((k : Int) < (n : Int)) = true := by rw [decide_eq_true_eq]; omega
      have s1' : decide (k < n) = true := by rw [decide_eq_true_eq]; exact hlt
      obtain ⟨x, hx⟩ : ∃ x, l[k]? = some x := ⟨_, List.getElem?_eq_getElem (by rw [Hn.out]; exact hlt)⟩
      obtain ⟨r, Ar, cr⟩ := x
      have hxm : (l.map (·.1))[k]? = some r := by rw [List.getElem?_map, hx]; rfl
      have hxf : r.Fits := Hfit.out _ (List.mem_of_getElem? hx)
      have hxd : RB w Ar r.Data := Hr.out.data _ (List.mem_of_getElem? hx)
      obtain ⟨ad, had, hadlt, _⟩ := Hr.out.get hx
      have hld := fun (W : World) (hb : Below w.heap.size w W) => (Hr.out.next hb).load hx had
      have Hld := Lib.hid hld
      subst had
      have cu := fun W => up_own r Ar cr to hxf W
      have cd := fun W => down_own r Ar cr to hxf W
      have n3 : bothR to ((l.map (·.1)).take (k + 1)) = bothR to ((l.map (·.1)).take k) ++ [upR r to, downR r to] := by rw [List.take_add_one, hxm]; exact bothR_snoc to _ r
      generalize upR r to = u at cu n3
      generalize downR r to = v at cd n3
      generalize upE r to = ue at cu
      generalize downE r to = ve at cd
      have Cu := Lib.hid cu
      have Cd := Lib.hid cd
      have N3 := Lib.hid n3
      clear hx hld n3 hxm cu cd
      go_wp2_with (first
        | ((with_reducible refine gate_dst (N := 30) rfl ?_); refine ev_load_at rfl rfl rfl (Hld.out _ HB) Tryd.underlying27 rfl rec_size ?_)
        | (go_at_call 38; (with_reducible refine (Cu.out _ (HT.out.next HB) (Ht.out.next HB) (hxd.next HB)).mono ?_); rintro e W1 ⟨A5, c5, rfl, B5, hb⟩; have hgr := grown_of_below hb; have dQ1B5 := Q1.apart_new B5 (Nat.le_refl _); replace B5 := B5.mono HB.size; replace Q1 := Q1.kept hgr (by simp); replace o1 := o1.kept hgr (by cases Value.ownBlock _ <;> simp); replace HB := HB.grown hgr (by have := HB.size; omega) (by simp); clear hb hgr)
        | ((with_reducible refine gate_dst (N := 9) rfl ?_); refine ev_alloc rfl rfl _ rec_zero ?_; intro g1 W2 hg1 hsz hbn; have hgr := grown_of_below hbn; have no1g1 := own_new o1 hsz; replace hg1 : Blk W2 g1 _ (Rec.zero.cells none 0) := hg1; have zg1 : w.heap.size ≤ g1 := (by have := HB.size; omega); replace B5 := B5.kept hgr (by simp); replace Q1 := Q1.kept hgr (by simp); replace o1 := o1.kept hgr (by cases Value.ownBlock _ <;> simp); replace HB := HB.grown hgr (by have := HB.size; omega) (by simp); have hcg1 := hg1.cell; have hfg1 := hg1.frozen; clear hsz hbn hgr)
        | ((with_reducible refine gate_store (p := 9) rfl ?_); refine ev_store_row (cs := u.cells A5 c5) rfl rfl rfl hg1 rfl rfl rec_size rfl (cells_one _ _ _) ?_; intro W3 hgn hgr; replace B5 := B5.kept hgr (OB.ne_blk B5 hg1 (by decide)); replace Q1 := Q1.kept hgr (OBs.ne_blk Q1 hg1 (by decide)); replace o1 := o1.kept hgr (.inr no1g1); replace HB := HB.grown hgr (by have := HB.size; omega) (by intro k e; injection e with e; omega); replace hg1 := hgn; replace hcg1 := hg1.cell; replace hfg1 := hg1.frozen; clear hgn hgr)
        | ((with_reducible refine gate_dst (N := 39) rfl ?_); refine ev_load_at rfl rfl rfl (Hld.out _ HB) Tryd.underlying27 rfl rec_size ?_)
        | (go_at_call 40; (with_reducible refine (Cd.out _ (HT.out.next HB) (Ht.out.next HB) (hxd.next HB)).mono ?_); rintro e W4 ⟨A6, c6, rfl, B6, hb⟩; have hgr := grown_of_below hb; have dQ1B6 := Q1.apart_new B6 (Nat.le_refl _); have dB5B6 := B5.apart_new B6 (Nat.le_refl _); replace B6 := B6.mono HB.size; replace B5 := B5.kept hgr (by simp); replace Q1 := Q1.kept hgr (by simp); replace hg1 := hg1.grown hgr (by simp); replace o1 := o1.kept hgr (by cases Value.ownBlock _ <;> simp); replace HB := HB.grown hgr (by have := HB.size; omega) (by simp); replace hcg1 := hg1.cell; replace hfg1 := hg1.frozen; clear hb hgr)
        | ((with_reducible refine gate_dst (N := 11) rfl ?_); refine ev_alloc rfl rfl _ rec_zero ?_; intro g2 W5 hg2 hsz hbn; have hgr := grown_of_below hbn; have ng1g2 : g1 ≠ g2 := (by have := hg1.lt; omega); have no1g2 := own_new o1 hsz; replace hg2 : Blk W5 g2 _ (Rec.zero.cells none 0) := hg2; have zg2 : w.heap.size ≤ g2 := (by have := HB.size; omega); replace B6 := B6.kept hgr (by simp); replace B5 := B5.kept hgr (by simp); replace Q1 := Q1.kept hgr (by simp); replace hg1 := hg1.grown hgr (by simp); replace o1 := o1.kept hgr (by cases Value.ownBlock _ <;> simp); replace HB := HB.grown hgr (by have := HB.size; omega) (by simp); have hcg2 := hg2.cell; have hfg2 := hg2.frozen; replace hcg1 := hg1.cell; replace hfg1 := hg1.frozen; clear hsz hbn hgr)
        | ((with_reducible refine gate_store (p := 11) rfl ?_); refine ev_store_row (cs := v.cells A6 c6) rfl rfl rfl hg2 rfl rfl rec_size rfl (cells_one _ _ _) ?_; intro W6 hgn hgr; replace B6 := B6.kept hgr (OB.ne_blk B6 hg2 (by decide)); replace B5 := B5.kept hgr (OB.ne_blk B5 hg2 (by decide)); replace Q1 := Q1.kept hgr (OBs.ne_blk Q1 hg2 (by decide)); replace hg1 := hg1.grown hgr (by intro e; injection e with e; omega); replace o1 := o1.kept hgr (.inr no1g2); replace HB := HB.grown hgr (by have := HB.size; omega) (by intro k e; injection e with e; omega); replace hg2 := hgn; replace hcg1 := hg1.cell; replace hfg1 := hg1.frozen; replace hcg2 := hg2.cell; replace hfg2 := hg2.frozen; clear hgn hgr)
        | ((with_reducible refine gate_dst (N := 45) rfl ?_); refine wpList_load_row rfl _ _ rfl g1 rfl _ _ (0, 0) _ hg1 Tryd.underlying27 rfl rec_size ?_)
        | ((with_reducible refine gate_dst (N := 46) rfl ?_); refine wpList_load_row rfl _ _ rfl g2 rfl _ _ (0, 0) _ hg2 Tryd.underlying27 rfl rec_size ?_)
        | ((with_reducible refine gate_dst (N := 47) rfl ?_); refine ev_lit rfl rfl (twoCells u A5 c5 v A6 c6) 27 2 (by first | (go_simp; done) | (go_simp; rfl)) ?_; intro g5 W7 hg5 hsz hbn; have hgr := grown_of_below hbn; have ng1g5 : g1 ≠ g5 := (by have := hg1.lt; omega); have ng2g5 : g2 ≠ g5 := (by have := hg2.lt; omega); have zg5 : w.heap.size ≤ g5 := (by have := HB.size; omega); replace B6 := B6.kept hgr (by simp); replace B5 := B5.kept hgr (by simp); replace Q1 := Q1.kept hgr (by simp); replace hg1 := hg1.grown hgr (by simp); replace hg2 := hg2.grown hgr (by simp); replace o1 := o1.kept hgr (by cases Value.ownBlock _ <;> simp); replace HB := HB.grown hgr (by have := HB.size; omega) (by simp); have hcg5 := hg5.cell; have hfg5 := hg5.frozen; replace hcg1 := hg1.cell; replace hfg1 := hg1.frozen; replace hcg2 := hg2.cell; replace hfg2 := hg2.frozen; clear hsz hbn hgr)
        | ((with_reducible refine gate_dst (N := 48) rfl ?_); refine ev_append rfl rfl Tryd.underlying22 info_rec rfl (by omega) rfl o1 rfl (hg5.reads (size := 12) (n := 2) rfl) (by rw [twoCells_list]; exact recCells_1) (by omega) (by omega) (by have := HB.size; omega) ?_; intro A8 c8 W8 on hgr hat; replace B6 := B6.kept hgr (OB.ne_own B6 o1 (by decide)); replace B5 := B5.kept hgr (OB.ne_own B5 o1 (by decide)); replace Q1 := Q1.kept hgr (OBs.ne_own Q1 o1 (by decide)); replace hg1 := hg1.grown hgr (fun e => no1g1 e.symm); replace hg2 := hg2.grown hgr (fun e => no1g2 e.symm); replace HB := HB.grown hgr (by have := HB.size; omega) (own_base o1); replace o1 := on; replace hcg1 := hg1.cell; replace hfg1 := hg1.frozen; replace hcg2 := hg2.cell; replace hfg2 := hg2.frozen; clear on hgr hat))
      have Q2 := (Q1.snoc (y := (u.Data, A5, c5)) B5 dQ1B5).snoc (y := (v.Data, A6, c6)) B6 (fun x hx => by
        rcases List.mem_append.1 hx with hx | hx
        · exact dQ1B6 x hx
        · obtain rfl : x = (u.Data, A5, c5) := by simpa using hx
          exact dB5B6)
      go_roundg (gk - 1)
      case measure => omega
      case rel => exact ⟨k + 1, A8, c8, os ++ [(u, A5, c5), (v, A6, c6)], by omega, by go_num, rfl, ⟨by rw [List.map_append, Hos.out, N3.out, List.append_assoc]; rfl, by rw [recCells_append, ← twoCells_list]; exact o1, by simpa [bs] using Q2, HB⟩⟩
    · have s1 : decide ((k : Int) < (n : Int)) = false := by rw [decide_eq_false_iff_not]; omega
      have s1' : decide (k < n) = false := by rw [decide_eq_false_iff_not]; exact hlt
      obtain rfl : k = n := by omega
      have n3 : os.map (·.1) = X ++ bothR to (l.map (·.1)) := by rw [Hos.out, List.take_of_length_le (by rw [List.length_map, Hn.out]; omega)]
      go_wp2
      go_ret
      first | exact ⟨A2, c2, os, rfl, n3, o1, Q1, HB⟩ | exact ⟨A2, c2, rfl, os, n3, o1, Q1, HB⟩
/-- What lifted hands out, its records named. -/
theorem lifted_any (to : Int) (L : List Rec) (n : Nat) (hn : L.length = n) (hl : n ≤ 100000000000) (hfit : ∀ r ∈ L, r.Fits) :
    ∃ (X : List Rec) (m : Nat), X.length = m ∧ m ≤ 3 * n ∧ (∀ r ∈ X, r.Fits) ∧ ∀ (l : List RA) (A : Option Addr) (c : Nat) (w : World), l.map (·.1) = L → Tabs w → Tab w 1 waysL → RR w A l → Calls Tryd.prog 31 #[.int .i64 to, .slice A n c] w fun e w' => ∃ (A' : Option Addr) (c' : Nat) (os : List RA), e = .returned (.slice A' m c') ∧ Aside (os.map (·.1) = X) ∧
      w'.ownsRow w.heap.size 27 12 (.slice A' m c') m (recCells os) ∧ OBs w' w.heap.size (bs os) ∧ Below w.heap.size w w' := by
  obtain ⟨f1, f2⟩ := upAllR_fits (to := to) (l := L) hfit
  refine ⟨upAllR to L ++ bothR to L, (upAllR to L).length + 2 * L.length, by rw [List.length_append, bothR_len], by omega, fun r hr => ?_, fun l A c w hL hT ht hr => ?_⟩
  · rcases List.mem_append.1 hr with hr | hr
    · exact f1 r hr
    · exact bothR_fits hfit r hr
  · have hm : ∀ y ∈ l, y.1.Fits := fun y hy => hfit _ (hL ▸ List.mem_map.2 ⟨y, hy, rfl⟩)
    subst hL
    have hln : l.length = n := by simpa using hn
    exact (lifted_calls to l n hln A c hl hm w hT ht hr).mono fun e w' ⟨A', c', os, he, hos, ho, hQ, hb⟩ => ⟨A', c', os, he, hos, ho, hQ, hb⟩
end Go.Proofs.YtikodgaomhmbmaaDoor
