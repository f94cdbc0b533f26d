/-
  rewrite.Split and the document's Split: the live and the dead records, each with data of its own.
-/
import Derived.Test.YtikodgaomhmbmaaS1
import Derived.Test.YtikodgaomhmbmaaH7
set_option linter.unusedVariables false
set_option linter.unusedSimpArgs false
namespace Go.Proofs.Ytikodgaomhmbmaa
open Go.RowKit Go.Maps
attribute [local go_sem] Rec.size_ Rec.g0 Rec.g1 Rec.g2 Rec.g3 Rec.g4 Rec.g5 Rec.g6 Rec.g7 Rec.g8 Rec.g9 Rec.g10 Rec.g11 Rec.fold Rec.lit_fold

/-- Has the saga an end among R? -/
def over (R : List Rec) (s : Int) : Bool := decide (0 < endN R s)
theorem over_iff (R : List Rec) (s : Int) : over R s = true ↔ ∃ r ∈ R, r.Kind = 7 ∧ r.Saga = s := by
  unfold over endN
  rw [decide_eq_true_eq, List.countP_pos_iff]
  simp
def liveR (R l : List Rec) : List Rec := l.filter fun r => !over R r.Saga
def deadR (R l : List Rec) : List Rec := l.filter fun r => over R r.Saga
theorem liveR_snoc (R l : List Rec) (r : Rec) : liveR R (l ++ [r]) = liveR R l ++ if over R r.Saga then [] else [r] := by
  unfold liveR
  rw [List.filter_append]
  cases h : over R r.Saga <;> simp [h]
theorem deadR_snoc (R l : List Rec) (r : Rec) : deadR R (l ++ [r]) = deadR R l ++ if over R r.Saga then [r] else [] := by
  unfold deadR
  rw [List.filter_append]
  cases h : over R r.Saga <;> simp [h]
theorem liveR_le (R l : List Rec) : (liveR R l).length ≤ l.length := List.length_filter_le _ _
theorem deadR_le (R l : List Rec) : (deadR R l).length ≤ l.length := List.length_filter_le _ _
theorem liveR_mem {R l : List Rec} {r : Rec} (h : r ∈ liveR R l) : r ∈ l := (List.mem_filter.1 h).1
theorem deadR_mem {R l : List Rec} {r : Rec} (h : r ∈ deadR R l) : r ∈ l := (List.mem_filter.1 h).1

/-- What both Splits hand out. -/
def SplitSaid (R : List Rec) (na nd : Nat) (w : World) (e : Ending) (w' : World) : Prop :=
  ∃ (A1 : Option Addr) (c1 : Nat) (A2 : Option Addr) (c2 : Nat) (os ds : List RA), e = .returned (.tuple #[.slice A1 na c1, .slice A2 nd c2]) ∧ Aside (os.map (·.1) = liveR R R ∧ ds.map (·.1) = deadR R R) ∧
    w'.ownsRow w.heap.size 25 12 (.slice A1 na c1) na (recCells os) ∧ w'.ownsRow w.heap.size 25 12 (.slice A2 nd c2) nd (recCells ds) ∧ OBs w' w.heap.size (bs os) ∧ OBs w' w.heap.size (bs ds) ∧
    Aside (((Value.slice A1 na c1).ownBlock = none ∨ (Value.slice A1 na c1).ownBlock ≠ (Value.slice A2 nd c2).ownBlock) ∧ AllApart (bs os) (bs ds)) ∧ Below w.heap.size w w'
theorem clone_ob (r : Rec) (A : Option Addr) (c : Nat) (w : World) (hr : RB w A r.Data) (hl : r.Data.length ≤ 140737488351232) :
    Calls Try.prog 15 #[.agg (r.cells A c)] w fun e w' => ∃ A' c', e = .returned (.agg (r.cells A' c')) ∧ OB w' w.heap.size A' c' r.Data ∧ Below w.heap.size w w' :=
  (clone_calls r A c w hr hl).mono fun e w' ⟨A', c', he, ho, hb⟩ => ⟨A', c', he, OB.of_own ho, hb⟩
theorem allApart_nil {q : List BA} : AllApart (bs []) q := fun x hx => by simp [bs] at hx
theorem AllApart.snoc_left {os : List RA} {q : List BA} {r : Rec} {A : Option Addr} {c : Nat} (h : AllApart (bs os) q) (hn : ∀ y ∈ q, Apart y.2.1 A) : AllApart (bs (os ++ [(r, A, c)])) q := fun x hx y hy => by
  rw [bs_snoc] at hx
  rcases List.mem_append.1 hx with hx | hx
  · exact h x hx y hy
  · obtain rfl : x = (r.Data, A, c) := by simpa using hx
    exact (hn y hy).symm
theorem AllApart.snoc_right {ds : List RA} {q : List BA} {r : Rec} {A : Option Addr} {c : Nat} (h : AllApart q (bs ds)) (hn : ∀ y ∈ q, Apart y.2.1 A) : AllApart q (bs (ds ++ [(r, A, c)])) := fun x hx y hy => by
  rw [bs_snoc] at hy
  rcases List.mem_append.1 hy with hy | hy
  · exact h x hx y hy
  · obtain rfl : y = (r.Data, A, c) := by simpa using hy
    exact hn x hx

set_option maxHeartbeats 4000000 in
set_option maxRecDepth 100000 in
theorem split_calls (l : List RA) (n : Nat) (hn : l.length = n) (A : Option Addr) (c : Nat) (hl : n * 120 ≤ 140737488351232) (hfit : ∀ y ∈ l, y.1.Fits) (hwf : ∀ y ∈ l, (Lit.int .i64 y.1.Saga).wf = true) (R : List Rec) (hR : l.map (·.1) = R) (na nd : Nat) (hna : (liveR R R).length = na) (hnd : (deadR R R).length = nd) (w : World) (hr : RR w A l) :
    Calls Try.prog 5 #[.slice A n c] w (SplitSaid R na nd w) := by
  have HB := Below.refl w.heap.size w
  have Hr := Lib.hid hr
  have Hn := Lib.hid hn
  have Hwf := Lib.hid hwf
  have Hfit := Lib.hid hfit
  have HR := Lib.hid hR
  have Hna := Lib.hid hna
  have Hnd := Lib.hid hnd
  clear hr hn hwf hfit hR hna hnd
  unfold SplitSaid
  go_enter Try.func5, Try.ntmps5
  go_wp2_with (first
    | (go_at_call 14; (with_reducible refine (ended_calls l n Hn.out A c (by omega) Hwf.out _ (Hr.out.next HB)).mono ?_); rintro e W1 ⟨D, rfl, M1, hDD, hb⟩; have hgr := grown_of_below hb; replace HB := HB.grown hgr (by have := HB.size; omega) (by simp); clear hb hgr))
  have Hcd := Lib.hid hDD.out.1
  rw [HR.out] at Hcd
  clear hDD
  go_loopg [5, 6, 13] n (fun m v5 v6 v13 wr => ∃ (k i j : Nat) (A5 : Option Addr) (c5 : Nat) (A6 : Option Addr) (c6 : Nat) (os ds : List RA), m + k = n ∧ v13 = .int .i64 k ∧ v5 = .slice A5 i c5 ∧ v6 = .slice A6 j c6 ∧
    Aside (i ≤ k ∧ j ≤ k ∧ os.length = i ∧ ds.length = j ∧ os.map (·.1) = liveR R (R.take k) ∧ ds.map (·.1) = deadR R (R.take k) ∧ MP wr w.heap.size n D ∧ wr.ownsRow w.heap.size 25 12 (.slice A5 i c5) i (recCells os) ∧ wr.ownsRow w.heap.size 25 12 (.slice A6 j c6) j (recCells ds) ∧ OBs wr w.heap.size (bs os) ∧ OBs wr w.heap.size (bs ds) ∧
      ((Value.slice A5 i c5).ownBlock = none ∨ (Value.slice A5 i c5).ownBlock ≠ (Value.slice A6 j c6).ownBlock) ∧ AllApart (bs os) (bs ds) ∧ Below w.heap.size w wr))
  case atStart => exact ⟨0, 0, 0, none, 0, none, 0, [], [], by omega, rfl, rfl, rfl, ⟨by omega, by omega, rfl, rfl, rfl, rfl, M1, own_nil _ _ _ _, own_nil _ _ _ _, OBs.nil, OBs.nil, .inl rfl, allApart_nil, HB⟩⟩
  case round =>
    clear HB M1
    obtain ⟨k, i, j, A5, c5, A6, c6, os, ds, hm, rfl, rfl, rfl, HA⟩ := hrel
    obtain ⟨hik, hjk, hoi, hdj, hos, hds, M1, o5, o6, Q5, Q6, do5o6, hap, HB⟩ := HA.out
    clear HA
    have Hos := Lib.hid hos
    have Hds := Lib.hid hds
    have Hoi := Lib.hid hoi
    have Hdj := Lib.hid hdj
    have Hap := Lib.hid hap
    clear hos hds hoi hdj hap
    by_cases hlt : k < n
    · have s1 : decide ((k : Int) < (n : Int)) = true := by rw [decide_eq_true_eq]; omega
      have s1' : decide (k < n) = true := by rw [decide_eq_true_eq]; exact hlt
      obtain ⟨x, hx⟩ : ∃ x, l[k]? = some x := ⟨_, List.getElem?_eq_getElem (by rw [Hn.out]; exact hlt)⟩
      obtain ⟨r, Ar, cr⟩ := x
      have hxm : R[k]? = some r := by rw [← HR.out, List.getElem?_map, hx]; rfl
      have hxf : r.Fits := Hfit.out _ (List.mem_of_getElem? hx)
      have hrl := hxf.data
      have hxd : RB w Ar r.Data := Hr.out.data _ (List.mem_of_getElem? hx)
      have hwfr := Hwf.out _ (List.mem_of_getElem? hx)
      have hkey : keyOf Try.prog 3 (.int .i64 r.Saga) = some (.int .i64 r.Saga) := keyOf_int_mk Try.underlying3 hwfr
      have n3 : R.take (k + 1) = R.take k ++ [r] := by rw [List.take_add_one, hxm]; rfl
      have N3 := Lib.hid n3
      have Hwfr := Lib.hid hwfr
      obtain ⟨ad, had, _, _⟩ := Hr.out.get hx
      have hld := fun (W : World) (hb : Below w.heap.size w W) => (Hr.out.next hb).load hx had
      have Hld := Lib.hid hld
      subst had
      have do6o5 := own_sym do5o6
      clear hx hld n3 hxm hwfr hxf
      obtain ⟨ctn, hctn⟩ : ∃ ctn, endN R r.Saga = ctn := ⟨_, rfl⟩
      have Hctn := Lib.hid hctn
      by_cases hov : over R r.Saga = true
      · have s2' : 0 < ctn := by rw [← hctn]; unfold over at hov; exact of_decide_eq_true hov
        have s2 : decide ((ctn : Int) > 0) = true := by rw [decide_eq_true_eq]; omega
        clear hctn
        go_wp2_with (first
          | ((with_reducible refine gate_dst (N := 16) rfl ?_); refine ev_load_at rfl rfl rfl (Hld.out _ HB) Try.underlying25 rfl rec_size ?_)
          | ((with_reducible refine gate_dst (N := 8) rfl ?_); refine ev_alloc rfl rfl _ rec_zero ?_; intro g8 W1 hg8 hsz hbn; have hgr := grown_of_below hbn; have no5g8 := own_new o5 hsz; have no6g8 := own_new o6 hsz; replace hg8 : Blk W1 g8 _ (Rec.zero.cells none 0) := hg8; have zg8 : w.heap.size ≤ g8 := (by have := HB.size; omega); replace M1 := M1.kept hgr (by simp); replace Q6 := Q6.kept hgr (by simp); replace Q5 := Q5.kept hgr (by simp); replace o5 := o5.kept hgr (by cases Value.ownBlock _ <;> simp); replace o6 := o6.kept hgr (by cases Value.ownBlock _ <;> simp); replace HB := HB.grown hgr (by have := HB.size; omega) (by simp); have hcg8 := hg8.cell; have hfg8 := hg8.frozen; clear hsz hbn hgr)
          | ((with_reducible refine gate_store (p := 8) rfl ?_); refine ev_store_row (cs := r.cells Ar cr) rfl rfl rfl hg8 rfl rfl rec_size rfl (cells_one _ _ _) ?_; intro W2 hgn hgr; replace M1 := M1.kept hgr (MP.ne_blk M1 hg8 (by decide)); replace Q6 := Q6.kept hgr (OBs.ne_blk Q6 hg8 (by decide)); replace Q5 := Q5.kept hgr (OBs.ne_blk Q5 hg8 (by decide)); replace o5 := o5.kept hgr (.inr no5g8); replace o6 := o6.kept hgr (.inr no6g8); replace HB := HB.grown hgr (by have := HB.size; omega) (by intro k e; injection e with e; omega); replace hg8 := hgn; replace hcg8 := hg8.cell; replace hfg8 := hg8.frozen; clear hgn hgr)
          | (at_lookup; refine wpList_lookup_own_int _ rfl _ _ 47 rfl 3 3 .i64 lawI Try.underlying47 Try.underlying3 (zeroI _) w.heap.size n _ rfl M1.owns _ _ rfl hkey ?_; intro ct hat hwc; obtain rfl := (Hcd.out.at_ Hwfr.out hat).trans (congrArg _ Hctn.out))
          | ((with_reducible refine gate_dst (N := 23) rfl ?_); refine wpList_load_row rfl _ _ rfl g8 rfl _ _ (0, 0) _ hg8 Try.underlying25 rfl rec_size ?_)
          | (go_at_call 15; (with_reducible refine (clone_ob r Ar cr _ (hxd.next HB) hrl).mono ?_); rintro e W3 ⟨A9, c9, rfl, B9, hb⟩; have hgr := grown_of_below hb; have dQ5B9 := Q5.apart_new B9 (Nat.le_refl _); have dQ6B9 := Q6.apart_new B9 (Nat.le_refl _); replace B9 := B9.mono HB.size; replace M1 := M1.kept hgr (by simp); replace Q6 := Q6.kept hgr (by simp); replace Q5 := Q5.kept hgr (by simp); replace hg8 := hg8.grown hgr (by simp); replace o5 := o5.kept hgr (by cases Value.ownBlock _ <;> simp); replace o6 := o6.kept hgr (by cases Value.ownBlock _ <;> simp); replace HB := HB.grown hgr (by have := HB.size; omega) (by simp); replace hcg8 := hg8.cell; replace hfg8 := hg8.frozen; clear hb hgr)
          | ((with_reducible refine gate_dst (N := 25) rfl ?_); refine ev_lit rfl rfl (r.cells A9 c9) 25 1 (by first | (go_simp; done) | (go_simp; rfl)) ?_; intro g9 W4 hg9 hsz hbn; have hgr := grown_of_below hbn; have ng8g9 : g8 ≠ g9 := (by have := hg8.lt; omega); have zg9 : w.heap.size ≤ g9 := (by have := HB.size; omega); replace B9 := B9.kept hgr (by simp); replace M1 := M1.kept hgr (by simp); replace Q6 := Q6.kept hgr (by simp); replace Q5 := Q5.kept hgr (by simp); replace hg8 := hg8.grown hgr (by simp); replace o5 := o5.kept hgr (by cases Value.ownBlock _ <;> simp); replace o6 := o6.kept hgr (by cases Value.ownBlock _ <;> simp); replace HB := HB.grown hgr (by have := HB.size; omega) (by simp); have hcg9 := hg9.cell; have hfg9 := hg9.frozen; replace hcg8 := hg8.cell; replace hfg8 := hg8.frozen; clear hsz hbn hgr)
          | ((with_reducible refine gate_dst (N := 26) rfl ?_); refine ev_append rfl rfl Try.underlying22 info_rec rfl (by omega) rfl o6 rfl (hg9.reads (size := 12) (n := 1) rfl) (recCells_1 (l := [(r, A9, c9)])) (by omega) (by omega) (by have := HB.size; omega) ?_; intro A7 c7 W5 on hgr hat; have eo5o6 := own_apart_app o5 do5o6 hat; replace B9 := B9.kept hgr (OB.ne_own B9 o6 (by decide)); replace M1 := M1.kept hgr (MP.ne_own M1 o6 (by decide)); replace Q6 := Q6.kept hgr (OBs.ne_own Q6 o6 (by decide)); replace Q5 := Q5.kept hgr (OBs.ne_own Q5 o6 (by decide)); replace hg8 := hg8.grown hgr (fun e => no6g8 e.symm); replace o5 := o5.kept hgr (do5o6); replace HB := HB.grown hgr (by have := HB.size; omega) (own_base o6); replace do5o6 := eo5o6; clear eo5o6; replace o6 := on; replace hcg8 := hg8.cell; replace hfg8 := hg8.frozen; clear on hgr hat))
        go_roundg (gk - 1)
        case measure => omega
        case rel => exact ⟨k + 1, i, j + 1, A5, c5, A7, c7, os, ds ++ [(r, A9, c9)], by omega, by go_num, rfl, rfl, ⟨by omega, by omega, Hoi.out, by simp [Hdj.out], by rw [Hos.out, N3.out, liveR_snoc, hov]; simp, by rw [List.map_append, Hds.out, N3.out, deadR_snoc, hov]; simp, M1, o5, by rw [recCells_append, recCells_one]; simpa [RA.cs] using o6, Q5, by rw [bs_snoc]; exact Q6.snoc B9 dQ6B9, do5o6, Hap.out.snoc_right dQ5B9, HB⟩⟩
      · have hov : over R r.Saga = false := by simpa using hov
        have s2' : ¬ 0 < ctn := by rw [← hctn]; unfold over at hov; exact of_decide_eq_false hov
        have s2 : decide ((ctn : Int) > 0) = false := by rw [decide_eq_false_iff_not]; omega
        clear hctn
        go_wp2_with (first
          | ((with_reducible refine gate_dst (N := 16) rfl ?_); refine ev_load_at rfl rfl rfl (Hld.out _ HB) Try.underlying25 rfl rec_size ?_)
          | ((with_reducible refine gate_dst (N := 8) rfl ?_); refine ev_alloc rfl rfl _ rec_zero ?_; intro g8 W1 hg8 hsz hbn; have hgr := grown_of_below hbn; have no5g8 := own_new o5 hsz; have no6g8 := own_new o6 hsz; replace hg8 : Blk W1 g8 _ (Rec.zero.cells none 0) := hg8; have zg8 : w.heap.size ≤ g8 := (by have := HB.size; omega); replace M1 := M1.kept hgr (by simp); replace Q6 := Q6.kept hgr (by simp); replace Q5 := Q5.kept hgr (by simp); replace o5 := o5.kept hgr (by cases Value.ownBlock _ <;> simp); replace o6 := o6.kept hgr (by cases Value.ownBlock _ <;> simp); replace HB := HB.grown hgr (by have := HB.size; omega) (by simp); have hcg8 := hg8.cell; have hfg8 := hg8.frozen; clear hsz hbn hgr)
          | ((with_reducible refine gate_store (p := 8) rfl ?_); refine ev_store_row (cs := r.cells Ar cr) rfl rfl rfl hg8 rfl rfl rec_size rfl (cells_one _ _ _) ?_; intro W2 hgn hgr; replace M1 := M1.kept hgr (MP.ne_blk M1 hg8 (by decide)); replace Q6 := Q6.kept hgr (OBs.ne_blk Q6 hg8 (by decide)); replace Q5 := Q5.kept hgr (OBs.ne_blk Q5 hg8 (by decide)); replace o5 := o5.kept hgr (.inr no5g8); replace o6 := o6.kept hgr (.inr no6g8); replace HB := HB.grown hgr (by have := HB.size; omega) (by intro k e; injection e with e; omega); replace hg8 := hgn; replace hcg8 := hg8.cell; replace hfg8 := hg8.frozen; clear hgn hgr)
          | (at_lookup; refine wpList_lookup_own_int _ rfl _ _ 47 rfl 3 3 .i64 lawI Try.underlying47 Try.underlying3 (zeroI _) w.heap.size n _ rfl M1.owns _ _ rfl hkey ?_; intro ct hat hwc; obtain rfl := (Hcd.out.at_ Hwfr.out hat).trans (congrArg _ Hctn.out))
          | ((with_reducible refine gate_dst (N := 28) rfl ?_); refine wpList_load_row rfl _ _ rfl g8 rfl _ _ (0, 0) _ hg8 Try.underlying25 rfl rec_size ?_)
          | (go_at_call 15; (with_reducible refine (clone_ob r Ar cr _ (hxd.next HB) hrl).mono ?_); rintro e W3 ⟨A9, c9, rfl, B9, hb⟩; have hgr := grown_of_below hb; have dQ5B9 := Q5.apart_new B9 (Nat.le_refl _); have dQ6B9 := Q6.apart_new B9 (Nat.le_refl _); replace B9 := B9.mono HB.size; replace M1 := M1.kept hgr (by simp); replace Q6 := Q6.kept hgr (by simp); replace Q5 := Q5.kept hgr (by simp); replace hg8 := hg8.grown hgr (by simp); replace o5 := o5.kept hgr (by cases Value.ownBlock _ <;> simp); replace o6 := o6.kept hgr (by cases Value.ownBlock _ <;> simp); replace HB := HB.grown hgr (by have := HB.size; omega) (by simp); replace hcg8 := hg8.cell; replace hfg8 := hg8.frozen; clear hb hgr)
          | ((with_reducible refine gate_dst (N := 30) rfl ?_); refine ev_lit rfl rfl (r.cells A9 c9) 25 1 (by first | (go_simp; done) | (go_simp; rfl)) ?_; intro g9 W4 hg9 hsz hbn; have hgr := grown_of_below hbn; have ng8g9 : g8 ≠ g9 := (by have := hg8.lt; omega); have zg9 : w.heap.size ≤ g9 := (by have := HB.size; omega); replace B9 := B9.kept hgr (by simp); replace M1 := M1.kept hgr (by simp); replace Q6 := Q6.kept hgr (by simp); replace Q5 := Q5.kept hgr (by simp); replace hg8 := hg8.grown hgr (by simp); replace o5 := o5.kept hgr (by cases Value.ownBlock _ <;> simp); replace o6 := o6.kept hgr (by cases Value.ownBlock _ <;> simp); replace HB := HB.grown hgr (by have := HB.size; omega) (by simp); have hcg9 := hg9.cell; have hfg9 := hg9.frozen; replace hcg8 := hg8.cell; replace hfg8 := hg8.frozen; clear hsz hbn hgr)
          | ((with_reducible refine gate_dst (N := 31) rfl ?_); refine ev_append rfl rfl Try.underlying22 info_rec rfl (by omega) rfl o5 rfl (hg9.reads (size := 12) (n := 1) rfl) (recCells_1 (l := [(r, A9, c9)])) (by omega) (by omega) (by have := HB.size; omega) ?_; intro A7 c7 W5 on hgr hat; have eo6o5 := own_apart_app o6 do6o5 hat; replace B9 := B9.kept hgr (OB.ne_own B9 o5 (by decide)); replace M1 := M1.kept hgr (MP.ne_own M1 o5 (by decide)); replace Q6 := Q6.kept hgr (OBs.ne_own Q6 o5 (by decide)); replace Q5 := Q5.kept hgr (OBs.ne_own Q5 o5 (by decide)); replace hg8 := hg8.grown hgr (fun e => no5g8 e.symm); replace o6 := o6.kept hgr (do6o5); replace HB := HB.grown hgr (by have := HB.size; omega) (own_base o5); replace do6o5 := eo6o5; clear eo6o5; replace o5 := on; replace hcg8 := hg8.cell; replace hfg8 := hg8.frozen; clear on hgr hat))
        go_roundg (gk - 1)
        case measure => omega
        case rel => exact ⟨k + 1, i + 1, j, A7, c7, A6, c6, os ++ [(r, A9, c9)], ds, by omega, by go_num, rfl, rfl, ⟨by omega, by omega, by simp [Hoi.out], Hdj.out, by rw [List.map_append, Hos.out, N3.out, liveR_snoc, hov]; simp, by rw [Hds.out, N3.out, deadR_snoc, hov]; simp, M1, by rw [recCells_append, recCells_one]; simpa [RA.cs] using o5, o6, by rw [bs_snoc]; exact Q5.snoc B9 dQ5B9, Q6, own_sym do6o5, Hap.out.snoc_left dQ6B9, HB⟩⟩
    · obtain rfl : k = n := by omega
      have s1 : decide ((k : Int) < (k : Int)) = false := by simp
      have s1' : decide (k < k) = false := by simp
      have n3 : R.take k = R := List.take_of_length_le (by rw [← HR.out, List.length_map, Hn.out]; omega)
      have hos := Hos.out
      have hds := Hds.out
      rw [n3] at hos hds
      have e1 : i = na := by have := congrArg List.length hos; rw [List.length_map, Hoi.out, Hna.out] at this; exact this
      have e2 : j = nd := by have := congrArg List.length hds; rw [List.length_map, Hdj.out, Hnd.out] at this; exact this
      have Hos2 := Lib.hid hos
      have Hds2 := Lib.hid hds
      clear hos hds n3 Hos Hds
      subst e1
      subst e2
      go_wp2
      go_ret2
      first | exact ⟨A5, c5, A6, c6, rfl, os, ds, ⟨Hos2.out, Hds2.out⟩, o5, o6, Q5, Q6, ⟨do5o6, Hap.out⟩, HB⟩ | exact ⟨A5, c5, A6, c6, os, ds, rfl, ⟨Hos2.out, Hds2.out⟩, o5, o6, Q5, Q6, ⟨do5o6, Hap.out⟩, HB⟩
end Go.Proofs.Ytikodgaomhmbmaa
