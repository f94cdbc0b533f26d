/-
  The document's Split (annalsref12), with ends.
-/
import Derived.Test.YtikodgaomhmbmaaS2
set_option linter.unusedVariables false
set_option linter.unusedSimpArgs false
namespace Go.Proofs.Ytikodgaomhmbmaa
open Go.RowKit Go.Maps
attribute [local go_sem] Rec.size_ Rec.g0 Rec.g1 Rec.g2 Rec.g3 Rec.g4 Rec.g5 Rec.g6 Rec.g7 Rec.g8 Rec.g9 Rec.g10 Rec.g11 Rec.fold Rec.lit_fold

theorem over_take {R : List Rec} {s : Int} (h : endN (R.take R.length) s = 0) : over R s = false := by
  rw [List.take_length] at h
  simp [over, h]
theorem over_at {R : List Rec} {s : Int} {k : Nat} {r : Rec} (h : R[k]? = some r) (h1 : r.Saga = s) (h2 : r.Kind = 7) : over R s = true := (over_iff R s).2 ⟨r, List.mem_of_getElem? h, h2, h1⟩
theorem endN_step {R : List Rec} {s : Int} {k : Nat} {r : Rec} (hx : R[k]? = some r) (h : endN (R.take k) s = 0) (hn : ¬ (r.Saga = s ∧ r.Kind = 7)) : endN (R.take (k + 1)) s = 0 := by
  rw [List.take_add_one, hx, Option.toList, endN_snoc, h]
  have : ((r.Kind == 7) && (r.Saga == s)) = false := by
    rw [Bool.and_eq_false_iff]
    by_cases h1 : r.Saga = s
    · exact .inl (by simpa using fun h2 => hn ⟨h1, h2⟩)
    · exact .inr (by simpa using h1)
  rw [this]
  rfl

set_option maxHeartbeats 2000000 in
set_option maxRecDepth 100000 in
theorem ends_calls (l : List RA) (n : Nat) (hn : l.length = n) (A : Option Addr) (c : Nat) (hl : n ≤ 140737488351232) (s : Int) (R : List Rec) (hR : l.map (·.1) = R) (w : World) (hr : RR w A l) :
    Calls Try.prog 16 #[.slice A n c, .int .i64 s] w fun e w' => e = .returned (.bool (over R s)) ∧ Below w.heap.size w w' := by
  have HB := Below.refl w.heap.size w
  have Hr := Lib.hid hr
  have Hn := Lib.hid hn
  have HR := Lib.hid hR
  clear hr hn hR
  go_enter Try.func16, Try.ntmps16
  go_wp2
  go_loopg [5] n (fun m v5 wr => ∃ k : Nat, m + k = n ∧ v5 = .int .i64 k ∧ Aside (endN (R.take k) s = 0 ∧ Below w.heap.size w wr))
  case atStart => exact ⟨0, by omega, rfl, ⟨rfl, HB⟩⟩
  case round =>
    clear HB
    obtain ⟨k, hm, rfl, HA⟩ := hrel
    obtain ⟨h0, HB⟩ := HA.out
    clear HA
    have H0 := Lib.hid h0
    clear h0
    by_cases hlt : k < n
    · have s1 : decide ((k : Int) < (n : Int)) = true := by rw [decide_eq_true_eq]; omega
      have s1' : decide (k < n) = true := by rw [decide_eq_true_eq]; exact hlt
      obtain ⟨x, hx⟩ : ∃ x, l[k]? = some x := ⟨_, List.getElem?_eq_getElem (by rw [Hn.out]; exact hlt)⟩
      obtain ⟨r, Ar, cr⟩ := x
      have hxm : R[k]? = some r := by rw [← HR.out, List.getElem?_map, hx]; rfl
      obtain ⟨ad, had, _, _⟩ := Hr.out.get hx
      have hld := (Hr.out.next HB).load hx had
      have hc2 : wr.cell? { block := (ad.add (k * 12)).block, off := (ad.add (k * 12)).off + 2 } = some (.int .i64 r.Saga) := hld 2 _ rfl
      have hc1 : wr.cell? { block := (ad.add (k * 12)).block, off := (ad.add (k * 12)).off + 1 } = some (.int .i64 r.Kind) := hld 1 _ rfl
      have Hxm := Lib.hid hxm
      subst had
      clear hx hld hxm
      by_cases hs : r.Saga = s
      · have t1 : (r.Saga == s) = true := by simp [hs]
        have t1' : (r.Saga = s) = True := by simp [hs]
        by_cases hk : r.Kind = 7
        · have t2 : (r.Kind == 7) = true := by simp [hk]
          have t2' : (r.Kind = 7) = True := by simp [hk]
          have hov := over_at Hxm.out hs hk
          have Hov := Lib.hid hov
          clear hov hs hk
          go_wp2
          go_ret
          exact ⟨by rw [Hov.out]; rfl, HB⟩
        · have t2 : (r.Kind == 7) = false := by simp [hk]
          have t2' : (r.Kind = 7) = False := by simp [hk]
          have HH := Lib.hid (endN_step Hxm.out H0.out (fun h => hk h.2))
          clear hs hk
          go_wp2
          go_roundg (gk - 1)
          case measure => omega
          case rel => exact ⟨k + 1, by omega, by go_num, ⟨HH.out, HB⟩⟩
      · have t1 : (r.Saga == s) = false := by simp [hs]
        have t1' : (r.Saga = s) = False := by simp [hs]
        have HH := Lib.hid (endN_step Hxm.out H0.out (fun h => hs h.1))
        clear hs
        go_wp2
        go_roundg (gk - 1)
        case measure => omega
        case rel => exact ⟨k + 1, by omega, by go_num, ⟨HH.out, HB⟩⟩
    · obtain rfl : k = n := by omega
      have s1 : decide ((k : Int) < (k : Int)) = false := by simp
      have s1' : decide (k < k) = false := by simp
      have hov : over R s = false := over_take (by rw [← HR.out, List.length_map, Hn.out, HR.out]; exact H0.out)
      have Hov := Lib.hid hov
      clear hov
      go_wp2
      go_ret
      exact ⟨by rw [Hov.out]; rfl, HB⟩

set_option maxHeartbeats 4000000 in
set_option maxRecDepth 100000 in
theorem refSplit_calls (l : List RA) (n : Nat) (hn : l.length = n) (A : Option Addr) (c : Nat) (hl : n * 120 ≤ 140737488351232) (hfit : ∀ y ∈ l, y.1.Fits) (R : List Rec) (hR : l.map (·.1) = R) (na nd : Nat) (hna : (liveR R R).length = na) (hnd : (deadR R R).length = nd) (w : World) (hr : RR w A l) :
    Calls Try.prog 7 #[.slice A n c] w (SplitSaid R na nd w) := by
  have HB := Below.refl w.heap.size w
  have Hr := Lib.hid hr
  have Hn := Lib.hid hn
  have Hfit := Lib.hid hfit
  have HR := Lib.hid hR
  have Hna := Lib.hid hna
  have Hnd := Lib.hid hnd
  clear hr hn hfit hR hna hnd
  unfold SplitSaid
  go_enter Try.func7, Try.ntmps7
  go_wp2
  go_loopg [4, 5, 6] n (fun m v5 v6 v13 wr => ∃ (k i j : Nat) (A5 : Option Addr) (c5 : Nat) (A6 : Option Addr) (c6 : Nat) (os ds : List RA), m + k = n ∧ v13 = .int .i64 k ∧ v5 = .slice A5 i c5 ∧ v6 = .slice A6 j c6 ∧
    Aside (i ≤ k ∧ j ≤ k ∧ os.length = i ∧ ds.length = j ∧ os.map (·.1) = liveR R (R.take k) ∧ ds.map (·.1) = deadR R (R.take k) ∧ wr.ownsRow w.heap.size 25 12 (.slice A5 i c5) i (recCells os) ∧ wr.ownsRow w.heap.size 25 12 (.slice A6 j c6) j (recCells ds) ∧ OBs wr w.heap.size (bs os) ∧ OBs wr w.heap.size (bs ds) ∧
      ((Value.slice A5 i c5).ownBlock = none ∨ (Value.slice A5 i c5).ownBlock ≠ (Value.slice A6 j c6).ownBlock) ∧ AllApart (bs os) (bs ds) ∧ Below w.heap.size w wr))
  case atStart => exact ⟨0, 0, 0, none, 0, none, 0, [], [], by omega, rfl, rfl, rfl, ⟨by omega, by omega, rfl, rfl, rfl, rfl, own_nil _ _ _ _, own_nil _ _ _ _, OBs.nil, OBs.nil, .inl rfl, allApart_nil, HB⟩⟩
  case round =>
    clear HB
    obtain ⟨k, i, j, A5, c5, A6, c6, os, ds, hm, rfl, rfl, rfl, HA⟩ := hrel
    obtain ⟨hik, hjk, hoi, hdj, hos, hds, o5, o6, Q5, Q6, do5o6, hap, HB⟩ := HA.out
    clear HA
    have Hos := Lib.hid hos
    have Hds := Lib.hid hds
    have Hoi := Lib.hid hoi
    have Hdj := Lib.hid hdj
    have Hap := Lib.hid hap
    clear hos hds hoi hdj hap
    by_cases hlt : k < n
    · have s1 : decide ((k : Int) < (n : Int)) = true := by rw [decide_eq_true_eq]; omega
      have s1' : decide (k < n) = true := by rw [decide_eq_true_eq]; exact hlt
      obtain ⟨x, hx⟩ : ∃ x, l[k]? = some x := ⟨_, List.getElem?_eq_getElem (by rw [Hn.out]; exact hlt)⟩
      obtain ⟨r, Ar, cr⟩ := x
      have hxm : R[k]? = some r := by rw [← HR.out, List.getElem?_map, hx]; rfl
      have hxf : r.Fits := Hfit.out _ (List.mem_of_getElem? hx)
      have hrl := hxf.data
      have hxd : RB w Ar r.Data := Hr.out.data _ (List.mem_of_getElem? hx)
      have n3 : R.take (k + 1) = R.take k ++ [r] := by rw [List.take_add_one, hxm]; rfl
      have N3 := Lib.hid n3
      obtain ⟨ad, had, _, _⟩ := Hr.out.get hx
      have hld := fun (W : World) (hb : Below w.heap.size w W) => (Hr.out.next hb).load hx had
      have Hld := Lib.hid hld
      have h22 : ∀ (W : World), Below w.heap.size w W → W.cell? { block := (ad.add (k * 12)).block, off := (ad.add (k * 12)).off + 2 } = some (.int .i64 r.Saga) := fun W hb => hld W hb 2 _ rfl
      have hc2 := h22 _ HB
      subst had
      have do6o5 := own_sym do5o6
      clear hx hld n3 hxm hxf
      by_cases hov : over R r.Saga = true
      · have Hov := Lib.hid hov
        go_wp2_with (first
          | (go_at_call 16; (with_reducible refine (ends_calls l n Hn.out (some ad) c (by omega) r.Saga R HR.out _ (Hr.out.next HB)).mono ?_); rintro e W1 ⟨rfl, hb⟩; have hgr := grown_of_below hb; replace Q6 := Q6.kept hgr (by simp); replace Q5 := Q5.kept hgr (by simp); replace o5 := o5.kept hgr (by cases Value.ownBlock _ <;> simp); replace o6 := o6.kept hgr (by cases Value.ownBlock _ <;> simp); replace HB := HB.grown hgr (by have := HB.size; omega) (by simp); clear hb hgr)
          | ((with_reducible refine gate_dst (N := 25) rfl ?_); refine ev_load_at rfl rfl rfl (Hld.out _ HB) Try.underlying25 rfl rec_size ?_)
          | (go_at_call 17; (with_reducible refine (refClone_ob r Ar cr _ (hxd.next HB) hrl).mono ?_); rintro e W2 ⟨A9, c9, rfl, B9, hb⟩; have hgr := grown_of_below hb; have dQ5B9 := Q5.apart_new B9 (Nat.le_refl _); have dQ6B9 := Q6.apart_new B9 (Nat.le_refl _); replace B9 := B9.mono HB.size; replace Q6 := Q6.kept hgr (by simp); replace Q5 := Q5.kept hgr (by simp); replace o5 := o5.kept hgr (by cases Value.ownBlock _ <;> simp); replace o6 := o6.kept hgr (by cases Value.ownBlock _ <;> simp); replace HB := HB.grown hgr (by have := HB.size; omega) (by simp); clear hb hgr)
          | ((with_reducible refine gate_dst (N := 8) rfl ?_); refine ev_alloc rfl rfl _ rec_zero ?_; intro g8 W3 hg8 hsz hbn; have hgr := grown_of_below hbn; have no5g8 := own_new o5 hsz; have no6g8 := own_new o6 hsz; replace hg8 : Blk W3 g8 _ (Rec.zero.cells none 0) := hg8; have zg8 : w.heap.size ≤ g8 := (by have := HB.size; omega); replace B9 := B9.kept hgr (by simp); replace Q6 := Q6.kept hgr (by simp); replace Q5 := Q5.kept hgr (by simp); replace o5 := o5.kept hgr (by cases Value.ownBlock _ <;> simp); replace o6 := o6.kept hgr (by cases Value.ownBlock _ <;> simp); replace HB := HB.grown hgr (by have := HB.size; omega) (by simp); have hcg8 := hg8.cell; have hfg8 := hg8.frozen; clear hsz hbn hgr)
          | ((with_reducible refine gate_store (p := 8) rfl ?_); refine ev_store_row (cs := r.cells A9 c9) rfl rfl rfl hg8 rfl rfl rec_size rfl (cells_one _ _ _) ?_; intro W4 hgn hgr; replace B9 := B9.kept hgr (OB.ne_blk B9 hg8 (by decide)); replace Q6 := Q6.kept hgr (OBs.ne_blk Q6 hg8 (by decide)); replace Q5 := Q5.kept hgr (OBs.ne_blk Q5 hg8 (by decide)); replace o5 := o5.kept hgr (.inr no5g8); replace o6 := o6.kept hgr (.inr no6g8); replace HB := HB.grown hgr (by have := HB.size; omega) (by intro k e; injection e with e; omega); replace hg8 := hgn; replace hcg8 := hg8.cell; replace hfg8 := hg8.frozen; clear hgn hgr)
          | ((with_reducible refine gate_dst (N := 29) rfl ?_); refine wpList_load_row rfl _ _ rfl g8 rfl _ _ (0, 0) _ hg8 Try.underlying25 rfl rec_size ?_)
          | ((with_reducible refine gate_dst (N := 30) rfl ?_); refine ev_lit rfl rfl (r.cells A9 c9) 25 1 (by first | (go_simp; done) | (go_simp; rfl)) ?_; intro g9 W5 hg9 hsz hbn; have hgr := grown_of_below hbn; have ng8g9 : g8 ≠ g9 := (by have := hg8.lt; omega); have zg9 : w.heap.size ≤ g9 := (by have := HB.size; omega); replace B9 := B9.kept hgr (by simp); replace Q6 := Q6.kept hgr (by simp); replace Q5 := Q5.kept hgr (by simp); replace hg8 := hg8.grown hgr (by simp); replace o5 := o5.kept hgr (by cases Value.ownBlock _ <;> simp); replace o6 := o6.kept hgr (by cases Value.ownBlock _ <;> simp); replace HB := HB.grown hgr (by have := HB.size; omega) (by simp); have hcg9 := hg9.cell; have hfg9 := hg9.frozen; replace hcg8 := hg8.cell; replace hfg8 := hg8.frozen; clear hsz hbn hgr)
          | ((with_reducible refine gate_dst (N := 31) rfl ?_); refine ev_append rfl rfl Try.underlying22 info_rec rfl (by omega) rfl o6 rfl (hg9.reads (size := 12) (n := 1) rfl) (recCells_1 (l := [(r, A9, c9)])) (by omega) (by omega) (by have := HB.size; omega) ?_; intro A7 c7 W6 on hgr hat; have eo5o6 := own_apart_app o5 do5o6 hat; replace B9 := B9.kept hgr (OB.ne_own B9 o6 (by decide)); replace Q6 := Q6.kept hgr (OBs.ne_own Q6 o6 (by decide)); replace Q5 := Q5.kept hgr (OBs.ne_own Q5 o6 (by decide)); replace hg8 := hg8.grown hgr (fun e => no6g8 e.symm); replace o5 := o5.kept hgr (do5o6); replace HB := HB.grown hgr (by have := HB.size; omega) (own_base o6); replace do5o6 := eo5o6; clear eo5o6; replace o6 := on; replace hcg8 := hg8.cell; replace hfg8 := hg8.frozen; clear on hgr hat))
        go_roundg (gk - 1)
        case measure => omega
        case rel => exact ⟨k + 1, i, j + 1, A5, c5, A7, c7, os, ds ++ [(r, A9, c9)], by omega, by go_num, rfl, rfl, ⟨by omega, by omega, Hoi.out, by simp [Hdj.out], by rw [Hos.out, N3.out, liveR_snoc, Hov.out]; simp, by rw [List.map_append, Hds.out, N3.out, deadR_snoc, Hov.out]; simp, o5, by rw [recCells_append, recCells_one]; simpa [RA.cs] using o6, Q5, by rw [bs_snoc]; exact Q6.snoc B9 dQ6B9, do5o6, Hap.out.snoc_right dQ5B9, HB⟩⟩
      · have hov : over R r.Saga = false := by simpa using hov
        have Hov := Lib.hid hov
        go_wp2_with (first
          | (go_at_call 16; (with_reducible refine (ends_calls l n Hn.out (some ad) c (by omega) r.Saga R HR.out _ (Hr.out.next HB)).mono ?_); rintro e W1 ⟨rfl, hb⟩; have hgr := grown_of_below hb; replace Q6 := Q6.kept hgr (by simp); replace Q5 := Q5.kept hgr (by simp); replace o5 := o5.kept hgr (by cases Value.ownBlock _ <;> simp); replace o6 := o6.kept hgr (by cases Value.ownBlock _ <;> simp); replace HB := HB.grown hgr (by have := HB.size; omega) (by simp); clear hb hgr)
          | ((with_reducible refine gate_dst (N := 25) rfl ?_); refine ev_load_at rfl rfl rfl (Hld.out _ HB) Try.underlying25 rfl rec_size ?_)
          | (go_at_call 17; (with_reducible refine (refClone_ob r Ar cr _ (hxd.next HB) hrl).mono ?_); rintro e W2 ⟨A9, c9, rfl, B9, hb⟩; have hgr := grown_of_below hb; have dQ5B9 := Q5.apart_new B9 (Nat.le_refl _); have dQ6B9 := Q6.apart_new B9 (Nat.le_refl _); replace B9 := B9.mono HB.size; replace Q6 := Q6.kept hgr (by simp); replace Q5 := Q5.kept hgr (by simp); replace o5 := o5.kept hgr (by cases Value.ownBlock _ <;> simp); replace o6 := o6.kept hgr (by cases Value.ownBlock _ <;> simp); replace HB := HB.grown hgr (by have := HB.size; omega) (by simp); clear hb hgr)
          | ((with_reducible refine gate_dst (N := 8) rfl ?_); refine ev_alloc rfl rfl _ rec_zero ?_; intro g8 W3 hg8 hsz hbn; have hgr := grown_of_below hbn; have no5g8 := own_new o5 hsz; have no6g8 := own_new o6 hsz; replace hg8 : Blk W3 g8 _ (Rec.zero.cells none 0) := hg8; have zg8 : w.heap.size ≤ g8 := (by have := HB.size; omega); replace B9 := B9.kept hgr (by simp); replace Q6 := Q6.kept hgr (by simp); replace Q5 := Q5.kept hgr (by simp); replace o5 := o5.kept hgr (by cases Value.ownBlock _ <;> simp); replace o6 := o6.kept hgr (by cases Value.ownBlock _ <;> simp); replace HB := HB.grown hgr (by have := HB.size; omega) (by simp); have hcg8 := hg8.cell; have hfg8 := hg8.frozen; clear hsz hbn hgr)
          | ((with_reducible refine gate_store (p := 8) rfl ?_); refine ev_store_row (cs := r.cells A9 c9) rfl rfl rfl hg8 rfl rfl rec_size rfl (cells_one _ _ _) ?_; intro W4 hgn hgr; replace B9 := B9.kept hgr (OB.ne_blk B9 hg8 (by decide)); replace Q6 := Q6.kept hgr (OBs.ne_blk Q6 hg8 (by decide)); replace Q5 := Q5.kept hgr (OBs.ne_blk Q5 hg8 (by decide)); replace o5 := o5.kept hgr (.inr no5g8); replace o6 := o6.kept hgr (.inr no6g8); replace HB := HB.grown hgr (by have := HB.size; omega) (by intro k e; injection e with e; omega); replace hg8 := hgn; replace hcg8 := hg8.cell; replace hfg8 := hg8.frozen; clear hgn hgr)
          | ((with_reducible refine gate_dst (N := 33) rfl ?_); refine wpList_load_row rfl _ _ rfl g8 rfl _ _ (0, 0) _ hg8 Try.underlying25 rfl rec_size ?_)
          | ((with_reducible refine gate_dst (N := 34) rfl ?_); refine ev_lit rfl rfl (r.cells A9 c9) 25 1 (by first | (go_simp; done) | (go_simp; rfl)) ?_; intro g9 W5 hg9 hsz hbn; have hgr := grown_of_below hbn; have ng8g9 : g8 ≠ g9 := (by have := hg8.lt; omega); have zg9 : w.heap.size ≤ g9 := (by have := HB.size; omega); replace B9 := B9.kept hgr (by simp); replace Q6 := Q6.kept hgr (by simp); replace Q5 := Q5.kept hgr (by simp); replace hg8 := hg8.grown hgr (by simp); replace o5 := o5.kept hgr (by cases Value.ownBlock _ <;> simp); replace o6 := o6.kept hgr (by cases Value.ownBlock _ <;> simp); replace HB := HB.grown hgr (by have := HB.size; omega) (by simp); have hcg9 := hg9.cell; have hfg9 := hg9.frozen; replace hcg8 := hg8.cell; replace hfg8 := hg8.frozen; clear hsz hbn hgr)
          | ((with_reducible refine gate_dst (N := 35) rfl ?_); refine ev_append rfl rfl Try.underlying22 info_rec rfl (by omega) rfl o5 rfl (hg9.reads (size := 12) (n := 1) rfl) (recCells_1 (l := [(r, A9, c9)])) (by omega) (by omega) (by have := HB.size; omega) ?_; intro A7 c7 W6 on hgr hat; have eo6o5 := own_apart_app o6 do6o5 hat; replace B9 := B9.kept hgr (OB.ne_own B9 o5 (by decide)); replace Q6 := Q6.kept hgr (OBs.ne_own Q6 o5 (by decide)); replace Q5 := Q5.kept hgr (OBs.ne_own Q5 o5 (by decide)); replace hg8 := hg8.grown hgr (fun e => no5g8 e.symm); replace o6 := o6.kept hgr (do6o5); replace HB := HB.grown hgr (by have := HB.size; omega) (own_base o5); replace do6o5 := eo6o5; clear eo6o5; replace o5 := on; replace hcg8 := hg8.cell; replace hfg8 := hg8.frozen; clear on hgr hat))
        go_roundg (gk - 1)
        case measure => omega
        case rel => exact ⟨k + 1, i + 1, j, A7, c7, A6, c6, os ++ [(r, A9, c9)], ds, by omega, by go_num, rfl, rfl, ⟨by omega, by omega, by simp [Hoi.out], Hdj.out, by rw [List.map_append, Hos.out, N3.out, liveR_snoc, Hov.out]; simp, by rw [Hds.out, N3.out, deadR_snoc, Hov.out]; simp, by rw [recCells_append, recCells_one]; simpa [RA.cs] using o5, o6, by rw [bs_snoc]; exact Q5.snoc B9 dQ5B9, Q6, own_sym do6o5, Hap.out.snoc_left dQ6B9, HB⟩⟩
    · obtain rfl : k = n := by omega
      have s1 : decide ((k : Int) < (k : Int)) = false := by simp
      have s1' : decide (k < k) = false := by simp
      have n3 : R.take k = R := List.take_of_length_le (by rw [← HR.out, List.length_map, Hn.out]; omega)
      have hos := Hos.out
      have hds := Hds.out
      rw [n3] at hos hds
      have e1 : i = na := by have := congrArg List.length hos; rw [List.length_map, Hoi.out, Hna.out] at this; exact this
      have e2 : j = nd := by have := congrArg List.length hds; rw [List.length_map, Hdj.out, Hnd.out] at this; exact this
      have Hos2 := Lib.hid hos
      have Hds2 := Lib.hid hds
      clear hos hds n3 Hos Hds
      subst e1
      subst e2
      go_wp2
      go_ret2
      first | exact ⟨A5, c5, A6, c6, rfl, os, ds, ⟨Hos2.out, Hds2.out⟩, o5, o6, Q5, Q6, ⟨do5o6, Hap.out⟩, HB⟩ | exact ⟨A5, c5, A6, c6, os, ds, rfl, ⟨Hos2.out, Hds2.out⟩, o5, o6, Q5, Q6, ⟨do5o6, Hap.out⟩, HB⟩
end Go.Proofs.Ytikodgaomhmbmaa
