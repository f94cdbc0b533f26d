/-
  The walk of the law LiftEach.
-/
import Derived.Test.YtjhiohjpkdjkoaaDoorD4
set_option linter.unusedVariables false
set_option linter.unusedSimpArgs false
namespace Go.Proofs.YtjhiohjpkdjkoaaDoor
open Go.RowKit
attribute [local go_sem] Rec.size_ Rec.g0 Rec.g1 Rec.g2 Rec.g3 Rec.g4 Rec.g5 Rec.g6 Rec.g7 Rec.g8 Rec.g9 Rec.g10 Rec.g11 Rec.fold Rec.lit_fold Rec.same_self

theorem num_calls (v : Int) (w : World) : Calls Tryd.prog 33 #[.int .i64 v] w fun e w' => e = .returned (.int .i64 v) ∧ w = w' := by
  go_enter Tryd.func33, Tryd.ntmps33
  go_wp2
  go_ret
  exact ⟨rfl, rfl⟩

/-- The record that LiftEach asks ahead of all. -/
def endR : Rec := { Rec.zero with V := 2, Kind := 7, Saga := 9 }
theorem endR_chk : endR.chk = 0 := by decide +kernel
theorem endR_up : upE endR 3 = 0 ∧ upR endR 3 = { endR with V := 3 } := by
  have h : upE endR 3 = 0 := by unfold upE; rw [endR_chk]; decide +kernel
  refine ⟨h, ?_⟩
  unfold upR
  rw [if_pos h]
  exact (turn_23 (r := endR) rfl).1
theorem upAll_end (A : Option Addr) (c : Nat) (w : World) (hT : Tabs w) (ht : Tab w 2 waysL) (hr : Reads w w.heap.size 12 A 1 (endR.cells none 0).toList) :
    Calls Tryd.prog 32 #[.int .i64 3, .slice A 1 c] w fun e w' => ∃ g c', e = .returned (.tuple #[.slice (some ⟨g, 0, none⟩) 1 c', .int .i64 0, .int .i64 0]) ∧ w'.cell? ⟨g, 0, none⟩ = some (.int .i64 3) ∧ w'.cell? ⟨g, 2, none⟩ = some (.int .i64 9) ∧ Below w.heap.size w w' := by
  have hone : ∀ x ∈ [((endR, none, 0) : RA)], x = (endR, none, 0) := fun x hx => by simpa using hx
  have hR : RR w A [(endR, none, 0)] := ⟨by rw [recCells_one]; exact hr, fun x hx => by rw [hone x hx]; exact RB.nil⟩
  refine (upAll_calls 3 [(endR, none, 0)] A c (by decide) (fun y hy => by rw [hone y hy]; exact ⟨by decide, by decide⟩) w hT ht hR).mono fun e w' ⟨A', c', os, he, hos, ho, _, hb⟩ => ?_
  have e1 : upAllE 3 ([(endR, none, 0)].map (fun x : RA => x.1)) = 0 := by
    show upAllE 3 [endR] = 0
    unfold upAllE
    rw [if_pos (show known 3 = true by decide)]
    show (if upE endR 3 = 0 then _ else _) = _
    rw [if_pos endR_up.1]
    rfl
  have e2 : upAllAt 3 ([(endR, none, 0)].map (fun x : RA => x.1)) = 0 := by
    show upAllAt 3 [endR] = 0
    unfold upAllAt
    rw [if_pos (show known 3 = true by decide)]
    show (if upE endR 3 = 0 then _ else _) = _
    rw [if_pos endR_up.1]
    rfl
  have e3 : upAllR 3 ([(endR, none, 0)].map (fun x : RA => x.1)) = [{ endR with V := 3 }] := by
    unfold upAllR
    rw [if_pos e1]
    show [upR endR 3] = _
    rw [endR_up.2]
  rw [e1, e2] at he
  rw [e3] at hos
  obtain ⟨x, rfl⟩ : ∃ x, os = [x] := by
    cases os with
    | nil => simp at hos
    | cons x t => cases t with
      | nil => exact ⟨x, rfl⟩
      | cons y t => simp at hos
  have hx : x.1 = { endR with V := 3 } := by simpa using hos
  obtain ⟨g, rfl, _⟩ := own_at ho (by simp)
  refine ⟨g, c', he, ?_, ?_, hb⟩
  · exact ho.cells (g := g) rfl 0 _ (by rw [recCells_one, RA.cs_get, hx]; rfl)
  · exact ho.cells (g := g) rfl 2 _ (by rw [recCells_one, RA.cs_get, hx]; rfl)

/-- The first answer of LiftEach, its error's number and place named. -/
theorem upAll_named (to : Int) (l : List RA) (A : Option Addr) (c : Nat) (hl : l.length * 120 ≤ 140737488351232) (hfit : ∀ y ∈ l, y.1.Fits) :
    ∃ (ua ue : Int), ua = (upAllAt to (l.map (·.1)) : Int) ∧ ue = upAllE to (l.map (·.1)) ∧ ∀ (w : World), Tabs w → Tab w 2 waysL → RR w A l →
      Calls Tryd.prog 32 #[.int .i64 to, .slice A l.length c] w fun e w' => ∃ (A' : Option Addr) (c' : Nat) (os : List RA), e = .returned (.tuple #[.slice A' os.length c', .int .i64 ua, .int .i64 ue]) ∧ Aside (os.map (·.1) = upAllR to (l.map (·.1))) ∧
        w'.ownsRow w.heap.size 35 12 (.slice A' os.length c') os.length (recCells os) ∧ RUs w' os ∧ Below w.heap.size w w' :=
  ⟨_, _, rfl, rfl, fun w hT ht hr => (upAll_calls to l A c hl hfit w hT ht hr).mono fun e w' ⟨A', c', os, he, hos, ho, hS, hb⟩ => ⟨A', c', os, he, hos, ho, hS, hb⟩⟩

theorem os_nil {os : List RA} (h : os.map (·.1) = []) : os = [] := by simpa using h
theorem RUs.next {w w' : World} {os : List RA} (h : RUs w os) (hb : Below w.heap.size w w') : RUs w' os := fun x hx => (h x hx).next hb

set_option maxHeartbeats 4000000 in
set_option maxRecDepth 100000 in
theorem liftEach_lo (to : Int) (l : List RA) (A : Option Addr) (c : Nat) (hl : l.length * 120 ≤ 140737488351232) (hfit : ∀ y ∈ l, y.1.Fits) (w : World) (hT : Tabs w) (ht : Tab w 2 waysL) (hr : RR w A l) (h0 : to<1) :
    Calls Tryd.prog 5 #[.int .i64 to, .slice A l.length c] w fun e w' => e = .returned (.bool true) ∧ Below w.heap.size w w' := by
  have HB := Below.refl w.heap.size w
  obtain ⟨ua, ue, hua, hue, cu⟩ := upAll_named to l A c hl hfit
  have HT := Lib.hid hT
  have Ht := Lib.hid ht
  have Hr := Lib.hid hr
  have Hfit := Lib.hid hfit
  have Cu := Lib.hid cu
  have nx5 : True := trivial
  clear hT ht hr hfit cu
  have hk : known to = false := by unfold known; simp; omega
  have e2 : upAllE to (l.map (·.1)) = 3 := by unfold upAllE; rw [hk]; rfl
  obtain rfl : ue = 3 := hue.trans e2
  obtain rfl : ua = 0 := by rw [hua]; unfold upAllAt; rw [hk]; rfl
  have Hnil := Lib.hid (show upAllR to (l.map (·.1)) = [] by unfold upAllR; rw [e2]; rfl)
  have t1 : decide (to < 1) = true := by simp; omega
  clear h0 hk e2 hua hue
  go_enter Tryd.func5, Tryd.ntmps5
  go_wp2_with (first
    | (go_at_call 32; clear nx5; (with_reducible refine (Cu.out _ (HT.out.next HB) (Ht.out.next HB) (Hr.out.next HB)).mono ?_); rintro e W1 ⟨A5, c5, os, rfl, hos, o5, So, hb⟩; have hgr := grown_of_below hb; replace o5 := own_mono o5 HB.size; replace HB := HB.grown hgr (by have := HB.size; omega) (by simp); clear hb hgr; obtain rfl := os_nil (hos.trans Hnil.out))
    | ((with_reducible refine gate_dst (N := 23) rfl ?_); refine ev_lit rfl rfl (endR.cells none 0) 35 1 (by first | (go_simp; done) | (go_simp; rfl)) ?_; intro g1 W2 hg1 hsz hbn; have hgr := grown_of_below hbn; have zg1 : w.heap.size ≤ g1 := (by have := HB.size; omega); replace So := So.kept hgr (by simp); replace o5 := o5.kept hgr (by cases Value.ownBlock _ <;> simp); replace HB := HB.grown hgr (by have := HB.size; omega) (by simp); have hcg1 := hg1.cell; have hfg1 := hg1.frozen; clear hsz hbn hgr)
    | (go_at_call 32; (with_reducible refine (upAll_end _ _ _ (HT.out.next HB) (Ht.out.next HB) (hg1.reads (size := 12) (n := 1) rfl)).mono ?_); rintro e W3 ⟨g2, c6, rfl, x0, x2, hb⟩; have hgr := grown_of_below hb; replace So := So.kept hgr (by simp); replace hg1 := hg1.grown hgr (by simp); replace o5 := o5.kept hgr (by cases Value.ownBlock _ <;> simp); replace HB := HB.grown hgr (by have := HB.size; omega) (by simp); replace hcg1 := hg1.cell; replace hfg1 := hg1.frozen; clear hb hgr)
    | (go_at_call 33; (with_reducible refine (num_calls _ _).mono ?_); rintro e w1 ⟨rfl, rfl⟩))
  go_ret
  exact ⟨rfl, HB⟩
set_option maxHeartbeats 4000000 in
set_option maxRecDepth 100000 in
theorem liftEach_hi (to : Int) (l : List RA) (A : Option Addr) (c : Nat) (hl : l.length * 120 ≤ 140737488351232) (hfit : ∀ y ∈ l, y.1.Fits) (w : World) (hT : Tabs w) (ht : Tab w 2 waysL) (hr : RR w A l) (h0 : 3<to) :
    Calls Tryd.prog 5 #[.int .i64 to, .slice A l.length c] w fun e w' => e = .returned (.bool true) ∧ Below w.heap.size w w' := by
  have HB := Below.refl w.heap.size w
  obtain ⟨ua, ue, hua, hue, cu⟩ := upAll_named to l A c hl hfit
  have HT := Lib.hid hT
  have Ht := Lib.hid ht
  have Hr := Lib.hid hr
  have Hfit := Lib.hid hfit
  have Cu := Lib.hid cu
  have nx5 : True := trivial
  clear hT ht hr hfit cu
  have hk : known to = false := by unfold known; simp; omega
  have e2 : upAllE to (l.map (·.1)) = 3 := by unfold upAllE; rw [hk]; rfl
  obtain rfl : ue = 3 := hue.trans e2
  obtain rfl : ua = 0 := by rw [hua]; unfold upAllAt; rw [hk]; rfl
  have Hnil := Lib.hid (show upAllR to (l.map (·.1)) = [] by unfold upAllR; rw [e2]; rfl)
  have t1 : decide (to < 1) = false := by simp; omega
  have t4 : decide (3 < to) = true := by simp; omega
  clear h0 hk e2 hua hue
  go_enter Tryd.func5, Tryd.ntmps5
  go_wp2_with (first
    | (go_at_call 32; clear nx5; (with_reducible refine (Cu.out _ (HT.out.next HB) (Ht.out.next HB) (Hr.out.next HB)).mono ?_); rintro e W1 ⟨A5, c5, os, rfl, hos, o5, So, hb⟩; have hgr := grown_of_below hb; replace o5 := own_mono o5 HB.size; replace HB := HB.grown hgr (by have := HB.size; omega) (by simp); clear hb hgr; obtain rfl := os_nil (hos.trans Hnil.out))
    | ((with_reducible refine gate_dst (N := 23) rfl ?_); refine ev_lit rfl rfl (endR.cells none 0) 35 1 (by first | (go_simp; done) | (go_simp; rfl)) ?_; intro g1 W2 hg1 hsz hbn; have hgr := grown_of_below hbn; have zg1 : w.heap.size ≤ g1 := (by have := HB.size; omega); replace So := So.kept hgr (by simp); replace o5 := o5.kept hgr (by cases Value.ownBlock _ <;> simp); replace HB := HB.grown hgr (by have := HB.size; omega) (by simp); have hcg1 := hg1.cell; have hfg1 := hg1.frozen; clear hsz hbn hgr)
    | (go_at_call 32; (with_reducible refine (upAll_end _ _ _ (HT.out.next HB) (Ht.out.next HB) (hg1.reads (size := 12) (n := 1) rfl)).mono ?_); rintro e W3 ⟨g2, c6, rfl, x0, x2, hb⟩; have hgr := grown_of_below hb; replace So := So.kept hgr (by simp); replace hg1 := hg1.grown hgr (by simp); replace o5 := o5.kept hgr (by cases Value.ownBlock _ <;> simp); replace HB := HB.grown hgr (by have := HB.size; omega) (by simp); replace hcg1 := hg1.cell; replace hfg1 := hg1.frozen; clear hb hgr)
    | (go_at_call 33; (with_reducible refine (num_calls _ _).mono ?_); rintro e w1 ⟨rfl, rfl⟩))
  go_ret
  exact ⟨rfl, HB⟩

set_option maxHeartbeats 4000000 in
set_option maxRecDepth 100000 in
theorem liftEach_in (to : Int) (l : List RA) (A : Option Addr) (c : Nat) (hl : l.length * 120 ≤ 140737488351232) (hfit : ∀ y ∈ l, y.1.Fits) (w : World) (hT : Tabs w) (ht : Tab w 2 waysL) (hr : RR w A l) (h1 : ¬ to < 1) (h3 : ¬ 3 < to) :
    Calls Tryd.prog 5 #[.int .i64 to, .slice A l.length c] w fun e w' => e = .returned (.bool true) ∧ Below w.heap.size w w' := by
  have HB := Below.refl w.heap.size w
  obtain ⟨ua, ue, hua, hue, cu⟩ := upAll_named to l A c hl hfit
  have HT := Lib.hid hT
  have Ht := Lib.hid ht
  have Hr := Lib.hid hr
  have Hfit := Lib.hid hfit
  have Cu := Lib.hid cu
  have nx5 : True := trivial
  clear hT ht hr hfit cu
  have t1 : decide (to < 1) = false := by simp; omega
  have t3 : decide (3 < to) = false := by simp; omega
  have hk : known to = true := by unfold known; simp; omega
  have e1 : ua = (upsAt to (l.map (·.1)) 0 : Int) := by rw [hua]; unfold upAllAt; rw [hk]; rfl
  have e2 : ue = upsE to (l.map (·.1)) := by rw [hue]; unfold upAllE; rw [hk]; rfl
  have e3 : upAllR to (l.map (·.1)) = if ue = 0 then (l.map (·.1)).map (fun r => upR r to) else [] := by rw [hue]; rfl
  have E1 := Lib.hid e1
  have E2 := Lib.hid e2
  have E3 := Lib.hid e3
  clear h1 h3 hk e1 e2 e3 hua hue
  go_enter Tryd.func5, Tryd.ntmps5
  go_wp2_with (first
    | (go_at_call 32; clear nx5; (with_reducible refine (Cu.out _ (HT.out.next HB) (Ht.out.next HB) (Hr.out.next HB)).mono ?_); rintro e W1 ⟨A5, c5, os, rfl, hos, o5, So, hb⟩; have hgr := grown_of_below hb; replace o5 := own_mono o5 HB.size; replace HB := HB.grown hgr (by have := HB.size; omega) (by simp); clear hb hgr)
    | ((with_reducible refine gate_dst (N := 23) rfl ?_); refine ev_lit rfl rfl (endR.cells none 0) 35 1 (by first | (go_simp; done) | (go_simp; rfl)) ?_; intro g1 W2 hg1 hsz hbn; have hgr := grown_of_below hbn; have zg1 : w.heap.size ≤ g1 := (by have := HB.size; omega); replace So := So.kept hgr (by simp); replace o5 := o5.kept hgr (by cases Value.ownBlock _ <;> simp); replace HB := HB.grown hgr (by have := HB.size; omega) (by simp); have hcg1 := hg1.cell; have hfg1 := hg1.frozen; clear hsz hbn hgr)
    | (go_at_call 32; (with_reducible refine (upAll_end _ _ _ (HT.out.next HB) (Ht.out.next HB) (hg1.reads (size := 12) (n := 1) rfl)).mono ?_); rintro e W3 ⟨g2, c6, rfl, x0, x2, hb⟩; have hgr := grown_of_below hb; replace So := So.kept hgr (by simp); replace hg1 := hg1.grown hgr (by simp); replace o5 := o5.kept hgr (by cases Value.ownBlock _ <;> simp); replace HB := HB.grown hgr (by have := HB.size; omega) (by simp); replace hcg1 := hg1.cell; replace hfg1 := hg1.frozen; clear hb hgr)
    | (go_at_call 33; (with_reducible refine (num_calls _ _).mono ?_); rintro e w1 ⟨rfl, rfl⟩))
  have Hos := Lib.hid (hos.trans E3.out)
  clear hos x0 x2
  go_loopg [11] l.length (fun n v11 wr => ∃ k : Nat, n + k = l.length ∧ v11 = .int .i64 k ∧ Aside (upsAt to (l.map (·.1)) 0 = upsAt to ((l.map (·.1)).drop k) k ∧ upsE to (l.map (·.1)) = upsE to ((l.map (·.1)).drop k) ∧
    wr.ownsRow w.heap.size 35 12 (.slice A5 os.length c5) os.length (recCells os) ∧ RUs wr os ∧ Below w.heap.size w wr))
  case atStart => exact ⟨0, by omega, rfl, ⟨rfl, rfl, o5, So, HB⟩⟩
  case round =>
    clear o5 So HB
    obtain ⟨k, hn, rfl, HA⟩ := hrel
    obtain ⟨hat, he, o5, So, HB⟩ := HA.out
    clear HA
    have Hat := Lib.hid hat
    have He := Lib.hid he
    clear hat he
    by_cases hlt : k < l.length
    · obtain ⟨x, hx⟩ : ∃ x, l[k]? = some x := ⟨l[k], List.getElem?_eq_getElem hlt⟩
      obtain ⟨r, Ar, cr⟩ := x
      have hxm : (l.map (·.1))[k]? = some r := by rw [List.getElem?_map, hx]; rfl
      have hxf : r.Fits := Hfit.out _ (List.mem_of_getElem? hx)
      have hxd : RB w Ar r.Data := Hr.out.data _ (List.mem_of_getElem? hx)
      obtain ⟨ad, had, hadlt, _⟩ := Hr.out.get hx
      have hld := fun (W : World) (hb : Below w.heap.size w W) => (Hr.out.next hb).load hx had
      have Hld := Lib.hid hld
      subst had
      clear hx hld hadlt
      by_cases hu : upE r to = 0
      · have cu := fun (W : World) => up_calls r Ar cr to hxf W
        have huf := hxf.up to
        rw [hu] at cu
        have n1 : upsAt to (l.map (·.1)) 0 = upsAt to ((l.map (·.1)).drop (k + 1)) (k + 1) := by rw [Hat.out, upsAt_drop hxm, if_pos hu]
        have n2 : upsE to (l.map (·.1)) = upsE to ((l.map (·.1)).drop (k + 1)) := by rw [He.out, upsE_drop hxm, if_pos hu]
        have N1 := Lib.hid n1
        have N2 := Lib.hid n2
        clear n1 n2 hu Hat He
        by_cases hue0 : ue = 0
        · have hol : os.map (·.1) = (l.map (·.1)).map (fun r => upR r to) := by rw [Hos.out, if_pos hue0]
          have hlen : os.length = l.length := by simpa using congrArg List.length hol
          obtain ⟨x, hx⟩ : ∃ x, os[k]? = some x := ⟨os[k]'(by omega), List.getElem?_eq_getElem (by omega)⟩
          have hx1 : x.1 = upR r to := by
            have h1 : (os.map (·.1))[k]? = some x.1 := by rw [List.getElem?_map, hx]; rfl
            rw [hol, List.getElem?_map, hxm] at h1
            simpa using h1.symm
          generalize upR r to = u at cu huf hx1
          obtain ⟨u', Ax, cx⟩ := x
          have hx2 : u' = u := hx1
          subst hx2
          obtain ⟨g5, rfl, z5⟩ := own_at o5 (by omega)
          have Cw := Lib.hid cu
          have Hx := Lib.hid hx
          have hk5 : k < os.length := by omega
          have Hlen := Lib.hid hlen
          clear hol hx hx1 hxm hlen cu hue0
          go_wp2_with (first
            | ((with_reducible refine gate_dst (N := 78) rfl ?_); refine ev_load_at rfl rfl rfl (Hld.out _ HB) Tryd.underlying35 rfl rec_size ?_)
            | (go_at_call 34; (with_reducible refine (Cw.out _ (HT.out.next HB) (Ht.out.next HB) (hxd.next HB)).mono ?_); rintro e W1 ⟨A6, c6, rfl, hd6, hb⟩; have hgr := grown_of_below hb; replace So := So.kept hgr (by simp); replace o5 := o5.kept hgr (by cases Value.ownBlock _ <;> simp); replace HB := HB.grown hgr (by have := HB.size; omega) (by simp); clear hb hgr)
            | ((with_reducible refine gate_dst (N := 12) rfl ?_); refine ev_alloc rfl rfl _ rec_zero ?_; intro g1 W2 hg1 hsz hbn; have hgr := grown_of_below hbn; have no5g1 := own_new o5 hsz; replace hg1 : Blk W2 g1 _ (Rec.zero.cells none 0) := hg1; have zg1 : w.heap.size ≤ g1 := (by have := HB.size; omega); replace hd6 := hd6.kept hgr (by simp); replace So := So.kept hgr (by simp); replace o5 := o5.kept hgr (by cases Value.ownBlock _ <;> simp); replace HB := HB.grown hgr (by have := HB.size; omega) (by simp); have hcg1 := hg1.cell; have hfg1 := hg1.frozen; clear hsz hbn hgr)
            | ((with_reducible refine gate_store (p := 12) rfl ?_); refine ev_store_row (cs := u'.cells A6 c6) rfl rfl rfl hg1 rfl rfl rec_size rfl (cells_one _ _ _) ?_; intro W3 hgn hgr; replace hd6 := hd6.kept hgr (RU.ne_blk hd6 hg1 (by decide)); replace So := So.kept hgr (RUs.ne_blk So hg1 (by decide)); replace o5 := o5.kept hgr (.inr no5g1); replace HB := HB.grown hgr (by have := HB.size; omega) (by intro k e; injection e with e; omega); replace hg1 := hgn; replace hcg1 := hg1.cell; replace hfg1 := hg1.frozen; clear hgn hgr)
            | (go_at_call 33; (with_reducible refine (num_calls _ _).mono ?_); rintro e w1 ⟨rfl, rfl⟩))
          have hcl : ∀ (i : Nat) (v : Value), (u'.cells Ax cx)[i]? = some v → ∀ u : Later _, u.1.cell? ⟨g5, k * 12 + i, none⟩ = some v := fun i v hv u => by
            have hi : i < 12 := by have := (Array.getElem?_eq_some_iff.1 hv).1; simpa [Rec.cells] using this
            have hc := (own_next o5 u.2).cells (g := g5) rfl (k * 12 + i) v (by rw [recCells_get Hx.out i hi]; exact hv)
            rw [Addr.add_mid, Nat.zero_add] at hc
            exact hc
          have x0 : ∀ u : Later _, u.1.cell? ⟨g5, k * 12, none⟩ = some (.int .i64 u'.V) := hcl 0 _ rfl
          have x1 := hcl 1 _ rfl
          have x2 := hcl 2 _ rfl
          have x3 := hcl 3 _ rfl
          have x4 := hcl 4 _ rfl
          have x5 := hcl 5 _ rfl
          have x6 := hcl 6 _ rfl
          have x7 := hcl 7 _ rfl
          have x8 := hcl 8 _ rfl
          have x9 := hcl 9 _ rfl
          have x10 := hcl 10 _ rfl
          have x11 := hcl 11 _ rfl
          have hc1 := hg1.later
          have hax := (So _ (List.mem_of_getElem? Hx.out)).rb
          have ha6 := hd6.rb
          have hud := huf.data
          clear hcl hcg1 hfg1
          refine wp_region_later (by kernel_rfl) (by kernel_rfl) ?_
          repeat (go_big_quiet_step ((go_at_call 35; exact calls_later (refSame_calls _ _ _ _ _ _ _ (hax.later _) (ha6.later _) hud hud))))
          refine later_end (fun wq hbq => ?_)
          replace o5 := own_next o5 hbq
          replace So := So.next hbq
          replace HB := below_go HB hbq
          clear x0 x1 x2 x3 x4 x5 x6 x7 x8 x9 x10 x11 hc1
          go_wp2
          go_roundg (gk - 1)
          case measure => omega
          case rel => exact ⟨k + 1, by omega, by go_num, ⟨N1.out, N2.out, o5, So, HB⟩⟩
        · obtain rfl : os = [] := os_nil (by rw [Hos.out, if_neg hue0])
          generalize upR r to = u at cu huf
          have Cw := Lib.hid cu
          have t5 : decide ((k : Int) < 0) = false := by simp
          have t6 : decide (k < 0) = false := by simp
          clear cu hxm hue0
          go_wp2_with (first
            | ((with_reducible refine gate_dst (N := 78) rfl ?_); refine ev_load_at rfl rfl rfl (Hld.out _ HB) Tryd.underlying35 rfl rec_size ?_)
            | (go_at_call 34; (with_reducible refine (Cw.out _ (HT.out.next HB) (Ht.out.next HB) (hxd.next HB)).mono ?_); rintro e W1 ⟨A6, c6, rfl, hd6, hb⟩; have hgr := grown_of_below hb; replace So := So.kept hgr (by simp); replace o5 := o5.kept hgr (by cases Value.ownBlock _ <;> simp); replace HB := HB.grown hgr (by have := HB.size; omega) (by simp); clear hb hgr)
            | ((with_reducible refine gate_dst (N := 12) rfl ?_); refine ev_alloc rfl rfl _ rec_zero ?_; intro g1 W2 hg1 hsz hbn; have hgr := grown_of_below hbn; have no5g1 := own_new o5 hsz; replace hg1 : Blk W2 g1 _ (Rec.zero.cells none 0) := hg1; have zg1 : w.heap.size ≤ g1 := (by have := HB.size; omega); replace hd6 := hd6.kept hgr (by simp); replace So := So.kept hgr (by simp); replace o5 := o5.kept hgr (by cases Value.ownBlock _ <;> simp); replace HB := HB.grown hgr (by have := HB.size; omega) (by simp); have hcg1 := hg1.cell; have hfg1 := hg1.frozen; clear hsz hbn hgr)
            | ((with_reducible refine gate_store (p := 12) rfl ?_); refine ev_store_row (cs := u.cells A6 c6) rfl rfl rfl hg1 rfl rfl rec_size rfl (cells_one _ _ _) ?_; intro W3 hgn hgr; replace hd6 := hd6.kept hgr (RU.ne_blk hd6 hg1 (by decide)); replace So := So.kept hgr (RUs.ne_blk So hg1 (by decide)); replace o5 := o5.kept hgr (.inr no5g1); replace HB := HB.grown hgr (by have := HB.size; omega) (by intro k e; injection e with e; omega); replace hg1 := hgn; replace hcg1 := hg1.cell; replace hfg1 := hg1.frozen; clear hgn hgr)
            | (go_at_call 33; (with_reducible refine (num_calls _ _).mono ?_); rintro e w1 ⟨rfl, rfl⟩))
          refine wp_region_later (by kernel_rfl) (by kernel_rfl) ?_
          repeat (go_big_quiet_step (fail))
          refine later_end (fun wq hbq => ?_)
          replace o5 := own_next o5 hbq
          replace So := So.next hbq
          replace HB := below_go HB hbq
          go_wp2
          go_roundg (gk - 1)
          case measure => omega
          case rel => exact ⟨k + 1, by omega, by go_num, ⟨N1.out, N2.out, o5, So, HB⟩⟩
      · have n1 : ua = (k : Int) := by rw [E1.out, Hat.out, upsAt_drop hxm, if_neg hu]
        have n2 : ue = upE r to := by rw [E2.out, He.out, upsE_drop hxm, if_neg hu]
        have hue0 : ue ≠ 0 := by rw [n2]; exact hu
        obtain rfl : os = [] := os_nil (by rw [Hos.out, if_neg hue0])
        subst n1
        subst n2
        have t0 := int_bne_true hu
        have cu := fun (W : World) => up_calls r Ar cr to hxf W
        generalize upR r to = u at cu
        have Cw := Lib.hid cu
        clear hu hue0 hxm Hat He cu
        go_wp2_with (first
          | ((with_reducible refine gate_dst (N := 78) rfl ?_); refine ev_load_at rfl rfl rfl (Hld.out _ HB) Tryd.underlying35 rfl rec_size ?_)
          | (go_at_call 34; (with_reducible refine (Cw.out _ (HT.out.next HB) (Ht.out.next HB) (hxd.next HB)).mono ?_); rintro e W1 ⟨A6, c6, rfl, hd6, hb⟩; have hgr := grown_of_below hb; replace HB := HB.grown hgr (by have := HB.size; omega) (by simp); clear hb hgr)
          | ((with_reducible refine gate_dst (N := 12) rfl ?_); refine ev_alloc rfl rfl _ rec_zero ?_; intro g1 W2 hg1 hsz hbn; have hgr := grown_of_below hbn; replace hg1 : Blk W2 g1 _ (Rec.zero.cells none 0) := hg1; have zg1 : w.heap.size ≤ g1 := (by have := HB.size; omega); replace HB := HB.grown hgr (by have := HB.size; omega) (by simp); have hcg1 := hg1.cell; have hfg1 := hg1.frozen; clear hsz hbn hgr)
          | ((with_reducible refine gate_store (p := 12) rfl ?_); refine ev_store_row (cs := u.cells A6 c6) rfl rfl rfl hg1 rfl rfl rec_size rfl (cells_one _ _ _) ?_; intro W3 hgn hgr; replace HB := HB.grown hgr (by have := HB.size; omega) (by intro k e; injection e with e; omega); replace hg1 := hgn; replace hcg1 := hg1.cell; replace hfg1 := hg1.frozen; clear hgn hgr)
          | (go_at_call 33; (with_reducible refine (num_calls _ _).mono ?_); rintro e w1 ⟨rfl, rfl⟩))
        go_ret
        exact ⟨rfl, HB⟩
    · obtain rfl : k = l.length := by omega
      have n1 : ua = 0 := by rw [E1.out, Hat.out, List.drop_eq_nil_of_le (by simp)]; rfl
      subst n1
      have n2 : ue = 0 := by rw [E2.out, He.out, List.drop_eq_nil_of_le (by simp)]; rfl
      subst n2
      have hlen : os.length = l.length := by
        have := Hos.out
        rw [if_pos rfl] at this
        simpa using congrArg List.length this
      go_wp2_with (first
        | (go_at_call 33; (with_reducible refine (num_calls _ _).mono ?_); rintro e w1 ⟨rfl, rfl⟩))
      go_ret
      exact ⟨ret_bool (by simp), HB⟩

theorem liftEach_calls (to : Int) (l : List RA) (A : Option Addr) (c : Nat) (hl : l.length * 120 ≤ 140737488351232) (hfit : ∀ y ∈ l, y.1.Fits) (w : World) (hT : Tabs w) (ht : Tab w 2 waysL) (hr : RR w A l) :
    Calls Tryd.prog 5 #[.int .i64 to, .slice A l.length c] w fun e w' => e = .returned (.bool true) ∧ Below w.heap.size w w' := by
  by_cases h1 : to < 1
  · exact liftEach_lo to l A c hl hfit w hT ht hr h1
  by_cases h3 : 3 < to
  · exact liftEach_hi to l A c hl hfit w hT ht hr h3
  exact liftEach_in to l A c hl hfit w hT ht hr h1 h3
end Go.Proofs.YtjhiohjpkdjkoaaDoor
