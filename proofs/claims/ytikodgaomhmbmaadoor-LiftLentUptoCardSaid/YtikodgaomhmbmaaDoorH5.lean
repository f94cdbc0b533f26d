/-
  The walk of the law LiftAgain.
-/
import Derived.Test.YtikodgaomhmbmaaDoorH4
import Derived.Test.YtikodgaomhmbmaaDoorM2
import Derived.Test.YtikodgaomhmbmaaDoorMD
set_option linter.unusedVariables false
set_option linter.unusedSimpArgs false
namespace Go.Proofs.YtikodgaomhmbmaaDoor
open Go.RowKit
attribute [local go_sem] Rec.size_ Rec.g0 Rec.g1 Rec.g2 Rec.g3 Rec.g4 Rec.g5 Rec.g6 Rec.g7 Rec.g8 Rec.g9 Rec.g10 Rec.g11 Rec.fold Rec.lit_fold Trn.size_ Trn.g0 Trn.g1 Trn.g2

/-! ### A list of changes -/
def trnCells (l : List Trn) : List Value := l.flatMap fun t => t.cells.toList
theorem trnCells_length (l : List Trn) : (trnCells l).length = l.length * 3 := by
  unfold trnCells
  induction l with
  | nil => rfl
  | cons x l ih => simp only [List.flatMap_cons, List.length_append, ih, List.length_cons]; simp [Trn.cells]; omega
theorem trnCells_get : ∀ {l : List Trn} {k : Nat} {t : Trn}, l[k]? = some t → ∀ i, i < 3 → (trnCells l)[k * 3 + i]? = t.cells[i]?
  | [], k, t, h => by simp at h
  | x :: l, 0, t, h => by
    simp at h
    subst h
    intro i hi
    simp only [trnCells, List.flatMap_cons, Nat.zero_mul, Nat.zero_add]
    rw [List.getElem?_append_left (by simpa [Trn.cells] using hi), Array.getElem?_toList]
  | x :: l, k + 1, t, h => by
    intro i hi
    have ih := trnCells_get (l := l) (k := k) (t := t) (by simpa using h) i hi
    simp only [trnCells, List.flatMap_cons] at ih ⊢
    rw [List.getElem?_append_right (by simp [Trn.cells]; omega)]
    rw [← ih]
    congr 1
    simp [Trn.cells]
    omega
/-- The slice value (A, l.length, whatever) reads as the changes l. -/
def RTn (w : World) (A : Option Addr) (l : List Trn) : Prop := Reads w w.heap.size 3 A l.length (trnCells l)
theorem RTn.next {w w' : World} {A : Option Addr} {l : List Trn} (h : RTn w A l) (hb : Below w.heap.size w w') : RTn w' A l := Reads.next h hb
theorem RTn.load {w : World} {A : Option Addr} {l : List Trn} (h : RTn w A l) {k : Nat} {t : Trn} (ht : l[k]? = some t) {ad : Addr} (he : A = some ad) : ∀ j v, t.cells[j]? = some v → w.cell? ((ad.add (k * 3)).add j) = some v := by
  have hk : k < l.length := (List.getElem?_eq_some_iff.1 ht).1
  obtain ⟨ad', e, _, hc⟩ := h.2 (by omega)
  rw [he] at e
  injection e with e
  subst e
  intro j v hv
  rw [add_of_add]
  have hj : j < 3 := by have := (Array.getElem?_eq_some_iff.1 hv).1; simpa [Trn.cells] using this
  exact hc _ _ (by rw [trnCells_get ht j hj, hv])
theorem trn_size : (Tryd.prog.info? 64).map (·.size) = some 3 := by kernel_rfl

/-! ### What is asked, its answers named -/
/-- UpAll and the reference's, of lists that hold the same records. -/
theorem upAll_any (to : Int) (L : List Rec) (n : Nat) (hn : L.length = n) (hl : n * 120 ≤ 140737488351232) (hfit : ∀ r ∈ L, r.Fits) (hnm : ∀ r ∈ L, r.Name.size ≤ 1099511627776) :
    ∃ (ua ue : Int) (X : List Rec), (∀ r ∈ X, r.Fits) ∧ X.length ≤ n ∧
      (∀ (l : List RA) (A : Option Addr) (c : Nat) w, l.map (·.1) = L → Tabs w → Tab w 1 waysL → RR w A l → Calls Tryd.prog 23 #[.int .i64 to, .slice A n c] w fun e w' => ∃ (A' : Option Addr) (c' : Nat) (os : List RA), e = .returned (.tuple #[.slice A' X.length c', .int .i64 ua, .int .i64 ue]) ∧ Aside (os.map (·.1) = X) ∧
        w'.ownsRow w.heap.size 27 12 (.slice A' X.length c') X.length (recCells os) ∧ RUs w' os ∧ Below w.heap.size w w') ∧
      (∀ (l : List RA) (A : Option Addr) (c : Nat) w, l.map (·.1) = L → RTabs w → RR w A l → Calls Tryd.prog 22 #[.int .i64 to, .slice A n c] w fun e w' => ∃ (A' : Option Addr) (c' : Nat) (os : List RA), e = .returned (.tuple #[.slice A' X.length c', .int .i64 ua, .int .i64 ue]) ∧ Aside (os.map (·.1) = X) ∧
        w'.ownsRow w.heap.size 27 12 (.slice A' X.length c') X.length (recCells os) ∧ RUs w' os ∧ Below w.heap.size w w') := by
  subst hn
  obtain ⟨f1, f2⟩ := upAllR_fits (to := to) (l := L) hfit
  refine ⟨upAllAt to L, upAllE to L, upAllR to L, f1, f2, fun l A c w hL hT ht hr => ?_, fun l A c w hL hR hr => ?_⟩
  · have hm : ∀ y ∈ l, y.1.Fits := fun y hy => hfit _ (hL ▸ List.mem_map.2 ⟨y, hy, rfl⟩)
    have hlen : l.length = L.length := len_of_map hL
    have := upAll_calls to l A c (by rw [hlen]; exact hl) hm w hT ht hr
    rw [hlen] at this
    subst hL
    exact this.mono fun e w' ⟨A', c', os, he, hos, ho, hS, hb⟩ => ⟨A', c', os, by rw [he, len_of_map hos], hos, by rw [← len_of_map hos]; exact ho, hS, hb⟩
  · have hm : ∀ y ∈ l, y.1.Fits := fun y hy => hfit _ (hL ▸ List.mem_map.2 ⟨y, hy, rfl⟩)
    have hm2 : ∀ y ∈ l, y.1.Name.size ≤ 1099511627776 := fun y hy => hnm _ (hL ▸ List.mem_map.2 ⟨y, hy, rfl⟩)
    have hlen : l.length = L.length := len_of_map hL
    have := refUpAll_calls to l A c (by rw [hlen]; exact hl) hm hm2 w hR hr
    rw [hlen] at this
    subst hL
    exact this.mono fun e w' ⟨A', c', os, he, hos, ho, hS, hb⟩ => ⟨A', c', os, by rw [he, len_of_map hos], hos, by rw [← len_of_map hos]; exact ho, hS, hb⟩
theorem refSameAll_n (l m : List RA) (n : Nat) (hn : l.length = n) (A B : Option Addr) (c d : Nat) (hlm : l.map (·.1) = m.map (·.1)) (hl : n ≤ 140737488351232) (hfit : ∀ y ∈ l, y.1.Fits) (w : World) (ha : RR w A l) (hb : RR w B m) :
    Calls Tryd.prog 25 #[.slice A n c, .slice B n d] w fun e w' => e = .returned (.bool true) ∧ Below w.heap.size w w' := by
  subst hn
  have := refSameAll_calls l m A B c d hlm hl hfit w ha hb
  rwa [map_len hlm.symm] at this

set_option maxHeartbeats 8000000 in
set_option maxRecDepth 100000 in
theorem liftAgain_calls (to : Int) (l : List RA) (A : Option Addr) (c : Nat) (ts : List Trn) (B : Option Addr) (d : Nat) (hl : l.length ≤ 1048576) (hsm : ∀ y ∈ l, y.1.Name.size ≤ 1048576 ∧ y.1.Data.length ≤ 1048576) (htl : ts.length ≤ 1048576) (w : World) (hT : Tabs w) (ht : Tab w 1 waysL) (hR : RTabs w) (hr : RR w A l) (hts : RTn w B ts) :
    Calls Tryd.prog 6 #[.int .i64 to, .slice A l.length c, .slice B ts.length d] w fun e w' => e = .returned (.bool true) ∧ Below w.heap.size w w' := by
  have HB := Below.refl w.heap.size w
  have HT := Lib.hid hT
  have Ht := Lib.hid ht
  have HR := Lib.hid hR
  have Hr := Lib.hid hr
  have Hts := Lib.hid hts
  have hfit : ∀ y ∈ l, y.1.Fits := fun y hy => ⟨by have := (hsm y hy).1; omega, by have := (hsm y hy).2; omega⟩
  have Hsm := Lib.hid hsm
  have Hfit := Lib.hid hfit
  obtain ⟨n, hn⟩ : ∃ n, l.length = n := ⟨_, rfl⟩
  have Hn := Lib.hid hn
  have hn2 : n ≤ 1048576 := by omega
  have cc := fun w => cloneAll_n l n hn A c (by omega) hfit w
  have Cc := Lib.hid cc
  rw [hn]
  clear hT ht hR hr hts hfit hsm hn hl cc
  go_enter Tryd.func6, Tryd.ntmps6
  go_wp2_with (first
    | (go_at_call 36; (with_reducible refine (Cc.out _ (Hr.out.next HB)).mono ?_); rintro e W1 ⟨A7, c7, os, rfl, hos, o7, Q7, hb⟩; have hgr := grown_of_below hb; replace o7 := own_mono o7 HB.size; replace Q7 := Q7.mono HB.size; replace HB := HB.grown hgr (by have := HB.size; omega) (by simp); clear hb hgr))
  have hM0 : Mine W1 w.heap.size n A7 c7 os := ⟨(map_len hos.out).trans Hn.out, o7, Q7, fun x hx => ⟨map_name hos.out (fun y hy => (Hsm.out y hy).1) x hx, map_data hos.out (fun y hy => (Hsm.out y hy).2) x hx⟩⟩
  clear hos o7 Q7
  go_loopg [8] (ts.length + 1) (fun m v8 wr => ∃ i : Nat, m + i = ts.length + 1 ∧ v8 = .int .i64 i ∧ Aside (∃ os, Mine wr w.heap.size n A7 c7 os ∧ Below w.heap.size w wr))
  case atStart => exact ⟨0, by omega, rfl, ⟨_, hM0, HB⟩⟩
  case round =>
    clear hM0 HB
    obtain ⟨gm, rfl⟩ : ∃ gm, gm = gk := ⟨_, rfl⟩
    obtain ⟨i, hm, rfl, HA⟩ := hrel
    obtain ⟨os, hM, HB⟩ := HA.out
    clear HA
    by_cases hlt : i ≤ ts.length
    · have s1 : decide ((i : Int) ≤ (ts.length : Int)) = true := by rw [decide_eq_true_eq]; omega
      have s1' : decide (i ≤ ts.length) = true := by rw [decide_eq_true_eq]; exact hlt
      obtain ⟨ua, ue, X, hx1, hx2, cu, cr⟩ := upAll_any to (os.map (·.1)) n (by simpa using hM.len) (by omega) (mapped hM.fits) (fun r hr => by obtain ⟨x, hx, rfl⟩ := List.mem_map.1 hr; exact hM.names x hx)
      have cc2 := fun w => cloneAll_n os n hM.len A7 c7 (by omega) hM.fits w
      have o7 := hM.row
      have Q7 := hM.dat
      have HM := Lib.hid hM
      have Hlen := Lib.hid hM.len
      have Cu := Lib.hid cu
      have Cr := Lib.hid cr
      have Cc2 := Lib.hid cc2
      have Hx := Lib.hid (And.intro hx1 hx2)
      have q1 : (ua == ua) = true := by simp
      have q2 : (ue == ue) = true := by simp
      have m1 : True := trivial
      clear cu cr cc2 hx1 hx2 hM
      go_wp2_with (first
        | (go_at_call 36; (with_reducible refine (Cc2.out _ (RR.of_own o7 Hlen.out Q7.recs)).mono ?_); rintro e W1 ⟨A9, c9, was, rfl, hwas, o9, Q9, hb⟩; have hgr := grown_of_below hb; have do7o9 := own_apart o7 o9 (Nat.le_refl _); replace o9 := own_mono o9 HB.size; have dQ7Q9 := Q7.aparts_new Q9 (Nat.le_refl _); replace Q9 := Q9.mono HB.size; replace Q7 := Q7.kept hgr (by simp); replace o7 := o7.kept hgr (by cases Value.ownBlock _ <;> simp); replace HB := HB.grown hgr (by have := HB.size; omega) (by simp); clear hb hgr)
        | (go_at_call 23; (with_reducible refine (Cu.out os A7 c7 _ rfl (HT.out.next HB) (Ht.out.next HB) (RR.of_own o7 Hlen.out Q7.recs)).mono ?_); rintro e W2 ⟨A10, c10, la, rfl, hla, o10, S10, hb⟩; have hgr := grown_of_below hb; have do7o10 := own_apart o7 o10 (Nat.le_refl _); have do9o10 := own_apart o9 o10 (Nat.le_refl _); replace o10 := own_mono o10 HB.size; replace Q9 := Q9.kept hgr (by simp); replace Q7 := Q7.kept hgr (by simp); replace o7 := o7.kept hgr (by cases Value.ownBlock _ <;> simp); replace o9 := o9.kept hgr (by cases Value.ownBlock _ <;> simp); replace HB := HB.grown hgr (by have := HB.size; omega) (by simp); clear hb hgr)
        | (go_at_call 22; (with_reducible refine (Cr.out was A9 c9 _ hwas.out (HR.out.next HB) (RR.of_own o9 ((map_len hwas.out).trans Hlen.out) Q9.recs)).mono ?_); rintro e W3 ⟨A13, c13, lb, rfl, hlb, o13, S13, hb⟩; have hgr := grown_of_below hb; have do7o13 := own_apart o7 o13 (Nat.le_refl _); have do9o13 := own_apart o9 o13 (Nat.le_refl _); have do10o13 := own_apart o10 o13 (Nat.le_refl _); replace o13 := own_mono o13 HB.size; replace S10 := S10.kept hgr (by simp); replace Q9 := Q9.kept hgr (by simp); replace Q7 := Q7.kept hgr (by simp); replace o7 := o7.kept hgr (by cases Value.ownBlock _ <;> simp); replace o9 := o9.kept hgr (by cases Value.ownBlock _ <;> simp); replace o10 := o10.kept hgr (by cases Value.ownBlock _ <;> simp); replace HB := HB.grown hgr (by have := HB.size; omega) (by simp); clear hb hgr)
        | (go_at_call 25; clear m1; (with_reducible refine (refSameAll_n la lb X.length (len_of_map hla.out) A10 A13 c10 c13 (hla.out.trans hlb.out.symm) (by have := Hx.out.2; omega) (fits_of_map hla.out Hx.out.1) _ (RR.of_own o10 (len_of_map hla.out) S10) (RR.of_own o13 (len_of_map hlb.out) S13)).mono ?_); rintro e W4 ⟨rfl, hb⟩; have hgr := grown_of_below hb; replace S13 := S13.kept hgr (by simp); replace S10 := S10.kept hgr (by simp); replace Q9 := Q9.kept hgr (by simp); replace Q7 := Q7.kept hgr (by simp); replace o7 := o7.kept hgr (by cases Value.ownBlock _ <;> simp); replace o9 := o9.kept hgr (by cases Value.ownBlock _ <;> simp); replace o10 := o10.kept hgr (by cases Value.ownBlock _ <;> simp); replace o13 := o13.kept hgr (by cases Value.ownBlock _ <;> simp); replace HB := HB.grown hgr (by have := HB.size; omega) (by simp); clear hb hgr)
        | (go_at_call 37; (with_reducible refine (num_calls _ _).mono ?_); rintro e w1 ⟨rfl, rfl⟩))
      have Hwas := Lib.hid hwas.out
      clear dQ7Q9 hwas hla hlb o10 S10 o13 S13 Hx Cu Cr Cc2 do7o9 do7o10 do9o10 do7o13 do9o13 do10o13
      go_loopg [16] n (fun m v16 wr => ∃ k : Nat, m + k = n ∧ v16 = .int .i64 k ∧ Aside (wr.ownsRow w.heap.size 27 12 (.slice A7 n c7) n (recCells os) ∧ OBs wr w.heap.size (bs os) ∧ wr.ownsRow w.heap.size 27 12 (.slice A9 n c9) n (recCells was) ∧ OBs wr w.heap.size (bs was) ∧ Below w.heap.size w wr))
      case atStart => exact ⟨0, by omega, rfl, ⟨o7, Q7, o9, Q9, HB⟩⟩
      case round =>
        clear o7 Q7 o9 Q9 HB
        obtain ⟨k, hn, rfl, HA⟩ := hrel
        obtain ⟨o7, Q7, o9, Q9, HB⟩ := HA.out
        clear HA
        by_cases hk : k < n
        · have r1 : decide ((k : Int) < (n : Int)) = true := by rw [decide_eq_true_eq]; omega
          have r1' : decide (k < n) = true := by rw [decide_eq_true_eq]; exact hk
          obtain ⟨x, hx⟩ : ∃ x, os[k]? = some x := ⟨_, List.getElem?_eq_getElem (by rw [Hlen.out]; exact hk)⟩
          obtain ⟨y, hy⟩ : ∃ y, was[k]? = some y := ⟨_, List.getElem?_eq_getElem (by rw [map_len Hwas.out, Hlen.out]; exact hk)⟩
          have hxy : y.1 = x.1 := by
            have h := congrArg (fun z => z[k]?) Hwas.out
            simp only [List.getElem?_map, hx, hy, Option.map_some, Option.some.injEq] at h
            exact h
          have hxf : x.1.Fits := HM.out.fits x (List.mem_of_getElem? hx)
          have hxn := HM.out.names x (List.mem_of_getElem? hx)
          obtain ⟨r, Ar, cr⟩ := x
          obtain ⟨r', Br, dr⟩ := y
          simp only at hxy
          subst hxy
          obtain ⟨g7, rfl, z7⟩ := own_at o7 (by omega)
          obtain ⟨g9, rfl, z9⟩ := own_at o9 (by omega)
          have cu := fun A c w => up_calls r' A c to hxf w
          have cr := fun A c w => refUp_calls r' A c to hxf hxn w
          have cd := fun A c w => down_calls r' A c to hxf w
          have ce := fun A c w => refDown_calls r' A c to hxf hxn w
          unfold MoveSaid at cr ce
          have huf : (upR r' to).Fits := hxf.up to
          have hdf : (downR r' to).Fits := hxf.down to
          generalize upR r' to = u at cu cr huf
          generalize upE r' to = ue at cu cr
          generalize downR r' to = v at cd ce hdf
          generalize downE r' to = ve at cd ce
          have hul := huf.data
          have hvl := hdf.data
          have Cu := Lib.hid cu
          have Cr := Lib.hid cr
          have Cd := Lib.hid cd
          have Ce := Lib.hid ce
          have Hx := Lib.hid hx
          have Hy := Lib.hid hy
          have q3 : (ue == ue) = true := by simp
          have q4 : (ve == ve) = true := by simp
          have m2 : True := trivial
          clear cu cr cd ce hx hy hxf hxn huf hdf
          go_wp2_with (first
            | ((with_reducible refine gate_dst (N := 74) rfl ?_); refine ev_load_at rfl rfl rfl (own_load2 o7 Hx.out) Tryd.underlying27 rfl rec_size ?_)
            | (go_at_call 38; (with_reducible refine (Cu.out _ _ _ (HT.out.next HB) (Ht.out.next HB) (Q7.rb_at Hx.out)).mono ?_); rintro e W1 ⟨A1, c1, rfl, hd1, hb⟩; have hgr := grown_of_below hb; replace Q9 := Q9.kept hgr (by simp); replace Q7 := Q7.kept hgr (by simp); replace o7 := o7.kept hgr (by cases Value.ownBlock _ <;> simp); replace o9 := o9.kept hgr (by cases Value.ownBlock _ <;> simp); replace HB := HB.grown hgr (by have := HB.size; omega) (by simp); clear hb hgr)
            | ((with_reducible refine gate_dst (N := 17) rfl ?_); refine ev_alloc rfl rfl _ rec_zero ?_; intro g1 W2 hg1 hsz hbn; have hgr := grown_of_below hbn; have no7g1 := own_new o7 hsz; have no9g1 := own_new o9 hsz; replace hg1 : Blk W2 g1 _ (Rec.zero.cells none 0) := hg1; have zg1 : w.heap.size ≤ g1 := (by have := HB.size; omega); replace hd1 := hd1.kept hgr (by simp); replace Q9 := Q9.kept hgr (by simp); replace Q7 := Q7.kept hgr (by simp); replace o7 := o7.kept hgr (by cases Value.ownBlock _ <;> simp); replace o9 := o9.kept hgr (by cases Value.ownBlock _ <;> simp); replace HB := HB.grown hgr (by have := HB.size; omega) (by simp); have hcg1 := hg1.cell; have hfg1 := hg1.frozen; clear hsz hbn hgr)
            | ((with_reducible refine gate_store (p := 17) rfl ?_); refine ev_store_row (cs := u.cells A1 c1) rfl rfl rfl hg1 rfl rfl rec_size rfl (cells_one _ _ _) ?_; intro W3 hgn hgr; replace hd1 := hd1.kept hgr (RU.ne_blk hd1 hg1 (by decide)); replace Q9 := Q9.kept hgr (OBs.ne_blk Q9 hg1 (by decide)); replace Q7 := Q7.kept hgr (OBs.ne_blk Q7 hg1 (by decide)); replace o7 := o7.kept hgr (.inr no7g1); replace o9 := o9.kept hgr (.inr no9g1); replace HB := HB.grown hgr (by have := HB.size; omega) (by intro k e; injection e with e; omega); replace hg1 := hgn; replace hcg1 := hg1.cell; replace hfg1 := hg1.frozen; clear hgn hgr)
            | ((with_reducible refine gate_dst (N := 83) rfl ?_); refine ev_load_at rfl rfl rfl (own_load2 o9 Hy.out) Tryd.underlying27 rfl rec_size ?_)
            | (go_at_call 39; (with_reducible refine (Cr.out _ _ _ (HR.out.next HB) (Q9.rb_at Hy.out)).mono ?_); rintro e W4 ⟨A2, c2, rfl, hd2, hb⟩; have hgr := grown_of_below hb; replace hd1 := hd1.kept hgr (by simp); replace Q9 := Q9.kept hgr (by simp); replace Q7 := Q7.kept hgr (by simp); replace hg1 := hg1.grown hgr (by simp); replace o7 := o7.kept hgr (by cases Value.ownBlock _ <;> simp); replace o9 := o9.kept hgr (by cases Value.ownBlock _ <;> simp); replace HB := HB.grown hgr (by have := HB.size; omega) (by simp); replace hcg1 := hg1.cell; replace hfg1 := hg1.frozen; clear hb hgr)
            | ((with_reducible refine gate_dst (N := 19) rfl ?_); refine ev_alloc rfl rfl _ rec_zero ?_; intro g2 W5 hg2 hsz hbn; have hgr := grown_of_below hbn; have ng1g2 : g1 ≠ g2 := (by have := hg1.lt; omega); have no7g2 := own_new o7 hsz; have no9g2 := own_new o9 hsz; replace hg2 : Blk W5 g2 _ (Rec.zero.cells none 0) := hg2; have zg2 : w.heap.size ≤ g2 := (by have := HB.size; omega); replace hd2 := hd2.kept hgr (by simp); replace hd1 := hd1.kept hgr (by simp); replace Q9 := Q9.kept hgr (by simp); replace Q7 := Q7.kept hgr (by simp); replace hg1 := hg1.grown hgr (by simp); replace o7 := o7.kept hgr (by cases Value.ownBlock _ <;> simp); replace o9 := o9.kept hgr (by cases Value.ownBlock _ <;> simp); replace HB := HB.grown hgr (by have := HB.size; omega) (by simp); have hcg2 := hg2.cell; have hfg2 := hg2.frozen; replace hcg1 := hg1.cell; replace hfg1 := hg1.frozen; clear hsz hbn hgr)
            | ((with_reducible refine gate_store (p := 19) rfl ?_); refine ev_store_row (cs := u.cells A2 c2) rfl rfl rfl hg2 rfl rfl rec_size rfl (cells_one _ _ _) ?_; intro W6 hgn hgr; replace hd2 := hd2.kept hgr (RU.ne_blk hd2 hg2 (by decide)); replace hd1 := hd1.kept hgr (RU.ne_blk hd1 hg2 (by decide)); replace Q9 := Q9.kept hgr (OBs.ne_blk Q9 hg2 (by decide)); replace Q7 := Q7.kept hgr (OBs.ne_blk Q7 hg2 (by decide)); replace hg1 := hg1.grown hgr (by intro e; injection e with e; omega); replace o7 := o7.kept hgr (.inr no7g2); replace o9 := o9.kept hgr (.inr no9g2); replace HB := HB.grown hgr (by have := HB.size; omega) (by intro k e; injection e with e; omega); replace hg2 := hgn; replace hcg1 := hg1.cell; replace hfg1 := hg1.frozen; replace hcg2 := hg2.cell; replace hfg2 := hg2.frozen; clear hgn hgr)
            | ((with_reducible refine gate_dst (N := 92) rfl ?_); refine ev_load_at rfl rfl rfl (own_load2 o7 Hx.out) Tryd.underlying27 rfl rec_size ?_)
            | (go_at_call 40; (with_reducible refine (Cd.out _ _ _ (HT.out.next HB) (Ht.out.next HB) (Q7.rb_at Hx.out)).mono ?_); rintro e W7 ⟨A3, c3, rfl, hd3, hb⟩; have hgr := grown_of_below hb; replace hd2 := hd2.kept hgr (by simp); replace hd1 := hd1.kept hgr (by simp); replace Q9 := Q9.kept hgr (by simp); replace Q7 := Q7.kept hgr (by simp); replace hg1 := hg1.grown hgr (by simp); replace hg2 := hg2.grown hgr (by simp); replace o7 := o7.kept hgr (by cases Value.ownBlock _ <;> simp); replace o9 := o9.kept hgr (by cases Value.ownBlock _ <;> simp); replace HB := HB.grown hgr (by have := HB.size; omega) (by simp); replace hcg1 := hg1.cell; replace hfg1 := hg1.frozen; replace hcg2 := hg2.cell; replace hfg2 := hg2.frozen; clear hb hgr)
            | ((with_reducible refine gate_dst (N := 21) rfl ?_); refine ev_alloc rfl rfl _ rec_zero ?_; intro g3 W8 hg3 hsz hbn; have hgr := grown_of_below hbn; have ng1g3 : g1 ≠ g3 := (by have := hg1.lt; omega); have ng2g3 : g2 ≠ g3 := (by have := hg2.lt; omega); have no7g3 := own_new o7 hsz; have no9g3 := own_new o9 hsz; replace hg3 : Blk W8 g3 _ (Rec.zero.cells none 0) := hg3; have zg3 : w.heap.size ≤ g3 := (by have := HB.size; omega); replace hd3 := hd3.kept hgr (by simp); replace hd2 := hd2.kept hgr (by simp); replace hd1 := hd1.kept hgr (by simp); replace Q9 := Q9.kept hgr (by simp); replace Q7 := Q7.kept hgr (by simp); replace hg1 := hg1.grown hgr (by simp); replace hg2 := hg2.grown hgr (by simp); replace o7 := o7.kept hgr (by cases Value.ownBlock _ <;> simp); replace o9 := o9.kept hgr (by cases Value.ownBlock _ <;> simp); replace HB := HB.grown hgr (by have := HB.size; omega) (by simp); have hcg3 := hg3.cell; have hfg3 := hg3.frozen; replace hcg1 := hg1.cell; replace hfg1 := hg1.frozen; replace hcg2 := hg2.cell; replace hfg2 := hg2.frozen; clear hsz hbn hgr)
            | ((with_reducible refine gate_store (p := 21) rfl ?_); refine ev_store_row (cs := v.cells A3 c3) rfl rfl rfl hg3 rfl rfl rec_size rfl (cells_one _ _ _) ?_; intro W9 hgn hgr; replace hd3 := hd3.kept hgr (RU.ne_blk hd3 hg3 (by decide)); replace hd2 := hd2.kept hgr (RU.ne_blk hd2 hg3 (by decide)); replace hd1 := hd1.kept hgr (RU.ne_blk hd1 hg3 (by decide)); replace Q9 := Q9.kept hgr (OBs.ne_blk Q9 hg3 (by decide)); replace Q7 := Q7.kept hgr (OBs.ne_blk Q7 hg3 (by decide)); replace hg1 := hg1.grown hgr (by intro e; injection e with e; omega); replace hg2 := hg2.grown hgr (by intro e; injection e with e; omega); replace o7 := o7.kept hgr (.inr no7g3); replace o9 := o9.kept hgr (.inr no9g3); replace HB := HB.grown hgr (by have := HB.size; omega) (by intro k e; injection e with e; omega); replace hg3 := hgn; replace hcg1 := hg1.cell; replace hfg1 := hg1.frozen; replace hcg2 := hg2.cell; replace hfg2 := hg2.frozen; replace hcg3 := hg3.cell; replace hfg3 := hg3.frozen; clear hgn hgr)
            | ((with_reducible refine gate_dst (N := 101) rfl ?_); refine ev_load_at rfl rfl rfl (own_load2 o9 Hy.out) Tryd.underlying27 rfl rec_size ?_)
            | (go_at_call 41; (with_reducible refine (Ce.out _ _ _ (HR.out.next HB) (Q9.rb_at Hy.out)).mono ?_); rintro e W10 ⟨A4, c4, rfl, hd4, hb⟩; have hgr := grown_of_below hb; replace hd3 := hd3.kept hgr (by simp); replace hd2 := hd2.kept hgr (by simp); replace hd1 := hd1.kept hgr (by simp); replace Q9 := Q9.kept hgr (by simp); replace Q7 := Q7.kept hgr (by simp); replace hg1 := hg1.grown hgr (by simp); replace hg2 := hg2.grown hgr (by simp); replace hg3 := hg3.grown hgr (by simp); replace o7 := o7.kept hgr (by cases Value.ownBlock _ <;> simp); replace o9 := o9.kept hgr (by cases Value.ownBlock _ <;> simp); replace HB := HB.grown hgr (by have := HB.size; omega) (by simp); replace hcg1 := hg1.cell; replace hfg1 := hg1.frozen; replace hcg2 := hg2.cell; replace hfg2 := hg2.frozen; replace hcg3 := hg3.cell; replace hfg3 := hg3.frozen; clear hb hgr)
            | ((with_reducible refine gate_dst (N := 23) rfl ?_); refine ev_alloc rfl rfl _ rec_zero ?_; intro g4 W11 hg4 hsz hbn; have hgr := grown_of_below hbn; have ng1g4 : g1 ≠ g4 := (by have := hg1.lt; omega); have ng2g4 : g2 ≠ g4 := (by have := hg2.lt; omega); have ng3g4 : g3 ≠ g4 := (by have := hg3.lt; omega); have no7g4 := own_new o7 hsz; have no9g4 := own_new o9 hsz; replace hg4 : Blk W11 g4 _ (Rec.zero.cells none 0) := hg4; have zg4 : w.heap.size ≤ g4 := (by have := HB.size; omega); replace hd4 := hd4.kept hgr (by simp); replace hd3 := hd3.kept hgr (by simp); replace hd2 := hd2.kept hgr (by simp); replace hd1 := hd1.kept hgr (by simp); replace Q9 := Q9.kept hgr (by simp); replace Q7 := Q7.kept hgr (by simp); replace hg1 := hg1.grown hgr (by simp); replace hg2 := hg2.grown hgr (by simp); replace hg3 := hg3.grown hgr (by simp); replace o7 := o7.kept hgr (by cases Value.ownBlock _ <;> simp); replace o9 := o9.kept hgr (by cases Value.ownBlock _ <;> simp); replace HB := HB.grown hgr (by have := HB.size; omega) (by simp); have hcg4 := hg4.cell; have hfg4 := hg4.frozen; replace hcg1 := hg1.cell; replace hfg1 := hg1.frozen; replace hcg2 := hg2.cell; replace hfg2 := hg2.frozen; replace hcg3 := hg3.cell; replace hfg3 := hg3.frozen; clear hsz hbn hgr)
            | ((with_reducible refine gate_store (p := 23) rfl ?_); refine ev_store_row (cs := v.cells A4 c4) rfl rfl rfl hg4 rfl rfl rec_size rfl (cells_one _ _ _) ?_; intro W12 hgn hgr; replace hd4 := hd4.kept hgr (RU.ne_blk hd4 hg4 (by decide)); replace hd3 := hd3.kept hgr (RU.ne_blk hd3 hg4 (by decide)); replace hd2 := hd2.kept hgr (RU.ne_blk hd2 hg4 (by decide)); replace hd1 := hd1.kept hgr (RU.ne_blk hd1 hg4 (by decide)); replace Q9 := Q9.kept hgr (OBs.ne_blk Q9 hg4 (by decide)); replace Q7 := Q7.kept hgr (OBs.ne_blk Q7 hg4 (by decide)); replace hg1 := hg1.grown hgr (by intro e; injection e with e; omega); replace hg2 := hg2.grown hgr (by intro e; injection e with e; omega); replace hg3 := hg3.grown hgr (by intro e; injection e with e; omega); replace o7 := o7.kept hgr (.inr no7g4); replace o9 := o9.kept hgr (.inr no9g4); replace HB := HB.grown hgr (by have := HB.size; omega) (by intro k e; injection e with e; omega); replace hg4 := hgn; replace hcg1 := hg1.cell; replace hfg1 := hg1.frozen; replace hcg2 := hg2.cell; replace hfg2 := hg2.frozen; replace hcg3 := hg3.cell; replace hfg3 := hg3.frozen; replace hcg4 := hg4.cell; replace hfg4 := hg4.frozen; clear hgn hgr)
            | ((with_reducible refine gate_dst (N := 106) rfl ?_); refine wpList_load_row rfl _ _ rfl g1 rfl _ _ (0, 0) _ hg1 Tryd.underlying27 rfl rec_size ?_)
            | ((with_reducible refine gate_dst (N := 107) rfl ?_); refine wpList_load_row rfl _ _ rfl g2 rfl _ _ (0, 0) _ hg2 Tryd.underlying27 rfl rec_size ?_)
            | (go_at_call 42; clear m2; (with_reducible refine (same_any u A1 A2 c1 c2 _ hd1.rb hd2.rb hul).mono ?_); rintro e W13 ⟨rfl, hb⟩; have hgr := grown_of_below hb; replace hd4 := hd4.kept hgr (by simp); replace hd3 := hd3.kept hgr (by simp); replace hd2 := hd2.kept hgr (by simp); replace hd1 := hd1.kept hgr (by simp); replace Q9 := Q9.kept hgr (by simp); replace Q7 := Q7.kept hgr (by simp); replace hg1 := hg1.grown hgr (by simp); replace hg2 := hg2.grown hgr (by simp); replace hg3 := hg3.grown hgr (by simp); replace hg4 := hg4.grown hgr (by simp); replace o7 := o7.kept hgr (by cases Value.ownBlock _ <;> simp); replace o9 := o9.kept hgr (by cases Value.ownBlock _ <;> simp); replace HB := HB.grown hgr (by have := HB.size; omega) (by simp); replace hcg1 := hg1.cell; replace hfg1 := hg1.frozen; replace hcg2 := hg2.cell; replace hfg2 := hg2.frozen; replace hcg3 := hg3.cell; replace hfg3 := hg3.frozen; replace hcg4 := hg4.cell; replace hfg4 := hg4.frozen; clear hb hgr)
            | ((with_reducible refine gate_dst (N := 117) rfl ?_); (first | (refine wpList_ungate ?_ ?_; focus (first | rfl | (simp [Region.wanted, yielded]; done))) | (refine wpList_ungate (by first | rfl | simp [Region.wanted, yielded]) ?_)); refine wpList_load_row rfl _ _ rfl g3 rfl _ _ (0, 0) _ hg3 Tryd.underlying27 rfl rec_size ?_)
            | ((with_reducible refine gate_dst (N := 118) rfl ?_); (first | (refine wpList_ungate ?_ ?_; focus (first | rfl | (simp [Region.wanted, yielded]; done))) | (refine wpList_ungate (by first | rfl | simp [Region.wanted, yielded]) ?_)); refine wpList_load_row rfl _ _ rfl g4 rfl _ _ (0, 0) _ hg4 Tryd.underlying27 rfl rec_size ?_)
            | (go_at_call 42; (with_reducible refine (same_any v A3 A4 c3 c4 _ hd3.rb hd4.rb hvl).mono ?_); rintro e W14 ⟨rfl, hb⟩; have hgr := grown_of_below hb; replace hd4 := hd4.kept hgr (by simp); replace hd3 := hd3.kept hgr (by simp); replace hd2 := hd2.kept hgr (by simp); replace hd1 := hd1.kept hgr (by simp); replace Q9 := Q9.kept hgr (by simp); replace Q7 := Q7.kept hgr (by simp); replace hg1 := hg1.grown hgr (by simp); replace hg2 := hg2.grown hgr (by simp); replace hg3 := hg3.grown hgr (by simp); replace hg4 := hg4.grown hgr (by simp); replace o7 := o7.kept hgr (by cases Value.ownBlock _ <;> simp); replace o9 := o9.kept hgr (by cases Value.ownBlock _ <;> simp); replace HB := HB.grown hgr (by have := HB.size; omega) (by simp); replace hcg1 := hg1.cell; replace hfg1 := hg1.frozen; replace hcg2 := hg2.cell; replace hfg2 := hg2.frozen; replace hcg3 := hg3.cell; replace hfg3 := hg3.frozen; replace hcg4 := hg4.cell; replace hfg4 := hg4.frozen; clear hb hgr)
            | (go_at_call 37; (with_reducible refine (num_calls _ _).mono ?_); rintro e w1 ⟨rfl, rfl⟩))
          go_roundg (gk - 1)
          case measure => omega
          case rel => exact ⟨k + 1, by omega, by go_num, ⟨o7, Q7, o9, Q9, HB⟩⟩
        · have r1 : decide ((k : Int) < (n : Int)) = false := by rw [decide_eq_false_iff_not]; omega
          have r1' : decide (k < n) = false := by rw [decide_eq_false_iff_not]; exact hk
          by_cases hi : i < ts.length
          · have r2 : decide ((i : Int) < (ts.length : Int)) = true := by rw [decide_eq_true_eq]; omega
            have r2' : decide (i < ts.length) = true := by rw [decide_eq_true_eq]; exact hi
            obtain ⟨t, ht⟩ : ∃ t, ts[i]? = some t := ⟨_, List.getElem?_eq_getElem hi⟩
            obtain ⟨bd, hbd, _, _⟩ := Hts.out.2 (by omega)
            have htd := fun (W : World) (hb : Below w.heap.size w W) => (Hts.out.next hb).load ht hbd
            have Htd := Lib.hid htd
            subst hbd
            clear ht htd
            go_wp2_with (first
              | (go_at_call 25; (with_reducible refine (refSameAll_n os was n Hlen.out A7 A9 c7 c9 Hwas.out.symm (by omega) HM.out.fits _ (RR.of_own o7 Hlen.out Q7.recs) (RR.of_own o9 ((map_len Hwas.out).trans Hlen.out) Q9.recs)).mono ?_); rintro e W1 ⟨rfl, hb⟩; have hgr := grown_of_below hb; replace Q9 := Q9.kept hgr (by simp); replace Q7 := Q7.kept hgr (by simp); replace o7 := o7.kept hgr (by cases Value.ownBlock _ <;> simp); replace o9 := o9.kept hgr (by cases Value.ownBlock _ <;> simp); replace HB := HB.grown hgr (by have := HB.size; omega) (by simp); clear hb hgr)
              | ((with_reducible refine gate_dst (N := 140) rfl ?_); refine ev_load_at rfl rfl rfl (Htd.out _ HB) Tryd.underlying64 rfl trn_size ?_)
              | (go_at_call 43; (with_reducible refine (turned4_calls t os n A7 c7 w.heap.size hn2 _ HB.size ⟨Hlen.out, o7, Q7, HM.out.small⟩).mono ?_); rintro e W9 ⟨rfl, os', hM', hb'⟩))
            go_roundg (gm - 1)
            case measure => omega
            case rel => exact ⟨i + 1, by omega, by go_num, ⟨os', hM', HB.trans hb'⟩⟩
          · have r2 : decide ((i : Int) < (ts.length : Int)) = false := by rw [decide_eq_false_iff_not]; omega
            have r2' : decide (i < ts.length) = false := by rw [decide_eq_false_iff_not]; exact hi
            go_wp2_with (first
              | (go_at_call 25; (with_reducible refine (refSameAll_n os was n Hlen.out A7 A9 c7 c9 Hwas.out.symm (by omega) HM.out.fits _ (RR.of_own o7 Hlen.out Q7.recs) (RR.of_own o9 ((map_len Hwas.out).trans Hlen.out) Q9.recs)).mono ?_); rintro e W1 ⟨rfl, hb⟩; have hgr := grown_of_below hb; replace Q9 := Q9.kept hgr (by simp); replace Q7 := Q7.kept hgr (by simp); replace o7 := o7.kept hgr (by cases Value.ownBlock _ <;> simp); replace o9 := o9.kept hgr (by cases Value.ownBlock _ <;> simp); replace HB := HB.grown hgr (by have := HB.size; omega) (by simp); clear hb hgr))
            go_roundg (gm - 1)
            case measure => omega
            case rel => exact ⟨i + 1, by omega, by go_num, ⟨os, ⟨Hlen.out, o7, Q7, HM.out.small⟩, HB⟩⟩
    · have s1 : decide ((i : Int) ≤ (ts.length : Int)) = false := by rw [decide_eq_false_iff_not]; omega
      have s1' : decide (i ≤ ts.length) = false := by rw [decide_eq_false_iff_not]; exact hlt
      clear hM
      go_wp2_with (first
        | (go_at_call 28; (with_reducible refine (started_calls _ (HT.out.next HB) (Ht.out.next HB)).mono ?_); rintro e W1 ⟨rfl, hb⟩; have hgr := grown_of_below hb; replace HB := HB.grown hgr (by have := HB.size; omega) (by simp); clear hb hgr))
      go_ret
      exact ⟨rfl, HB⟩
end Go.Proofs.YtikodgaomhmbmaaDoor
