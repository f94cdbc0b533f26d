/-
  The walk of the law RecordAgain.
-/
import Derived.Test.YtikodgaomhmbmaaDoorMAr
import Derived.Deep.DeepCutAuto
set_option linter.unusedVariables false
set_option linter.unusedSimpArgs false
namespace Go.Proofs.YtikodgaomhmbmaaDoor
open Go.RowKit
attribute [local go_sem] Rec.size_ Rec.g0 Rec.g1 Rec.g2 Rec.g3 Rec.g4 Rec.g5 Rec.g6 Rec.g7 Rec.g8 Rec.g9 Rec.g10 Rec.g11 Rec.fold Rec.lit_fold

theorem RB.take {w : World} {A : Option Addr} {b : List UInt8} (h : RB w A b) (n : Nat) : RB w A (b.take n) := by
  have := List.take_append_drop n b
  rw [← this] at h
  exact h.begin_

/-- The record with at most 20000 bytes of data. -/
def cutR (r : Rec) : Rec := { r with Data := r.Data.take 20000 }
theorem cutR_cells {r : Rec} (A : Option Addr) (c : Nat) (h : 20000 < r.Data.length) : (r.cells A c).setIfInBounds 11 (.slice A 20000 c) = (cutR r).cells A c := by
  simp [Rec.cells, cutR]
  omega
theorem cutR_self {r : Rec} (h : ¬ 20000 < r.Data.length) : cutR r = r := by
  unfold cutR
  rw [List.take_of_length_le (by omega)]
theorem cut_bytes {w : World} {L : Option Addr} {l : List UInt8} {nl : Nat} (hn : l.length = nl) (h : RB w L l) : ∃ (lb : List UInt8) (nb : Nat), lb.length = nb ∧ nb ≤ 20000 ∧ (20000 < nl → nb = 20000) ∧ (¬ 20000 < nl → nb = nl) ∧ RB w L lb :=
  ⟨l.take 20000, _, rfl, by rw [List.length_take]; omega, fun h => by rw [List.length_take]; omega, fun h => by rw [List.length_take]; omega, h.take _⟩
theorem cut_rec {w : World} {A : Option Addr} {r : Rec} {c nd : Nat} (hn : r.Data.length = nd) (h : RB w A r.Data) : ∃ R0 : Rec, R0.Data.length ≤ 20000 ∧ R0.Name = r.Name ∧ R0.Code = r.Code ∧ RB w A R0.Data ∧ (20000 < nd → (r.cells A c).setIfInBounds 11 (.slice A 20000 c) = R0.cells A c) ∧ (¬ 20000 < nd → R0 = r) :=
  ⟨cutR r, by simp [cutR]; omega, rfl, rfl, h.take _, fun h => cutR_cells A c (by omega), fun h => cutR_self (by omega)⟩
theorem cutR_le (r : Rec) : (cutR r).Data.length ≤ 20000 := by simp [cutR]; omega

theorem blk_at {w : World} {g : Nat} {t : TypeId} {cs : Array Value} (h : Blk w g t cs) : ∀ j v, cs[j]? = some v → w.cell? ((⟨g, 0, none⟩ : Addr).add j) = some v := fun j v hv => by
  have e : (⟨g, 0, none⟩ : Addr).add j = ⟨g, j, none⟩ := by unfold Addr.add; split <;> simp_all
  rw [e, h.cell, hv]
set_option maxHeartbeats 16000000 in
set_option maxRecDepth 100000 in
theorem recordAgain_calls (v : Int) (l : List UInt8) (L : Option Addr) (cl : Nat) (hcl : l.length ≤ cl) (r : Rec) (Ar : Option Addr) (cr : Nat) (hcr : r.Data.length ≤ cr) (hfit : r.Fits) (hz : r.Name.size ≤ 1099511627776) (hcd : -9223372036854775808 ≤ r.Code ∧ r.Code ≤ 9223372036854775807)
    (ts : List (Int × Int)) (At : Option Addr) (ct : Nat) (hct : ts.length ≤ ct) (w : World) (hT : Tabs w) (hR : RTabs w) (hl : RB w L l) (hr : RB w Ar r.Data) (ht : RPr w At ts) :
    Calls Tryd.prog 8 #[.int .i64 v, .slice L l.length cl, .agg (r.cells Ar cr), .slice At ts.length ct] w fun e w' => e = .returned (.bool true) ∧ Below w.heap.size w w' := by
  have HB := Below.refl w.heap.size w
  have HT := Lib.hid hT
  have HR := Lib.hid hR
  have Ht := Lib.hid ht
  obtain ⟨nl, hnl⟩ : ∃ nl, l.length = nl := ⟨_, rfl⟩
  obtain ⟨nts, hnts⟩ : ∃ nts, ts.length = nts := ⟨_, rfl⟩
  rw [hnl] at hcl ⊢
  rw [hnts] at hct ⊢
  have Hnl := Lib.hid hnl
  have Hnts := Lib.hid hnts
  have Hl := Lib.hid hl
  have Hr := Lib.hid hr
  have Hcd := Lib.hid hcd
  have Hfit := Lib.hid hfit
  obtain ⟨nd, hnd⟩ : ∃ nd, r.Data.length = nd := ⟨_, rfl⟩
  obtain ⟨lb, nb, hlb, hnb20, hb1, hb2, hlbr⟩ := cut_bytes hnl hl
  obtain ⟨R0, hR1, hR2, hR3, hR4, hR5, hR6⟩ := cut_rec (c := cr) hnd hr
  rw [hnd] at hcr
  have Hlb := Lib.hid hlb
  have Hb1 := Lib.hid hb1
  have Hb2 := Lib.hid hb2
  have Hlbr := Lib.hid hlbr
  have HR2 := Lib.hid hR2
  have HR3 := Lib.hid hR3
  have HR4 := Lib.hid hR4
  have HR5 := Lib.hid hR5
  have HR6 := Lib.hid hR6
  clear hT hR ht hnl hnts hl hr hcd hfit hlb hb1 hb2 hlbr hR2 hR3 hR4 hR5 hR6
  go_enter Tryd.func8, Tryd.ntmps8
  go_upto_if 40 with (first
    | ((with_reducible refine gate_dst (N := 6) rfl ?_); refine ev_box rfl rfl (r.cells Ar cr) rfl ?_; intro g6 W1 hg6 hsz hbn; have hgr := grown_of_below hbn; have zg6 : w.heap.size ≤ g6 := (by have := HB.size; omega); replace HB := HB.grown hgr (by have := HB.size; omega) (by simp); have hcg6 := hg6.cell; have hfg6 := hg6.frozen; clear hsz hbn hgr))
  go_cut [3] from 38 to 42 (fun v3 wc => ∃ nt : Nat, v3 = .slice At nt ct ∧ Aside (nt ≤ 40 ∧ nt ≤ nts ∧ wc = W1))
  case first =>
    by_cases h40 : 40 < nts
    · have s1 : decide ((40 : Int) < (nts : Int)) = true := by rw [decide_eq_true_eq]; omega
      have s1' : decide (40 < nts) = true := by rw [decide_eq_true_eq]; exact h40
      have h40c : 40 ≤ ct := by omega
      go_wp2
      go_meet
      case rel => exact ⟨40, rfl, ⟨by omega, by omega, rfl⟩⟩
    · have s1 : decide ((40 : Int) < (nts : Int)) = false := by rw [decide_eq_false_iff_not]; omega
      have s1' : decide (40 < nts) = false := by rw [decide_eq_false_iff_not]; exact h40
      go_wp2
      go_meet
      case rel => exact ⟨nts, rfl, ⟨by omega, by omega, rfl⟩⟩
  case rest =>
    obtain ⟨nt, rfl, HC⟩ := hcut
    obtain ⟨h40, hnt, hw⟩ := HC.out
    obtain rfl : W1 = wc := hw.symm
    clear HC
    go_upto_if 45 with fail
    go_cut [1] from 43 to 47 (fun v1 wc => v1 = .slice L nb cl ∧ Aside (wc = W1))
    case first =>
      by_cases h20 : 20000 < nl
      · have s1 : decide ((20000 : Int) < (nl : Int)) = true := by rw [decide_eq_true_eq]; omega
        have s1' : decide (20000 < nl) = true := by rw [decide_eq_true_eq]; exact h20
        have h20c : 20000 ≤ cl := by omega
        go_wp2
        go_meet
        case rel => exact ⟨by rw [Hb1.out h20], rfl⟩
      · have s1 : decide ((20000 : Int) < (nl : Int)) = false := by rw [decide_eq_false_iff_not]; omega
        have s1' : decide (20000 < nl) = false := by rw [decide_eq_false_iff_not]; exact h20
        go_wp2
        go_meet
        case rel => exact ⟨by rw [Hb2.out h20], rfl⟩
    case rest =>
      obtain ⟨rfl, HC⟩ := hcut
      obtain rfl : W1 = wc := HC.out.symm
      clear HC
      have hc11 : W1.cell? { block := g6, off := 11 } = some (.slice Ar nd cr) := by rw [hcg6, ← hnd]; rfl
      clear hcg6
      go_upto_if 51 with fail
      go_cut [] from 48 to 55 (fun wc => Aside (Blk wc g6 27 (R0.cells Ar cr) ∧ Below w.heap.size w wc))
      case first =>
        by_cases h20 : 20000 < nd
        · have s1 : decide ((20000 : Int) < (nd : Int)) = true := by rw [decide_eq_true_eq]; omega
          have s1' : decide (20000 < nd) = true := by rw [decide_eq_true_eq]; exact h20
          have h20c : 20000 ≤ cr := by omega
          have Hv := Lib.hid (HR5.out h20)
          have hcg6 : True := trivial
          go_wp2_with (first
            | ((with_reducible refine gate_store (p := 55) rfl ?_); refine ev_store_cell rfl rfl rfl hg6 rfl (i := 11) (v := .slice Ar 20000 cr) rfl rfl (by kernel_rfl) (by first | exact (show (11 : Nat) < 12 by decide) | exact (show (11 : Nat) < 16 by decide) | exact (show (11 : Nat) < 6 by decide)) ?_; intro W1 hgn hgr; replace hgn : Blk W1 g6 _ (R0.cells Ar cr) := (by rw [← (Hv.out)]; exact hgn); replace HB := HB.grown hgr (by have := HB.size; omega) (by intro k e; injection e with e; omega); replace hg6 := hgn; replace hcg6 := hg6.cell; replace hfg6 := hg6.frozen; clear hgn hgr))
          go_meet
          case rel => exact ⟨hg6, HB⟩
        · have s1 : decide ((20000 : Int) < (nd : Int)) = false := by rw [decide_eq_false_iff_not]; omega
          have s1' : decide (20000 < nd) = false := by rw [decide_eq_false_iff_not]; exact h20
          go_wp2
          go_meet
          case rel => exact ⟨by rw [HR6.out h20]; exact hg6, HB⟩
      case rest =>
        clear hg6 hfg6 HB hc11
        obtain ⟨hg6, HB⟩ := hcut.out
        clear hcut
        have k1 : True := trivial
        go_wp2_with (first
          | (go_at_call 12; (with_reducible refine (copied_ob lb nb Hlb.out L cl (by omega) _ (Hlbr.out.next HB)).mono ?_); rintro e W1 ⟨A9, c9, rfl, B9, hb⟩; have hgr := grown_of_below hb; replace B9 := B9.mono HB.size; replace hg6 := hg6.grown hgr (by simp); replace HB := HB.grown hgr (by have := HB.size; omega) (by simp); replace hcg6 := hg6.cell; replace hfg6 := hg6.frozen; clear hb hgr)
          | ((with_reducible refine gate_dst (N := 58) rfl ?_); refine wpList_load_row rfl _ _ rfl g6 rfl _ _ (0, 0) _ hg6 Tryd.underlying27 rfl rec_size ?_)
          | (go_at_call 46; clear k1; (with_reducible refine (refClone_ob R0 Ar cr _ (HR4.out.next HB) (by omega)).mono ?_); rintro e W2 ⟨A10, c10, rfl, B10, hb⟩; have hgr := grown_of_below hb; have dB9B10 := B9.apart_new B10 (Nat.le_refl _); replace B10 := B10.mono HB.size; replace B9 := B9.kept hgr (by simp); replace hg6 := hg6.grown hgr (by simp); replace HB := HB.grown hgr (by have := HB.size; omega) (by simp); replace hcg6 := hg6.cell; replace hfg6 := hg6.frozen; clear hb hgr)
          | ((with_reducible refine gate_dst (N := 10) rfl ?_); refine ev_alloc rfl rfl _ rec_zero ?_; intro g10 W3 hg10 hsz hbn; have hgr := grown_of_below hbn; have ng6g10 : g6 ≠ g10 := (by have := hg6.lt; omega); replace hg10 : Blk W3 g10 _ (Rec.zero.cells none 0) := hg10; have zg10 : w.heap.size ≤ g10 := (by have := HB.size; omega); replace B10 := B10.kept hgr (by simp); replace B9 := B9.kept hgr (by simp); replace hg6 := hg6.grown hgr (by simp); replace HB := HB.grown hgr (by have := HB.size; omega) (by simp); have hcg10 := hg10.cell; have hfg10 := hg10.frozen; replace hcg6 := hg6.cell; replace hfg6 := hg6.frozen; clear hsz hbn hgr)
          | ((with_reducible refine gate_store (p := 10) rfl ?_); refine ev_store_row (cs := R0.cells A10 c10) rfl rfl rfl hg10 rfl rfl rec_size rfl (cells_one _ _ _) ?_; intro W4 hgn hgr; replace B10 := B10.kept hgr (OB.ne_blk B10 hg10 (by decide)); replace B9 := B9.kept hgr (OB.ne_blk B9 hg10 (by decide)); replace hg6 := hg6.grown hgr (by intro e; injection e with e; omega); replace HB := HB.grown hgr (by have := HB.size; omega) (by intro k e; injection e with e; omega); replace hg10 := hgn; replace hcg6 := hg6.cell; replace hfg6 := hg6.frozen; replace hcg10 := hg10.cell; replace hfg10 := hg10.frozen; clear hgn hgr)
          | ((with_reducible refine gate_dst (N := 60) rfl ?_); refine wpList_load_row rfl _ _ rfl g6 rfl _ _ (0, 0) _ hg6 Tryd.underlying27 rfl rec_size ?_)
          | (go_at_call 46; (with_reducible refine (refClone_ob R0 Ar cr _ (HR4.out.next HB) (by omega)).mono ?_); rintro e W5 ⟨A11, c11, rfl, B11, hb⟩; have hgr := grown_of_below hb; have dB9B11 := B9.apart_new B11 (Nat.le_refl _); have dB10B11 := B10.apart_new B11 (Nat.le_refl _); replace B11 := B11.mono HB.size; replace B10 := B10.kept hgr (by simp); replace B9 := B9.kept hgr (by simp); replace hg6 := hg6.grown hgr (by simp); replace hg10 := hg10.grown hgr (by simp); replace HB := HB.grown hgr (by have := HB.size; omega) (by simp); replace hcg6 := hg6.cell; replace hfg6 := hg6.frozen; replace hcg10 := hg10.cell; replace hfg10 := hg10.frozen; clear hb hgr)
          | ((with_reducible refine gate_dst (N := 11) rfl ?_); refine ev_alloc rfl rfl _ rec_zero ?_; intro g11 W6 hg11 hsz hbn; have hgr := grown_of_below hbn; have ng6g11 : g6 ≠ g11 := (by have := hg6.lt; omega); have ng10g11 : g10 ≠ g11 := (by have := hg10.lt; omega); replace hg11 : Blk W6 g11 _ (Rec.zero.cells none 0) := hg11; have zg11 : w.heap.size ≤ g11 := (by have := HB.size; omega); replace B11 := B11.kept hgr (by simp); replace B10 := B10.kept hgr (by simp); replace B9 := B9.kept hgr (by simp); replace hg6 := hg6.grown hgr (by simp); replace hg10 := hg10.grown hgr (by simp); replace HB := HB.grown hgr (by have := HB.size; omega) (by simp); have hcg11 := hg11.cell; have hfg11 := hg11.frozen; replace hcg6 := hg6.cell; replace hfg6 := hg6.frozen; replace hcg10 := hg10.cell; replace hfg10 := hg10.frozen; clear hsz hbn hgr)
          | ((with_reducible refine gate_store (p := 11) rfl ?_); refine ev_store_row (cs := R0.cells A11 c11) rfl rfl rfl hg11 rfl rfl rec_size rfl (cells_one _ _ _) ?_; intro W7 hgn hgr; replace B11 := B11.kept hgr (OB.ne_blk B11 hg11 (by decide)); replace B10 := B10.kept hgr (OB.ne_blk B10 hg11 (by decide)); replace B9 := B9.kept hgr (OB.ne_blk B9 hg11 (by decide)); replace hg6 := hg6.grown hgr (by intro e; injection e with e; omega); replace hg10 := hg10.grown hgr (by intro e; injection e with e; omega); replace HB := HB.grown hgr (by have := HB.size; omega) (by intro k e; injection e with e; omega); replace hg11 := hgn; replace hcg6 := hg6.cell; replace hfg6 := hg6.frozen; replace hcg10 := hg10.cell; replace hfg10 := hg10.frozen; replace hcg11 := hg11.cell; replace hfg11 := hg11.frozen; clear hgn hgr))
        have HS0 := Lib.hid (AgSt.start (a9 := (A9, c9)) (a10 := (A10, c10)) (a11 := (A11, c11)) HB B9 Hlb.out hg10 B10 hg11 B11 zg10 zg11 ng10g11 dB9B10 dB9B11 dB10B11)
        clear B9 B10 B11 hg10 hg11 hg6 HB dB9B10 dB9B11 dB10B11 hcg6 hcg10 hcg11 hfg6 hfg10 hfg11
        go_loopg [12, 13, 14, 15, 16] (nt + 1) (fun m v12 v13 v14 v15 v16 wr => ∃ (k : Nat) (bf : List UInt8) (q : Rec) (a12 a13 a14 a15 : AC) (os ws : List RA) (bt xs : List BA), m + k = nt + 1 ∧ v16 = .int .i64 k ∧
          v12 = .slice a12.1 (4 * k) a12.2 ∧ v13 = .slice a13.1 (4 * k) a13.2 ∧ v14 = .slice a14.1 (2 * k) a14.2 ∧ v15 = .slice a15.1 (2 * k) a15.2 ∧ Aside (AgSt w wr nb R0 g10 g11 (A9, c9) (A10, c10) (A11, c11) k bf q a12 a13 a14 a15 os ws bt xs))
        case atStart => exact ⟨0, lb, R0, (none, 0), (none, 0), (none, 0), (none, 0), [], [], [], [], by omega, rfl, rfl, rfl, rfl, rfl, HS0.out⟩
        case round =>
          clear HS0
          obtain ⟨k, bf, q, ⟨A12, c12⟩, ⟨A13, c13⟩, ⟨A14, c14⟩, ⟨A15, c15⟩, os, ws, bt, xs, hm, rfl, rfl, rfl, rfl, rfl, HA⟩ := hrel
          have HS := HA.out
          clear HA
          by_cases hlt : k ≤ nt
          · have s1 : decide ((k : Int) ≤ (nt : Int)) = true := by rw [decide_eq_true_eq]; omega
            have s1' : decide (k ≤ nt) = true := by rw [decide_eq_true_eq]; exact hlt
            have HB := HS.below
            have B9 := HS.buf
            have hg10 := HS.rec_
            have B10 := HS.data
            have hg11 := HS.first
            have B11 := HS.firstd
            have o12 := HS.o12
            have o13 := HS.o13
            have o14 := HS.o14
            have o15 := HS.o15
            have Qs := HS.Qs
            have Qb := HS.Qb
            have Sw := HS.Sw
            have Zx := HS.Zx
            have hbl := HS.bufl
            have hqd : q.Data.length ≤ 20000 := by rw [HS.qok.data]; exact hR1
            have hqz : q.Name.size ≤ 1099511627776 := by rw [HS.qok.name, HR2.out]; exact hz
            have hqf : q.Fits := ⟨by omega, by omega⟩
            have hqc : -9223372036854775808 ≤ q.Code ∧ q.Code ≤ 9223372036854775807 := by rw [HS.qok.code, HR3.out]; exact Hcd.out
            have hbc : nb ≤ c9 := by have := B9.len; rw [hbl] at this; exact this
            have HSS := Lib.hid HS
            have ce := fun w => enc_ob q A10 c10 hqf w
            have cre := fun A c w => refEnc_ob q A c hqf hqz hqc w
            have csz := fun w => size_all q A10 c10 hqf w
            have cck := fun w => check_calls q A10 c10 hqf w
            have crc := fun A c w => refCheck_calls q A c hqz w
            have cd := dec_ob v bf nb hbl
            have crd := refDec_n v bf nb hbl (by omega)
            have el := enc_le q
            have dl := decR_le v bf
            have dF := decR_fits v bf
            generalize encL q = E at ce cre csz el
            generalize q.chk = ck at ce cre csz cck crc
            generalize decR v bf = D at cd crd dl dF
            generalize decE v bf = de at cd crd
            obtain ⟨ne, hne⟩ : ∃ ne, E.length = ne := ⟨_, rfl⟩
            rw [hne] at ce cre csz el
            have Ce := Lib.hid ce
            have Cre := Lib.hid cre
            have Csz := Lib.hid csz
            have Cck := Lib.hid cck
            have Crc := Lib.hid crc
            have Cd := Lib.hid cd
            have Crd := Lib.hid crd
            have Hne := Lib.hid hne
            have Hqf := Lib.hid hqf
            have Hbl := Lib.hid hbl
            have k2 : True := trivial
            have k3 : True := trivial
            clear HS ce cre csz cck crc cd crd hne hbl hqf hqc hqz
            go_wp2_with (first
              | (go_at_call 12; (with_reducible refine (copied_ob bf nb Hbl.out A9 c9 (by omega) _ B9.rb).mono ?_); rintro e W1 ⟨A17, c17, rfl, B17, hb⟩; have hgr := grown_of_below hb; have dB9B17 := B9.apart_new B17 (Nat.le_refl _); have dB10B17 := B10.apart_new B17 (Nat.le_refl _); have dB11B17 := B11.apart_new B17 (Nat.le_refl _); have dQsB17 := Qs.apart_new B17 (Nat.le_refl _); have dQbB17 := Qb.apart_new B17 (Nat.le_refl _); replace B17 := B17.mono HB.size; replace Zx := Zx.kept hgr (by simp); replace Sw := Sw.kept hgr (by simp); replace Qb := Qb.kept hgr (by simp); replace Qs := Qs.kept hgr (by simp); replace B11 := B11.kept hgr (by simp); replace B10 := B10.kept hgr (by simp); replace B9 := B9.kept hgr (by simp); replace hg10 := hg10.grown hgr (by simp); replace hg11 := hg11.grown hgr (by simp); replace o12 := o12.kept hgr (by cases Value.ownBlock _ <;> simp); replace o13 := o13.kept hgr (by cases Value.ownBlock _ <;> simp); replace o14 := o14.kept hgr (by cases Value.ownBlock _ <;> simp); replace o15 := o15.kept hgr (by cases Value.ownBlock _ <;> simp); replace HB := HB.grown hgr (by have := HB.size; omega) (by simp); replace hcg10 := hg10.cell; replace hfg10 := hg10.frozen; replace hcg11 := hg11.cell; replace hfg11 := hg11.frozen; clear hb hgr)
              | ((with_reducible refine gate_dst (N := 70) rfl ?_); refine wpList_load_row rfl _ _ rfl g10 rfl _ _ (0, 0) _ hg10 Tryd.underlying27 rfl rec_size ?_)
              | (go_at_call 46; (with_reducible refine (refClone_ob q A10 c10 _ B10.rb (by omega)).mono ?_); rintro e W2 ⟨A18, c18, rfl, B18, hb⟩; have hgr := grown_of_below hb; have dB9B18 := B9.apart_new B18 (Nat.le_refl _); have dB10B18 := B10.apart_new B18 (Nat.le_refl _); have dB11B18 := B11.apart_new B18 (Nat.le_refl _); have dQsB18 := Qs.apart_new B18 (Nat.le_refl _); have dQbB18 := Qb.apart_new B18 (Nat.le_refl _); have dB17B18 := B17.apart_new B18 (Nat.le_refl _); replace B18 := B18.mono HB.size; replace B17 := B17.kept hgr (by simp); replace Zx := Zx.kept hgr (by simp); replace Sw := Sw.kept hgr (by simp); replace Qb := Qb.kept hgr (by simp); replace Qs := Qs.kept hgr (by simp); replace B11 := B11.kept hgr (by simp); replace B10 := B10.kept hgr (by simp); replace B9 := B9.kept hgr (by simp); replace hg10 := hg10.grown hgr (by simp); replace hg11 := hg11.grown hgr (by simp); replace o12 := o12.kept hgr (by cases Value.ownBlock _ <;> simp); replace o13 := o13.kept hgr (by cases Value.ownBlock _ <;> simp); replace o14 := o14.kept hgr (by cases Value.ownBlock _ <;> simp); replace o15 := o15.kept hgr (by cases Value.ownBlock _ <;> simp); replace HB := HB.grown hgr (by have := HB.size; omega) (by simp); replace hcg10 := hg10.cell; replace hfg10 := hg10.frozen; replace hcg11 := hg11.cell; replace hfg11 := hg11.frozen; clear hb hgr)
              | ((with_reducible refine gate_dst (N := 18) rfl ?_); refine ev_alloc rfl rfl _ rec_zero ?_; intro g18 W3 hg18 hsz hbn; have hgr := grown_of_below hbn; have ng10g18 : g10 ≠ g18 := (by have := hg10.lt; omega); have ng11g18 : g11 ≠ g18 := (by have := hg11.lt; omega); have no12g18 := own_new o12 hsz; have no13g18 := own_new o13 hsz; have no14g18 := own_new o14 hsz; have no15g18 := own_new o15 hsz; replace hg18 : Blk W3 g18 _ (Rec.zero.cells none 0) := hg18; have zg18 : w.heap.size ≤ g18 := (by have := HB.size; omega); replace B18 := B18.kept hgr (by simp); replace B17 := B17.kept hgr (by simp); replace Zx := Zx.kept hgr (by simp); replace Sw := Sw.kept hgr (by simp); replace Qb := Qb.kept hgr (by simp); replace Qs := Qs.kept hgr (by simp); replace B11 := B11.kept hgr (by simp); replace B10 := B10.kept hgr (by simp); replace B9 := B9.kept hgr (by simp); replace hg10 := hg10.grown hgr (by simp); replace hg11 := hg11.grown hgr (by simp); replace o12 := o12.kept hgr (by cases Value.ownBlock _ <;> simp); replace o13 := o13.kept hgr (by cases Value.ownBlock _ <;> simp); replace o14 := o14.kept hgr (by cases Value.ownBlock _ <;> simp); replace o15 := o15.kept hgr (by cases Value.ownBlock _ <;> simp); replace HB := HB.grown hgr (by have := HB.size; omega) (by simp); have hcg18 := hg18.cell; have hfg18 := hg18.frozen; replace hcg10 := hg10.cell; replace hfg10 := hg10.frozen; replace hcg11 := hg11.cell; replace hfg11 := hg11.frozen; clear hsz hbn hgr)
              | ((with_reducible refine gate_store (p := 18) rfl ?_); refine ev_store_row (cs := q.cells A18 c18) rfl rfl rfl hg18 rfl rfl rec_size rfl (cells_one _ _ _) ?_; intro W4 hgn hgr; replace B18 := B18.kept hgr (OB.ne_blk B18 hg18 (by decide)); replace B17 := B17.kept hgr (OB.ne_blk B17 hg18 (by decide)); replace Zx := Zx.kept hgr (RZs.ne_blk Zx hg18 (by decide)); replace Sw := Sw.kept hgr (RUs.ne_blk Sw hg18 (by decide)); replace Qb := Qb.kept hgr (OBs.ne_blk Qb hg18 (by decide)); replace Qs := Qs.kept hgr (OBs.ne_blk Qs hg18 (by decide)); replace B11 := B11.kept hgr (OB.ne_blk B11 hg18 (by decide)); replace B10 := B10.kept hgr (OB.ne_blk B10 hg18 (by decide)); replace B9 := B9.kept hgr (OB.ne_blk B9 hg18 (by decide)); replace hg10 := hg10.grown hgr (by intro e; injection e with e; omega); replace hg11 := hg11.grown hgr (by intro e; injection e with e; omega); replace o12 := o12.kept hgr (.inr no12g18); replace o13 := o13.kept hgr (.inr no13g18); replace o14 := o14.kept hgr (.inr no14g18); replace o15 := o15.kept hgr (.inr no15g18); replace HB := HB.grown hgr (by have := HB.size; omega) (by intro k e; injection e with e; omega); replace hg18 := hgn; replace hcg10 := hg10.cell; replace hfg10 := hg10.frozen; replace hcg11 := hg11.cell; replace hfg11 := hg11.frozen; replace hcg18 := hg18.cell; replace hfg18 := hg18.frozen; clear hgn hgr)
              | (go_at_call 47; clear k2; (with_reducible refine (Cd.out A9 c9 hbc (by omega) _ (HT.out.next HB) B9.rb).mono ?_); rintro e W5 ⟨A19, c19, rfl, B19, hb⟩; have hgr := grown_of_below hb; have dB9B19 := B9.apart_new B19 (Nat.le_refl _); have dB10B19 := B10.apart_new B19 (Nat.le_refl _); have dB11B19 := B11.apart_new B19 (Nat.le_refl _); have dQsB19 := Qs.apart_new B19 (Nat.le_refl _); have dQbB19 := Qb.apart_new B19 (Nat.le_refl _); have dB17B19 := B17.apart_new B19 (Nat.le_refl _); have dB18B19 := B18.apart_new B19 (Nat.le_refl _); replace B19 := B19.mono HB.size; replace B18 := B18.kept hgr (by simp); replace B17 := B17.kept hgr (by simp); replace Zx := Zx.kept hgr (by simp); replace Sw := Sw.kept hgr (by simp); replace Qb := Qb.kept hgr (by simp); replace Qs := Qs.kept hgr (by simp); replace B11 := B11.kept hgr (by simp); replace B10 := B10.kept hgr (by simp); replace B9 := B9.kept hgr (by simp); replace hg10 := hg10.grown hgr (by simp); replace hg11 := hg11.grown hgr (by simp); replace hg18 := hg18.grown hgr (by simp); replace o12 := o12.kept hgr (by cases Value.ownBlock _ <;> simp); replace o13 := o13.kept hgr (by cases Value.ownBlock _ <;> simp); replace o14 := o14.kept hgr (by cases Value.ownBlock _ <;> simp); replace o15 := o15.kept hgr (by cases Value.ownBlock _ <;> simp); replace HB := HB.grown hgr (by have := HB.size; omega) (by simp); replace hcg10 := hg10.cell; replace hfg10 := hg10.frozen; replace hcg11 := hg11.cell; replace hfg11 := hg11.frozen; replace hcg18 := hg18.cell; replace hfg18 := hg18.frozen; clear hb hgr)
              | ((with_reducible refine gate_dst (N := 19) rfl ?_); refine ev_alloc rfl rfl _ rec_zero ?_; intro g19 W6 hg19 hsz hbn; have hgr := grown_of_below hbn; have ng10g19 : g10 ≠ g19 := (by have := hg10.lt; omega); have ng11g19 : g11 ≠ g19 := (by have := hg11.lt; omega); have ng18g19 : g18 ≠ g19 := (by have := hg18.lt; omega); have no12g19 := own_new o12 hsz; have no13g19 := own_new o13 hsz; have no14g19 := own_new o14 hsz; have no15g19 := own_new o15 hsz; replace hg19 : Blk W6 g19 _ (Rec.zero.cells none 0) := hg19; have zg19 : w.heap.size ≤ g19 := (by have := HB.size; omega); replace B19 := B19.kept hgr (by simp); replace B18 := B18.kept hgr (by simp); replace B17 := B17.kept hgr (by simp); replace Zx := Zx.kept hgr (by simp); replace Sw := Sw.kept hgr (by simp); replace Qb := Qb.kept hgr (by simp); replace Qs := Qs.kept hgr (by simp); replace B11 := B11.kept hgr (by simp); replace B10 := B10.kept hgr (by simp); replace B9 := B9.kept hgr (by simp); replace hg10 := hg10.grown hgr (by simp); replace hg11 := hg11.grown hgr (by simp); replace hg18 := hg18.grown hgr (by simp); replace o12 := o12.kept hgr (by cases Value.ownBlock _ <;> simp); replace o13 := o13.kept hgr (by cases Value.ownBlock _ <;> simp); replace o14 := o14.kept hgr (by cases Value.ownBlock _ <;> simp); replace o15 := o15.kept hgr (by cases Value.ownBlock _ <;> simp); replace HB := HB.grown hgr (by have := HB.size; omega) (by simp); have hcg19 := hg19.cell; have hfg19 := hg19.frozen; replace hcg10 := hg10.cell; replace hfg10 := hg10.frozen; replace hcg11 := hg11.cell; replace hfg11 := hg11.frozen; replace hcg18 := hg18.cell; replace hfg18 := hg18.frozen; clear hsz hbn hgr)
              | ((with_reducible refine gate_store (p := 19) rfl ?_); refine ev_store_row (cs := D.cells A19 c19) rfl rfl rfl hg19 rfl rfl rec_size rfl (cells_one _ _ _) ?_; intro W7 hgn hgr; replace B19 := B19.kept hgr (OB.ne_blk B19 hg19 (by decide)); replace B18 := B18.kept hgr (OB.ne_blk B18 hg19 (by decide)); replace B17 := B17.kept hgr (OB.ne_blk B17 hg19 (by decide)); replace Zx := Zx.kept hgr (RZs.ne_blk Zx hg19 (by decide)); replace Sw := Sw.kept hgr (RUs.ne_blk Sw hg19 (by decide)); replace Qb := Qb.kept hgr (OBs.ne_blk Qb hg19 (by decide)); replace Qs := Qs.kept hgr (OBs.ne_blk Qs hg19 (by decide)); replace B11 := B11.kept hgr (OB.ne_blk B11 hg19 (by decide)); replace B10 := B10.kept hgr (OB.ne_blk B10 hg19 (by decide)); replace B9 := B9.kept hgr (OB.ne_blk B9 hg19 (by decide)); replace hg10 := hg10.grown hgr (by intro e; injection e with e; omega); replace hg11 := hg11.grown hgr (by intro e; injection e with e; omega); replace hg18 := hg18.grown hgr (by intro e; injection e with e; omega); replace o12 := o12.kept hgr (.inr no12g19); replace o13 := o13.kept hgr (.inr no13g19); replace o14 := o14.kept hgr (.inr no14g19); replace o15 := o15.kept hgr (.inr no15g19); replace HB := HB.grown hgr (by have := HB.size; omega) (by intro k e; injection e with e; omega); replace hg19 := hgn; replace hcg10 := hg10.cell; replace hfg10 := hg10.frozen; replace hcg11 := hg11.cell; replace hfg11 := hg11.frozen; replace hcg18 := hg18.cell; replace hfg18 := hg18.frozen; replace hcg19 := hg19.cell; replace hfg19 := hg19.frozen; clear hgn hgr)
              | (go_at_call 48; (with_reducible refine (Crd.out A17 c17 _ (HR.out.next HB) B17.rb).mono ?_); rintro e W8 ⟨A21, c21, rfl, U21, hb⟩; have hgr := grown_of_below hb; replace B19 := B19.kept hgr (by simp); replace B18 := B18.kept hgr (by simp); replace B17 := B17.kept hgr (by simp); replace Zx := Zx.kept hgr (by simp); replace Sw := Sw.kept hgr (by simp); replace Qb := Qb.kept hgr (by simp); replace Qs := Qs.kept hgr (by simp); replace B11 := B11.kept hgr (by simp); replace B10 := B10.kept hgr (by simp); replace B9 := B9.kept hgr (by simp); replace hg10 := hg10.grown hgr (by simp); replace hg11 := hg11.grown hgr (by simp); replace hg18 := hg18.grown hgr (by simp); replace hg19 := hg19.grown hgr (by simp); replace o12 := o12.kept hgr (by cases Value.ownBlock _ <;> simp); replace o13 := o13.kept hgr (by cases Value.ownBlock _ <;> simp); replace o14 := o14.kept hgr (by cases Value.ownBlock _ <;> simp); replace o15 := o15.kept hgr (by cases Value.ownBlock _ <;> simp); replace HB := HB.grown hgr (by have := HB.size; omega) (by simp); replace hcg10 := hg10.cell; replace hfg10 := hg10.frozen; replace hcg11 := hg11.cell; replace hfg11 := hg11.frozen; replace hcg18 := hg18.cell; replace hfg18 := hg18.frozen; replace hcg19 := hg19.cell; replace hfg19 := hg19.frozen; clear hb hgr)
              | ((with_reducible refine gate_dst (N := 21) rfl ?_); refine ev_alloc rfl rfl _ rec_zero ?_; intro g21 W9 hg21 hsz hbn; have hgr := grown_of_below hbn; have ng10g21 : g10 ≠ g21 := (by have := hg10.lt; omega); have ng11g21 : g11 ≠ g21 := (by have := hg11.lt; omega); have ng18g21 : g18 ≠ g21 := (by have := hg18.lt; omega); have ng19g21 : g19 ≠ g21 := (by have := hg19.lt; omega); have no12g21 := own_new o12 hsz; have no13g21 := own_new o13 hsz; have no14g21 := own_new o14 hsz; have no15g21 := own_new o15 hsz; replace hg21 : Blk W9 g21 _ (Rec.zero.cells none 0) := hg21; have zg21 : w.heap.size ≤ g21 := (by have := HB.size; omega); replace U21 := U21.kept hgr (by simp); replace B19 := B19.kept hgr (by simp); replace B18 := B18.kept hgr (by simp); replace B17 := B17.kept hgr (by simp); replace Zx := Zx.kept hgr (by simp); replace Sw := Sw.kept hgr (by simp); replace Qb := Qb.kept hgr (by simp); replace Qs := Qs.kept hgr (by simp); replace B11 := B11.kept hgr (by simp); replace B10 := B10.kept hgr (by simp); replace B9 := B9.kept hgr (by simp); replace hg10 := hg10.grown hgr (by simp); replace hg11 := hg11.grown hgr (by simp); replace hg18 := hg18.grown hgr (by simp); replace hg19 := hg19.grown hgr (by simp); replace o12 := o12.kept hgr (by cases Value.ownBlock _ <;> simp); replace o13 := o13.kept hgr (by cases Value.ownBlock _ <;> simp); replace o14 := o14.kept hgr (by cases Value.ownBlock _ <;> simp); replace o15 := o15.kept hgr (by cases Value.ownBlock _ <;> simp); replace HB := HB.grown hgr (by have := HB.size; omega) (by simp); have hcg21 := hg21.cell; have hfg21 := hg21.frozen; replace hcg10 := hg10.cell; replace hfg10 := hg10.frozen; replace hcg11 := hg11.cell; replace hfg11 := hg11.frozen; replace hcg18 := hg18.cell; replace hfg18 := hg18.frozen; replace hcg19 := hg19.cell; replace hfg19 := hg19.frozen; clear hsz hbn hgr)
              | ((with_reducible refine gate_store (p := 21) rfl ?_); refine ev_store_row (cs := D.cells A21 c21) rfl rfl rfl hg21 rfl rfl rec_size rfl (cells_one _ _ _) ?_; intro W10 hgn hgr; replace U21 := U21.kept hgr (RU.ne_blk U21 hg21 (by decide)); replace B19 := B19.kept hgr (OB.ne_blk B19 hg21 (by decide)); replace B18 := B18.kept hgr (OB.ne_blk B18 hg21 (by decide)); replace B17 := B17.kept hgr (OB.ne_blk B17 hg21 (by decide)); replace Zx := Zx.kept hgr (RZs.ne_blk Zx hg21 (by decide)); replace Sw := Sw.kept hgr (RUs.ne_blk Sw hg21 (by decide)); replace Qb := Qb.kept hgr (OBs.ne_blk Qb hg21 (by decide)); replace Qs := Qs.kept hgr (OBs.ne_blk Qs hg21 (by decide)); replace B11 := B11.kept hgr (OB.ne_blk B11 hg21 (by decide)); replace B10 := B10.kept hgr (OB.ne_blk B10 hg21 (by decide)); replace B9 := B9.kept hgr (OB.ne_blk B9 hg21 (by decide)); replace hg10 := hg10.grown hgr (by intro e; injection e with e; omega); replace hg11 := hg11.grown hgr (by intro e; injection e with e; omega); replace hg18 := hg18.grown hgr (by intro e; injection e with e; omega); replace hg19 := hg19.grown hgr (by intro e; injection e with e; omega); replace o12 := o12.kept hgr (.inr no12g21); replace o13 := o13.kept hgr (.inr no13g21); replace o14 := o14.kept hgr (.inr no14g21); replace o15 := o15.kept hgr (.inr no15g21); replace HB := HB.grown hgr (by have := HB.size; omega) (by intro k e; injection e with e; omega); replace hg21 := hgn; replace hcg10 := hg10.cell; replace hfg10 := hg10.frozen; replace hcg11 := hg11.cell; replace hfg11 := hg11.frozen; replace hcg18 := hg18.cell; replace hfg18 := hg18.frozen; replace hcg19 := hg19.cell; replace hfg19 := hg19.frozen; replace hcg21 := hg21.cell; replace hfg21 := hg21.frozen; clear hgn hgr)
              | ((with_reducible refine gate_dst (N := 85) rfl ?_); refine wpList_load_row rfl _ _ rfl g10 rfl _ _ (0, 0) _ hg10 Tryd.underlying27 rfl rec_size ?_)
              | (go_at_call 49; clear k3; (with_reducible refine (Ce.out _ (HT.out.next HB) B10.rb).mono ?_); rintro e W11 ⟨A23, c23, rfl, B23, hb⟩; have hgr := grown_of_below hb; have dB9B23 := B9.apart_new B23 (Nat.le_refl _); have dB10B23 := B10.apart_new B23 (Nat.le_refl _); have dB11B23 := B11.apart_new B23 (Nat.le_refl _); have dQsB23 := Qs.apart_new B23 (Nat.le_refl _); have dQbB23 := Qb.apart_new B23 (Nat.le_refl _); have dB17B23 := B17.apart_new B23 (Nat.le_refl _); have dB18B23 := B18.apart_new B23 (Nat.le_refl _); have dB19B23 := B19.apart_new B23 (Nat.le_refl _); replace B23 := B23.mono HB.size; replace U21 := U21.kept hgr (by simp); replace B19 := B19.kept hgr (by simp); replace B18 := B18.kept hgr (by simp); replace B17 := B17.kept hgr (by simp); replace Zx := Zx.kept hgr (by simp); replace Sw := Sw.kept hgr (by simp); replace Qb := Qb.kept hgr (by simp); replace Qs := Qs.kept hgr (by simp); replace B11 := B11.kept hgr (by simp); replace B10 := B10.kept hgr (by simp); replace B9 := B9.kept hgr (by simp); replace hg10 := hg10.grown hgr (by simp); replace hg11 := hg11.grown hgr (by simp); replace hg18 := hg18.grown hgr (by simp); replace hg19 := hg19.grown hgr (by simp); replace hg21 := hg21.grown hgr (by simp); replace o12 := o12.kept hgr (by cases Value.ownBlock _ <;> simp); replace o13 := o13.kept hgr (by cases Value.ownBlock _ <;> simp); replace o14 := o14.kept hgr (by cases Value.ownBlock _ <;> simp); replace o15 := o15.kept hgr (by cases Value.ownBlock _ <;> simp); replace HB := HB.grown hgr (by have := HB.size; omega) (by simp); replace hcg10 := hg10.cell; replace hfg10 := hg10.frozen; replace hcg11 := hg11.cell; replace hfg11 := hg11.frozen; replace hcg18 := hg18.cell; replace hfg18 := hg18.frozen; replace hcg19 := hg19.cell; replace hfg19 := hg19.frozen; replace hcg21 := hg21.cell; replace hfg21 := hg21.frozen; clear hb hgr)
              | ((with_reducible refine gate_dst (N := 90) rfl ?_); refine wpList_load_row rfl _ _ rfl g18 rfl _ _ (0, 0) _ hg18 Tryd.underlying27 rfl rec_size ?_)
              | (go_at_call 50; (with_reducible refine (Cre.out A18 c18 _ (HR.out.next HB) B18.rb).mono ?_); rintro e W12 ⟨A25, c25, rfl, B25, hb⟩; have hgr := grown_of_below hb; have dB9B25 := B9.apart_new B25 (Nat.le_refl _); have dB10B25 := B10.apart_new B25 (Nat.le_refl _); have dB11B25 := B11.apart_new B25 (Nat.le_refl _); have dQsB25 := Qs.apart_new B25 (Nat.le_refl _); have dQbB25 := Qb.apart_new B25 (Nat.le_refl _); have dB17B25 := B17.apart_new B25 (Nat.le_refl _); have dB18B25 := B18.apart_new B25 (Nat.le_refl _); have dB19B25 := B19.apart_new B25 (Nat.le_refl _); have dB23B25 := B23.apart_new B25 (Nat.le_refl _); replace B25 := B25.mono HB.size; replace B23 := B23.kept hgr (by simp); replace U21 := U21.kept hgr (by simp); replace B19 := B19.kept hgr (by simp); replace B18 := B18.kept hgr (by simp); replace B17 := B17.kept hgr (by simp); replace Zx := Zx.kept hgr (by simp); replace Sw := Sw.kept hgr (by simp); replace Qb := Qb.kept hgr (by simp); replace Qs := Qs.kept hgr (by simp); replace B11 := B11.kept hgr (by simp); replace B10 := B10.kept hgr (by simp); replace B9 := B9.kept hgr (by simp); replace hg10 := hg10.grown hgr (by simp); replace hg11 := hg11.grown hgr (by simp); replace hg18 := hg18.grown hgr (by simp); replace hg19 := hg19.grown hgr (by simp); replace hg21 := hg21.grown hgr (by simp); replace o12 := o12.kept hgr (by cases Value.ownBlock _ <;> simp); replace o13 := o13.kept hgr (by cases Value.ownBlock _ <;> simp); replace o14 := o14.kept hgr (by cases Value.ownBlock _ <;> simp); replace o15 := o15.kept hgr (by cases Value.ownBlock _ <;> simp); replace HB := HB.grown hgr (by have := HB.size; omega) (by simp); replace hcg10 := hg10.cell; replace hfg10 := hg10.frozen; replace hcg11 := hg11.cell; replace hfg11 := hg11.frozen; replace hcg18 := hg18.cell; replace hfg18 := hg18.frozen; replace hcg19 := hg19.cell; replace hfg19 := hg19.frozen; replace hcg21 := hg21.cell; replace hfg21 := hg21.frozen; clear hb hgr)
              | ((with_reducible refine gate_dst (N := 95) rfl ?_); refine wpList_load_row rfl _ _ rfl g10 rfl _ _ (0, 0) _ hg10 Tryd.underlying27 rfl rec_size ?_)
              | (go_at_call 51; (with_reducible refine (Csz.out _ (HT.out.next HB) B10.rb).mono ?_); rintro e W13 ⟨rfl, hb⟩; have hgr := grown_of_below hb; replace B25 := B25.kept hgr (by simp); replace B23 := B23.kept hgr (by simp); replace U21 := U21.kept hgr (by simp); replace B19 := B19.kept hgr (by simp); replace B18 := B18.kept hgr (by simp); replace B17 := B17.kept hgr (by simp); replace Zx := Zx.kept hgr (by simp); replace Sw := Sw.kept hgr (by simp); replace Qb := Qb.kept hgr (by simp); replace Qs := Qs.kept hgr (by simp); replace B11 := B11.kept hgr (by simp); replace B10 := B10.kept hgr (by simp); replace B9 := B9.kept hgr (by simp); replace hg10 := hg10.grown hgr (by simp); replace hg11 := hg11.grown hgr (by simp); replace hg18 := hg18.grown hgr (by simp); replace hg19 := hg19.grown hgr (by simp); replace hg21 := hg21.grown hgr (by simp); replace o12 := o12.kept hgr (by cases Value.ownBlock _ <;> simp); replace o13 := o13.kept hgr (by cases Value.ownBlock _ <;> simp); replace o14 := o14.kept hgr (by cases Value.ownBlock _ <;> simp); replace o15 := o15.kept hgr (by cases Value.ownBlock _ <;> simp); replace HB := HB.grown hgr (by have := HB.size; omega) (by simp); replace hcg10 := hg10.cell; replace hfg10 := hg10.frozen; replace hcg11 := hg11.cell; replace hfg11 := hg11.frozen; replace hcg18 := hg18.cell; replace hfg18 := hg18.frozen; replace hcg19 := hg19.cell; replace hfg19 := hg19.frozen; replace hcg21 := hg21.cell; replace hfg21 := hg21.frozen; clear hb hgr)
              | ((with_reducible refine gate_dst (N := 99) rfl ?_); refine wpList_load_row rfl _ _ rfl g10 rfl _ _ (0, 0) _ hg10 Tryd.underlying27 rfl rec_size ?_)
              | (go_at_call 52; (with_reducible refine (Cck.out _ (HT.out.next HB) B10.rb).mono ?_); rintro e W14 ⟨rfl, hb⟩; have hgr := grown_of_below hb; replace B25 := B25.kept hgr (by simp); replace B23 := B23.kept hgr (by simp); replace U21 := U21.kept hgr (by simp); replace B19 := B19.kept hgr (by simp); replace B18 := B18.kept hgr (by simp); replace B17 := B17.kept hgr (by simp); replace Zx := Zx.kept hgr (by simp); replace Sw := Sw.kept hgr (by simp); replace Qb := Qb.kept hgr (by simp); replace Qs := Qs.kept hgr (by simp); replace B11 := B11.kept hgr (by simp); replace B10 := B10.kept hgr (by simp); replace B9 := B9.kept hgr (by simp); replace hg10 := hg10.grown hgr (by simp); replace hg11 := hg11.grown hgr (by simp); replace hg18 := hg18.grown hgr (by simp); replace hg19 := hg19.grown hgr (by simp); replace hg21 := hg21.grown hgr (by simp); replace o12 := o12.kept hgr (by cases Value.ownBlock _ <;> simp); replace o13 := o13.kept hgr (by cases Value.ownBlock _ <;> simp); replace o14 := o14.kept hgr (by cases Value.ownBlock _ <;> simp); replace o15 := o15.kept hgr (by cases Value.ownBlock _ <;> simp); replace HB := HB.grown hgr (by have := HB.size; omega) (by simp); replace hcg10 := hg10.cell; replace hfg10 := hg10.frozen; replace hcg11 := hg11.cell; replace hfg11 := hg11.frozen; replace hcg18 := hg18.cell; replace hfg18 := hg18.frozen; replace hcg19 := hg19.cell; replace hfg19 := hg19.frozen; replace hcg21 := hg21.cell; replace hfg21 := hg21.frozen; clear hb hgr)
              | ((with_reducible refine gate_dst (N := 101) rfl ?_); refine wpList_load_row rfl _ _ rfl g10 rfl _ _ (0, 0) _ hg10 Tryd.underlying27 rfl rec_size ?_)
              | (go_at_call 19; (with_reducible refine (clone_ob q A10 c10 _ B10.rb (by omega)).mono ?_); rintro e W15 ⟨A30, c30, rfl, B30, hb⟩; have hgr := grown_of_below hb; have dB9B30 := B9.apart_new B30 (Nat.le_refl _); have dB10B30 := B10.apart_new B30 (Nat.le_refl _); have dB11B30 := B11.apart_new B30 (Nat.le_refl _); have dQsB30 := Qs.apart_new B30 (Nat.le_refl _); have dQbB30 := Qb.apart_new B30 (Nat.le_refl _); have dB17B30 := B17.apart_new B30 (Nat.le_refl _); have dB18B30 := B18.apart_new B30 (Nat.le_refl _); have dB19B30 := B19.apart_new B30 (Nat.le_refl _); have dB23B30 := B23.apart_new B30 (Nat.le_refl _); have dB25B30 := B25.apart_new B30 (Nat.le_refl _); replace B30 := B30.mono HB.size; replace B25 := B25.kept hgr (by simp); replace B23 := B23.kept hgr (by simp); replace U21 := U21.kept hgr (by simp); replace B19 := B19.kept hgr (by simp); replace B18 := B18.kept hgr (by simp); replace B17 := B17.kept hgr (by simp); replace Zx := Zx.kept hgr (by simp); replace Sw := Sw.kept hgr (by simp); replace Qb := Qb.kept hgr (by simp); replace Qs := Qs.kept hgr (by simp); replace B11 := B11.kept hgr (by simp); replace B10 := B10.kept hgr (by simp); replace B9 := B9.kept hgr (by simp); replace hg10 := hg10.grown hgr (by simp); replace hg11 := hg11.grown hgr (by simp); replace hg18 := hg18.grown hgr (by simp); replace hg19 := hg19.grown hgr (by simp); replace hg21 := hg21.grown hgr (by simp); replace o12 := o12.kept hgr (by cases Value.ownBlock _ <;> simp); replace o13 := o13.kept hgr (by cases Value.ownBlock _ <;> simp); replace o14 := o14.kept hgr (by cases Value.ownBlock _ <;> simp); replace o15 := o15.kept hgr (by cases Value.ownBlock _ <;> simp); replace HB := HB.grown hgr (by have := HB.size; omega) (by simp); replace hcg10 := hg10.cell; replace hfg10 := hg10.frozen; replace hcg11 := hg11.cell; replace hfg11 := hg11.frozen; replace hcg18 := hg18.cell; replace hfg18 := hg18.frozen; replace hcg19 := hg19.cell; replace hfg19 := hg19.frozen; replace hcg21 := hg21.cell; replace hfg21 := hg21.frozen; clear hb hgr)
              | ((with_reducible refine gate_dst (N := 30) rfl ?_); refine ev_alloc rfl rfl _ rec_zero ?_; intro g30 W16 hg30 hsz hbn; have hgr := grown_of_below hbn; have ng10g30 : g10 ≠ g30 := (by have := hg10.lt; omega); have ng11g30 : g11 ≠ g30 := (by have := hg11.lt; omega); have ng18g30 : g18 ≠ g30 := (by have := hg18.lt; omega); have ng19g30 : g19 ≠ g30 := (by have := hg19.lt; omega); have ng21g30 : g21 ≠ g30 := (by have := hg21.lt; omega); have no12g30 := own_new o12 hsz; have no13g30 := own_new o13 hsz; have no14g30 := own_new o14 hsz; have no15g30 := own_new o15 hsz; replace hg30 : Blk W16 g30 _ (Rec.zero.cells none 0) := hg30; have zg30 : w.heap.size ≤ g30 := (by have := HB.size; omega); replace B30 := B30.kept hgr (by simp); replace B25 := B25.kept hgr (by simp); replace B23 := B23.kept hgr (by simp); replace U21 := U21.kept hgr (by simp); replace B19 := B19.kept hgr (by simp); replace B18 := B18.kept hgr (by simp); replace B17 := B17.kept hgr (by simp); replace Zx := Zx.kept hgr (by simp); replace Sw := Sw.kept hgr (by simp); replace Qb := Qb.kept hgr (by simp); replace Qs := Qs.kept hgr (by simp); replace B11 := B11.kept hgr (by simp); replace B10 := B10.kept hgr (by simp); replace B9 := B9.kept hgr (by simp); replace hg10 := hg10.grown hgr (by simp); replace hg11 := hg11.grown hgr (by simp); replace hg18 := hg18.grown hgr (by simp); replace hg19 := hg19.grown hgr (by simp); replace hg21 := hg21.grown hgr (by simp); replace o12 := o12.kept hgr (by cases Value.ownBlock _ <;> simp); replace o13 := o13.kept hgr (by cases Value.ownBlock _ <;> simp); replace o14 := o14.kept hgr (by cases Value.ownBlock _ <;> simp); replace o15 := o15.kept hgr (by cases Value.ownBlock _ <;> simp); replace HB := HB.grown hgr (by have := HB.size; omega) (by simp); have hcg30 := hg30.cell; have hfg30 := hg30.frozen; replace hcg10 := hg10.cell; replace hfg10 := hg10.frozen; replace hcg11 := hg11.cell; replace hfg11 := hg11.frozen; replace hcg18 := hg18.cell; replace hfg18 := hg18.frozen; replace hcg19 := hg19.cell; replace hfg19 := hg19.frozen; replace hcg21 := hg21.cell; replace hfg21 := hg21.frozen; clear hsz hbn hgr)
              | ((with_reducible refine gate_store (p := 30) rfl ?_); refine ev_store_row (cs := q.cells A30 c30) rfl rfl rfl hg30 rfl rfl rec_size rfl (cells_one _ _ _) ?_; intro W17 hgn hgr; replace B30 := B30.kept hgr (OB.ne_blk B30 hg30 (by decide)); replace B25 := B25.kept hgr (OB.ne_blk B25 hg30 (by decide)); replace B23 := B23.kept hgr (OB.ne_blk B23 hg30 (by decide)); replace U21 := U21.kept hgr (RU.ne_blk U21 hg30 (by decide)); replace B19 := B19.kept hgr (OB.ne_blk B19 hg30 (by decide)); replace B18 := B18.kept hgr (OB.ne_blk B18 hg30 (by decide)); replace B17 := B17.kept hgr (OB.ne_blk B17 hg30 (by decide)); replace Zx := Zx.kept hgr (RZs.ne_blk Zx hg30 (by decide)); replace Sw := Sw.kept hgr (RUs.ne_blk Sw hg30 (by decide)); replace Qb := Qb.kept hgr (OBs.ne_blk Qb hg30 (by decide)); replace Qs := Qs.kept hgr (OBs.ne_blk Qs hg30 (by decide)); replace B11 := B11.kept hgr (OB.ne_blk B11 hg30 (by decide)); replace B10 := B10.kept hgr (OB.ne_blk B10 hg30 (by decide)); replace B9 := B9.kept hgr (OB.ne_blk B9 hg30 (by decide)); replace hg10 := hg10.grown hgr (by intro e; injection e with e; omega); replace hg11 := hg11.grown hgr (by intro e; injection e with e; omega); replace hg18 := hg18.grown hgr (by intro e; injection e with e; omega); replace hg19 := hg19.grown hgr (by intro e; injection e with e; omega); replace hg21 := hg21.grown hgr (by intro e; injection e with e; omega); replace o12 := o12.kept hgr (.inr no12g30); replace o13 := o13.kept hgr (.inr no13g30); replace o14 := o14.kept hgr (.inr no14g30); replace o15 := o15.kept hgr (.inr no15g30); replace HB := HB.grown hgr (by have := HB.size; omega) (by intro k e; injection e with e; omega); replace hg30 := hgn; replace hcg10 := hg10.cell; replace hfg10 := hg10.frozen; replace hcg11 := hg11.cell; replace hfg11 := hg11.frozen; replace hcg18 := hg18.cell; replace hfg18 := hg18.frozen; replace hcg19 := hg19.cell; replace hfg19 := hg19.frozen; replace hcg21 := hg21.cell; replace hfg21 := hg21.frozen; replace hcg30 := hg30.cell; replace hfg30 := hg30.frozen; clear hgn hgr))
            have Hl9 := Lib.hid B9.rb
            have Hl17 := Lib.hid B17.rb
            have Hl18 := Lib.hid B18.rb
            have Hl19 := Lib.hid B19.rb
            have Hl21 := Lib.hid U21.rb
            have Hl23 := Lib.hid B23.rb
            have Hl25 := Lib.hid B25.rb
            have Hg18 := Lib.hid hg18
            have Hg19 := Lib.hid hg19
            have Hg21 := Lib.hid hg21
            have Hrt := Lib.hid (HR.out.next HB)
            have HBm := Lib.hid HB
            clear hcg10 hfg10 hcg11 hfg11 hcg18 hfg18 hcg19 hfg19 hcg21 hfg21 hcg30 hfg30
            simp only [Act.put, List.setIfInBounds_toArray, List.set_cons_succ, List.set_cons_zero]
            as_aux_lemma =>
              refine held_start (fun w' => Below W17.heap.size W17 w') (by kernel_rfl) (fun wd hbd => ?_)
              replace HB := hbd
              refine take_at (i := 0) (v := .int .i64 de) 103 rfl rfl (by kernel_rfl) (by kernel_rfl) (by kernel_rfl) (fun _ _ _ h => h) (.inl ⟨rfl, fun w h => by simp [go_sem]⟩) HB ?_
              simp only [Act.put, List.getElem_toArray, List.getElem_cons_succ, List.getElem_cons_zero, List.setIfInBounds_toArray, List.set_cons_succ, List.set_cons_zero]
              refine take_at (i := 2) (v := .int .i64 de) 105 rfl rfl (by kernel_rfl) (by kernel_rfl) (by kernel_rfl) (fun _ _ _ h => h) (.inl ⟨rfl, fun w h => by simp [go_sem]⟩) HB ?_
              simp only [Act.put, List.getElem_toArray, List.getElem_cons_succ, List.getElem_cons_zero, List.setIfInBounds_toArray, List.set_cons_succ, List.set_cons_zero]
              refine held_one (i := 1) (by kernel_rfl) rfl ?_
              (refine ev_call1 rfl rfl ⟨_, _, Tryd.func53, by kernel_rfl, rfl⟩ rfl ?_; refine Calls.mono (num3_b de _) ?_; rintro e W1 ⟨rfl, hb⟩; refine ⟨_, rfl, ?_⟩; have hgr := grown_of_below hb; replace HB := HB.grown hgr (by have := HB.size; omega) (by simp); clear hb hgr)
              refine ⟨HB, ?_⟩
              try simp only [Act.put, List.getElem_toArray, List.getElem_cons_succ, List.getElem_cons_zero, List.setIfInBounds_toArray, List.set_cons_succ, List.set_cons_zero]
              refine held_one (i := 3) (by kernel_rfl) rfl ?_
              refine ev_run rfl (w1 := W1) (v := .bool false) (by simp [go_sem]) ?_
              refine ⟨HB, ?_⟩
              try simp only [Act.put, List.getElem_toArray, List.getElem_cons_succ, List.getElem_cons_zero, List.setIfInBounds_toArray, List.set_cons_succ, List.set_cons_zero]
              refine held_one (i := 4) (by kernel_rfl) rfl ?_
              refine ev_run rfl (w1 := W1) (v := .bool false) (by simp [go_sem]) ?_
              refine ⟨HB, ?_⟩
              try simp only [Act.put, List.getElem_toArray, List.getElem_cons_succ, List.getElem_cons_zero, List.setIfInBounds_toArray, List.set_cons_succ, List.set_cons_zero]
              refine take_at (i := 5) (v := .agg (D.cells A19 c19)) 108 rfl rfl (by kernel_rfl) (by kernel_rfl) (by kernel_rfl) (fun _ _ _ h => h) (yields_at rfl rfl rfl (fun w h => blk_at (Hg19.out.next h)) Tryd.underlying27 rfl rec_size) HB ?_
              simp only [Act.put, List.getElem_toArray, List.getElem_cons_succ, List.getElem_cons_zero, List.setIfInBounds_toArray, List.set_cons_succ, List.set_cons_zero]
              refine take_at (i := 6) (v := .agg (D.cells A21 c21)) 109 rfl rfl (by kernel_rfl) (by kernel_rfl) (by kernel_rfl) (fun _ _ _ h => h) (yields_at rfl rfl rfl (fun w h => blk_at (Hg21.out.next h)) Tryd.underlying27 rfl rec_size) HB ?_
              simp only [Act.put, List.getElem_toArray, List.getElem_cons_succ, List.getElem_cons_zero, List.setIfInBounds_toArray, List.set_cons_succ, List.set_cons_zero]
              refine held_one (i := 7) (by kernel_rfl) rfl ?_
              refine wpList_ungate (by first | rfl | simp [Region.wanted, yielded]) ?_
              (refine ev_call2 rfl rfl ⟨_, _, Tryd.func42, by kernel_rfl, rfl⟩ rfl rfl ?_; refine Calls.mono (same_any D A19 A21 c19 c21 _ (Hl19.out.next HB) (Hl21.out.next HB) (by omega)) ?_; rintro e W2 ⟨rfl, hb⟩; refine ⟨_, rfl, ?_⟩; have hgr := grown_of_below hb; replace HB := HB.grown hgr (by have := HB.size; omega) (by simp); clear hb hgr)
              refine ⟨HB, ?_⟩
              try simp only [Act.put, List.getElem_toArray, List.getElem_cons_succ, List.getElem_cons_zero, List.setIfInBounds_toArray, List.set_cons_succ, List.set_cons_zero]
              refine held_one (i := 8) (by kernel_rfl) rfl ?_
              refine wpList_ungate (by first | rfl | simp [Region.wanted, yielded]) ?_
              refine ev_run rfl (w1 := W2) (v := .bool false) (by simp [go_sem]) ?_
              refine ⟨HB, ?_⟩
              try simp only [Act.put, List.getElem_toArray, List.getElem_cons_succ, List.getElem_cons_zero, List.setIfInBounds_toArray, List.set_cons_succ, List.set_cons_zero]
              refine held_one (i := 9) (by kernel_rfl) rfl ?_
              refine ev_run rfl (w1 := W2) (v := .bool false) (by simp [go_sem]) ?_
              refine ⟨HB, ?_⟩
              try simp only [Act.put, List.getElem_toArray, List.getElem_cons_succ, List.getElem_cons_zero, List.setIfInBounds_toArray, List.set_cons_succ, List.set_cons_zero]
              refine held_one (i := 10) (by kernel_rfl) rfl ?_
              refine ev_run rfl (w1 := W2) (v := .bool false) (by simp [go_sem]) ?_
              refine ⟨HB, ?_⟩
              try simp only [Act.put, List.getElem_toArray, List.getElem_cons_succ, List.getElem_cons_zero, List.setIfInBounds_toArray, List.set_cons_succ, List.set_cons_zero]
              refine take_at (i := 11) (v := .slice A9 nb c9) 114 rfl rfl (by kernel_rfl) (by kernel_rfl) (by kernel_rfl) (fun _ _ _ h => h) (.inl ⟨rfl, fun w h => by simp [go_sem]⟩) HB ?_
              simp only [Act.put, List.getElem_toArray, List.getElem_cons_succ, List.getElem_cons_zero, List.setIfInBounds_toArray, List.set_cons_succ, List.set_cons_zero]
              refine take_at (i := 12) (v := .slice A17 nb c17) 115 rfl rfl (by kernel_rfl) (by kernel_rfl) (by kernel_rfl) (fun _ _ _ h => h) (.inl ⟨rfl, fun w h => by simp [go_sem]⟩) HB ?_
              simp only [Act.put, List.getElem_toArray, List.getElem_cons_succ, List.getElem_cons_zero, List.setIfInBounds_toArray, List.set_cons_succ, List.set_cons_zero]
              refine held_one (i := 13) (by kernel_rfl) rfl ?_
              refine wpList_ungate (by first | rfl | simp [Region.wanted, yielded]) ?_
              (refine ev_call2 rfl rfl ⟨_, _, Tryd.func54, by kernel_rfl, rfl⟩ rfl rfl ?_; refine Calls.mono (alike_n bf nb Hbl.out A9 A17 c9 c17 (by omega) _ (Hl9.out.next HB) (Hl17.out.next HB)) ?_; rintro e W3 ⟨rfl, hb⟩; refine ⟨_, rfl, ?_⟩; have hgr := grown_of_below hb; replace HB := HB.grown hgr (by have := HB.size; omega) (by simp); clear hb hgr)
              refine ⟨HB, ?_⟩
              try simp only [Act.put, List.getElem_toArray, List.getElem_cons_succ, List.getElem_cons_zero, List.setIfInBounds_toArray, List.set_cons_succ, List.set_cons_zero]
              refine held_one (i := 14) (by kernel_rfl) rfl ?_
              refine wpList_ungate (by first | rfl | simp [Region.wanted, yielded]) ?_
              refine ev_run rfl (w1 := W3) (v := .bool false) (by simp [go_sem]) ?_
              refine ⟨HB, ?_⟩
              try simp only [Act.put, List.getElem_toArray, List.getElem_cons_succ, List.getElem_cons_zero, List.setIfInBounds_toArray, List.set_cons_succ, List.set_cons_zero]
              refine held_one (i := 15) (by kernel_rfl) rfl ?_
              refine ev_run rfl (w1 := W3) (v := .bool false) (by simp [go_sem]) ?_
              refine ⟨HB, ?_⟩
              try simp only [Act.put, List.getElem_toArray, List.getElem_cons_succ, List.getElem_cons_zero, List.setIfInBounds_toArray, List.set_cons_succ, List.set_cons_zero]
              refine held_one (i := 16) (by kernel_rfl) rfl ?_
              refine ev_run rfl (w1 := W3) (v := .bool false) (by simp [go_sem]) ?_
              refine ⟨HB, ?_⟩
              try simp only [Act.put, List.getElem_toArray, List.getElem_cons_succ, List.getElem_cons_zero, List.setIfInBounds_toArray, List.set_cons_succ, List.set_cons_zero]
              refine take_at (i := 17) (v := .int .i64 ck) 120 rfl rfl (by kernel_rfl) (by kernel_rfl) (by kernel_rfl) (fun _ _ _ h => h) (.inl ⟨rfl, fun w h => by simp [go_sem]⟩) HB ?_
              simp only [Act.put, List.getElem_toArray, List.getElem_cons_succ, List.getElem_cons_zero, List.setIfInBounds_toArray, List.set_cons_succ, List.set_cons_zero]
              refine take_at (i := 19) (v := .int .i64 ck) 122 rfl rfl (by kernel_rfl) (by kernel_rfl) (by kernel_rfl) (fun _ _ _ h => h) (.inl ⟨rfl, fun w h => by simp [go_sem]⟩) HB ?_
              simp only [Act.put, List.getElem_toArray, List.getElem_cons_succ, List.getElem_cons_zero, List.setIfInBounds_toArray, List.set_cons_succ, List.set_cons_zero]
              refine held_one (i := 18) (by kernel_rfl) rfl ?_
              refine wpList_ungate (by first | rfl | simp [Region.wanted, yielded]) ?_
              (refine ev_call1 rfl rfl ⟨_, _, Tryd.func53, by kernel_rfl, rfl⟩ rfl ?_; refine Calls.mono (num3_b ck _) ?_; rintro e W4 ⟨rfl, hb⟩; refine ⟨_, rfl, ?_⟩; have hgr := grown_of_below hb; replace HB := HB.grown hgr (by have := HB.size; omega) (by simp); clear hb hgr)
              refine ⟨HB, ?_⟩
              try simp only [Act.put, List.getElem_toArray, List.getElem_cons_succ, List.getElem_cons_zero, List.setIfInBounds_toArray, List.set_cons_succ, List.set_cons_zero]
              refine held_one (i := 20) (by kernel_rfl) rfl ?_
              refine wpList_ungate (by first | rfl | simp [Region.wanted, yielded]) ?_
              refine ev_run rfl (w1 := W4) (v := .bool false) (by simp [go_sem]) ?_
              refine ⟨HB, ?_⟩
              try simp only [Act.put, List.getElem_toArray, List.getElem_cons_succ, List.getElem_cons_zero, List.setIfInBounds_toArray, List.set_cons_succ, List.set_cons_zero]
              refine held_one (i := 21) (by kernel_rfl) rfl ?_
              refine ev_run rfl (w1 := W4) (v := .bool false) (by simp [go_sem]) ?_
              refine ⟨HB, ?_⟩
              try simp only [Act.put, List.getElem_toArray, List.getElem_cons_succ, List.getElem_cons_zero, List.setIfInBounds_toArray, List.set_cons_succ, List.set_cons_zero]
              refine held_one (i := 22) (by kernel_rfl) rfl ?_
              refine ev_run rfl (w1 := W4) (v := .bool false) (by simp [go_sem]) ?_
              refine ⟨HB, ?_⟩
              try simp only [Act.put, List.getElem_toArray, List.getElem_cons_succ, List.getElem_cons_zero, List.setIfInBounds_toArray, List.set_cons_succ, List.set_cons_zero]
              refine take_at (i := 23) (v := .slice A23 ne c23) 126 rfl rfl (by kernel_rfl) (by kernel_rfl) (by kernel_rfl) (fun _ _ _ h => h) (.inl ⟨rfl, fun w h => by simp [go_sem]⟩) HB ?_
              simp only [Act.put, List.getElem_toArray, List.getElem_cons_succ, List.getElem_cons_zero, List.setIfInBounds_toArray, List.set_cons_succ, List.set_cons_zero]
              refine take_at (i := 24) (v := .slice A25 ne c25) 127 rfl rfl (by kernel_rfl) (by kernel_rfl) (by kernel_rfl) (fun _ _ _ h => h) (.inl ⟨rfl, fun w h => by simp [go_sem]⟩) HB ?_
              simp only [Act.put, List.getElem_toArray, List.getElem_cons_succ, List.getElem_cons_zero, List.setIfInBounds_toArray, List.set_cons_succ, List.set_cons_zero]
              refine held_one (i := 25) (by kernel_rfl) rfl ?_
              refine wpList_ungate (by first | rfl | simp [Region.wanted, yielded]) ?_
              (refine ev_call2 rfl rfl ⟨_, _, Tryd.func54, by kernel_rfl, rfl⟩ rfl rfl ?_; refine Calls.mono (alike_n E ne Hne.out A23 A25 c23 c25 (by omega) _ (Hl23.out.next HB) (Hl25.out.next HB)) ?_; rintro e W5 ⟨rfl, hb⟩; refine ⟨_, rfl, ?_⟩; have hgr := grown_of_below hb; replace HB := HB.grown hgr (by have := HB.size; omega) (by simp); clear hb hgr)
              refine ⟨HB, ?_⟩
              try simp only [Act.put, List.getElem_toArray, List.getElem_cons_succ, List.getElem_cons_zero, List.setIfInBounds_toArray, List.set_cons_succ, List.set_cons_zero]
              refine held_one (i := 26) (by kernel_rfl) rfl ?_
              refine wpList_ungate (by first | rfl | simp [Region.wanted, yielded]) ?_
              refine ev_run rfl (w1 := W5) (v := .bool false) (by simp [go_sem]) ?_
              refine ⟨HB, ?_⟩
              try simp only [Act.put, List.getElem_toArray, List.getElem_cons_succ, List.getElem_cons_zero, List.setIfInBounds_toArray, List.set_cons_succ, List.set_cons_zero]
              refine held_one (i := 27) (by kernel_rfl) rfl ?_
              refine ev_run rfl (w1 := W5) (v := .bool false) (by simp [go_sem]) ?_
              refine ⟨HB, ?_⟩
              try simp only [Act.put, List.getElem_toArray, List.getElem_cons_succ, List.getElem_cons_zero, List.setIfInBounds_toArray, List.set_cons_succ, List.set_cons_zero]
              refine held_one (i := 28) (by kernel_rfl) rfl ?_
              refine ev_run rfl (w1 := W5) (v := .bool false) (by simp [go_sem]) ?_
              refine ⟨HB, ?_⟩
              try simp only [Act.put, List.getElem_toArray, List.getElem_cons_succ, List.getElem_cons_zero, List.setIfInBounds_toArray, List.set_cons_succ, List.set_cons_zero]
              refine take_at (i := 29) (v := .int .i64 ne) 132 rfl rfl (by kernel_rfl) (by kernel_rfl) (by kernel_rfl) (fun _ _ _ h => h) (.inl ⟨rfl, fun w h => by simp [go_sem]⟩) HB ?_
              simp only [Act.put, List.getElem_toArray, List.getElem_cons_succ, List.getElem_cons_zero, List.setIfInBounds_toArray, List.set_cons_succ, List.set_cons_zero]
              refine take_at (i := 30) (v := .slice A25 ne c25) 133 rfl rfl (by kernel_rfl) (by kernel_rfl) (by kernel_rfl) (fun _ _ _ h => h) (.inl ⟨rfl, fun w h => by simp [go_sem]⟩) HB ?_
              simp only [Act.put, List.getElem_toArray, List.getElem_cons_succ, List.getElem_cons_zero, List.setIfInBounds_toArray, List.set_cons_succ, List.set_cons_zero]
              refine held_one (i := 31) (by kernel_rfl) rfl ?_
              refine wpList_ungate (by first | rfl | simp [Region.wanted, yielded]) ?_
              refine ev_run rfl (w1 := W5) (v := .int .i64 ne) (by simp [go_sem]) ?_
              refine ⟨HB, ?_⟩
              try simp only [Act.put, List.getElem_toArray, List.getElem_cons_succ, List.getElem_cons_zero, List.setIfInBounds_toArray, List.set_cons_succ, List.set_cons_zero]
              refine held_one (i := 32) (by kernel_rfl) rfl ?_
              refine wpList_ungate (by first | rfl | simp [Region.wanted, yielded]) ?_
              refine ev_run rfl (w1 := W5) (v := .bool false) (by simp [go_sem]) ?_
              refine ⟨HB, ?_⟩
              try simp only [Act.put, List.getElem_toArray, List.getElem_cons_succ, List.getElem_cons_zero, List.setIfInBounds_toArray, List.set_cons_succ, List.set_cons_zero]
              refine held_one (i := 33) (by kernel_rfl) rfl ?_
              refine ev_run rfl (w1 := W5) (v := .bool false) (by simp [go_sem]) ?_
              refine ⟨HB, ?_⟩
              try simp only [Act.put, List.getElem_toArray, List.getElem_cons_succ, List.getElem_cons_zero, List.setIfInBounds_toArray, List.set_cons_succ, List.set_cons_zero]
              refine held_one (i := 34) (by kernel_rfl) rfl ?_
              refine ev_run rfl (w1 := W5) (v := .bool false) (by simp [go_sem]) ?_
              refine ⟨HB, ?_⟩
              try simp only [Act.put, List.getElem_toArray, List.getElem_cons_succ, List.getElem_cons_zero, List.setIfInBounds_toArray, List.set_cons_succ, List.set_cons_zero]
              refine take_at (i := 35) (v := .int .i64 ck) 138 rfl rfl (by kernel_rfl) (by kernel_rfl) (by kernel_rfl) (fun _ _ _ h => h) (.inl ⟨rfl, fun w h => by simp [go_sem]⟩) HB ?_
              simp only [Act.put, List.getElem_toArray, List.getElem_cons_succ, List.getElem_cons_zero, List.setIfInBounds_toArray, List.set_cons_succ, List.set_cons_zero]
              refine take_at (i := 37) (v := .int .i64 ck) 140 rfl rfl (by kernel_rfl) (by kernel_rfl) (by kernel_rfl) (fun _ _ _ h => h) (.inl ⟨rfl, fun w h => by simp [go_sem]⟩) HB ?_
              simp only [Act.put, List.getElem_toArray, List.getElem_cons_succ, List.getElem_cons_zero, List.setIfInBounds_toArray, List.set_cons_succ, List.set_cons_zero]
              refine held_one (i := 36) (by kernel_rfl) rfl ?_
              refine wpList_ungate (by first | rfl | simp [Region.wanted, yielded]) ?_
              (refine ev_call1 rfl rfl ⟨_, _, Tryd.func53, by kernel_rfl, rfl⟩ rfl ?_; refine Calls.mono (num3_b ck _) ?_; rintro e W6 ⟨rfl, hb⟩; refine ⟨_, rfl, ?_⟩; have hgr := grown_of_below hb; replace HB := HB.grown hgr (by have := HB.size; omega) (by simp); clear hb hgr)
              refine ⟨HB, ?_⟩
              try simp only [Act.put, List.getElem_toArray, List.getElem_cons_succ, List.getElem_cons_zero, List.setIfInBounds_toArray, List.set_cons_succ, List.set_cons_zero]
              refine held_one (i := 38) (by kernel_rfl) rfl ?_
              refine wpList_ungate (by first | rfl | simp [Region.wanted, yielded]) ?_
              refine ev_run rfl (w1 := W6) (v := .bool false) (by simp [go_sem]) ?_
              refine ⟨HB, ?_⟩
              try simp only [Act.put, List.getElem_toArray, List.getElem_cons_succ, List.getElem_cons_zero, List.setIfInBounds_toArray, List.set_cons_succ, List.set_cons_zero]
              refine held_one (i := 39) (by kernel_rfl) rfl ?_
              refine ev_run rfl (w1 := W6) (v := .bool false) (by simp [go_sem]) ?_
              refine ⟨HB, ?_⟩
              try simp only [Act.put, List.getElem_toArray, List.getElem_cons_succ, List.getElem_cons_zero, List.setIfInBounds_toArray, List.set_cons_succ, List.set_cons_zero]
              refine held_one (i := 40) (by kernel_rfl) rfl ?_
              refine ev_run rfl (w1 := W6) (v := .bool false) (by simp [go_sem]) ?_
              refine ⟨HB, ?_⟩
              try simp only [Act.put, List.getElem_toArray, List.getElem_cons_succ, List.getElem_cons_zero, List.setIfInBounds_toArray, List.set_cons_succ, List.set_cons_zero]
              refine take_at (i := 41) (v := .int .i64 ck) 144 rfl rfl (by kernel_rfl) (by kernel_rfl) (by kernel_rfl) (fun _ _ _ h => h) (.inl ⟨rfl, fun w h => by simp [go_sem]⟩) HB ?_
              simp only [Act.put, List.getElem_toArray, List.getElem_cons_succ, List.getElem_cons_zero, List.setIfInBounds_toArray, List.set_cons_succ, List.set_cons_zero]
              refine take_at (i := 43) (v := .agg (q.cells A18 c18)) 146 rfl rfl (by kernel_rfl) (by kernel_rfl) (by kernel_rfl) (fun _ _ _ h => h) (yields_at rfl rfl rfl (fun w h => blk_at (Hg18.out.next h)) Tryd.underlying27 rfl rec_size) HB ?_
              simp only [Act.put, List.getElem_toArray, List.getElem_cons_succ, List.getElem_cons_zero, List.setIfInBounds_toArray, List.set_cons_succ, List.set_cons_zero]
              refine held_one (i := 42) (by kernel_rfl) rfl ?_
              refine wpList_ungate (by first | rfl | simp [Region.wanted, yielded]) ?_
              (refine ev_call1 rfl rfl ⟨_, _, Tryd.func53, by kernel_rfl, rfl⟩ rfl ?_; refine Calls.mono (num3_b ck _) ?_; rintro e W7 ⟨rfl, hb⟩; refine ⟨_, rfl, ?_⟩; have hgr := grown_of_below hb; replace HB := HB.grown hgr (by have := HB.size; omega) (by simp); clear hb hgr)
              refine ⟨HB, ?_⟩
              try simp only [Act.put, List.getElem_toArray, List.getElem_cons_succ, List.getElem_cons_zero, List.setIfInBounds_toArray, List.set_cons_succ, List.set_cons_zero]
              refine held_one (i := 44) (by kernel_rfl) rfl ?_
              refine wpList_ungate (by first | rfl | simp [Region.wanted, yielded]) ?_
              (refine ev_call1 rfl rfl ⟨_, _, Tryd.func55, by kernel_rfl, rfl⟩ rfl ?_; refine Calls.mono (Crc.out A18 c18 _ (Hrt.out.next HB) (Hl18.out.next HB)) ?_; rintro e W8 ⟨rfl, hb⟩; refine ⟨_, rfl, ?_⟩; have hgr := grown_of_below hb; replace HB := HB.grown hgr (by have := HB.size; omega) (by simp); clear hb hgr)
              refine ⟨HB, ?_⟩
              try simp only [Act.put, List.getElem_toArray, List.getElem_cons_succ, List.getElem_cons_zero, List.setIfInBounds_toArray, List.set_cons_succ, List.set_cons_zero]
              refine held_one (i := 45) (by kernel_rfl) rfl ?_
              refine wpList_ungate (by first | rfl | simp [Region.wanted, yielded]) ?_
              refine ev_run rfl (w1 := W8) (v := .bool false) (by simp [go_sem]) ?_
              refine ⟨HB, ?_⟩
              try simp only [Act.put, List.getElem_toArray, List.getElem_cons_succ, List.getElem_cons_zero, List.setIfInBounds_toArray, List.set_cons_succ, List.set_cons_zero]
              refine held_one (i := 46) (by kernel_rfl) rfl ?_
              refine ev_run rfl (w1 := W8) (v := .bool false) (by simp [go_sem]) ?_
              refine ⟨HB, ?_⟩
              try simp only [Act.put, List.getElem_toArray, List.getElem_cons_succ, List.getElem_cons_zero, List.setIfInBounds_toArray, List.set_cons_succ, List.set_cons_zero]
              refine wpAnyH_done (by kernel_rfl) ?_ _
              have hbN := HB
              replace HB := HBm.out
              replace hg10 := hg10.next hbN
              replace hg11 := hg11.next hbN
              replace hg18 := hg18.next hbN
              replace hg19 := hg19.next hbN
              replace hg21 := hg21.next hbN
              replace hg30 := hg30.next hbN
              replace o12 := own_next o12 hbN
              replace o13 := own_next o13 hbN
              replace o14 := own_next o14 hbN
              replace o15 := own_next o15 hbN
              replace B9 := B9.next hbN
              replace B10 := B10.next hbN
              replace B11 := B11.next hbN
              replace Qs := Qs.next hbN
              replace Qb := Qb.next hbN
              replace Sw := Sw.next hbN
              replace Zx := Zx.next hbN
              replace B17 := B17.next hbN
              replace B18 := B18.next hbN
              replace B19 := B19.next hbN
              replace U21 := U21.next hbN
              replace B23 := B23.next hbN
              replace B25 := B25.next hbN
              replace B30 := B30.next hbN
              replace HB := below_go HB hbN
              clear hbN Hl9 Hl17 Hl18 Hl19 Hl21 Hl23 Hl25 Hg18 Hg19 Hg21 Hrt HBm
              have k4 : True := trivial
              have k5 : True := trivial
              have k6 : True := trivial
              go_wp2_with (first
                | (go_at_call 47; (with_reducible refine (Cd.out A9 c9 hbc (by omega) _ (HT.out.next HB) B9.rb).mono ?_); rintro e W1 ⟨A31, c31, rfl, B31, hb⟩; have hgr := grown_of_below hb; have dB9B31 := B9.apart_new B31 (Nat.le_refl _); have dB10B31 := B10.apart_new B31 (Nat.le_refl _); have dB11B31 := B11.apart_new B31 (Nat.le_refl _); have dQsB31 := Qs.apart_new B31 (Nat.le_refl _); have dQbB31 := Qb.apart_new B31 (Nat.le_refl _); have dB17B31 := B17.apart_new B31 (Nat.le_refl _); have dB18B31 := B18.apart_new B31 (Nat.le_refl _); have dB19B31 := B19.apart_new B31 (Nat.le_refl _); have dB23B31 := B23.apart_new B31 (Nat.le_refl _); have dB25B31 := B25.apart_new B31 (Nat.le_refl _); have dB30B31 := B30.apart_new B31 (Nat.le_refl _); replace B31 := B31.mono HB.size; replace B30 := B30.kept hgr (by simp); replace B25 := B25.kept hgr (by simp); replace B23 := B23.kept hgr (by simp); replace U21 := U21.kept hgr (by simp); replace B19 := B19.kept hgr (by simp); replace B18 := B18.kept hgr (by simp); replace B17 := B17.kept hgr (by simp); replace Zx := Zx.kept hgr (by simp); replace Sw := Sw.kept hgr (by simp); replace Qb := Qb.kept hgr (by simp); replace Qs := Qs.kept hgr (by simp); replace B11 := B11.kept hgr (by simp); replace B10 := B10.kept hgr (by simp); replace B9 := B9.kept hgr (by simp); replace hg10 := hg10.grown hgr (by simp); replace hg11 := hg11.grown hgr (by simp); replace hg18 := hg18.grown hgr (by simp); replace hg19 := hg19.grown hgr (by simp); replace hg21 := hg21.grown hgr (by simp); replace hg30 := hg30.grown hgr (by simp); replace o12 := o12.kept hgr (by cases Value.ownBlock _ <;> simp); replace o13 := o13.kept hgr (by cases Value.ownBlock _ <;> simp); replace o14 := o14.kept hgr (by cases Value.ownBlock _ <;> simp); replace o15 := o15.kept hgr (by cases Value.ownBlock _ <;> simp); replace HB := HB.grown hgr (by have := HB.size; omega) (by simp); replace hcg10 := hg10.cell; replace hfg10 := hg10.frozen; replace hcg11 := hg11.cell; replace hfg11 := hg11.frozen; replace hcg18 := hg18.cell; replace hfg18 := hg18.frozen; replace hcg19 := hg19.cell; replace hfg19 := hg19.frozen; replace hcg21 := hg21.cell; replace hfg21 := hg21.frozen; replace hcg30 := hg30.cell; replace hfg30 := hg30.frozen; clear hb hgr)
                | ((with_reducible refine gate_dst (N := 31) rfl ?_); refine ev_alloc rfl rfl _ rec_zero ?_; intro g31 W2 hg31 hsz hbn; have hgr := grown_of_below hbn; have ng10g31 : g10 ≠ g31 := (by have := hg10.lt; omega); have ng11g31 : g11 ≠ g31 := (by have := hg11.lt; omega); have ng18g31 : g18 ≠ g31 := (by have := hg18.lt; omega); have ng19g31 : g19 ≠ g31 := (by have := hg19.lt; omega); have ng21g31 : g21 ≠ g31 := (by have := hg21.lt; omega); have ng30g31 : g30 ≠ g31 := (by have := hg30.lt; omega); have no12g31 := own_new o12 hsz; have no13g31 := own_new o13 hsz; have no14g31 := own_new o14 hsz; have no15g31 := own_new o15 hsz; replace hg31 : Blk W2 g31 _ (Rec.zero.cells none 0) := hg31; have zg31 : w.heap.size ≤ g31 := (by have := HB.size; omega); replace B31 := B31.kept hgr (by simp); replace B30 := B30.kept hgr (by simp); replace B25 := B25.kept hgr (by simp); replace B23 := B23.kept hgr (by simp); replace U21 := U21.kept hgr (by simp); replace B19 := B19.kept hgr (by simp); replace B18 := B18.kept hgr (by simp); replace B17 := B17.kept hgr (by simp); replace Zx := Zx.kept hgr (by simp); replace Sw := Sw.kept hgr (by simp); replace Qb := Qb.kept hgr (by simp); replace Qs := Qs.kept hgr (by simp); replace B11 := B11.kept hgr (by simp); replace B10 := B10.kept hgr (by simp); replace B9 := B9.kept hgr (by simp); replace hg10 := hg10.grown hgr (by simp); replace hg11 := hg11.grown hgr (by simp); replace hg18 := hg18.grown hgr (by simp); replace hg19 := hg19.grown hgr (by simp); replace hg21 := hg21.grown hgr (by simp); replace hg30 := hg30.grown hgr (by simp); replace o12 := o12.kept hgr (by cases Value.ownBlock _ <;> simp); replace o13 := o13.kept hgr (by cases Value.ownBlock _ <;> simp); replace o14 := o14.kept hgr (by cases Value.ownBlock _ <;> simp); replace o15 := o15.kept hgr (by cases Value.ownBlock _ <;> simp); replace HB := HB.grown hgr (by have := HB.size; omega) (by simp); have hcg31 := hg31.cell; have hfg31 := hg31.frozen; replace hcg10 := hg10.cell; replace hfg10 := hg10.frozen; replace hcg11 := hg11.cell; replace hfg11 := hg11.frozen; replace hcg18 := hg18.cell; replace hfg18 := hg18.frozen; replace hcg19 := hg19.cell; replace hfg19 := hg19.frozen; replace hcg21 := hg21.cell; replace hfg21 := hg21.frozen; replace hcg30 := hg30.cell; replace hfg30 := hg30.frozen; clear hsz hbn hgr)
                | ((with_reducible refine gate_store (p := 31) rfl ?_); refine ev_store_row (cs := D.cells A31 c31) rfl rfl rfl hg31 rfl rfl rec_size rfl (cells_one _ _ _) ?_; intro W3 hgn hgr; replace B31 := B31.kept hgr (OB.ne_blk B31 hg31 (by decide)); replace B30 := B30.kept hgr (OB.ne_blk B30 hg31 (by decide)); replace B25 := B25.kept hgr (OB.ne_blk B25 hg31 (by decide)); replace B23 := B23.kept hgr (OB.ne_blk B23 hg31 (by decide)); replace U21 := U21.kept hgr (RU.ne_blk U21 hg31 (by decide)); replace B19 := B19.kept hgr (OB.ne_blk B19 hg31 (by decide)); replace B18 := B18.kept hgr (OB.ne_blk B18 hg31 (by decide)); replace B17 := B17.kept hgr (OB.ne_blk B17 hg31 (by decide)); replace Zx := Zx.kept hgr (RZs.ne_blk Zx hg31 (by decide)); replace Sw := Sw.kept hgr (RUs.ne_blk Sw hg31 (by decide)); replace Qb := Qb.kept hgr (OBs.ne_blk Qb hg31 (by decide)); replace Qs := Qs.kept hgr (OBs.ne_blk Qs hg31 (by decide)); replace B11 := B11.kept hgr (OB.ne_blk B11 hg31 (by decide)); replace B10 := B10.kept hgr (OB.ne_blk B10 hg31 (by decide)); replace B9 := B9.kept hgr (OB.ne_blk B9 hg31 (by decide)); replace hg10 := hg10.grown hgr (by intro e; injection e with e; omega); replace hg11 := hg11.grown hgr (by intro e; injection e with e; omega); replace hg18 := hg18.grown hgr (by intro e; injection e with e; omega); replace hg19 := hg19.grown hgr (by intro e; injection e with e; omega); replace hg21 := hg21.grown hgr (by intro e; injection e with e; omega); replace hg30 := hg30.grown hgr (by intro e; injection e with e; omega); replace o12 := o12.kept hgr (.inr no12g31); replace o13 := o13.kept hgr (.inr no13g31); replace o14 := o14.kept hgr (.inr no14g31); replace o15 := o15.kept hgr (.inr no15g31); replace HB := HB.grown hgr (by have := HB.size; omega) (by intro k e; injection e with e; omega); replace hg31 := hgn; replace hcg10 := hg10.cell; replace hfg10 := hg10.frozen; replace hcg11 := hg11.cell; replace hfg11 := hg11.frozen; replace hcg18 := hg18.cell; replace hfg18 := hg18.frozen; replace hcg19 := hg19.cell; replace hfg19 := hg19.frozen; replace hcg21 := hg21.cell; replace hfg21 := hg21.frozen; replace hcg30 := hg30.cell; replace hfg30 := hg30.frozen; replace hcg31 := hg31.cell; replace hfg31 := hg31.frozen; clear hgn hgr)
                | ((with_reducible refine gate_dst (N := 157) rfl ?_); refine wpList_load_row rfl _ _ rfl g10 rfl _ _ (0, 0) _ hg10 Tryd.underlying27 rfl rec_size ?_)
                | (go_at_call 49; (with_reducible refine (Ce.out _ (HT.out.next HB) B10.rb).mono ?_); rintro e W4 ⟨A33, c33, rfl, B33, hb⟩; have hgr := grown_of_below hb; have dB9B33 := B9.apart_new B33 (Nat.le_refl _); have dB10B33 := B10.apart_new B33 (Nat.le_refl _); have dB11B33 := B11.apart_new B33 (Nat.le_refl _); have dQsB33 := Qs.apart_new B33 (Nat.le_refl _); have dQbB33 := Qb.apart_new B33 (Nat.le_refl _); have dB17B33 := B17.apart_new B33 (Nat.le_refl _); have dB18B33 := B18.apart_new B33 (Nat.le_refl _); have dB19B33 := B19.apart_new B33 (Nat.le_refl _); have dB23B33 := B23.apart_new B33 (Nat.le_refl _); have dB25B33 := B25.apart_new B33 (Nat.le_refl _); have dB30B33 := B30.apart_new B33 (Nat.le_refl _); have dB31B33 := B31.apart_new B33 (Nat.le_refl _); replace B33 := B33.mono HB.size; replace B31 := B31.kept hgr (by simp); replace B30 := B30.kept hgr (by simp); replace B25 := B25.kept hgr (by simp); replace B23 := B23.kept hgr (by simp); replace U21 := U21.kept hgr (by simp); replace B19 := B19.kept hgr (by simp); replace B18 := B18.kept hgr (by simp); replace B17 := B17.kept hgr (by simp); replace Zx := Zx.kept hgr (by simp); replace Sw := Sw.kept hgr (by simp); replace Qb := Qb.kept hgr (by simp); replace Qs := Qs.kept hgr (by simp); replace B11 := B11.kept hgr (by simp); replace B10 := B10.kept hgr (by simp); replace B9 := B9.kept hgr (by simp); replace hg10 := hg10.grown hgr (by simp); replace hg11 := hg11.grown hgr (by simp); replace hg18 := hg18.grown hgr (by simp); replace hg19 := hg19.grown hgr (by simp); replace hg21 := hg21.grown hgr (by simp); replace hg30 := hg30.grown hgr (by simp); replace hg31 := hg31.grown hgr (by simp); replace o12 := o12.kept hgr (by cases Value.ownBlock _ <;> simp); replace o13 := o13.kept hgr (by cases Value.ownBlock _ <;> simp); replace o14 := o14.kept hgr (by cases Value.ownBlock _ <;> simp); replace o15 := o15.kept hgr (by cases Value.ownBlock _ <;> simp); replace HB := HB.grown hgr (by have := HB.size; omega) (by simp); replace hcg10 := hg10.cell; replace hfg10 := hg10.frozen; replace hcg11 := hg11.cell; replace hfg11 := hg11.frozen; replace hcg18 := hg18.cell; replace hfg18 := hg18.frozen; replace hcg19 := hg19.cell; replace hfg19 := hg19.frozen; replace hcg21 := hg21.cell; replace hfg21 := hg21.frozen; replace hcg30 := hg30.cell; replace hfg30 := hg30.frozen; replace hcg31 := hg31.cell; replace hfg31 := hg31.frozen; clear hb hgr)
                | ((with_reducible refine gate_dst (N := 161) rfl ?_); refine wpList_load_row rfl _ _ rfl g10 rfl _ _ (0, 0) _ hg10 Tryd.underlying27 rfl rec_size ?_)
                | (go_at_call 19; (with_reducible refine (clone_ob q A10 c10 _ B10.rb (by omega)).mono ?_); rintro e W5 ⟨A35, c35, rfl, B35, hb⟩; have hgr := grown_of_below hb; have dB9B35 := B9.apart_new B35 (Nat.le_refl _); have dB10B35 := B10.apart_new B35 (Nat.le_refl _); have dB11B35 := B11.apart_new B35 (Nat.le_refl _); have dQsB35 := Qs.apart_new B35 (Nat.le_refl _); have dQbB35 := Qb.apart_new B35 (Nat.le_refl _); have dB17B35 := B17.apart_new B35 (Nat.le_refl _); have dB18B35 := B18.apart_new B35 (Nat.le_refl _); have dB19B35 := B19.apart_new B35 (Nat.le_refl _); have dB23B35 := B23.apart_new B35 (Nat.le_refl _); have dB25B35 := B25.apart_new B35 (Nat.le_refl _); have dB30B35 := B30.apart_new B35 (Nat.le_refl _); have dB31B35 := B31.apart_new B35 (Nat.le_refl _); have dB33B35 := B33.apart_new B35 (Nat.le_refl _); replace B35 := B35.mono HB.size; replace B33 := B33.kept hgr (by simp); replace B31 := B31.kept hgr (by simp); replace B30 := B30.kept hgr (by simp); replace B25 := B25.kept hgr (by simp); replace B23 := B23.kept hgr (by simp); replace U21 := U21.kept hgr (by simp); replace B19 := B19.kept hgr (by simp); replace B18 := B18.kept hgr (by simp); replace B17 := B17.kept hgr (by simp); replace Zx := Zx.kept hgr (by simp); replace Sw := Sw.kept hgr (by simp); replace Qb := Qb.kept hgr (by simp); replace Qs := Qs.kept hgr (by simp); replace B11 := B11.kept hgr (by simp); replace B10 := B10.kept hgr (by simp); replace B9 := B9.kept hgr (by simp); replace hg10 := hg10.grown hgr (by simp); replace hg11 := hg11.grown hgr (by simp); replace hg18 := hg18.grown hgr (by simp); replace hg19 := hg19.grown hgr (by simp); replace hg21 := hg21.grown hgr (by simp); replace hg30 := hg30.grown hgr (by simp); replace hg31 := hg31.grown hgr (by simp); replace o12 := o12.kept hgr (by cases Value.ownBlock _ <;> simp); replace o13 := o13.kept hgr (by cases Value.ownBlock _ <;> simp); replace o14 := o14.kept hgr (by cases Value.ownBlock _ <;> simp); replace o15 := o15.kept hgr (by cases Value.ownBlock _ <;> simp); replace HB := HB.grown hgr (by have := HB.size; omega) (by simp); replace hcg10 := hg10.cell; replace hfg10 := hg10.frozen; replace hcg11 := hg11.cell; replace hfg11 := hg11.frozen; replace hcg18 := hg18.cell; replace hfg18 := hg18.frozen; replace hcg19 := hg19.cell; replace hfg19 := hg19.frozen; replace hcg21 := hg21.cell; replace hfg21 := hg21.frozen; replace hcg30 := hg30.cell; replace hfg30 := hg30.frozen; replace hcg31 := hg31.cell; replace hfg31 := hg31.frozen; clear hb hgr)
                | ((with_reducible refine gate_dst (N := 35) rfl ?_); refine ev_alloc rfl rfl _ rec_zero ?_; intro g35 W6 hg35 hsz hbn; have hgr := grown_of_below hbn; have ng10g35 : g10 ≠ g35 := (by have := hg10.lt; omega); have ng11g35 : g11 ≠ g35 := (by have := hg11.lt; omega); have ng18g35 : g18 ≠ g35 := (by have := hg18.lt; omega); have ng19g35 : g19 ≠ g35 := (by have := hg19.lt; omega); have ng21g35 : g21 ≠ g35 := (by have := hg21.lt; omega); have ng30g35 : g30 ≠ g35 := (by have := hg30.lt; omega); have ng31g35 : g31 ≠ g35 := (by have := hg31.lt; omega); have no12g35 := own_new o12 hsz; have no13g35 := own_new o13 hsz; have no14g35 := own_new o14 hsz; have no15g35 := own_new o15 hsz; replace hg35 : Blk W6 g35 _ (Rec.zero.cells none 0) := hg35; have zg35 : w.heap.size ≤ g35 := (by have := HB.size; omega); replace B35 := B35.kept hgr (by simp); replace B33 := B33.kept hgr (by simp); replace B31 := B31.kept hgr (by simp); replace B30 := B30.kept hgr (by simp); replace B25 := B25.kept hgr (by simp); replace B23 := B23.kept hgr (by simp); replace U21 := U21.kept hgr (by simp); replace B19 := B19.kept hgr (by simp); replace B18 := B18.kept hgr (by simp); replace B17 := B17.kept hgr (by simp); replace Zx := Zx.kept hgr (by simp); replace Sw := Sw.kept hgr (by simp); replace Qb := Qb.kept hgr (by simp); replace Qs := Qs.kept hgr (by simp); replace B11 := B11.kept hgr (by simp); replace B10 := B10.kept hgr (by simp); replace B9 := B9.kept hgr (by simp); replace hg10 := hg10.grown hgr (by simp); replace hg11 := hg11.grown hgr (by simp); replace hg18 := hg18.grown hgr (by simp); replace hg19 := hg19.grown hgr (by simp); replace hg21 := hg21.grown hgr (by simp); replace hg30 := hg30.grown hgr (by simp); replace hg31 := hg31.grown hgr (by simp); replace o12 := o12.kept hgr (by cases Value.ownBlock _ <;> simp); replace o13 := o13.kept hgr (by cases Value.ownBlock _ <;> simp); replace o14 := o14.kept hgr (by cases Value.ownBlock _ <;> simp); replace o15 := o15.kept hgr (by cases Value.ownBlock _ <;> simp); replace HB := HB.grown hgr (by have := HB.size; omega) (by simp); have hcg35 := hg35.cell; have hfg35 := hg35.frozen; replace hcg10 := hg10.cell; replace hfg10 := hg10.frozen; replace hcg11 := hg11.cell; replace hfg11 := hg11.frozen; replace hcg18 := hg18.cell; replace hfg18 := hg18.frozen; replace hcg19 := hg19.cell; replace hfg19 := hg19.frozen; replace hcg21 := hg21.cell; replace hfg21 := hg21.frozen; replace hcg30 := hg30.cell; replace hfg30 := hg30.frozen; replace hcg31 := hg31.cell; replace hfg31 := hg31.frozen; clear hsz hbn hgr)
                | ((with_reducible refine gate_store (p := 35) rfl ?_); refine ev_store_row (cs := q.cells A35 c35) rfl rfl rfl hg35 rfl rfl rec_size rfl (cells_one _ _ _) ?_; intro W7 hgn hgr; replace B35 := B35.kept hgr (OB.ne_blk B35 hg35 (by decide)); replace B33 := B33.kept hgr (OB.ne_blk B33 hg35 (by decide)); replace B31 := B31.kept hgr (OB.ne_blk B31 hg35 (by decide)); replace B30 := B30.kept hgr (OB.ne_blk B30 hg35 (by decide)); replace B25 := B25.kept hgr (OB.ne_blk B25 hg35 (by decide)); replace B23 := B23.kept hgr (OB.ne_blk B23 hg35 (by decide)); replace U21 := U21.kept hgr (RU.ne_blk U21 hg35 (by decide)); replace B19 := B19.kept hgr (OB.ne_blk B19 hg35 (by decide)); replace B18 := B18.kept hgr (OB.ne_blk B18 hg35 (by decide)); replace B17 := B17.kept hgr (OB.ne_blk B17 hg35 (by decide)); replace Zx := Zx.kept hgr (RZs.ne_blk Zx hg35 (by decide)); replace Sw := Sw.kept hgr (RUs.ne_blk Sw hg35 (by decide)); replace Qb := Qb.kept hgr (OBs.ne_blk Qb hg35 (by decide)); replace Qs := Qs.kept hgr (OBs.ne_blk Qs hg35 (by decide)); replace B11 := B11.kept hgr (OB.ne_blk B11 hg35 (by decide)); replace B10 := B10.kept hgr (OB.ne_blk B10 hg35 (by decide)); replace B9 := B9.kept hgr (OB.ne_blk B9 hg35 (by decide)); replace hg10 := hg10.grown hgr (by intro e; injection e with e; omega); replace hg11 := hg11.grown hgr (by intro e; injection e with e; omega); replace hg18 := hg18.grown hgr (by intro e; injection e with e; omega); replace hg19 := hg19.grown hgr (by intro e; injection e with e; omega); replace hg21 := hg21.grown hgr (by intro e; injection e with e; omega); replace hg30 := hg30.grown hgr (by intro e; injection e with e; omega); replace hg31 := hg31.grown hgr (by intro e; injection e with e; omega); replace o12 := o12.kept hgr (.inr no12g35); replace o13 := o13.kept hgr (.inr no13g35); replace o14 := o14.kept hgr (.inr no14g35); replace o15 := o15.kept hgr (.inr no15g35); replace HB := HB.grown hgr (by have := HB.size; omega) (by intro k e; injection e with e; omega); replace hg35 := hgn; replace hcg10 := hg10.cell; replace hfg10 := hg10.frozen; replace hcg11 := hg11.cell; replace hfg11 := hg11.frozen; replace hcg18 := hg18.cell; replace hfg18 := hg18.frozen; replace hcg19 := hg19.cell; replace hfg19 := hg19.frozen; replace hcg21 := hg21.cell; replace hfg21 := hg21.frozen; replace hcg30 := hg30.cell; replace hfg30 := hg30.frozen; replace hcg31 := hg31.cell; replace hfg31 := hg31.frozen; replace hcg35 := hg35.cell; replace hfg35 := hg35.frozen; clear hgn hgr)
                | (go_at_call 53; clear k4; (with_reducible refine (num3_b de _).mono ?_); rintro e W8 ⟨rfl, hb⟩; have hgr := grown_of_below hb; replace B35 := B35.kept hgr (by simp); replace B33 := B33.kept hgr (by simp); replace B31 := B31.kept hgr (by simp); replace B30 := B30.kept hgr (by simp); replace B25 := B25.kept hgr (by simp); replace B23 := B23.kept hgr (by simp); replace U21 := U21.kept hgr (by simp); replace B19 := B19.kept hgr (by simp); replace B18 := B18.kept hgr (by simp); replace B17 := B17.kept hgr (by simp); replace Zx := Zx.kept hgr (by simp); replace Sw := Sw.kept hgr (by simp); replace Qb := Qb.kept hgr (by simp); replace Qs := Qs.kept hgr (by simp); replace B11 := B11.kept hgr (by simp); replace B10 := B10.kept hgr (by simp); replace B9 := B9.kept hgr (by simp); replace hg10 := hg10.grown hgr (by simp); replace hg11 := hg11.grown hgr (by simp); replace hg18 := hg18.grown hgr (by simp); replace hg19 := hg19.grown hgr (by simp); replace hg21 := hg21.grown hgr (by simp); replace hg30 := hg30.grown hgr (by simp); replace hg31 := hg31.grown hgr (by simp); replace hg35 := hg35.grown hgr (by simp); replace o12 := o12.kept hgr (by cases Value.ownBlock _ <;> simp); replace o13 := o13.kept hgr (by cases Value.ownBlock _ <;> simp); replace o14 := o14.kept hgr (by cases Value.ownBlock _ <;> simp); replace o15 := o15.kept hgr (by cases Value.ownBlock _ <;> simp); replace HB := HB.grown hgr (by have := HB.size; omega) (by simp); replace hcg10 := hg10.cell; replace hfg10 := hg10.frozen; replace hcg11 := hg11.cell; replace hfg11 := hg11.frozen; replace hcg18 := hg18.cell; replace hfg18 := hg18.frozen; replace hcg19 := hg19.cell; replace hfg19 := hg19.frozen; replace hcg21 := hg21.cell; replace hfg21 := hg21.frozen; replace hcg30 := hg30.cell; replace hfg30 := hg30.frozen; replace hcg31 := hg31.cell; replace hfg31 := hg31.frozen; replace hcg35 := hg35.cell; replace hfg35 := hg35.frozen; clear hb hgr)
                | ((with_reducible refine gate_dst (N := 168) rfl ?_); (first | (refine wpList_ungate ?_ ?_; focus (first | rfl | (simp [Region.wanted, yielded]; done))) | (refine wpList_ungate (by first | rfl | simp [Region.wanted, yielded]) ?_)); refine wpList_load_row rfl _ _ rfl g31 rfl _ _ (0, 0) _ hg31 Tryd.underlying27 rfl rec_size ?_)
                | ((with_reducible refine gate_dst (N := 169) rfl ?_); (first | (refine wpList_ungate ?_ ?_; focus (first | rfl | (simp [Region.wanted, yielded]; done))) | (refine wpList_ungate (by first | rfl | simp [Region.wanted, yielded]) ?_)); refine wpList_load_row rfl _ _ rfl g21 rfl _ _ (0, 0) _ hg21 Tryd.underlying27 rfl rec_size ?_)
                | (go_at_call 42; clear k5; (with_reducible refine (same_any D A31 A21 c31 c21 _ B31.rb U21.rb (by omega)).mono ?_); rintro e W9 ⟨rfl, hb⟩; have hgr := grown_of_below hb; replace B35 := B35.kept hgr (by simp); replace B33 := B33.kept hgr (by simp); replace B31 := B31.kept hgr (by simp); replace B30 := B30.kept hgr (by simp); replace B25 := B25.kept hgr (by simp); replace B23 := B23.kept hgr (by simp); replace U21 := U21.kept hgr (by simp); replace B19 := B19.kept hgr (by simp); replace B18 := B18.kept hgr (by simp); replace B17 := B17.kept hgr (by simp); replace Zx := Zx.kept hgr (by simp); replace Sw := Sw.kept hgr (by simp); replace Qb := Qb.kept hgr (by simp); replace Qs := Qs.kept hgr (by simp); replace B11 := B11.kept hgr (by simp); replace B10 := B10.kept hgr (by simp); replace B9 := B9.kept hgr (by simp); replace hg10 := hg10.grown hgr (by simp); replace hg11 := hg11.grown hgr (by simp); replace hg18 := hg18.grown hgr (by simp); replace hg19 := hg19.grown hgr (by simp); replace hg21 := hg21.grown hgr (by simp); replace hg30 := hg30.grown hgr (by simp); replace hg31 := hg31.grown hgr (by simp); replace hg35 := hg35.grown hgr (by simp); replace o12 := o12.kept hgr (by cases Value.ownBlock _ <;> simp); replace o13 := o13.kept hgr (by cases Value.ownBlock _ <;> simp); replace o14 := o14.kept hgr (by cases Value.ownBlock _ <;> simp); replace o15 := o15.kept hgr (by cases Value.ownBlock _ <;> simp); replace HB := HB.grown hgr (by have := HB.size; omega) (by simp); replace hcg10 := hg10.cell; replace hfg10 := hg10.frozen; replace hcg11 := hg11.cell; replace hfg11 := hg11.frozen; replace hcg18 := hg18.cell; replace hfg18 := hg18.frozen; replace hcg19 := hg19.cell; replace hfg19 := hg19.frozen; replace hcg21 := hg21.cell; replace hfg21 := hg21.frozen; replace hcg30 := hg30.cell; replace hfg30 := hg30.frozen; replace hcg31 := hg31.cell; replace hfg31 := hg31.frozen; replace hcg35 := hg35.cell; replace hfg35 := hg35.frozen; clear hb hgr)
                | (go_at_call 53; (with_reducible refine (num3_b ck _).mono ?_); rintro e W10 ⟨rfl, hb⟩; have hgr := grown_of_below hb; replace B35 := B35.kept hgr (by simp); replace B33 := B33.kept hgr (by simp); replace B31 := B31.kept hgr (by simp); replace B30 := B30.kept hgr (by simp); replace B25 := B25.kept hgr (by simp); replace B23 := B23.kept hgr (by simp); replace U21 := U21.kept hgr (by simp); replace B19 := B19.kept hgr (by simp); replace B18 := B18.kept hgr (by simp); replace B17 := B17.kept hgr (by simp); replace Zx := Zx.kept hgr (by simp); replace Sw := Sw.kept hgr (by simp); replace Qb := Qb.kept hgr (by simp); replace Qs := Qs.kept hgr (by simp); replace B11 := B11.kept hgr (by simp); replace B10 := B10.kept hgr (by simp); replace B9 := B9.kept hgr (by simp); replace hg10 := hg10.grown hgr (by simp); replace hg11 := hg11.grown hgr (by simp); replace hg18 := hg18.grown hgr (by simp); replace hg19 := hg19.grown hgr (by simp); replace hg21 := hg21.grown hgr (by simp); replace hg30 := hg30.grown hgr (by simp); replace hg31 := hg31.grown hgr (by simp); replace hg35 := hg35.grown hgr (by simp); replace o12 := o12.kept hgr (by cases Value.ownBlock _ <;> simp); replace o13 := o13.kept hgr (by cases Value.ownBlock _ <;> simp); replace o14 := o14.kept hgr (by cases Value.ownBlock _ <;> simp); replace o15 := o15.kept hgr (by cases Value.ownBlock _ <;> simp); replace HB := HB.grown hgr (by have := HB.size; omega) (by simp); replace hcg10 := hg10.cell; replace hfg10 := hg10.frozen; replace hcg11 := hg11.cell; replace hfg11 := hg11.frozen; replace hcg18 := hg18.cell; replace hfg18 := hg18.frozen; replace hcg19 := hg19.cell; replace hfg19 := hg19.frozen; replace hcg21 := hg21.cell; replace hfg21 := hg21.frozen; replace hcg30 := hg30.cell; replace hfg30 := hg30.frozen; replace hcg31 := hg31.cell; replace hfg31 := hg31.frozen; replace hcg35 := hg35.cell; replace hfg35 := hg35.frozen; clear hb hgr)
                | (go_at_call 54; (with_reducible refine (alike_n E ne Hne.out A33 A25 c33 c25 (by omega) _ B33.rb B25.rb).mono ?_); rintro e W11 ⟨rfl, hb⟩; have hgr := grown_of_below hb; replace B35 := B35.kept hgr (by simp); replace B33 := B33.kept hgr (by simp); replace B31 := B31.kept hgr (by simp); replace B30 := B30.kept hgr (by simp); replace B25 := B25.kept hgr (by simp); replace B23 := B23.kept hgr (by simp); replace U21 := U21.kept hgr (by simp); replace B19 := B19.kept hgr (by simp); replace B18 := B18.kept hgr (by simp); replace B17 := B17.kept hgr (by simp); replace Zx := Zx.kept hgr (by simp); replace Sw := Sw.kept hgr (by simp); replace Qb := Qb.kept hgr (by simp); replace Qs := Qs.kept hgr (by simp); replace B11 := B11.kept hgr (by simp); replace B10 := B10.kept hgr (by simp); replace B9 := B9.kept hgr (by simp); replace hg10 := hg10.grown hgr (by simp); replace hg11 := hg11.grown hgr (by simp); replace hg18 := hg18.grown hgr (by simp); replace hg19 := hg19.grown hgr (by simp); replace hg21 := hg21.grown hgr (by simp); replace hg30 := hg30.grown hgr (by simp); replace hg31 := hg31.grown hgr (by simp); replace hg35 := hg35.grown hgr (by simp); replace o12 := o12.kept hgr (by cases Value.ownBlock _ <;> simp); replace o13 := o13.kept hgr (by cases Value.ownBlock _ <;> simp); replace o14 := o14.kept hgr (by cases Value.ownBlock _ <;> simp); replace o15 := o15.kept hgr (by cases Value.ownBlock _ <;> simp); replace HB := HB.grown hgr (by have := HB.size; omega) (by simp); replace hcg10 := hg10.cell; replace hfg10 := hg10.frozen; replace hcg11 := hg11.cell; replace hfg11 := hg11.frozen; replace hcg18 := hg18.cell; replace hfg18 := hg18.frozen; replace hcg19 := hg19.cell; replace hfg19 := hg19.frozen; replace hcg21 := hg21.cell; replace hfg21 := hg21.frozen; replace hcg30 := hg30.cell; replace hfg30 := hg30.frozen; replace hcg31 := hg31.cell; replace hfg31 := hg31.frozen; replace hcg35 := hg35.cell; replace hfg35 := hg35.frozen; clear hb hgr)
                | ((with_reducible refine gate_dst (N := 186) rfl ?_); (first | (refine wpList_ungate ?_ ?_; focus (first | rfl | (simp [Region.wanted, yielded]; done))) | (refine wpList_ungate (by first | rfl | simp [Region.wanted, yielded]) ?_)); refine wpList_load_row rfl _ _ rfl g35 rfl _ _ (0, 0) _ hg35 Tryd.underlying27 rfl rec_size ?_)
                | ((with_reducible refine gate_dst (N := 187) rfl ?_); (first | (refine wpList_ungate ?_ ?_; focus (first | rfl | (simp [Region.wanted, yielded]; done))) | (refine wpList_ungate (by first | rfl | simp [Region.wanted, yielded]) ?_)); refine wpList_load_row rfl _ _ rfl g18 rfl _ _ (0, 0) _ hg18 Tryd.underlying27 rfl rec_size ?_)
                | (go_at_call 42; (with_reducible refine (same_any q A35 A18 c35 c18 _ B35.rb B18.rb (by omega)).mono ?_); rintro e W12 ⟨rfl, hb⟩; have hgr := grown_of_below hb; replace B35 := B35.kept hgr (by simp); replace B33 := B33.kept hgr (by simp); replace B31 := B31.kept hgr (by simp); replace B30 := B30.kept hgr (by simp); replace B25 := B25.kept hgr (by simp); replace B23 := B23.kept hgr (by simp); replace U21 := U21.kept hgr (by simp); replace B19 := B19.kept hgr (by simp); replace B18 := B18.kept hgr (by simp); replace B17 := B17.kept hgr (by simp); replace Zx := Zx.kept hgr (by simp); replace Sw := Sw.kept hgr (by simp); replace Qb := Qb.kept hgr (by simp); replace Qs := Qs.kept hgr (by simp); replace B11 := B11.kept hgr (by simp); replace B10 := B10.kept hgr (by simp); replace B9 := B9.kept hgr (by simp); replace hg10 := hg10.grown hgr (by simp); replace hg11 := hg11.grown hgr (by simp); replace hg18 := hg18.grown hgr (by simp); replace hg19 := hg19.grown hgr (by simp); replace hg21 := hg21.grown hgr (by simp); replace hg30 := hg30.grown hgr (by simp); replace hg31 := hg31.grown hgr (by simp); replace hg35 := hg35.grown hgr (by simp); replace o12 := o12.kept hgr (by cases Value.ownBlock _ <;> simp); replace o13 := o13.kept hgr (by cases Value.ownBlock _ <;> simp); replace o14 := o14.kept hgr (by cases Value.ownBlock _ <;> simp); replace o15 := o15.kept hgr (by cases Value.ownBlock _ <;> simp); replace HB := HB.grown hgr (by have := HB.size; omega) (by simp); replace hcg10 := hg10.cell; replace hfg10 := hg10.frozen; replace hcg11 := hg11.cell; replace hfg11 := hg11.frozen; replace hcg18 := hg18.cell; replace hfg18 := hg18.frozen; replace hcg19 := hg19.cell; replace hfg19 := hg19.frozen; replace hcg21 := hg21.cell; replace hfg21 := hg21.frozen; replace hcg30 := hg30.cell; replace hfg30 := hg30.frozen; replace hcg31 := hg31.cell; replace hfg31 := hg31.frozen; replace hcg35 := hg35.cell; replace hfg35 := hg35.frozen; clear hb hgr))
              have csm := fun A B c d w ha hb => same_calls q R0 A B c d w ha hb
              have crs := fun A B c d w ha hb => refSame_calls q R0 A B c d w ha hb (by omega) (by omega)
              generalize q.same R0 = sm at csm crs
              have Csm := Lib.hid csm
              have Crs := Lib.hid crs
              have Hl10 := Lib.hid B10.rb
              have Hl11 := Lib.hid B11.rb
              have Hl18 := Lib.hid B18.rb
              have Hl30 := Lib.hid B30.rb
              have Hg10 := Lib.hid hg10
              have Hg11 := Lib.hid hg11
              have Hg18 := Lib.hid hg18
              have Hg30 := Lib.hid hg30
              have HBm := Lib.hid HB
              clear csm crs hcg10 hfg10 hcg11 hfg11 hcg18 hfg18 hcg19 hfg19 hcg21 hfg21 hcg30 hfg30 hcg31 hfg31 hcg35 hfg35
              try simp only [Act.put, List.setIfInBounds_toArray, List.set_cons_succ, List.set_cons_zero]
              as_aux_lemma =>
                refine held_start (fun w' => Below W12.heap.size W12 w') (by kernel_rfl) (fun wd hbd => ?_)
                replace HB := hbd
                refine take_at (i := 0) (v := .agg (q.cells A30 c30)) 191 rfl rfl (by kernel_rfl) (by kernel_rfl) (by kernel_rfl) (fun _ _ _ h => h) (yields_at rfl rfl rfl (fun w h => blk_at (Hg30.out.next h)) Tryd.underlying27 rfl rec_size) HB ?_
                simp only [Act.put, List.getElem_toArray, List.getElem_cons_succ, List.getElem_cons_zero, List.setIfInBounds_toArray, List.set_cons_succ, List.set_cons_zero]
                refine take_at (i := 1) (v := .agg (q.cells A18 c18)) 192 rfl rfl (by kernel_rfl) (by kernel_rfl) (by kernel_rfl) (fun _ _ _ h => h) (yields_at rfl rfl rfl (fun w h => blk_at (Hg18.out.next h)) Tryd.underlying27 rfl rec_size) HB ?_
                simp only [Act.put, List.getElem_toArray, List.getElem_cons_succ, List.getElem_cons_zero, List.setIfInBounds_toArray, List.set_cons_succ, List.set_cons_zero]
                refine held_one (i := 2) (by kernel_rfl) rfl ?_
                (refine ev_call2 rfl rfl ⟨_, _, Tryd.func42, by kernel_rfl, rfl⟩ rfl rfl ?_; refine Calls.mono (same_any q A30 A18 c30 c18 _ (Hl30.out.next HB) (Hl18.out.next HB) (by omega)) ?_; rintro e W1 ⟨rfl, hb⟩; refine ⟨_, rfl, ?_⟩; have hgr := grown_of_below hb; replace HB := HB.grown hgr (by have := HB.size; omega) (by simp); clear hb hgr)
                refine ⟨HB, ?_⟩
                try simp only [Act.put, List.getElem_toArray, List.getElem_cons_succ, List.getElem_cons_zero, List.setIfInBounds_toArray, List.set_cons_succ, List.set_cons_zero]
                refine held_one (i := 3) (by kernel_rfl) rfl ?_
                refine ev_run rfl (w1 := W1) (v := .bool false) (by simp [go_sem]) ?_
                refine ⟨HB, ?_⟩
                try simp only [Act.put, List.getElem_toArray, List.getElem_cons_succ, List.getElem_cons_zero, List.setIfInBounds_toArray, List.set_cons_succ, List.set_cons_zero]
                refine held_one (i := 4) (by kernel_rfl) rfl ?_
                refine ev_run rfl (w1 := W1) (v := .bool false) (by simp [go_sem]) ?_
                refine ⟨HB, ?_⟩
                try simp only [Act.put, List.getElem_toArray, List.getElem_cons_succ, List.getElem_cons_zero, List.setIfInBounds_toArray, List.set_cons_succ, List.set_cons_zero]
                refine take_at (i := 5) (v := .agg (q.cells A10 c10)) 196 rfl rfl (by kernel_rfl) (by kernel_rfl) (by kernel_rfl) (fun _ _ _ h => h) (yields_at rfl rfl rfl (fun w h => blk_at (Hg10.out.next h)) Tryd.underlying27 rfl rec_size) HB ?_
                simp only [Act.put, List.getElem_toArray, List.getElem_cons_succ, List.getElem_cons_zero, List.setIfInBounds_toArray, List.set_cons_succ, List.set_cons_zero]
                refine take_at (i := 6) (v := .agg (q.cells A18 c18)) 197 rfl rfl (by kernel_rfl) (by kernel_rfl) (by kernel_rfl) (fun _ _ _ h => h) (yields_at rfl rfl rfl (fun w h => blk_at (Hg18.out.next h)) Tryd.underlying27 rfl rec_size) HB ?_
                simp only [Act.put, List.getElem_toArray, List.getElem_cons_succ, List.getElem_cons_zero, List.setIfInBounds_toArray, List.set_cons_succ, List.set_cons_zero]
                refine held_one (i := 7) (by kernel_rfl) rfl ?_
                refine wpList_ungate (by first | rfl | simp [Region.wanted, yielded]) ?_
                (refine ev_call2 rfl rfl ⟨_, _, Tryd.func42, by kernel_rfl, rfl⟩ rfl rfl ?_; refine Calls.mono (same_any q A10 A18 c10 c18 _ (Hl10.out.next HB) (Hl18.out.next HB) (by omega)) ?_; rintro e W2 ⟨rfl, hb⟩; refine ⟨_, rfl, ?_⟩; have hgr := grown_of_below hb; replace HB := HB.grown hgr (by have := HB.size; omega) (by simp); clear hb hgr)
                refine ⟨HB, ?_⟩
                try simp only [Act.put, List.getElem_toArray, List.getElem_cons_succ, List.getElem_cons_zero, List.setIfInBounds_toArray, List.set_cons_succ, List.set_cons_zero]
                refine held_one (i := 8) (by kernel_rfl) rfl ?_
                refine wpList_ungate (by first | rfl | simp [Region.wanted, yielded]) ?_
                refine ev_run rfl (w1 := W2) (v := .bool false) (by simp [go_sem]) ?_
                refine ⟨HB, ?_⟩
                try simp only [Act.put, List.getElem_toArray, List.getElem_cons_succ, List.getElem_cons_zero, List.setIfInBounds_toArray, List.set_cons_succ, List.set_cons_zero]
                refine held_one (i := 9) (by kernel_rfl) rfl ?_
                refine ev_run rfl (w1 := W2) (v := .bool false) (by simp [go_sem]) ?_
                refine ⟨HB, ?_⟩
                try simp only [Act.put, List.getElem_toArray, List.getElem_cons_succ, List.getElem_cons_zero, List.setIfInBounds_toArray, List.set_cons_succ, List.set_cons_zero]
                refine held_one (i := 10) (by kernel_rfl) rfl ?_
                refine ev_run rfl (w1 := W2) (v := .bool false) (by simp [go_sem]) ?_
                refine ⟨HB, ?_⟩
                try simp only [Act.put, List.getElem_toArray, List.getElem_cons_succ, List.getElem_cons_zero, List.setIfInBounds_toArray, List.set_cons_succ, List.set_cons_zero]
                refine take_at (i := 11) (v := .agg (q.cells A10 c10)) 202 rfl rfl (by kernel_rfl) (by kernel_rfl) (by kernel_rfl) (fun _ _ _ h => h) (yields_at rfl rfl rfl (fun w h => blk_at (Hg10.out.next h)) Tryd.underlying27 rfl rec_size) HB ?_
                simp only [Act.put, List.getElem_toArray, List.getElem_cons_succ, List.getElem_cons_zero, List.setIfInBounds_toArray, List.set_cons_succ, List.set_cons_zero]
                refine take_at (i := 12) (v := .agg (R0.cells A11 c11)) 203 rfl rfl (by kernel_rfl) (by kernel_rfl) (by kernel_rfl) (fun _ _ _ h => h) (yields_at rfl rfl rfl (fun w h => blk_at (Hg11.out.next h)) Tryd.underlying27 rfl rec_size) HB ?_
                simp only [Act.put, List.getElem_toArray, List.getElem_cons_succ, List.getElem_cons_zero, List.setIfInBounds_toArray, List.set_cons_succ, List.set_cons_zero]
                refine take_at (i := 14) (v := .agg (q.cells A18 c18)) 205 rfl rfl (by kernel_rfl) (by kernel_rfl) (by kernel_rfl) (fun _ _ _ h => h) (yields_at rfl rfl rfl (fun w h => blk_at (Hg18.out.next h)) Tryd.underlying27 rfl rec_size) HB ?_
                simp only [Act.put, List.getElem_toArray, List.getElem_cons_succ, List.getElem_cons_zero, List.setIfInBounds_toArray, List.set_cons_succ, List.set_cons_zero]
                refine take_at (i := 15) (v := .agg (R0.cells A11 c11)) 206 rfl rfl (by kernel_rfl) (by kernel_rfl) (by kernel_rfl) (fun _ _ _ h => h) (yields_at rfl rfl rfl (fun w h => blk_at (Hg11.out.next h)) Tryd.underlying27 rfl rec_size) HB ?_
                simp only [Act.put, List.getElem_toArray, List.getElem_cons_succ, List.getElem_cons_zero, List.setIfInBounds_toArray, List.set_cons_succ, List.set_cons_zero]
                refine held_one (i := 13) (by kernel_rfl) rfl ?_
                refine wpList_ungate (by first | rfl | simp [Region.wanted, yielded]) ?_
                (refine ev_call2 rfl rfl ⟨_, _, Tryd.func18, by kernel_rfl, rfl⟩ rfl rfl ?_; refine Calls.mono (Csm.out A10 A11 c10 c11 _ (Hl10.out.next HB) (Hl11.out.next HB)) ?_; rintro e W3 ⟨rfl, hb⟩; refine ⟨_, rfl, ?_⟩; have hgr := grown_of_below hb; replace HB := HB.grown hgr (by have := HB.size; omega) (by simp); clear hb hgr)
                refine ⟨HB, ?_⟩
                try simp only [Act.put, List.getElem_toArray, List.getElem_cons_succ, List.getElem_cons_zero, List.setIfInBounds_toArray, List.set_cons_succ, List.set_cons_zero]
                refine held_one (i := 16) (by kernel_rfl) rfl ?_
                refine wpList_ungate (by first | rfl | simp [Region.wanted, yielded]) ?_
                (refine ev_call2 rfl rfl ⟨_, _, Tryd.func42, by kernel_rfl, rfl⟩ rfl rfl ?_; refine Calls.mono (Crs.out A18 A11 c18 c11 _ (Hl18.out.next HB) (Hl11.out.next HB)) ?_; rintro e W4 ⟨rfl, hb⟩; refine ⟨_, rfl, ?_⟩; have hgr := grown_of_below hb; replace HB := HB.grown hgr (by have := HB.size; omega) (by simp); clear hb hgr)
                refine ⟨HB, ?_⟩
                try simp only [Act.put, List.getElem_toArray, List.getElem_cons_succ, List.getElem_cons_zero, List.setIfInBounds_toArray, List.set_cons_succ, List.set_cons_zero]
                refine held_one (i := 17) (by kernel_rfl) rfl ?_
                refine wpList_ungate (by first | rfl | simp [Region.wanted, yielded]) ?_
                refine ev_run rfl (w1 := W4) (v := .bool false) (by simp [go_sem]) ?_
                refine ⟨HB, ?_⟩
                try simp only [Act.put, List.getElem_toArray, List.getElem_cons_succ, List.getElem_cons_zero, List.setIfInBounds_toArray, List.set_cons_succ, List.set_cons_zero]
                refine held_one (i := 18) (by kernel_rfl) rfl ?_
                refine ev_run rfl (w1 := W4) (v := .bool false) (by simp [go_sem]) ?_
                refine ⟨HB, ?_⟩
                try simp only [Act.put, List.getElem_toArray, List.getElem_cons_succ, List.getElem_cons_zero, List.setIfInBounds_toArray, List.set_cons_succ, List.set_cons_zero]
                refine held_one (i := 19) (by kernel_rfl) rfl ?_
                refine ev_run rfl (w1 := W4) (v := .bool false) (by simp [go_sem]) ?_
                refine ⟨HB, ?_⟩
                try simp only [Act.put, List.getElem_toArray, List.getElem_cons_succ, List.getElem_cons_zero, List.setIfInBounds_toArray, List.set_cons_succ, List.set_cons_zero]
                refine take_at (i := 20) (v := .agg (q.cells A10 c10)) 211 rfl rfl (by kernel_rfl) (by kernel_rfl) (by kernel_rfl) (fun _ _ _ h => h) (yields_at rfl rfl rfl (fun w h => blk_at (Hg10.out.next h)) Tryd.underlying27 rfl rec_size) HB ?_
                simp only [Act.put, List.getElem_toArray, List.getElem_cons_succ, List.getElem_cons_zero, List.setIfInBounds_toArray, List.set_cons_succ, List.set_cons_zero]
                refine take_at (i := 21) (v := .agg (q.cells A30 c30)) 212 rfl rfl (by kernel_rfl) (by kernel_rfl) (by kernel_rfl) (fun _ _ _ h => h) (yields_at rfl rfl rfl (fun w h => blk_at (Hg30.out.next h)) Tryd.underlying27 rfl rec_size) HB ?_
                simp only [Act.put, List.getElem_toArray, List.getElem_cons_succ, List.getElem_cons_zero, List.setIfInBounds_toArray, List.set_cons_succ, List.set_cons_zero]
                refine held_one (i := 22) (by kernel_rfl) rfl ?_
                refine wpList_ungate (by first | rfl | simp [Region.wanted, yielded]) ?_
                (refine ev_call2 rfl rfl ⟨_, _, Tryd.func18, by kernel_rfl, rfl⟩ rfl rfl ?_; refine Calls.mono (same3_true q A10 A30 c10 c30 _ (Hl10.out.next HB) (Hl30.out.next HB)) ?_; rintro e W5 ⟨rfl, hb⟩; refine ⟨_, rfl, ?_⟩; have hgr := grown_of_below hb; replace HB := HB.grown hgr (by have := HB.size; omega) (by simp); clear hb hgr)
                refine ⟨HB, ?_⟩
                try simp only [Act.put, List.getElem_toArray, List.getElem_cons_succ, List.getElem_cons_zero, List.setIfInBounds_toArray, List.set_cons_succ, List.set_cons_zero]
                refine held_one (i := 23) (by kernel_rfl) rfl ?_
                refine wpList_ungate (by first | rfl | simp [Region.wanted, yielded]) ?_
                refine ev_run rfl (w1 := W5) (v := .bool false) (by simp [go_sem]) ?_
                refine ⟨HB, ?_⟩
                try simp only [Act.put, List.getElem_toArray, List.getElem_cons_succ, List.getElem_cons_zero, List.setIfInBounds_toArray, List.set_cons_succ, List.set_cons_zero]
                refine held_one (i := 24) (by kernel_rfl) rfl ?_
                refine ev_run rfl (w1 := W5) (v := .bool false) (by simp [go_sem]) ?_
                refine ⟨HB, ?_⟩
                try simp only [Act.put, List.getElem_toArray, List.getElem_cons_succ, List.getElem_cons_zero, List.setIfInBounds_toArray, List.set_cons_succ, List.set_cons_zero]
                refine wpAnyH_done (by kernel_rfl) ?_ _
                have hbN := HB
                replace HB := HBm.out
                replace hg10 := hg10.next hbN
                replace hg11 := hg11.next hbN
                replace hg18 := hg18.next hbN
                replace hg19 := hg19.next hbN
                replace hg21 := hg21.next hbN
                replace hg30 := hg30.next hbN
                replace hg31 := hg31.next hbN
                replace hg35 := hg35.next hbN
                replace o12 := own_next o12 hbN
                replace o13 := own_next o13 hbN
                replace o14 := own_next o14 hbN
                replace o15 := own_next o15 hbN
                replace B9 := B9.next hbN
                replace B10 := B10.next hbN
                replace B11 := B11.next hbN
                replace Qs := Qs.next hbN
                replace Qb := Qb.next hbN
                replace Sw := Sw.next hbN
                replace Zx := Zx.next hbN
                replace B17 := B17.next hbN
                replace B18 := B18.next hbN
                replace B19 := B19.next hbN
                replace U21 := U21.next hbN
                replace B23 := B23.next hbN
                replace B25 := B25.next hbN
                replace B30 := B30.next hbN
                replace B31 := B31.next hbN
                replace B33 := B33.next hbN
                replace B35 := B35.next hbN
                replace HB := below_go HB hbN
                clear hbN Hl10 Hl11 Hl18 Hl30 Hg10 Hg11 Hg18 Hg30 HBm
                have no12g10 := HSS.out.n12.1
                have no12g11 := HSS.out.n12.2
                have no13g10 := HSS.out.n13.1
                have no13g11 := HSS.out.n13.2
                have do13o12 := own_sym HSS.out.d1213
                have do14o15 := HSS.out.d1415
                have do15o14 := own_sym HSS.out.d1415
                go_upto_region 35 with fail
                as_aux_lemma =>
                  refine wp_region_lit ?_
                  refine ev_run rfl (w1 := W5) (v := .slice A12 (4 * k) c12) (by simp [go_sem]) ?_
                  try simp only [Act.put, List.getElem_toArray, List.getElem_cons_succ, List.getElem_cons_zero, List.setIfInBounds_toArray, List.set_cons_succ, List.set_cons_zero]
                  ((with_reducible refine gate_dst (N := 217) rfl ?_); refine wpList_load_row rfl _ _ rfl g19 rfl _ _ (0, 0) _ hg19 Tryd.underlying27 rfl rec_size ?_)
                  try simp only [Act.put, List.getElem_toArray, List.getElem_cons_succ, List.getElem_cons_zero, List.setIfInBounds_toArray, List.set_cons_succ, List.set_cons_zero]
                  ((with_reducible refine gate_dst (N := 218) rfl ?_); refine wpList_load_row rfl _ _ rfl g31 rfl _ _ (0, 0) _ hg31 Tryd.underlying27 rfl rec_size ?_)
                  try simp only [Act.put, List.getElem_toArray, List.getElem_cons_succ, List.getElem_cons_zero, List.setIfInBounds_toArray, List.set_cons_succ, List.set_cons_zero]
                  ((with_reducible refine gate_dst (N := 219) rfl ?_); refine wpList_load_row rfl _ _ rfl g30 rfl _ _ (0, 0) _ hg30 Tryd.underlying27 rfl rec_size ?_)
                  try simp only [Act.put, List.getElem_toArray, List.getElem_cons_succ, List.getElem_cons_zero, List.setIfInBounds_toArray, List.set_cons_succ, List.set_cons_zero]
                  ((with_reducible refine gate_dst (N := 220) rfl ?_); refine wpList_load_row rfl _ _ rfl g35 rfl _ _ (0, 0) _ hg35 Tryd.underlying27 rfl rec_size ?_)
                  try simp only [Act.put, List.getElem_toArray, List.getElem_cons_succ, List.getElem_cons_zero, List.setIfInBounds_toArray, List.set_cons_succ, List.set_cons_zero]
                  ((with_reducible refine gate_dst (N := 221) rfl ?_); refine ev_lit rfl rfl ((recCells [(D, A19, c19), (D, A31, c31), (q, A30, c30), (q, A35, c35)]).toArray) 27 4 (by as_aux_lemma => kernel_rfl) ?_; intro g5 W1 hg5 hsz hbn; have hgr := grown_of_below hbn; have ng10g5 : g10 ≠ g5 := (by have := hg10.lt; omega); have ng11g5 : g11 ≠ g5 := (by have := hg11.lt; omega); have ng18g5 : g18 ≠ g5 := (by have := hg18.lt; omega); have ng19g5 : g19 ≠ g5 := (by have := hg19.lt; omega); have ng21g5 : g21 ≠ g5 := (by have := hg21.lt; omega); have ng30g5 : g30 ≠ g5 := (by have := hg30.lt; omega); have ng31g5 : g31 ≠ g5 := (by have := hg31.lt; omega); have ng35g5 : g35 ≠ g5 := (by have := hg35.lt; omega); have zg5 : w.heap.size ≤ g5 := (by have := HB.size; omega); replace B35 := B35.kept hgr (by simp); replace B33 := B33.kept hgr (by simp); replace B31 := B31.kept hgr (by simp); replace B30 := B30.kept hgr (by simp); replace B25 := B25.kept hgr (by simp); replace B23 := B23.kept hgr (by simp); replace U21 := U21.kept hgr (by simp); replace B19 := B19.kept hgr (by simp); replace B18 := B18.kept hgr (by simp); replace B17 := B17.kept hgr (by simp); replace Zx := Zx.kept hgr (by simp); replace Sw := Sw.kept hgr (by simp); replace Qb := Qb.kept hgr (by simp); replace Qs := Qs.kept hgr (by simp); replace B11 := B11.kept hgr (by simp); replace B10 := B10.kept hgr (by simp); replace B9 := B9.kept hgr (by simp); replace hg10 := hg10.grown hgr (by simp); replace hg11 := hg11.grown hgr (by simp); replace hg18 := hg18.grown hgr (by simp); replace hg19 := hg19.grown hgr (by simp); replace hg21 := hg21.grown hgr (by simp); replace hg30 := hg30.grown hgr (by simp); replace hg31 := hg31.grown hgr (by simp); replace hg35 := hg35.grown hgr (by simp); replace o12 := o12.kept hgr (by cases Value.ownBlock _ <;> simp); replace o13 := o13.kept hgr (by cases Value.ownBlock _ <;> simp); replace o14 := o14.kept hgr (by cases Value.ownBlock _ <;> simp); replace o15 := o15.kept hgr (by cases Value.ownBlock _ <;> simp); replace HB := HB.grown hgr (by have := HB.size; omega) (by simp); have hcg5 := hg5.cell; have hfg5 := hg5.frozen; replace hcg10 := hg10.cell; replace hfg10 := hg10.frozen; replace hcg11 := hg11.cell; replace hfg11 := hg11.frozen; replace hcg18 := hg18.cell; replace hfg18 := hg18.frozen; replace hcg19 := hg19.cell; replace hfg19 := hg19.frozen; replace hcg21 := hg21.cell; replace hfg21 := hg21.frozen; replace hcg30 := hg30.cell; replace hfg30 := hg30.frozen; replace hcg31 := hg31.cell; replace hfg31 := hg31.frozen; replace hcg35 := hg35.cell; replace hfg35 := hg35.frozen; clear hsz hbn hgr)
                  try simp only [Act.put, List.getElem_toArray, List.getElem_cons_succ, List.getElem_cons_zero, List.setIfInBounds_toArray, List.set_cons_succ, List.set_cons_zero]
                  ((with_reducible refine gate_dst (N := 222) rfl ?_); refine ev_append rfl rfl Tryd.underlying22 info_rec rfl (by omega) rfl o12 rfl (hg5.reads (size := 12) (n := 4) (by rw [List.size_toArray, recCells_length]; rfl)) (recCells_1 (l := [(D, A19, c19), (D, A31, c31), (q, A30, c30), (q, A35, c35)])) (by omega) (by omega) (by have := HB.size; omega) ?_; intro A40 c40 W2 on hgr hat; have eo13o12 := own_apart_app o13 do13o12 hat; have eo12g10 := own_blk_app no12g10 hg10.lt hat; have eo12g11 := own_blk_app no12g11 hg11.lt hat; replace B35 := B35.kept hgr (OB.ne_own B35 o12 (by decide)); replace B33 := B33.kept hgr (OB.ne_own B33 o12 (by decide)); replace B31 := B31.kept hgr (OB.ne_own B31 o12 (by decide)); replace B30 := B30.kept hgr (OB.ne_own B30 o12 (by decide)); replace B25 := B25.kept hgr (OB.ne_own B25 o12 (by decide)); replace B23 := B23.kept hgr (OB.ne_own B23 o12 (by decide)); replace U21 := U21.kept hgr (RU.ne_own U21 o12 (by decide)); replace B19 := B19.kept hgr (OB.ne_own B19 o12 (by decide)); replace B18 := B18.kept hgr (OB.ne_own B18 o12 (by decide)); replace B17 := B17.kept hgr (OB.ne_own B17 o12 (by decide)); replace Zx := Zx.kept hgr (RZs.ne_own Zx o12 (by decide)); replace Sw := Sw.kept hgr (RUs.ne_own Sw o12 (by decide)); replace Qb := Qb.kept hgr (OBs.ne_own Qb o12 (by decide)); replace Qs := Qs.kept hgr (OBs.ne_own Qs o12 (by decide)); replace B11 := B11.kept hgr (OB.ne_own B11 o12 (by decide)); replace B10 := B10.kept hgr (OB.ne_own B10 o12 (by decide)); replace B9 := B9.kept hgr (OB.ne_own B9 o12 (by decide)); replace hg10 := hg10.grown hgr (fun e => no12g10 e.symm); replace hg11 := hg11.grown hgr (fun e => no12g11 e.symm); replace hg18 := hg18.grown hgr (fun e => no12g18 e.symm); replace hg19 := hg19.grown hgr (fun e => no12g19 e.symm); replace hg21 := hg21.grown hgr (fun e => no12g21 e.symm); replace hg30 := hg30.grown hgr (fun e => no12g30 e.symm); replace hg31 := hg31.grown hgr (fun e => no12g31 e.symm); replace hg35 := hg35.grown hgr (fun e => no12g35 e.symm); replace o13 := o13.kept hgr (do13o12); replace o14 := o14.kept hgr (by first | assumption | exact own_ty_ne o14 o12 (by decide) | exact own_sym (by assumption)); replace o15 := o15.kept hgr (by first | assumption | exact own_ty_ne o15 o12 (by decide) | exact own_sym (by assumption)); replace HB := HB.grown hgr (by have := HB.size; omega) (own_base o12); replace do13o12 := eo13o12; clear eo13o12; replace no12g10 := eo12g10; clear eo12g10; replace no12g11 := eo12g11; clear eo12g11; replace o12 := on; replace hcg10 := hg10.cell; replace hfg10 := hg10.frozen; replace hcg11 := hg11.cell; replace hfg11 := hg11.frozen; replace hcg18 := hg18.cell; replace hfg18 := hg18.frozen; replace hcg19 := hg19.cell; replace hfg19 := hg19.frozen; replace hcg21 := hg21.cell; replace hfg21 := hg21.frozen; replace hcg30 := hg30.cell; replace hfg30 := hg30.frozen; replace hcg31 := hg31.cell; replace hfg31 := hg31.frozen; replace hcg35 := hg35.cell; replace hfg35 := hg35.frozen; clear on hgr hat)
                  try simp only [Act.put, List.getElem_toArray, List.getElem_cons_succ, List.getElem_cons_zero, List.setIfInBounds_toArray, List.set_cons_succ, List.set_cons_zero]
                  refine ev_run rfl (w1 := W2) (v := .slice A40 (4 * k + 4) c40) (by simp [go_sem]) ?_
                  try simp only [Act.put, List.getElem_toArray, List.getElem_cons_succ, List.getElem_cons_zero, List.setIfInBounds_toArray, List.set_cons_succ, List.set_cons_zero]
                  refine wpList_nil ?_
                  go_upto_region 36 with fail
                  clear hcg10 hfg10 hcg11 hfg11 hcg18 hfg18 hcg19 hfg19 hcg21 hfg21 hcg30 hfg30 hcg31 hfg31 hcg35 hfg35 hg19 hg30 hg31 hg35 B17
                  have do12o13 := own_sym do13o12
                  try simp only [Act.put, List.setIfInBounds_toArray, List.set_cons_succ, List.set_cons_zero]
                  as_aux_lemma =>
                    refine held_start (fun w' => Below w.heap.size w w' ∧ Blk w' g21 27 (D.cells A21 c21) ∧ Blk w' g18 27 (q.cells A18 c18)) (by kernel_rfl) (fun wd hbd => ?_)
                    replace hg10 := hg10.next hbd
                    replace hg11 := hg11.next hbd
                    replace hg18 := hg18.next hbd
                    replace hg21 := hg21.next hbd
                    replace o12 := own_next o12 hbd
                    replace o13 := own_next o13 hbd
                    replace o14 := own_next o14 hbd
                    replace o15 := own_next o15 hbd
                    replace B9 := B9.next hbd
                    replace B10 := B10.next hbd
                    replace B11 := B11.next hbd
                    replace Qs := Qs.next hbd
                    replace Qb := Qb.next hbd
                    replace Sw := Sw.next hbd
                    replace Zx := Zx.next hbd
                    replace B18 := B18.next hbd
                    replace B19 := B19.next hbd
                    replace U21 := U21.next hbd
                    replace B23 := B23.next hbd
                    replace B25 := B25.next hbd
                    replace B30 := B30.next hbd
                    replace B31 := B31.next hbd
                    replace B33 := B33.next hbd
                    replace B35 := B35.next hbd
                    replace HB := below_go HB hbd
                    clear hbd
                    refine take_at (i := 0) (v := .slice A13 (4 * k) c13) 223 rfl rfl (by kernel_rfl) (by kernel_rfl) (by kernel_rfl) (fun _ _ _ h => h) (.inl ⟨rfl, fun w h => by simp [go_sem]⟩) ⟨HB, hg21, hg18⟩ ?_
                    simp only [Act.put, List.getElem_toArray, List.getElem_cons_succ, List.getElem_cons_zero, List.setIfInBounds_toArray, List.set_cons_succ, List.set_cons_zero]
                    refine take_at (i := 1) (v := .agg (D.cells A21 c21)) 224 rfl rfl (by kernel_rfl) (by kernel_rfl) (by kernel_rfl) (fun _ _ _ h => h) (yields_at rfl rfl rfl (fun w h => blk_at h.2.1) Tryd.underlying27 rfl rec_size) ⟨HB, hg21, hg18⟩ ?_
                    simp only [Act.put, List.getElem_toArray, List.getElem_cons_succ, List.getElem_cons_zero, List.setIfInBounds_toArray, List.set_cons_succ, List.set_cons_zero]
                    refine take_at (i := 3) (v := .agg (D.cells A21 c21)) 226 rfl rfl (by kernel_rfl) (by kernel_rfl) (by kernel_rfl) (fun _ _ _ h => h) (yields_at rfl rfl rfl (fun w h => blk_at h.2.1) Tryd.underlying27 rfl rec_size) ⟨HB, hg21, hg18⟩ ?_
                    simp only [Act.put, List.getElem_toArray, List.getElem_cons_succ, List.getElem_cons_zero, List.setIfInBounds_toArray, List.set_cons_succ, List.set_cons_zero]
                    refine take_at (i := 5) (v := .agg (q.cells A18 c18)) 228 rfl rfl (by kernel_rfl) (by kernel_rfl) (by kernel_rfl) (fun _ _ _ h => h) (yields_at rfl rfl rfl (fun w h => blk_at h.2.2) Tryd.underlying27 rfl rec_size) ⟨HB, hg21, hg18⟩ ?_
                    simp only [Act.put, List.getElem_toArray, List.getElem_cons_succ, List.getElem_cons_zero, List.setIfInBounds_toArray, List.set_cons_succ, List.set_cons_zero]
                    refine take_at (i := 6) (v := .agg (q.cells A18 c18)) 229 rfl rfl (by kernel_rfl) (by kernel_rfl) (by kernel_rfl) (fun _ _ _ h => h) (yields_at rfl rfl rfl (fun w h => blk_at h.2.2) Tryd.underlying27 rfl rec_size) ⟨HB, hg21, hg18⟩ ?_
                    simp only [Act.put, List.getElem_toArray, List.getElem_cons_succ, List.getElem_cons_zero, List.setIfInBounds_toArray, List.set_cons_succ, List.set_cons_zero]
                    refine held_one (i := 2) (by kernel_rfl) rfl ?_
                    (refine ev_call1 rfl rfl ⟨_, _, Tryd.func46, by kernel_rfl, rfl⟩ rfl ?_; refine Calls.mono (refClone_ob D A21 c21 _ U21.rb (by omega)) ?_; rintro e W1 ⟨A36, c36, rfl, B36, hb⟩; refine ⟨_, rfl, ?_⟩; have hgr := grown_of_below hb; have dB9B36 := B9.apart_new B36 (Nat.le_refl _); have dB10B36 := B10.apart_new B36 (Nat.le_refl _); have dB11B36 := B11.apart_new B36 (Nat.le_refl _); have dQsB36 := Qs.apart_new B36 (Nat.le_refl _); have dQbB36 := Qb.apart_new B36 (Nat.le_refl _); have dB18B36 := B18.apart_new B36 (Nat.le_refl _); have dB19B36 := B19.apart_new B36 (Nat.le_refl _); have dB23B36 := B23.apart_new B36 (Nat.le_refl _); have dB25B36 := B25.apart_new B36 (Nat.le_refl _); have dB30B36 := B30.apart_new B36 (Nat.le_refl _); have dB31B36 := B31.apart_new B36 (Nat.le_refl _); have dB33B36 := B33.apart_new B36 (Nat.le_refl _); have dB35B36 := B35.apart_new B36 (Nat.le_refl _); replace B36 := B36.mono HB.size; replace B35 := B35.kept hgr (by simp); replace B33 := B33.kept hgr (by simp); replace B31 := B31.kept hgr (by simp); replace B30 := B30.kept hgr (by simp); replace B25 := B25.kept hgr (by simp); replace B23 := B23.kept hgr (by simp); replace U21 := U21.kept hgr (by simp); replace B19 := B19.kept hgr (by simp); replace B18 := B18.kept hgr (by simp); replace Zx := Zx.kept hgr (by simp); replace Sw := Sw.kept hgr (by simp); replace Qb := Qb.kept hgr (by simp); replace Qs := Qs.kept hgr (by simp); replace B11 := B11.kept hgr (by simp); replace B10 := B10.kept hgr (by simp); replace B9 := B9.kept hgr (by simp); replace hg10 := hg10.grown hgr (by simp); replace hg11 := hg11.grown hgr (by simp); replace hg18 := hg18.grown hgr (by simp); replace hg21 := hg21.grown hgr (by simp); replace o12 := o12.kept hgr (by cases Value.ownBlock _ <;> simp); replace o13 := o13.kept hgr (by cases Value.ownBlock _ <;> simp); replace o14 := o14.kept hgr (by cases Value.ownBlock _ <;> simp); replace o15 := o15.kept hgr (by cases Value.ownBlock _ <;> simp); replace HB := HB.grown hgr (by have := HB.size; omega) (by simp); replace hcg10 := hg10.cell; replace hfg10 := hg10.frozen; replace hcg11 := hg11.cell; replace hfg11 := hg11.frozen; replace hcg18 := hg18.cell; replace hfg18 := hg18.frozen; replace hcg21 := hg21.cell; replace hfg21 := hg21.frozen; clear hb hgr)
                    refine ⟨⟨HB, hg21, hg18⟩, ?_⟩
                    try simp only [Act.put, List.getElem_toArray, List.getElem_cons_succ, List.getElem_cons_zero, List.setIfInBounds_toArray, List.set_cons_succ, List.set_cons_zero]
                    refine held_one (i := 4) (by kernel_rfl) rfl ?_
                    (refine ev_call1 rfl rfl ⟨_, _, Tryd.func46, by kernel_rfl, rfl⟩ rfl ?_; refine Calls.mono (refClone_ob D A21 c21 _ U21.rb (by omega)) ?_; rintro e W2 ⟨A37, c37, rfl, B37, hb⟩; refine ⟨_, rfl, ?_⟩; have hgr := grown_of_below hb; have dB9B37 := B9.apart_new B37 (Nat.le_refl _); have dB10B37 := B10.apart_new B37 (Nat.le_refl _); have dB11B37 := B11.apart_new B37 (Nat.le_refl _); have dQsB37 := Qs.apart_new B37 (Nat.le_refl _); have dQbB37 := Qb.apart_new B37 (Nat.le_refl _); have dB18B37 := B18.apart_new B37 (Nat.le_refl _); have dB19B37 := B19.apart_new B37 (Nat.le_refl _); have dB23B37 := B23.apart_new B37 (Nat.le_refl _); have dB25B37 := B25.apart_new B37 (Nat.le_refl _); have dB30B37 := B30.apart_new B37 (Nat.le_refl _); have dB31B37 := B31.apart_new B37 (Nat.le_refl _); have dB33B37 := B33.apart_new B37 (Nat.le_refl _); have dB35B37 := B35.apart_new B37 (Nat.le_refl _); have dB36B37 := B36.apart_new B37 (Nat.le_refl _); replace B37 := B37.mono HB.size; replace B36 := B36.kept hgr (by simp); replace B35 := B35.kept hgr (by simp); replace B33 := B33.kept hgr (by simp); replace B31 := B31.kept hgr (by simp); replace B30 := B30.kept hgr (by simp); replace B25 := B25.kept hgr (by simp); replace B23 := B23.kept hgr (by simp); replace U21 := U21.kept hgr (by simp); replace B19 := B19.kept hgr (by simp); replace B18 := B18.kept hgr (by simp); replace Zx := Zx.kept hgr (by simp); replace Sw := Sw.kept hgr (by simp); replace Qb := Qb.kept hgr (by simp); replace Qs := Qs.kept hgr (by simp); replace B11 := B11.kept hgr (by simp); replace B10 := B10.kept hgr (by simp); replace B9 := B9.kept hgr (by simp); replace hg10 := hg10.grown hgr (by simp); replace hg11 := hg11.grown hgr (by simp); replace hg18 := hg18.grown hgr (by simp); replace hg21 := hg21.grown hgr (by simp); replace o12 := o12.kept hgr (by cases Value.ownBlock _ <;> simp); replace o13 := o13.kept hgr (by cases Value.ownBlock _ <;> simp); replace o14 := o14.kept hgr (by cases Value.ownBlock _ <;> simp); replace o15 := o15.kept hgr (by cases Value.ownBlock _ <;> simp); replace HB := HB.grown hgr (by have := HB.size; omega) (by simp); replace hcg10 := hg10.cell; replace hfg10 := hg10.frozen; replace hcg11 := hg11.cell; replace hfg11 := hg11.frozen; replace hcg18 := hg18.cell; replace hfg18 := hg18.frozen; replace hcg21 := hg21.cell; replace hfg21 := hg21.frozen; clear hb hgr)
                    refine ⟨⟨HB, hg21, hg18⟩, ?_⟩
                    try simp only [Act.put, List.getElem_toArray, List.getElem_cons_succ, List.getElem_cons_zero, List.setIfInBounds_toArray, List.set_cons_succ, List.set_cons_zero]
                    refine held_one (i := 7) (by kernel_rfl) rfl ?_
                    ((with_reducible refine gate_dst (N := 230) rfl ?_); refine ev_lit rfl rfl ((recCells [(D, A36, c36), (D, A37, c37), (q, A18, c18), (q, A18, c18)]).toArray) 27 4 (by as_aux_lemma => kernel_rfl) ?_; intro g5 W3 hg5 hsz hbn; have hgr := grown_of_below hbn; have ng10g5 : g10 ≠ g5 := (by have := hg10.lt; omega); have ng11g5 : g11 ≠ g5 := (by have := hg11.lt; omega); have ng18g5 : g18 ≠ g5 := (by have := hg18.lt; omega); have ng21g5 : g21 ≠ g5 := (by have := hg21.lt; omega); have zg5 : w.heap.size ≤ g5 := (by have := HB.size; omega); replace B37 := B37.kept hgr (by simp); replace B36 := B36.kept hgr (by simp); replace B35 := B35.kept hgr (by simp); replace B33 := B33.kept hgr (by simp); replace B31 := B31.kept hgr (by simp); replace B30 := B30.kept hgr (by simp); replace B25 := B25.kept hgr (by simp); replace B23 := B23.kept hgr (by simp); replace U21 := U21.kept hgr (by simp); replace B19 := B19.kept hgr (by simp); replace B18 := B18.kept hgr (by simp); replace Zx := Zx.kept hgr (by simp); replace Sw := Sw.kept hgr (by simp); replace Qb := Qb.kept hgr (by simp); replace Qs := Qs.kept hgr (by simp); replace B11 := B11.kept hgr (by simp); replace B10 := B10.kept hgr (by simp); replace B9 := B9.kept hgr (by simp); replace hg10 := hg10.grown hgr (by simp); replace hg11 := hg11.grown hgr (by simp); replace hg18 := hg18.grown hgr (by simp); replace hg21 := hg21.grown hgr (by simp); replace o12 := o12.kept hgr (by cases Value.ownBlock _ <;> simp); replace o13 := o13.kept hgr (by cases Value.ownBlock _ <;> simp); replace o14 := o14.kept hgr (by cases Value.ownBlock _ <;> simp); replace o15 := o15.kept hgr (by cases Value.ownBlock _ <;> simp); replace HB := HB.grown hgr (by have := HB.size; omega) (by simp); have hcg5 := hg5.cell; have hfg5 := hg5.frozen; replace hcg10 := hg10.cell; replace hfg10 := hg10.frozen; replace hcg11 := hg11.cell; replace hfg11 := hg11.frozen; replace hcg18 := hg18.cell; replace hfg18 := hg18.frozen; replace hcg21 := hg21.cell; replace hfg21 := hg21.frozen; clear hsz hbn hgr)
                    refine ⟨⟨HB, hg21, hg18⟩, ?_⟩
                    try simp only [Act.put, List.getElem_toArray, List.getElem_cons_succ, List.getElem_cons_zero, List.setIfInBounds_toArray, List.set_cons_succ, List.set_cons_zero]
                    refine held_one (i := 8) (by kernel_rfl) rfl ?_
                    ((with_reducible refine gate_dst (N := 231) rfl ?_); refine ev_append rfl rfl Tryd.underlying22 info_rec rfl (by omega) rfl o13 rfl (hg5.reads (size := 12) (n := 4) (by rw [List.size_toArray, recCells_length]; rfl)) (recCells_1 (l := [(D, A36, c36), (D, A37, c37), (q, A18, c18), (q, A18, c18)])) (by omega) (by omega) (by have := HB.size; omega) ?_; intro A41 c41 W4 on hgr hat; have eo12o13 := own_apart_app o12 do12o13 hat; have eo13g10 := own_blk_app no13g10 hg10.lt hat; have eo13g11 := own_blk_app no13g11 hg11.lt hat; replace B37 := B37.kept hgr (OB.ne_own B37 o13 (by decide)); replace B36 := B36.kept hgr (OB.ne_own B36 o13 (by decide)); replace B35 := B35.kept hgr (OB.ne_own B35 o13 (by decide)); replace B33 := B33.kept hgr (OB.ne_own B33 o13 (by decide)); replace B31 := B31.kept hgr (OB.ne_own B31 o13 (by decide)); replace B30 := B30.kept hgr (OB.ne_own B30 o13 (by decide)); replace B25 := B25.kept hgr (OB.ne_own B25 o13 (by decide)); replace B23 := B23.kept hgr (OB.ne_own B23 o13 (by decide)); replace U21 := U21.kept hgr (RU.ne_own U21 o13 (by decide)); replace B19 := B19.kept hgr (OB.ne_own B19 o13 (by decide)); replace B18 := B18.kept hgr (OB.ne_own B18 o13 (by decide)); replace Zx := Zx.kept hgr (RZs.ne_own Zx o13 (by decide)); replace Sw := Sw.kept hgr (RUs.ne_own Sw o13 (by decide)); replace Qb := Qb.kept hgr (OBs.ne_own Qb o13 (by decide)); replace Qs := Qs.kept hgr (OBs.ne_own Qs o13 (by decide)); replace B11 := B11.kept hgr (OB.ne_own B11 o13 (by decide)); replace B10 := B10.kept hgr (OB.ne_own B10 o13 (by decide)); replace B9 := B9.kept hgr (OB.ne_own B9 o13 (by decide)); replace hg10 := hg10.grown hgr (fun e => no13g10 e.symm); replace hg11 := hg11.grown hgr (fun e => no13g11 e.symm); replace hg18 := hg18.grown hgr (fun e => no13g18 e.symm); replace hg21 := hg21.grown hgr (fun e => no13g21 e.symm); replace o12 := o12.kept hgr (do12o13); replace o14 := o14.kept hgr (by first | assumption | exact own_ty_ne o14 o13 (by decide) | exact own_sym (by assumption)); replace o15 := o15.kept hgr (by first | assumption | exact own_ty_ne o15 o13 (by decide) | exact own_sym (by assumption)); replace HB := HB.grown hgr (by have := HB.size; omega) (own_base o13); replace do12o13 := eo12o13; clear eo12o13; replace no13g10 := eo13g10; clear eo13g10; replace no13g11 := eo13g11; clear eo13g11; replace o13 := on; replace hcg10 := hg10.cell; replace hfg10 := hg10.frozen; replace hcg11 := hg11.cell; replace hfg11 := hg11.frozen; replace hcg18 := hg18.cell; replace hfg18 := hg18.frozen; replace hcg21 := hg21.cell; replace hfg21 := hg21.frozen; clear on hgr hat)
                    refine ⟨⟨HB, hg21, hg18⟩, ?_⟩
                    try simp only [Act.put, List.getElem_toArray, List.getElem_cons_succ, List.getElem_cons_zero, List.setIfInBounds_toArray, List.set_cons_succ, List.set_cons_zero]
                    refine held_one (i := 9) (by kernel_rfl) rfl ?_
                    refine ev_run rfl (w1 := W4) (v := .slice A41 (4 * k + 4) c41) (by simp [go_sem]) ?_
                    refine ⟨⟨HB, hg21, hg18⟩, ?_⟩
                    try simp only [Act.put, List.getElem_toArray, List.getElem_cons_succ, List.getElem_cons_zero, List.setIfInBounds_toArray, List.set_cons_succ, List.set_cons_zero]
                    refine wpAnyH_done (by kernel_rfl) ?_ _
                    have k7 : True := trivial
                    go_upto_region 39 with (first
                      | ((with_reducible refine gate_dst (N := 235) rfl ?_); refine ev_lit rfl rfl (#[.slice A23 ne c23, .slice A33 ne c33]) 25 2 (by first | (go_simp; done) | (go_simp; rfl)) ?_; intro g5 W1 hg5 hsz hbn; have hgr := grown_of_below hbn; have ng10g5 : g10 ≠ g5 := (by have := hg10.lt; omega); have ng11g5 : g11 ≠ g5 := (by have := hg11.lt; omega); have zg5 : w.heap.size ≤ g5 := (by have := HB.size; omega); replace B37 := B37.kept hgr (by simp); replace B36 := B36.kept hgr (by simp); replace B35 := B35.kept hgr (by simp); replace B33 := B33.kept hgr (by simp); replace B31 := B31.kept hgr (by simp); replace B30 := B30.kept hgr (by simp); replace B25 := B25.kept hgr (by simp); replace B23 := B23.kept hgr (by simp); replace U21 := U21.kept hgr (by simp); replace B19 := B19.kept hgr (by simp); replace B18 := B18.kept hgr (by simp); replace Zx := Zx.kept hgr (by simp); replace Sw := Sw.kept hgr (by simp); replace Qb := Qb.kept hgr (by simp); replace Qs := Qs.kept hgr (by simp); replace B11 := B11.kept hgr (by simp); replace B10 := B10.kept hgr (by simp); replace B9 := B9.kept hgr (by simp); replace hg10 := hg10.grown hgr (by simp); replace hg11 := hg11.grown hgr (by simp); replace o12 := o12.kept hgr (by cases Value.ownBlock _ <;> simp); replace o13 := o13.kept hgr (by cases Value.ownBlock _ <;> simp); replace o14 := o14.kept hgr (by cases Value.ownBlock _ <;> simp); replace o15 := o15.kept hgr (by cases Value.ownBlock _ <;> simp); replace HB := HB.grown hgr (by have := HB.size; omega) (by simp); have hcg5 := hg5.cell; have hfg5 := hg5.frozen; replace hcg10 := hg10.cell; replace hfg10 := hg10.frozen; replace hcg11 := hg11.cell; replace hfg11 := hg11.frozen; clear hsz hbn hgr)
                      | ((with_reducible refine gate_dst (N := 236) rfl ?_); refine ev_append rfl rfl Tryd.underlying24 info_bytes rfl (by omega) rfl o14 rfl (hg5.reads (size := 1) (n := 2) rfl) (fun u hu => by simp at hu; rcases hu with rfl | rfl <;> rfl) (by omega) (by omega) (by have := HB.size; omega) ?_; intro A42 c42 W2 on hgr hat; have eo15o14 := own_apart_app o15 do15o14 hat; replace B37 := B37.kept hgr (OB.ne_own B37 o14 (by decide)); replace B36 := B36.kept hgr (OB.ne_own B36 o14 (by decide)); replace B35 := B35.kept hgr (OB.ne_own B35 o14 (by decide)); replace B33 := B33.kept hgr (OB.ne_own B33 o14 (by decide)); replace B31 := B31.kept hgr (OB.ne_own B31 o14 (by decide)); replace B30 := B30.kept hgr (OB.ne_own B30 o14 (by decide)); replace B25 := B25.kept hgr (OB.ne_own B25 o14 (by decide)); replace B23 := B23.kept hgr (OB.ne_own B23 o14 (by decide)); replace U21 := U21.kept hgr (RU.ne_own U21 o14 (by decide)); replace B19 := B19.kept hgr (OB.ne_own B19 o14 (by decide)); replace B18 := B18.kept hgr (OB.ne_own B18 o14 (by decide)); replace Zx := Zx.kept hgr (RZs.ne_own Zx o14 (by decide)); replace Sw := Sw.kept hgr (RUs.ne_own Sw o14 (by decide)); replace Qb := Qb.kept hgr (OBs.ne_own Qb o14 (by decide)); replace Qs := Qs.kept hgr (OBs.ne_own Qs o14 (by decide)); replace B11 := B11.kept hgr (OB.ne_own B11 o14 (by decide)); replace B10 := B10.kept hgr (OB.ne_own B10 o14 (by decide)); replace B9 := B9.kept hgr (OB.ne_own B9 o14 (by decide)); replace hg10 := hg10.grown hgr (fun e => own_blk_ne o14 hg10 (by decide) e.symm); replace hg11 := hg11.grown hgr (fun e => own_blk_ne o14 hg11 (by decide) e.symm); replace o12 := o12.kept hgr (by first | assumption | exact own_ty_ne o12 o14 (by decide) | exact own_sym (by assumption)); replace o13 := o13.kept hgr (by first | assumption | exact own_ty_ne o13 o14 (by decide) | exact own_sym (by assumption)); replace o15 := o15.kept hgr (do15o14); replace HB := HB.grown hgr (by have := HB.size; omega) (own_base o14); replace do15o14 := eo15o14; clear eo15o14; replace o14 := on; replace hcg10 := hg10.cell; replace hfg10 := hg10.frozen; replace hcg11 := hg11.cell; replace hfg11 := hg11.frozen; clear on hgr hat; have do14o15 := own_sym do15o14)
                      | (go_at_call 12; clear k7; (with_reducible refine (copied_ob E ne Hne.out A25 c25 (by omega) _ B25.rb).mono ?_); rintro e W3 ⟨A38, c38, rfl, B38, hb⟩; have hgr := grown_of_below hb; have dB9B38 := B9.apart_new B38 (Nat.le_refl _); have dB10B38 := B10.apart_new B38 (Nat.le_refl _); have dB11B38 := B11.apart_new B38 (Nat.le_refl _); have dQsB38 := Qs.apart_new B38 (Nat.le_refl _); have dQbB38 := Qb.apart_new B38 (Nat.le_refl _); have dB18B38 := B18.apart_new B38 (Nat.le_refl _); have dB19B38 := B19.apart_new B38 (Nat.le_refl _); have dB23B38 := B23.apart_new B38 (Nat.le_refl _); have dB25B38 := B25.apart_new B38 (Nat.le_refl _); have dB30B38 := B30.apart_new B38 (Nat.le_refl _); have dB31B38 := B31.apart_new B38 (Nat.le_refl _); have dB33B38 := B33.apart_new B38 (Nat.le_refl _); have dB35B38 := B35.apart_new B38 (Nat.le_refl _); have dB36B38 := B36.apart_new B38 (Nat.le_refl _); have dB37B38 := B37.apart_new B38 (Nat.le_refl _); replace B38 := B38.mono HB.size; replace B37 := B37.kept hgr (by simp); replace B36 := B36.kept hgr (by simp); replace B35 := B35.kept hgr (by simp); replace B33 := B33.kept hgr (by simp); replace B31 := B31.kept hgr (by simp); replace B30 := B30.kept hgr (by simp); replace B25 := B25.kept hgr (by simp); replace B23 := B23.kept hgr (by simp); replace U21 := U21.kept hgr (by simp); replace B19 := B19.kept hgr (by simp); replace B18 := B18.kept hgr (by simp); replace Zx := Zx.kept hgr (by simp); replace Sw := Sw.kept hgr (by simp); replace Qb := Qb.kept hgr (by simp); replace Qs := Qs.kept hgr (by simp); replace B11 := B11.kept hgr (by simp); replace B10 := B10.kept hgr (by simp); replace B9 := B9.kept hgr (by simp); replace hg10 := hg10.grown hgr (by simp); replace hg11 := hg11.grown hgr (by simp); replace o12 := o12.kept hgr (by cases Value.ownBlock _ <;> simp); replace o13 := o13.kept hgr (by cases Value.ownBlock _ <;> simp); replace o14 := o14.kept hgr (by cases Value.ownBlock _ <;> simp); replace o15 := o15.kept hgr (by cases Value.ownBlock _ <;> simp); replace HB := HB.grown hgr (by have := HB.size; omega) (by simp); replace hcg10 := hg10.cell; replace hfg10 := hg10.frozen; replace hcg11 := hg11.cell; replace hfg11 := hg11.frozen; clear hb hgr)
                      | (go_at_call 12; (with_reducible refine (copied_ob E ne Hne.out A25 c25 (by omega) _ B25.rb).mono ?_); rintro e W4 ⟨A39, c39, rfl, B39, hb⟩; have hgr := grown_of_below hb; have dB9B39 := B9.apart_new B39 (Nat.le_refl _); have dB10B39 := B10.apart_new B39 (Nat.le_refl _); have dB11B39 := B11.apart_new B39 (Nat.le_refl _); have dQsB39 := Qs.apart_new B39 (Nat.le_refl _); have dQbB39 := Qb.apart_new B39 (Nat.le_refl _); have dB18B39 := B18.apart_new B39 (Nat.le_refl _); have dB19B39 := B19.apart_new B39 (Nat.le_refl _); have dB23B39 := B23.apart_new B39 (Nat.le_refl _); have dB25B39 := B25.apart_new B39 (Nat.le_refl _); have dB30B39 := B30.apart_new B39 (Nat.le_refl _); have dB31B39 := B31.apart_new B39 (Nat.le_refl _); have dB33B39 := B33.apart_new B39 (Nat.le_refl _); have dB35B39 := B35.apart_new B39 (Nat.le_refl _); have dB36B39 := B36.apart_new B39 (Nat.le_refl _); have dB37B39 := B37.apart_new B39 (Nat.le_refl _); have dB38B39 := B38.apart_new B39 (Nat.le_refl _); replace B39 := B39.mono HB.size; replace B38 := B38.kept hgr (by simp); replace B37 := B37.kept hgr (by simp); replace B36 := B36.kept hgr (by simp); replace B35 := B35.kept hgr (by simp); replace B33 := B33.kept hgr (by simp); replace B31 := B31.kept hgr (by simp); replace B30 := B30.kept hgr (by simp); replace B25 := B25.kept hgr (by simp); replace B23 := B23.kept hgr (by simp); replace U21 := U21.kept hgr (by simp); replace B19 := B19.kept hgr (by simp); replace B18 := B18.kept hgr (by simp); replace Zx := Zx.kept hgr (by simp); replace Sw := Sw.kept hgr (by simp); replace Qb := Qb.kept hgr (by simp); replace Qs := Qs.kept hgr (by simp); replace B11 := B11.kept hgr (by simp); replace B10 := B10.kept hgr (by simp); replace B9 := B9.kept hgr (by simp); replace hg10 := hg10.grown hgr (by simp); replace hg11 := hg11.grown hgr (by simp); replace o12 := o12.kept hgr (by cases Value.ownBlock _ <;> simp); replace o13 := o13.kept hgr (by cases Value.ownBlock _ <;> simp); replace o14 := o14.kept hgr (by cases Value.ownBlock _ <;> simp); replace o15 := o15.kept hgr (by cases Value.ownBlock _ <;> simp); replace HB := HB.grown hgr (by have := HB.size; omega) (by simp); replace hcg10 := hg10.cell; replace hfg10 := hg10.frozen; replace hcg11 := hg11.cell; replace hfg11 := hg11.frozen; clear hb hgr)
                      | ((with_reducible refine gate_dst (N := 242) rfl ?_); refine ev_lit rfl rfl (#[.slice A38 ne c38, .slice A39 ne c39]) 25 2 (by first | (go_simp; done) | (go_simp; rfl)) ?_; intro g7 W5 hg7 hsz hbn; have hgr := grown_of_below hbn; have ng10g7 : g10 ≠ g7 := (by have := hg10.lt; omega); have ng11g7 : g11 ≠ g7 := (by have := hg11.lt; omega); have zg7 : w.heap.size ≤ g7 := (by have := HB.size; omega); replace B39 := B39.kept hgr (by simp); replace B38 := B38.kept hgr (by simp); replace B37 := B37.kept hgr (by simp); replace B36 := B36.kept hgr (by simp); replace B35 := B35.kept hgr (by simp); replace B33 := B33.kept hgr (by simp); replace B31 := B31.kept hgr (by simp); replace B30 := B30.kept hgr (by simp); replace B25 := B25.kept hgr (by simp); replace B23 := B23.kept hgr (by simp); replace U21 := U21.kept hgr (by simp); replace B19 := B19.kept hgr (by simp); replace B18 := B18.kept hgr (by simp); replace Zx := Zx.kept hgr (by simp); replace Sw := Sw.kept hgr (by simp); replace Qb := Qb.kept hgr (by simp); replace Qs := Qs.kept hgr (by simp); replace B11 := B11.kept hgr (by simp); replace B10 := B10.kept hgr (by simp); replace B9 := B9.kept hgr (by simp); replace hg10 := hg10.grown hgr (by simp); replace hg11 := hg11.grown hgr (by simp); replace o12 := o12.kept hgr (by cases Value.ownBlock _ <;> simp); replace o13 := o13.kept hgr (by cases Value.ownBlock _ <;> simp); replace o14 := o14.kept hgr (by cases Value.ownBlock _ <;> simp); replace o15 := o15.kept hgr (by cases Value.ownBlock _ <;> simp); replace HB := HB.grown hgr (by have := HB.size; omega) (by simp); have hcg7 := hg7.cell; have hfg7 := hg7.frozen; replace hcg10 := hg10.cell; replace hfg10 := hg10.frozen; replace hcg11 := hg11.cell; replace hfg11 := hg11.frozen; clear hsz hbn hgr)
                      | ((with_reducible refine gate_dst (N := 243) rfl ?_); refine ev_append rfl rfl Tryd.underlying24 info_bytes rfl (by omega) rfl o15 rfl (hg7.reads (size := 1) (n := 2) rfl) (fun u hu => by simp at hu; rcases hu with rfl | rfl <;> rfl) (by omega) (by omega) (by have := HB.size; omega) ?_; intro A43 c43 W6 on hgr hat; have eo14o15 := own_apart_app o14 do14o15 hat; replace B39 := B39.kept hgr (OB.ne_own B39 o15 (by decide)); replace B38 := B38.kept hgr (OB.ne_own B38 o15 (by decide)); replace B37 := B37.kept hgr (OB.ne_own B37 o15 (by decide)); replace B36 := B36.kept hgr (OB.ne_own B36 o15 (by decide)); replace B35 := B35.kept hgr (OB.ne_own B35 o15 (by decide)); replace B33 := B33.kept hgr (OB.ne_own B33 o15 (by decide)); replace B31 := B31.kept hgr (OB.ne_own B31 o15 (by decide)); replace B30 := B30.kept hgr (OB.ne_own B30 o15 (by decide)); replace B25 := B25.kept hgr (OB.ne_own B25 o15 (by decide)); replace B23 := B23.kept hgr (OB.ne_own B23 o15 (by decide)); replace U21 := U21.kept hgr (RU.ne_own U21 o15 (by decide)); replace B19 := B19.kept hgr (OB.ne_own B19 o15 (by decide)); replace B18 := B18.kept hgr (OB.ne_own B18 o15 (by decide)); replace Zx := Zx.kept hgr (RZs.ne_own Zx o15 (by decide)); replace Sw := Sw.kept hgr (RUs.ne_own Sw o15 (by decide)); replace Qb := Qb.kept hgr (OBs.ne_own Qb o15 (by decide)); replace Qs := Qs.kept hgr (OBs.ne_own Qs o15 (by decide)); replace B11 := B11.kept hgr (OB.ne_own B11 o15 (by decide)); replace B10 := B10.kept hgr (OB.ne_own B10 o15 (by decide)); replace B9 := B9.kept hgr (OB.ne_own B9 o15 (by decide)); replace hg10 := hg10.grown hgr (fun e => own_blk_ne o15 hg10 (by decide) e.symm); replace hg11 := hg11.grown hgr (fun e => own_blk_ne o15 hg11 (by decide) e.symm); replace o12 := o12.kept hgr (by first | assumption | exact own_ty_ne o12 o15 (by decide) | exact own_sym (by assumption)); replace o13 := o13.kept hgr (by first | assumption | exact own_ty_ne o13 o15 (by decide) | exact own_sym (by assumption)); replace o14 := o14.kept hgr (do14o15); replace HB := HB.grown hgr (by have := HB.size; omega) (own_base o15); replace do14o15 := eo14o15; clear eo14o15; replace o15 := on; replace hcg10 := hg10.cell; replace hfg10 := hg10.frozen; replace hcg11 := hg11.cell; replace hfg11 := hg11.frozen; clear on hgr hat))
                    have hne := Hne.out
                    have HS1 := Lib.hid (HSS.out.turn (b12 := (A40, c40)) (b13 := (A41, c41)) (b14 := (A42, c42)) (b15 := (A43, c43)) (no := [(D, A19, c19), (D, A31, c31), (q, A30, c30), (q, A35, c35)]) (nw := [(D, A36, c36), (D, A37, c37), (q, A18, c18), (q, A18, c18)]) (nt := [(E, A23, c23), (E, A33, c33)]) (nx := [(E, A38, c38), (E, A39, c39)])
                      HB B9 hg10 B10 hg11 B11 o12 o13 (by simpa [baCells, hne] using o14) (by simpa [baCells, hne] using o15) ⟨no12g10, no12g11⟩ ⟨no13g10, no13g11⟩ do12o13 do14o15 Qs Qb Sw Zx
                      (OBs.list4 B19 B31 B30 B35 dB19B31 dB19B30 dB19B35 dB30B31.symm dB31B35 dB30B35) (OBs.list2 B23 B33 dB23B33) (all4 B36.ru B37.ru B18.ru B18.ru) (all2 B38.ru B39.ru)
                      (fun x hx => all4 (dQsB19 x hx) (dQsB31 x hx) (dQsB30 x hx) (dQsB35 x hx)) (fun x hx => all2 (dQbB23 x hx) (dQbB33 x hx)) (fun x hx => all2 (dQsB23 x hx) (dQsB33 x hx))
                      (all4 (fun y hy => (dQbB19 y hy).symm) (fun y hy => (dQbB31 y hy).symm) (fun y hy => (dQbB30 y hy).symm) (fun y hy => (dQbB35 y hy).symm)) (all4 (all2 dB19B23 dB19B33) (all2 dB23B31.symm dB31B33) (all2 dB23B30.symm dB30B33) (all2 dB23B35.symm dB33B35.symm))
                      (fun x hx => by
                        simp only [bs, List.map_cons, List.map_nil, List.cons_append, List.nil_append, List.mem_cons, List.not_mem_nil, or_false] at hx
                        rcases hx with rfl | rfl | rfl | rfl | rfl | rfl | rfl | rfl | rfl | rfl | rfl | rfl <;> assumption)
                      (fun x hx => by
                        simp only [bs, List.map_cons, List.map_nil, List.cons_append, List.nil_append, List.mem_cons, List.not_mem_nil, or_false] at hx
                        rcases hx with rfl | rfl | rfl | rfl | rfl | rfl | rfl | rfl | rfl | rfl | rfl | rfl <;> assumption)
                      rfl rfl rfl rfl (all4 ⟨dF, by simp only; omega⟩ ⟨dF, by simp only; omega⟩ ⟨Hqf.out, by simp only; omega⟩ ⟨Hqf.out, by simp only; omega⟩) (all2 (by simp only; omega) (by simp only; omega)))
                    obtain ⟨os2, ws2, bt2, xs2, HS2⟩ : ∃ (os2 ws2 : List RA) (bt2 xs2 : List BA), Aside (AgSt w W6 nb R0 g10 g11 (A9, c9) (A10, c10) (A11, c11) (k + 1) bf q (A40, c40) (A41, c41) (A42, c42) (A43, c43) os2 ws2 bt2 xs2) := ⟨_, _, _, _, HS1.out⟩
                    clear HS1 hne HB B9 B10 B11 B18 B19 U21 B23 B25 B30 B31 B33 B35 B36 B37 B38 B39 hg10 hg11 o12 o13 o14 o15 Qs Qb Sw Zx HSS
                    as_aux_lemma =>
                      go_cut [252] from 244 to 252 (fun v252 wc => v252 = .bool (decide (k < nt ∧ 0 < nb)) ∧ Aside (wc = W6))
                      case first =>
                        as_aux_lemma =>
                          by_cases hk : k < nt
                          · have q1 : decide ((k : Int) < (nt : Int)) = true := by rw [decide_eq_true_eq]; omega
                            have q1' : decide (k < nt) = true := by rw [decide_eq_true_eq]; exact hk
                            by_cases hn0 : 0 < nb
                            · have q2 : decide ((nb : Int) > 0) = true := by rw [decide_eq_true_eq]; omega
                              have q2' : decide (0 < nb) = true := by rw [decide_eq_true_eq]; exact hn0
                              go_wp2
                              go_meet
                              case rel => exact ⟨by rw [decide_eq_true ⟨hk, hn0⟩], rfl⟩
                            · have q2 : decide ((nb : Int) > 0) = false := by rw [decide_eq_false_iff_not]; omega
                              have q2' : decide (0 < nb) = false := by rw [decide_eq_false_iff_not]; exact hn0
                              go_wp2
                              go_meet
                              case rel => exact ⟨by rw [decide_eq_false (fun h => hn0 h.2)], rfl⟩
                          · have q1 : decide ((k : Int) < (nt : Int)) = false := by rw [decide_eq_false_iff_not]; omega
                            have q1' : decide (k < nt) = false := by rw [decide_eq_false_iff_not]; exact hk
                            go_wp2
                            go_meet
                            case rel => exact ⟨by rw [decide_eq_false (fun h => hk h.1)], rfl⟩
                      case rest =>
                        obtain ⟨rfl, HC⟩ := hcut
                        obtain rfl : W6 = wc := HC.out.symm
                        clear HC
                        go_upto_if 252 with fail
                        go_cut [] from 252 to 268 (fun wc => Aside (∃ bf2, AgSt w wc nb R0 g10 g11 (A9, c9) (A10, c10) (A11, c11) (k + 1) bf2 q (A40, c40) (A41, c41) (A42, c42) (A43, c43) os2 ws2 bt2 xs2))
                        case first =>
                          as_aux_lemma =>
                            by_cases hc : k < nt ∧ 0 < nb
                            · have sc : decide (k < nt ∧ 0 < nb) = true := decide_eq_true hc
                              obtain ⟨hk, hn0⟩ := hc
                              obtain ⟨tt, htt⟩ : ∃ tt, ts[k]? = some tt := ⟨_, List.getElem?_eq_getElem (by rw [Hnts.out]; omega)⟩
                              obtain ⟨x0, y0⟩ := tt
                              obtain ⟨ad, had, _, _, _⟩ := Ht.out.get htt
                              have hc0 : ∀ W', Below w.heap.size w W' → W'.cell? (ad.add (k * 2)) = some (.int .i64 x0) := fun W' hb => by
                                obtain ⟨ad', e, _, h1, _⟩ := (Ht.out.next hb).get htt
                                rw [had] at e
                                injection e with e
                                subst e
                                exact h1
                              have hc1 : ∀ W', Below w.heap.size w W' → W'.cell? { block := (ad.add (k * 2)).block, off := (ad.add (k * 2)).off + 1 } = some (.int .i64 y0) := fun W' hb => by
                                obtain ⟨ad', e, _, _, h1⟩ := (Ht.out.next hb).get htt
                                rw [had] at e
                                injection e with e
                                subst e
                                exact h1
                              have Hc0 := Lib.hid hc0
                              have Hc1 := Lib.hid hc1
                              obtain ⟨bb, hbb⟩ := wrap_byte y0
                              clear hc0 hc1 htt
                              obtain ⟨g9, hg9, _⟩ := HS2.out.buf.at_ (by rw [HS2.out.bufl]; exact hn0)
                              simp only at hg9
                              subst hg9
                              subst had
                              go_wp2
                              refine held_start (fun w' => Below w.heap.size w w') (by kernel_rfl) (fun wd hbd => ?_)
                              have A1 := HS2.out.next hbd
                              have HB := A1.below
                              clear hbd
                              refine take_at (i := 0) (v := .slice (some ⟨g9, 0, none⟩) nb c9) 253 rfl rfl (by kernel_rfl) (by kernel_rfl) (by kernel_rfl) (fun _ _ _ h => h) (.inl ⟨rfl, fun w h => by simp [go_sem]⟩) HB ?_
                              simp only [Act.put, List.getElem_toArray, List.getElem_cons_succ, List.getElem_cons_zero, List.setIfInBounds_toArray, List.set_cons_succ, List.set_cons_zero]
                              refine take_at (i := 1) (v := .slice (some ad) nt ct) 254 rfl rfl (by kernel_rfl) (by kernel_rfl) (by kernel_rfl) (fun _ _ _ h => h) (.inl ⟨rfl, fun w h => by simp [go_sem]⟩) HB ?_
                              simp only [Act.put, List.getElem_toArray, List.getElem_cons_succ, List.getElem_cons_zero, List.setIfInBounds_toArray, List.set_cons_succ, List.set_cons_zero]
                              refine take_at (i := 2) (v := .int .i64 k) 255 rfl rfl (by kernel_rfl) (by kernel_rfl) (by kernel_rfl) (fun _ _ _ h => h) (.inl ⟨rfl, fun w h => by simp [go_sem]⟩) HB ?_
                              simp only [Act.put, List.getElem_toArray, List.getElem_cons_succ, List.getElem_cons_zero, List.setIfInBounds_toArray, List.set_cons_succ, List.set_cons_zero]
                              refine take_at (i := 3) (v := .pointer (some (ad.add (k * 2)))) 256 rfl rfl (by kernel_rfl) (by kernel_rfl) (by kernel_rfl) (fun _ _ _ h => h) (.inl ⟨rfl, fun w h => by simp [go_sem, hk]⟩) HB ?_
                              simp only [Act.put, List.getElem_toArray, List.getElem_cons_succ, List.getElem_cons_zero, List.setIfInBounds_toArray, List.set_cons_succ, List.set_cons_zero]
                              refine take_at (i := 4) (v := .pointer (some (ad.add (k * 2)))) 257 rfl rfl (by kernel_rfl) (by kernel_rfl) (by kernel_rfl) (fun _ _ _ h => h) (.inl ⟨rfl, fun w h => by simp [go_sem]⟩) HB ?_
                              simp only [Act.put, List.getElem_toArray, List.getElem_cons_succ, List.getElem_cons_zero, List.setIfInBounds_toArray, List.set_cons_succ, List.set_cons_zero]
                              refine take_at (i := 5) (v := .int .i64 x0) 258 rfl rfl (by kernel_rfl) (by kernel_rfl) (by kernel_rfl) (fun _ _ _ h => h) (.inl ⟨rfl, fun w h => by simp [go_sem, Hc0.out w h]⟩) HB ?_
                              simp only [Act.put, List.getElem_toArray, List.getElem_cons_succ, List.getElem_cons_zero, List.setIfInBounds_toArray, List.set_cons_succ, List.set_cons_zero]
                              refine take_at (i := 6) (v := .slice (some ⟨g9, 0, none⟩) nb c9) 259 rfl rfl (by kernel_rfl) (by kernel_rfl) (by kernel_rfl) (fun _ _ _ h => h) (.inl ⟨rfl, fun w h => by simp [go_sem]⟩) HB ?_
                              simp only [Act.put, List.getElem_toArray, List.getElem_cons_succ, List.getElem_cons_zero, List.setIfInBounds_toArray, List.set_cons_succ, List.set_cons_zero]
                              refine take_at (i := 9) (v := .slice (some ad) nt ct) 262 rfl rfl (by kernel_rfl) (by kernel_rfl) (by kernel_rfl) (fun _ _ _ h => h) (.inl ⟨rfl, fun w h => by simp [go_sem]⟩) HB ?_
                              simp only [Act.put, List.getElem_toArray, List.getElem_cons_succ, List.getElem_cons_zero, List.setIfInBounds_toArray, List.set_cons_succ, List.set_cons_zero]
                              refine take_at (i := 10) (v := .int .i64 k) 263 rfl rfl (by kernel_rfl) (by kernel_rfl) (by kernel_rfl) (fun _ _ _ h => h) (.inl ⟨rfl, fun w h => by simp [go_sem]⟩) HB ?_
                              simp only [Act.put, List.getElem_toArray, List.getElem_cons_succ, List.getElem_cons_zero, List.setIfInBounds_toArray, List.set_cons_succ, List.set_cons_zero]
                              refine take_at (i := 11) (v := .pointer (some (ad.add (k * 2)))) 264 rfl rfl (by kernel_rfl) (by kernel_rfl) (by kernel_rfl) (fun _ _ _ h => h) (.inl ⟨rfl, fun w h => by simp [go_sem, hk]⟩) HB ?_
                              simp only [Act.put, List.getElem_toArray, List.getElem_cons_succ, List.getElem_cons_zero, List.setIfInBounds_toArray, List.set_cons_succ, List.set_cons_zero]
                              refine take_at (i := 12) (v := .pointer (some { block := (ad.add (k * 2)).block, off := (ad.add (k * 2)).off + 1 })) 265 rfl rfl (by kernel_rfl) (by kernel_rfl) (by kernel_rfl) (fun _ _ _ h => h) (.inl ⟨rfl, fun w h => by simp [go_sem]⟩) HB ?_
                              simp only [Act.put, List.getElem_toArray, List.getElem_cons_succ, List.getElem_cons_zero, List.setIfInBounds_toArray, List.set_cons_succ, List.set_cons_zero]
                              refine take_at (i := 13) (v := .int .i64 y0) 266 rfl rfl (by kernel_rfl) (by kernel_rfl) (by kernel_rfl) (fun _ _ _ h => h) (.inl ⟨rfl, fun w h => by simp [go_sem, Hc1.out w h]⟩) HB ?_
                              simp only [Act.put, List.getElem_toArray, List.getElem_cons_succ, List.getElem_cons_zero, List.setIfInBounds_toArray, List.set_cons_succ, List.set_cons_zero]
                              refine take_at (i := 14) (v := .int .u8 bb.toNat) 267 rfl rfl (by kernel_rfl) (by kernel_rfl) (by kernel_rfl) (fun _ _ _ h => h) (.inl ⟨rfl, fun w h => by simp [go_sem, hbb]⟩) HB ?_
                              simp only [Act.put, List.getElem_toArray, List.getElem_cons_succ, List.getElem_cons_zero, List.setIfInBounds_toArray, List.set_cons_succ, List.set_cons_zero]
                              refine held_one (i := 7) (by kernel_rfl) rfl ?_
                              refine ev_run rfl (w1 := wd) (v := .int .i64 nb) (by simp [go_sem]) ?_
                              refine ⟨HB, ?_⟩
                              try simp only [Act.put, List.getElem_toArray, List.getElem_cons_succ, List.getElem_cons_zero, List.setIfInBounds_toArray, List.set_cons_succ, List.set_cons_zero]
                              refine held_one (i := 8) (by kernel_rfl) rfl ?_
                              (refine ev_call2 rfl rfl ⟨_, _, Tryd.func56, by kernel_rfl, rfl⟩ rfl rfl ?_; refine Calls.mono (spot_calls x0 nb hn0 hnb20 _) ?_; rintro e W1 ⟨p, rfl, hp, hb⟩; refine ⟨_, rfl, ?_⟩; have hgr := grown_of_below hb; replace A1 := A1.kept hgr (by simp); replace HB := HB.grown hgr (by have := HB.size; omega) (by simp); clear hb hgr; have hpn := hp.out)
                              refine ⟨HB, ?_⟩
                              try simp only [Act.put, List.getElem_toArray, List.getElem_cons_succ, List.getElem_cons_zero, List.setIfInBounds_toArray, List.set_cons_succ, List.set_cons_zero]
                              refine held_one (i := 15) (by kernel_rfl) rfl ?_
                              refine ev_run rfl (w1 := W1) (v := .pointer (some ⟨g9, p, none⟩)) (by simp [go_sem, hpn]) ?_
                              refine ⟨HB, ?_⟩
                              try simp only [Act.put, List.getElem_toArray, List.getElem_cons_succ, List.getElem_cons_zero, List.setIfInBounds_toArray, List.set_cons_succ, List.set_cons_zero]
                              refine held_one (i := 16) (by kernel_rfl) rfl ?_
                              (refine ev_store_ob (b := bb) rfl rfl rfl A1.buf (k := p) (by rw [A1.bufl]; exact hpn) rfl rfl (by kernel_rfl) ?_; intro W7 B9 hgr; replace HB := grown_ob HB A1.buf hgr; have A2 := A1.byte (by rw [List.length_set]; exact A1.bufl) B9 hgr)
                              refine ⟨HB, ?_⟩
                              try simp only [Act.put, List.getElem_toArray, List.getElem_cons_succ, List.getElem_cons_zero, List.setIfInBounds_toArray, List.set_cons_succ, List.set_cons_zero]
                              refine wpAnyH_done (by kernel_rfl) ?_ _
                              go_wp2
                              go_meet
                              case rel => exact ⟨_, A2⟩
                            · have sc : decide (k < nt ∧ 0 < nb) = false := decide_eq_false hc
                              go_wp2
                              go_meet
                              case rel => exact ⟨_, HS2.out⟩
                        case rest =>
                          obtain ⟨bf2, HS3⟩ := hcut.out
                          have HS4 := Lib.hid HS3
                          have hcg10 := HS3.rec_.cell
                          have hq0 : q.Data.length ≤ 20000 := hqd
                          clear hcut HS2 HS3
                          go_upto_region 41 with fail
                          go_cut [278] from 269 to 278 (fun v278 w2 => v278 = .bool (decide (k < nt ∧ 0 < q.Data.length)) ∧ Aside (w2 = wc))
                          case first =>
                            as_aux_lemma =>
                              by_cases hk : k < nt
                              · have q1 : decide ((k : Int) < (nt : Int)) = true := by rw [decide_eq_true_eq]; omega
                                have q1' : decide (k < nt) = true := by rw [decide_eq_true_eq]; exact hk
                                by_cases hn0 : 0 < q.Data.length
                                · have q2 : decide ((q.Data.length : Int) > 0) = true := by rw [decide_eq_true_eq]; omega
                                  have q2' : decide (0 < q.Data.length) = true := by rw [decide_eq_true_eq]; exact hn0
                                  go_wp2
                                  go_meet
                                  case rel => exact ⟨by rw [decide_eq_true ⟨hk, hn0⟩], rfl⟩
                                · have q2 : decide ((q.Data.length : Int) > 0) = false := by rw [decide_eq_false_iff_not]; omega
                                  have q2' : decide (0 < q.Data.length) = false := by rw [decide_eq_false_iff_not]; exact hn0
                                  go_wp2
                                  go_meet
                                  case rel => exact ⟨by rw [decide_eq_false (fun h => hn0 h.2)], rfl⟩
                              · have q1 : decide ((k : Int) < (nt : Int)) = false := by rw [decide_eq_false_iff_not]; omega
                                have q1' : decide (k < nt) = false := by rw [decide_eq_false_iff_not]; exact hk
                                go_wp2
                                go_meet
                                case rel => exact ⟨by rw [decide_eq_false (fun h => hk h.1)], rfl⟩
                          case rest =>
                            obtain ⟨rfl, HC⟩ := hcut
                            obtain rfl := HC.out
                            clear HC
                            go_upto_if 278 with fail
                            go_cut [] from 278 to 296 (fun wc => Aside (∃ q2, AgSt w wc nb R0 g10 g11 (A9, c9) (A10, c10) (A11, c11) (k + 1) bf2 q2 (A40, c40) (A41, c41) (A42, c42) (A43, c43) os2 ws2 bt2 xs2))
                            case first =>
                              as_aux_lemma =>
                                by_cases hc : k < nt ∧ 0 < q.Data.length
                                · have sc : decide (k < nt ∧ 0 < q.Data.length) = true := decide_eq_true hc
                                  obtain ⟨hk, hn0⟩ := hc
                                  obtain ⟨tt, htt⟩ : ∃ tt, ts[k]? = some tt := ⟨_, List.getElem?_eq_getElem (by rw [Hnts.out]; omega)⟩
                                  obtain ⟨x0, y0⟩ := tt
                                  obtain ⟨ad, had, _, _, _⟩ := Ht.out.get htt
                                  have hc0 : ∀ W', Below w.heap.size w W' → W'.cell? (ad.add (k * 2)) = some (.int .i64 x0) := fun W' hb => by
                                    obtain ⟨ad', e, _, h1, _⟩ := (Ht.out.next hb).get htt
                                    rw [had] at e
                                    injection e with e
                                    subst e
                                    exact h1
                                  have hc1 : ∀ W', Below w.heap.size w W' → W'.cell? { block := (ad.add (k * 2)).block, off := (ad.add (k * 2)).off + 1 } = some (.int .i64 y0) := fun W' hb => by
                                    obtain ⟨ad', e, _, _, h1⟩ := (Ht.out.next hb).get htt
                                    rw [had] at e
                                    injection e with e
                                    subst e
                                    exact h1
                                  have Hc0 := Lib.hid hc0
                                  have Hc1 := Lib.hid hc1
                                  obtain ⟨bb, hbb⟩ := wrap_byte y0
                                  clear hc0 hc1 htt
                                  obtain ⟨g20, hg20, _⟩ := HS4.out.data.at_ hn0
                                  simp only at hg20
                                  subst hg20
                                  subst had
                                  clear hcg10
                                  go_wp2
                                  refine held_start (fun w' => Below w.heap.size w w' ∧ Blk w' g10 27 (q.cells (some ⟨g20, 0, none⟩) c10)) (by kernel_rfl) (fun wd hbd => ?_)
                                  have A1 := HS4.out.next hbd
                                  have HB := A1.below
                                  have hg10 := A1.rec_
                                  clear hbd
                                  refine take_at (i := 0) (v := .pointer (some ⟨g10, 11, none⟩)) 279 rfl rfl (by kernel_rfl) (by kernel_rfl) (by kernel_rfl) (fun _ _ _ h => h) (.inl ⟨rfl, fun w h => by simp [go_sem]⟩) ⟨HB, hg10⟩ ?_
                                  simp only [Act.put, List.getElem_toArray, List.getElem_cons_succ, List.getElem_cons_zero, List.setIfInBounds_toArray, List.set_cons_succ, List.set_cons_zero]
                                  refine take_at (i := 1) (v := .slice (some ⟨g20, 0, none⟩) q.Data.length c10) 280 rfl rfl (by kernel_rfl) (by kernel_rfl) (by kernel_rfl) (fun _ _ _ h => h) (.inl ⟨rfl, fun w h => by simp [go_sem, h.2.cell, Rec.g11]⟩) ⟨HB, hg10⟩ ?_
                                  simp only [Act.put, List.getElem_toArray, List.getElem_cons_succ, List.getElem_cons_zero, List.setIfInBounds_toArray, List.set_cons_succ, List.set_cons_zero]
                                  refine take_at (i := 2) (v := .slice (some ad) nt ct) 281 rfl rfl (by kernel_rfl) (by kernel_rfl) (by kernel_rfl) (fun _ _ _ h => h) (.inl ⟨rfl, fun w h => by simp [go_sem]⟩) ⟨HB, hg10⟩ ?_
                                  simp only [Act.put, List.getElem_toArray, List.getElem_cons_succ, List.getElem_cons_zero, List.setIfInBounds_toArray, List.set_cons_succ, List.set_cons_zero]
                                  refine take_at (i := 3) (v := .int .i64 k) 282 rfl rfl (by kernel_rfl) (by kernel_rfl) (by kernel_rfl) (fun _ _ _ h => h) (.inl ⟨rfl, fun w h => by simp [go_sem]⟩) ⟨HB, hg10⟩ ?_
                                  simp only [Act.put, List.getElem_toArray, List.getElem_cons_succ, List.getElem_cons_zero, List.setIfInBounds_toArray, List.set_cons_succ, List.set_cons_zero]
                                  refine take_at (i := 4) (v := .pointer (some (ad.add (k * 2)))) 283 rfl rfl (by kernel_rfl) (by kernel_rfl) (by kernel_rfl) (fun _ _ _ h => h) (.inl ⟨rfl, fun w h => by simp [go_sem, hk]⟩) ⟨HB, hg10⟩ ?_
                                  simp only [Act.put, List.getElem_toArray, List.getElem_cons_succ, List.getElem_cons_zero, List.setIfInBounds_toArray, List.set_cons_succ, List.set_cons_zero]
                                  refine take_at (i := 5) (v := .pointer (some (ad.add (k * 2)))) 284 rfl rfl (by kernel_rfl) (by kernel_rfl) (by kernel_rfl) (fun _ _ _ h => h) (.inl ⟨rfl, fun w h => by simp [go_sem]⟩) ⟨HB, hg10⟩ ?_
                                  simp only [Act.put, List.getElem_toArray, List.getElem_cons_succ, List.getElem_cons_zero, List.setIfInBounds_toArray, List.set_cons_succ, List.set_cons_zero]
                                  refine take_at (i := 6) (v := .int .i64 x0) 285 rfl rfl (by kernel_rfl) (by kernel_rfl) (by kernel_rfl) (fun _ _ _ h => h) (.inl ⟨rfl, fun w h => by simp [go_sem, Hc0.out w h.1]⟩) ⟨HB, hg10⟩ ?_
                                  simp only [Act.put, List.getElem_toArray, List.getElem_cons_succ, List.getElem_cons_zero, List.setIfInBounds_toArray, List.set_cons_succ, List.set_cons_zero]
                                  refine take_at (i := 7) (v := .pointer (some ⟨g10, 11, none⟩)) 286 rfl rfl (by kernel_rfl) (by kernel_rfl) (by kernel_rfl) (fun _ _ _ h => h) (.inl ⟨rfl, fun w h => by simp [go_sem]⟩) ⟨HB, hg10⟩ ?_
                                  simp only [Act.put, List.getElem_toArray, List.getElem_cons_succ, List.getElem_cons_zero, List.setIfInBounds_toArray, List.set_cons_succ, List.set_cons_zero]
                                  refine take_at (i := 8) (v := .slice (some ⟨g20, 0, none⟩) q.Data.length c10) 287 rfl rfl (by kernel_rfl) (by kernel_rfl) (by kernel_rfl) (fun _ _ _ h => h) (.inl ⟨rfl, fun w h => by simp [go_sem, h.2.cell, Rec.g11]⟩) ⟨HB, hg10⟩ ?_
                                  simp only [Act.put, List.getElem_toArray, List.getElem_cons_succ, List.getElem_cons_zero, List.setIfInBounds_toArray, List.set_cons_succ, List.set_cons_zero]
                                  refine take_at (i := 11) (v := .slice (some ad) nt ct) 290 rfl rfl (by kernel_rfl) (by kernel_rfl) (by kernel_rfl) (fun _ _ _ h => h) (.inl ⟨rfl, fun w h => by simp [go_sem]⟩) ⟨HB, hg10⟩ ?_
                                  simp only [Act.put, List.getElem_toArray, List.getElem_cons_succ, List.getElem_cons_zero, List.setIfInBounds_toArray, List.set_cons_succ, List.set_cons_zero]
                                  refine take_at (i := 12) (v := .int .i64 k) 291 rfl rfl (by kernel_rfl) (by kernel_rfl) (by kernel_rfl) (fun _ _ _ h => h) (.inl ⟨rfl, fun w h => by simp [go_sem]⟩) ⟨HB, hg10⟩ ?_
                                  simp only [Act.put, List.getElem_toArray, List.getElem_cons_succ, List.getElem_cons_zero, List.setIfInBounds_toArray, List.set_cons_succ, List.set_cons_zero]
                                  refine take_at (i := 13) (v := .pointer (some (ad.add (k * 2)))) 292 rfl rfl (by kernel_rfl) (by kernel_rfl) (by kernel_rfl) (fun _ _ _ h => h) (.inl ⟨rfl, fun w h => by simp [go_sem, hk]⟩) ⟨HB, hg10⟩ ?_
                                  simp only [Act.put, List.getElem_toArray, List.getElem_cons_succ, List.getElem_cons_zero, List.setIfInBounds_toArray, List.set_cons_succ, List.set_cons_zero]
                                  refine take_at (i := 14) (v := .pointer (some { block := (ad.add (k * 2)).block, off := (ad.add (k * 2)).off + 1 })) 293 rfl rfl (by kernel_rfl) (by kernel_rfl) (by kernel_rfl) (fun _ _ _ h => h) (.inl ⟨rfl, fun w h => by simp [go_sem]⟩) ⟨HB, hg10⟩ ?_
                                  simp only [Act.put, List.getElem_toArray, List.getElem_cons_succ, List.getElem_cons_zero, List.setIfInBounds_toArray, List.set_cons_succ, List.set_cons_zero]
                                  refine take_at (i := 15) (v := .int .i64 y0) 294 rfl rfl (by kernel_rfl) (by kernel_rfl) (by kernel_rfl) (fun _ _ _ h => h) (.inl ⟨rfl, fun w h => by simp [go_sem, Hc1.out w h.1]⟩) ⟨HB, hg10⟩ ?_
                                  simp only [Act.put, List.getElem_toArray, List.getElem_cons_succ, List.getElem_cons_zero, List.setIfInBounds_toArray, List.set_cons_succ, List.set_cons_zero]
                                  refine take_at (i := 16) (v := .int .u8 bb.toNat) 295 rfl rfl (by kernel_rfl) (by kernel_rfl) (by kernel_rfl) (fun _ _ _ h => h) (.inl ⟨rfl, fun w h => by simp [go_sem, hbb]⟩) ⟨HB, hg10⟩ ?_
                                  simp only [Act.put, List.getElem_toArray, List.getElem_cons_succ, List.getElem_cons_zero, List.setIfInBounds_toArray, List.set_cons_succ, List.set_cons_zero]
                                  refine held_one (i := 9) (by kernel_rfl) rfl ?_
                                  refine ev_run rfl (w1 := wd) (v := .int .i64 q.Data.length) (by simp [go_sem]) ?_
                                  refine ⟨⟨HB, hg10⟩, ?_⟩
                                  try simp only [Act.put, List.getElem_toArray, List.getElem_cons_succ, List.getElem_cons_zero, List.setIfInBounds_toArray, List.set_cons_succ, List.set_cons_zero]
                                  refine held_one (i := 10) (by kernel_rfl) rfl ?_
                                  (refine ev_call2 rfl rfl ⟨_, _, Tryd.func56, by kernel_rfl, rfl⟩ rfl rfl ?_; refine Calls.mono (spot_calls x0 q.Data.length hn0 hqd _) ?_; rintro e W1 ⟨p, rfl, hp, hb⟩; refine ⟨_, rfl, ?_⟩; have hgr := grown_of_below hb; replace A1 := A1.kept hgr (by simp); replace hg10 := hg10.grown hgr (by simp); replace HB := HB.grown hgr (by have := HB.size; omega) (by simp); replace hcg10 := hg10.cell; replace hfg10 := hg10.frozen; clear hb hgr; have hpn := hp.out)
                                  refine ⟨⟨HB, hg10⟩, ?_⟩
                                  try simp only [Act.put, List.getElem_toArray, List.getElem_cons_succ, List.getElem_cons_zero, List.setIfInBounds_toArray, List.set_cons_succ, List.set_cons_zero]
                                  refine held_one (i := 17) (by kernel_rfl) rfl ?_
                                  refine ev_run rfl (w1 := W1) (v := .pointer (some ⟨g20, p, none⟩)) (by simp [go_sem, hpn]) ?_
                                  refine ⟨⟨HB, hg10⟩, ?_⟩
                                  try simp only [Act.put, List.getElem_toArray, List.getElem_cons_succ, List.getElem_cons_zero, List.setIfInBounds_toArray, List.set_cons_succ, List.set_cons_zero]
                                  refine held_one (i := 18) (by kernel_rfl) rfl ?_
                                  (refine ev_store_ob (b := bb) rfl rfl rfl A1.data (k := p) hpn rfl rfl (by kernel_rfl) ?_; intro W7 B9 hgr; replace HB := grown_ob HB A1.data hgr; replace hg10 := hg10.kept_ob A1.data hgr (by decide); have A2 := A1.datum p bb B9 hgr)
                                  refine ⟨⟨HB, hg10⟩, ?_⟩
                                  try simp only [Act.put, List.getElem_toArray, List.getElem_cons_succ, List.getElem_cons_zero, List.setIfInBounds_toArray, List.set_cons_succ, List.set_cons_zero]
                                  refine wpAnyH_done (by kernel_rfl) ?_ _
                                  go_wp2
                                  go_meet
                                  case rel => exact ⟨_, A2⟩
                                · have sc : decide (k < nt ∧ 0 < q.Data.length) = false := decide_eq_false hc
                                  clear hcg10
                                  go_wp2
                                  go_meet
                                  case rel => exact ⟨_, HS4.out⟩
                            case rest =>
                              obtain ⟨q2, HS5⟩ := hcut.out
                              have A1 := HS5
                              have Hsame := Lib.hid A1.same
                              have Hsameb := Lib.hid A1.sameb
                              have Hfits := Lib.hid (show ∀ y ∈ os2, y.1.Fits from fun y hy => (A1.short y hy).1)
                              have Hle := Lib.hid (show ∀ x ∈ bt2, x.1.length ≤ 140737488351232 from fun x hx => by have := A1.shortb x hx; omega)
                              have Hlo := Lib.hid (show os2.length = 4 * k + 4 by have := A1.lo; omega)
                              have Hlw := Lib.hid (show ws2.length = 4 * k + 4 by have := congrArg List.length A1.same; rw [List.length_map, List.length_map, A1.lo] at this; omega)
                              have Hlb := Lib.hid (show bt2.length = 2 * k + 2 by have := A1.lb; omega)
                              have rA : ∀ W', Below wc.heap.size wc W' → RR W' A40 os2 := fun W' u => RR.of_own (n := 4 * k + 4) (c := c40) (A1.next u).o12 Hlo.out (A1.next u).Qs.recs
                              have rB : ∀ W', Below wc.heap.size wc W' → RR W' A41 ws2 := fun W' u => RR.of_own (n := 4 * k + 4) (c := c41) (A1.next u).o13 Hlw.out (A1.next u).Sw
                              have rC : ∀ W', Below wc.heap.size wc W' → Reads W' W'.heap.size 1 A42 (2 * k + 2) (baCells bt2) := fun W' u => Reads.of_own (c := c42) (A1.next u).o14
                              have rD : ∀ W', Below wc.heap.size wc W' → Reads W' W'.heap.size 1 A43 (2 * k + 2) (baCells xs2) := fun W' u => Reads.of_own (c := c43) (A1.next u).o15
                              have HS6 := Lib.hid HS5
                              have HB := Below.refl wc.heap.size wc
                              clear hcut HS4 HS5 hcg10 A1
                              go_wp2_with (first
                                | (go_at_call 25; (with_reducible refine (refSameAll_m os2 ws2 (4 * k + 4) Hlo.out A40 A41 c40 c41 Hsame.out (by omega) Hfits.out _ (rA _ HB) (rB _ HB)).mono ?_); rintro e W1 ⟨rfl, hb⟩; have hgr := grown_of_below hb; replace HB := HB.grown hgr (by have := HB.size; omega) (by simp); clear hb hgr)
                                | (go_at_call 16; (with_reducible refine (alikeAll_calls bt2 xs2 (2 * k + 2) Hlb.out Hsameb.out A42 A43 c42 c43 (by omega) Hle.out _ (rC _ HB) (rD _ HB) (HS6.out.next HB).Qb.rus (HS6.out.next HB).Zx).mono ?_); rintro e W2 ⟨rfl, hb⟩; have hgr := grown_of_below hb; replace HB := HB.grown hgr (by have := HB.size; omega) (by simp); clear hb hgr))
                              have A1 := HS6.out.next HB
                              clear rA rB rC rD HB HS6
                              go_roundg (gk - 1)
                              case measure => omega
                              case rel => exact ⟨k + 1, bf2, q2, (A40, c40), (A41, c41), (A42, c42), (A43, c43), os2, ws2, bt2, xs2, by omega, by go_num, rfl, rfl, rfl, rfl, A1⟩
          · skip
            as_aux_lemma =>
              have s1 : decide ((k : Int) ≤ (nt : Int)) = false := by rw [decide_eq_false_iff_not]; omega
              have s1' : decide (k ≤ nt) = false := by rw [decide_eq_false_iff_not]; exact hlt
              have HB := HS.below
              have o12 := HS.o12
              have o14 := HS.o14
              have Qs := HS.Qs
              have Qb := HS.Qb
              have hlo := HS.lo
              have hlb := HS.lb
              obtain ⟨ns, hns⟩ : ∃ ns, 4 * k = ns := ⟨_, rfl⟩
              obtain ⟨nx, hnx⟩ : ∃ nx, 2 * k = nx := ⟨_, rfl⟩
              have hn200 : ns ≤ 164 := by omega
              have hn100 : nx ≤ 82 := by omega
              rw [hns] at o12 hlo ⊢
              rw [hnx] at o14 hlb ⊢
              have Hlo := Lib.hid hlo
              have Hd := Lib.hid HS.dsb
              have HlN := Lib.hid (show (bt ++ bs os).length = nx + ns by rw [List.length_append, hlb]; simp [bs, hlo])
              have Hle := Lib.hid (show ∀ x ∈ bt ++ bs os, x.1.length ≤ 70368744170000 from fun x hx => by
                rcases List.mem_append.1 hx with hx | hx
                · have := HS.shortb x hx
                  omega
                · obtain ⟨y, hy, rfl⟩ := List.mem_map.1 hx
                  have := (HS.short y hy).2
                  simp only
                  omega)
              clear HS hlo hlb hns hnx
              go_wp2
              go_loopg [14, 36] ns (fun q v14 v36 wr => ∃ (i : Nat) (a14 : AC), q + i = ns ∧ v36 = .int .i64 i ∧ v14 = .slice a14.1 (nx + i) a14.2 ∧ Aside (Below w.heap.size w wr ∧ wr.ownsRow w.heap.size 27 12 (.slice A12 ns c12) ns (recCells os) ∧ wr.ownsRow w.heap.size 25 1 (.slice a14.1 (nx + i) a14.2) (nx + i) (baCells (bt ++ (bs os).take i)) ∧ OBs wr w.heap.size (bs os) ∧ OBs wr w.heap.size bt))
              case atStart => exact ⟨0, (A14, c14), by omega, rfl, rfl, ⟨HB, o12, by simpa using o14, Qs, Qb⟩⟩
              case round =>
                clear HB o12 o14 Qs Qb
                obtain ⟨i, ⟨A14, c14⟩, hmi, rfl, rfl, HA⟩ := hrel
                obtain ⟨HB, o12, o14, Qs, Qb⟩ := HA.out
                clear HA
                by_cases hi : i < ns
                · have q1 : decide ((i : Int) < (ns : Int)) = true := by rw [decide_eq_true_eq]; omega
                  have q1' : decide (i < ns) = true := by rw [decide_eq_true_eq]; exact hi
                  obtain ⟨x, hx⟩ : ∃ x, os[i]? = some x := ⟨_, List.getElem?_eq_getElem (by rw [Hlo.out]; exact hi)⟩
                  obtain ⟨r, Ax, cx⟩ := x
                  obtain ⟨g12, hg12, _⟩ := own_at o12 (by omega)
                  subst hg12
                  have hc := own_cellN o12 (i * 12 + 11) (recCells_get hx 11 (by decide))
                  have htk : (bs os).take (i + 1) = (bs os).take i ++ [(r.Data, Ax, cx)] := by
                    rw [List.take_add_one, show (bs os)[i]? = some (r.Data, Ax, cx) from by simp [bs, hx]]
                    rfl
                  obtain ⟨nr, hnr⟩ : ∃ nr, r.Data.length = nr := ⟨_, rfl⟩
                  replace hc : wr.cell? ⟨g12, i * 12 + 11, none⟩ = some (.slice Ax nr cx) := by rw [hc, ← hnr]; rfl
                  have Htk := Lib.hid htk
                  have Hnr := Lib.hid hnr
                  clear hx htk hnr
                  go_wp2_with (first
                    | ((with_reducible refine gate_dst (N := 319) rfl ?_); refine ev_lit rfl rfl (#[.slice Ax nr cx]) 25 1 (by first | (go_simp; done) | (go_simp; rfl)) ?_; intro g5 W1 hg5 hsz hbn; have hgr := grown_of_below hbn; have zg5 : w.heap.size ≤ g5 := (by have := HB.size; omega); replace Qb := Qb.kept hgr (by simp); replace Qs := Qs.kept hgr (by simp); replace o12 := o12.kept hgr (by cases Value.ownBlock _ <;> simp); replace o14 := o14.kept hgr (by cases Value.ownBlock _ <;> simp); replace HB := HB.grown hgr (by have := HB.size; omega) (by simp); have hcg5 := hg5.cell; have hfg5 := hg5.frozen; clear hsz hbn hgr)
                    | ((with_reducible refine gate_dst (N := 320) rfl ?_); refine ev_append rfl rfl Tryd.underlying24 info_bytes rfl (by omega) rfl o14 rfl (hg5.reads (size := 1) (n := 1) rfl) (fun u hu => by simp at hu; subst hu; rfl) (by omega) (by omega) (by have := HB.size; omega) ?_; intro A6 c6 W2 on hgr hat; replace Qb := Qb.kept hgr (OBs.ne_own Qb o14 (by decide)); replace Qs := Qs.kept hgr (OBs.ne_own Qs o14 (by decide)); replace o12 := o12.kept hgr (by first | assumption | exact own_ty_ne o12 o14 (by decide) | exact own_sym (by assumption)); replace HB := HB.grown hgr (by have := HB.size; omega) (own_base o14); replace o14 := on; clear on hgr hat))
                  clear hc
                  go_roundg (gk - 1)
                  case measure => omega
                  case rel => exact ⟨i + 1, (A6, c6), by omega, by go_num, rfl, ⟨HB, o12, by rw [Htk.out, ← List.append_assoc, baCells_append, show baCells [(r.Data, Ax, cx)] = [.slice Ax nr cx] from by rw [← Hnr.out]; rfl]; exact o14, Qs, Qb⟩⟩
                · obtain rfl : i = ns := by omega
                  have q1 : decide ((i : Int) < (i : Int)) = false := by simp
                  have q1' : decide (i < i) = false := by simp
                  rw [List.take_of_length_le (by simp [bs, Hlo.out])] at o14
                  have Qall := Qb.append Qs (fun x hx y hy => (Hd.out y hy x hx).symm)
                  clear o12 Qs Qb
                  go_wp2_with (first
                    | (go_at_call 15; have QF := Qall; (with_reducible refine (filled3_calls (bt ++ bs os) (nx + i) HlN.out A14 c14 _ w.heap.size (by omega) Hle.out _ HB.size QF o14).mono ?_); rintro e W1 ⟨A17, c17, ts, rfl, hmore, o17, hX⟩; have do14o17 := own_apart o14 o17 (Nat.le_refl _); replace o17 := own_mono o17 HB.size; replace o14 := own_spared o14 hX.sp QF (by decide); replace HB := hX.sp.keeps QF HB (Nat.le_refl _) HB.size; have V1 := hX.fam; clear hX QF)
                    | (go_at_call 17; (with_reducible refine (stand3_calls (bt ++ bs os) (nx + i) A14 A17 c14 c17 ts _ (stands3_of_fam hmore.out HlN.out o14 o17 V1 (by omega) Hle.out)).mono ?_); rintro e W2 ⟨rfl, hb⟩; have hgr := grown_of_below hb; replace o14 := o14.kept hgr (by cases Value.ownBlock _ <;> simp); replace o17 := o17.kept hgr (by cases Value.ownBlock _ <;> simp); replace HB := HB.grown hgr (by have := HB.size; omega) (by simp); clear hb hgr)
                    | (go_at_call 9; (with_reducible refine (started3_calls _ (HT.out.next HB)).mono ?_); rintro e W3 ⟨rfl, hb⟩; have hgr := grown_of_below hb; replace o14 := o14.kept hgr (by cases Value.ownBlock _ <;> simp); replace o17 := o17.kept hgr (by cases Value.ownBlock _ <;> simp); replace HB := HB.grown hgr (by have := HB.size; omega) (by simp); clear hb hgr))
                  go_ret
                  exact ⟨rfl, HB⟩
end Go.Proofs.YtikodgaomhmbmaaDoor
