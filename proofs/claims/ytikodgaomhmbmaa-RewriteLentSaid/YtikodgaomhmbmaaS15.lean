/-
  The walk of the law RewriteLent.
-/
import Derived.Test.YtikodgaomhmbmaaS14
import Derived.Deep.DeepCutAuto
set_option linter.unusedVariables false
set_option linter.unusedSimpArgs false
namespace Go.Proofs.Ytikodgaomhmbmaa
open Go.RowKit
attribute [local go_sem] Rec.size_ Rec.g0 Rec.g1 Rec.g2 Rec.g3 Rec.g4 Rec.g5 Rec.g6 Rec.g7 Rec.g8 Rec.g9 Rec.g10 Rec.g11 Rec.fold Rec.lit_fold Trn.size_ Trn.g0 Trn.g1 Trn.g2

set_option maxHeartbeats 16000000 in
set_option maxRecDepth 100000 in
theorem lent_calls (l : List RA) (A : Option Addr) (c : Nat) (hcap : l.length ≤ c) (hfit : ∀ y ∈ l, y.1.Fits) (hwf : ∀ y ∈ l, sagaWf y.1) (ts : List Trn) (At : Option Addr) (ct : Nat) (htw : ∀ t ∈ ts, (Lit.int .i64 t.by_).wf = true) (w : World) (hr : RR w A l) (hts : RTn w At ts) :
    Calls Try.prog 4 #[.slice A l.length c, .slice At ts.length ct] w fun e w' => e = .returned (.bool true) ∧ Below w.heap.size w w' := by
  have HB := Below.refl w.heap.size w
  obtain ⟨nl, hnl⟩ : ∃ nl, l.length = nl := ⟨_, rfl⟩
  obtain ⟨nt, hnt⟩ : ∃ nt, ts.length = nt := ⟨_, rfl⟩
  rw [hnl] at hcap ⊢
  rw [hnt]
  have Hr := Lib.hid hr
  have Hfit := Lib.hid hfit
  have Hwf := Lib.hid hwf
  have Htw := Lib.hid htw
  have Hts := Lib.hid hts
  have Hnl := Lib.hid hnl
  have Hnt := Lib.hid hnt
  clear hr hfit hwf htw hts hnl hnt
  go_enter Try.func4, Try.ntmps4
  go_upto_if 25 with fail
  go_cut [0] from 26 to 27 (fun v0 wc => ∃ n : Nat, v0 = .slice A n c ∧ Aside (n ≤ 100 ∧ n ≤ nl ∧ wc = w))
  case first =>
    by_cases h1 : 100 < nl
    · have s1 : decide ((nl : Int) > 100) = true := by rw [decide_eq_true_eq]; omega
      have s1' : decide (100 < nl) = true := by rw [decide_eq_true_eq]; exact h1
      have hcc : 100 ≤ c := by omega
      go_wp2
      go_meet
      case rel => exact ⟨100, rfl, by omega, by omega, rfl⟩
    · have s1 : decide ((nl : Int) > 100) = false := by rw [decide_eq_false_iff_not]; omega
      have s1' : decide (100 < nl) = false := by rw [decide_eq_false_iff_not]; exact h1
      go_wp2
      go_meet
      case rel => exact ⟨nl, rfl, by omega, by omega, rfl⟩
  case rest =>
    obtain ⟨n, rfl, HC⟩ := hcut
    obtain ⟨hn100, hnnl, hw⟩ := HC.out
    obtain rfl : w = wc := hw.symm
    clear HC hw
    obtain ⟨l1, hl1⟩ : ∃ l1, l1 = l.take n := ⟨_, rfl⟩
    have hmem : ∀ y ∈ l1, y ∈ l := fun y hy => List.mem_of_mem_take (by rw [← hl1]; exact hy)
    have Hl1 := Lib.hid (show l1.length = n by rw [hl1, List.length_take, Hnl.out]; omega)
    have Hf1 := Lib.hid (show ∀ y ∈ l1, y.1.Fits from fun y hy => Hfit.out y (hmem y hy))
    have Hw1 := Lib.hid (show ∀ y ∈ l1, sagaWf y.1 from fun y hy => Hwf.out y (hmem y hy))
    have Hr1 := Lib.hid (show RR w A l1 by rw [hl1]; exact Hr.out.take n)
    clear hl1 hmem
    go_wp2_with (first
      | (go_at_call 12; (with_reducible refine (cloneAll_n l1 n Hl1.out A c (by omega) Hf1.out _ (Hr1.out.next HB)).mono ?_); rintro e W1 ⟨A0, c0, os0, rfl, h0, o0, Q0, hb⟩; have hgr := grown_of_below hb; replace o0 := own_mono o0 HB.size; replace Q0 := Q0.mono HB.size; replace HB := HB.grown hgr (by have := HB.size; omega) (by simp); clear hb hgr))
    have H0 := Lib.hid h0.out
    have hl0 := (map_len h0.out).trans Hl1.out
    have Hl0 := Lib.hid hl0
    have HF0 := Lib.hid (And.intro o0 (And.intro Q0 HB))
    clear h0 hl0 o0 Q0 HB
    go_loopg [5] n (fun m v5 wr => ∃ i : Nat, m + i = n ∧ v5 = .int .i64 i ∧ Aside (wr.ownsRow w.heap.size 25 12 (.slice A0 n c0) n (recCells (cutL i os0)) ∧ OBs wr w.heap.size (bs os0) ∧ Below w.heap.size w wr))
    case atStart => exact ⟨0, by omega, rfl, by rw [cutL_zero]; exact HF0.out.1, HF0.out.2.1, HF0.out.2.2⟩
    case round =>
      clear HF0
      obtain ⟨i, hm, rfl, HA⟩ := hrel
      obtain ⟨o0, Q0, HB⟩ := HA.out
      clear HA
      by_cases hlt : i < n
      · have s1 : decide ((i : Int) < (n : Int)) = true := by rw [decide_eq_true_eq]; omega
        have s1' : decide (i < n) = true := by rw [decide_eq_true_eq]; exact hlt
        obtain ⟨x, hx⟩ : ∃ x, os0[i]? = some x := ⟨_, List.getElem?_eq_getElem (by rw [Hl0.out]; exact hlt)⟩
        obtain ⟨r, Ai, ci⟩ := x
        obtain ⟨g0, hg0, _⟩ := own_at o0 (by omega)
        subst hg0
        have h11 := own_cellN o0 (i * 12 + 11) ((recCells_get (cutL_at hx) 11 (by decide)).trans (Rec.g11 _ _ _))
        have hcc := (Q0.all _ (List.mem_of_getElem? (bs_get hx))).len
        simp only at hcc
        have Hx := Lib.hid hx
        have hi12 : i * 12 + 11 < n * 12 := by omega
        obtain ⟨nb, hnb⟩ : ∃ nb, r.Data.length = nb := ⟨_, rfl⟩
        rw [hnb] at h11 hcc
        have Hnb := Lib.hid hnb
        clear hx hnb
        by_cases hb : 2000 < nb
        · have s2 : decide ((nb : Int) > 2000) = true := by rw [decide_eq_true_eq]; omega
          have s2' : decide (2000 < nb) = true := by rw [decide_eq_true_eq]; exact hb
          have hc2 : 2000 ≤ ci := by omega
          go_wp2_with (first
            | ((with_reducible refine gate_store (p := 52) rfl ?_); refine ev_store_ownN rfl rfl rfl o0 (k := (i * 12 + 11)) (v := (.slice Ai 2000 ci)) hi12 rfl rfl (by kernel_rfl) (by kernel_rfl) ?_; intro W1 on hgr; replace Q0 := Q0.kept hgr (OBs.ne_own Q0 o0 (by decide)); replace HB := HB.grown hgr (by have := HB.size; omega) (own_base o0); replace o0 := on; clear on hgr))
          have hcu := cutL_big Hx.out (by rw [Hnb.out]; exact hb)
          go_roundg (gk - 1)
          case measure => omega
          case rel => exact ⟨i + 1, by omega, by go_num, by rw [hcu]; exact o0, Q0, HB⟩
        · have s2 : decide ((nb : Int) > 2000) = false := by rw [decide_eq_false_iff_not]; omega
          have s2' : decide (2000 < nb) = false := by rw [decide_eq_false_iff_not]; exact hb
          have hcu := cutL_small Hx.out (by rw [Hnb.out]; exact hb)
          have Hcu := Lib.hid hcu
          clear hcu
          go_wp2
          go_roundg (gk - 1)
          case measure => omega
          case rel => exact ⟨i + 1, by omega, by go_num, by rw [Hcu.out]; exact o0, Q0, HB⟩
      · have e0 : n = i := by omega
        subst e0
        have s1 : decide ((n : Int) < (n : Int)) = false := by simp
        have s1' : decide (n < n) = false := by simp
        obtain ⟨os1, hos1⟩ : ∃ os1, os1 = cutL n os0 := ⟨_, rfl⟩
        have hrr := cutL_rr o0 Hl0.out Q0
        have of0 : ∀ y ∈ os1, y.1.Fits ∧ y.1.Data.length ≤ 2000 ∧ sagaWf y.1 := fun y hy => by
          rw [hos1] at hy
          obtain ⟨x, hx, rfl⟩ := cutL_mem Hl0.out hy
          obtain ⟨z, hz, e⟩ := List.mem_map.1 (show x.1 ∈ l1.map (fun x => x.1) by rw [← H0.out]; exact List.mem_map.2 ⟨x, hx, rfl⟩)
          have h1 := Hf1.out z hz
          have h2 := Hw1.out z hz
          rw [e] at h1 h2
          exact ⟨⟨h1.name, by simp only [cutD, List.length_take]; omega⟩, by simp only [cutD, List.length_take]; omega, h2⟩
        have Hof := Lib.hid of0
        have Hd1 := Lib.hid (show ∀ y ∈ os1, y.1.Data.length ≤ 100000000000 from fun y hy => by have := (of0 y hy).2.1; omega)
        have Hl1' := Lib.hid (show os1.length = n by rw [hos1, cutL_len]; exact Hl0.out)
        rw [← hos1] at hrr
        have Hrr := Lib.hid hrr
        have HBr := Below.refl wr.heap.size wr
        clear hos1 hrr of0 o0 Q0
        go_upto_region 12 with (first
          | (go_at_call 6; (with_reducible refine (laid_calls os1 n Hl1'.out A0 c0 (by omega) Hd1.out _ Hrr.out).mono ?_); rintro e W1 ⟨A6, c6, A7, c7, os, rfl, hos, o6, o7, Q7, hb⟩; have hgr := grown_of_below hb; replace o6 := own_mono o6 HB.size; replace Q7 := Q7.mono HB.size; replace HB := HB.grown hgr (by have := HB.size; omega) (by simp); clear hb hgr)
          | ((with_reducible refine gate_dst (N := 63) rfl ?_); refine ev_lit rfl rfl ((recCells tails).toArray) 25 2 (by kernel_rfl) ?_; intro g5 W2 hg5 hsz hbn; have hgr := grown_of_below hbn; have zg5 : w.heap.size ≤ g5 := (by have := HB.size; omega); replace Q7 := Q7.kept hgr (by simp); replace o6 := o6.kept hgr (by cases Value.ownBlock _ <;> simp); replace HB := HB.grown hgr (by have := HB.size; omega) (by simp); have hcg5 := hg5.cell; have hfg5 := hg5.frozen; clear hsz hbn hgr)
          | ((with_reducible refine gate_dst (N := 64) rfl ?_); refine ev_append rfl rfl Try.underlying22 info_rec rfl (by omega) rfl o6 rfl (hg5.reads (size := 12) (n := 2) (by rw [List.size_toArray, recCells_length]; rfl)) (recCells_1 (l := tails)) (by omega) (by omega) (by have := HB.size; omega) ?_; intro A9 c9 W3 on hgr hat; replace Q7 := Q7.kept hgr (OBs.ne_own Q7 o6 (by decide)); replace HB := HB.grown hgr (by have := HB.size; omega) (own_base o6); replace o6 := on; clear on hgr hat))
        have hM0 : Mn W3 w.heap.size n A9 c9 os := ⟨len_R hos.out Hl1'.out, by rw [recCells_append]; exact o6, Q7, map_all (p := fun r => r.Fits ∧ r.Data.length ≤ 2000 ∧ sagaWf r) hos.out Hof.out⟩
        have HS0 := Lib.hid (Ln.start HB hM0)
        clear hos o6 Q7 HB hM0 HBr Hrr Hd1 Hof H0
        obtain ⟨N, hN⟩ : ∃ N, N = min (nt + 1) 30 := ⟨_, rfl⟩
        have hN30 : N ≤ 30 := by omega
        go_wp2
        go_loopg [10, 11, 12] N (fun m v10 v11 v12 wr => ∃ (i : Nat) (os : List RA) (a10 a11 : Option Addr × Nat) (L M : List LR), m + i = N ∧ v12 = .int .i64 i ∧ v10 = .slice a10.1 (2 * i) a10.2 ∧ v11 = .slice a11.1 (2 * i) a11.2 ∧ Aside (Ln w wr n A9 c9 os i a10 a11 L M))
        case atStart => exact ⟨0, os, (none, 0), (none, 0), [], [], by omega, rfl, rfl, rfl, HS0.out⟩
        case round =>
          clear HS0
          obtain ⟨gm, rfl⟩ : ∃ gm, gm = gk := ⟨_, rfl⟩
          obtain ⟨i, os, ⟨A10, c10⟩, ⟨A11, c11⟩, L, M, hm, rfl, rfl, rfl, HA⟩ := hrel
          have HS := HA.out
          clear HA
          go_upto_region 15 with fail
          go_cut [72] from 65 to 72 (fun v72 wc => v72 = .bool (decide (i < N)) ∧ Aside (wc = wr))
          case first =>
            clear HS
            by_cases hle : i ≤ nt
            · have s1 : decide ((i : Int) ≤ (nt : Int)) = true := by rw [decide_eq_true_eq]; omega
              have s1' : decide (i ≤ nt) = true := by rw [decide_eq_true_eq]; omega
              by_cases h30 : i < 30
              · have s2 : decide ((i : Int) < 30) = true := by rw [decide_eq_true_eq]; omega
                have s2' : decide (i < 30) = true := by rw [decide_eq_true_eq]; omega
                have hd := decide_eq_true (show i < N by omega)
                go_wp2
                go_meet
                case rel => exact ⟨by rw [hd], rfl⟩
              · have s2 : decide ((i : Int) < 30) = false := by rw [decide_eq_false_iff_not]; omega
                have s2' : decide (i < 30) = false := by rw [decide_eq_false_iff_not]; omega
                have hd := decide_eq_false (show ¬ i < N by omega)
                go_wp2
                go_meet
                case rel => exact ⟨by rw [hd], rfl⟩
            · have s1 : decide ((i : Int) ≤ (nt : Int)) = false := by rw [decide_eq_false_iff_not]; omega
              have s1' : decide (i ≤ nt) = false := by rw [decide_eq_false_iff_not]; omega
              have hd := decide_eq_false (show ¬ i < N by omega)
              go_wp2
              go_meet
              case rel => exact ⟨by rw [hd], rfl⟩
          obtain ⟨rfl, HC⟩ := hcut
          obtain rfl : wr = wc := HC.out.symm
          clear HC
          by_cases hlt : i < N
          · have s1 : decide (i < N) = true := decide_eq_true hlt
            obtain ⟨R, hR⟩ : ∃ R : List Rec, os.map (·.1) = R := ⟨_, rfl⟩
            obtain ⟨na, hna⟩ : ∃ na, (liveR R R).length = na := ⟨_, rfl⟩
            obtain ⟨nd, hnd⟩ : ∃ nd, (deadR R R).length = nd := ⟨_, rfl⟩
            have hRn : R.length = n := by rw [← hR, List.length_map, HS.mine.len]
            have hna1 : na ≤ n := by rw [← hna, ← hRn]; exact liveR_le R R
            have hnd1 : nd ≤ n := by rw [← hnd, ← hRn]; exact deadR_le R R
            have hsR : ∀ r ∈ R, r.Fits ∧ r.Data.length ≤ 2000 ∧ sagaWf r := fun r hr => by
              rw [← hR] at hr
              obtain ⟨y, hy, rfl⟩ := List.mem_map.1 hr
              exact HS.mine.small y hy
            have HR := Lib.hid hR
            have Hna := Lib.hid hna
            have Hnd := Lib.hid hnd
            have Hlive := Lib.hid (show ∀ r ∈ liveR R R, r.Fits ∧ r.Data.length ≤ 2000 from fun r hr => ⟨(hsR r (liveR_mem hr)).1, (hsR r (liveR_mem hr)).2.1⟩)
            have Hdead := Lib.hid (show ∀ r ∈ deadR R R, r.Fits ∧ r.Data.length ≤ 2000 from fun r hr => ⟨(hsR r (deadR_mem hr)).1, (hsR r (deadR_mem hr)).2.1⟩)
            have HliveF := Lib.hid (show ∀ r ∈ liveR R R, r.Fits from fun r hr => (hsR r (liveR_mem hr)).1)
            have HdeadF := Lib.hid (show ∀ r ∈ deadR R R, r.Fits from fun r hr => (hsR r (deadR_mem hr)).1)
            have Hlen := Lib.hid HS.mine.len
            have Hsmall := Lib.hid HS.mine.small
            have Hfo := Lib.hid (show ∀ y ∈ os, y.1.Fits from fun y hy => (HS.mine.small y hy).1)
            have Hwo := Lib.hid (show ∀ y ∈ os, sagaWf y.1 from fun y hy => (HS.mine.small y hy).2.2)
            have HB := HS.below
            have o9 := HS.mine.row
            have Q9 := HS.mine.dat
            have o10 := HS.o10
            have o11 := HS.o11
            have G10 := HS.said.rows
            have Q10 := HS.said.data
            have G11 := HS.want.rows
            have Q11 := HS.want.data
            have do11o10 := own_sym HS.d1011
            have HSS := Lib.hid HS
            have hcc9 : n ≤ c9 := by have := own_room o9; omega
            clear HS hR hna hnd hRn hsR
            have k1 : True := trivial
            have k2 : True := trivial
            have k3 : True := trivial
            have k4 : True := trivial
            go_upto_if 124 with (first
              | (go_at_call 12; clear k1; (with_reducible refine (cloneAll_n os n Hlen.out A9 c9 (by omega) Hfo.out _ (Mn.mk Hlen.out o9 Q9 Hsmall.out).rr).mono ?_); rintro e W1 ⟨A13, c13, os13, rfl, h13, o13, Q13, hb⟩; have hgr := grown_of_below hb; have do9o13 := own_apart o9 o13 (Nat.le_refl _); have do10o13 := own_apart o10 o13 (Nat.le_refl _); have do11o13 := own_apart o11 o13 (Nat.le_refl _); have dG10o13 := G10.apart_new o13 (Nat.le_refl _); have dG11o13 := G11.apart_new o13 (Nat.le_refl _); replace o13 := own_mono o13 HB.size; have dQ9Q13 := Q9.aparts_new Q13 (Nat.le_refl _); have dQ10Q13 := Q10.aparts_new Q13 (Nat.le_refl _); have dQ11Q13 := Q11.aparts_new Q13 (Nat.le_refl _); replace Q13 := Q13.mono HB.size; replace Q11 := Q11.kept hgr (by simp); replace G11 := G11.kept hgr (by simp); replace Q10 := Q10.kept hgr (by simp); replace G10 := G10.kept hgr (by simp); replace Q9 := Q9.kept hgr (by simp); replace o9 := o9.kept hgr (by cases Value.ownBlock _ <;> simp); replace o10 := o10.kept hgr (by cases Value.ownBlock _ <;> simp); replace o11 := o11.kept hgr (by cases Value.ownBlock _ <;> simp); replace HB := HB.grown hgr (by have := HB.size; omega) (by simp); clear hb hgr)
              | (go_at_call 5; (with_reducible refine (split_calls os n Hlen.out A9 c9 (by omega) Hfo.out Hwo.out R HR.out na nd Hna.out Hnd.out _ (Mn.mk Hlen.out o9 Q9 Hsmall.out).rr).mono ?_); rintro e W2 ⟨A14, c14, A15, c15, os14, os15, rfl, h1415, o14, o15, Q14, Q15, d1415, hb⟩; have hgr := grown_of_below hb; have do9o14 := own_apart o9 o14 (Nat.le_refl _); have do10o14 := own_apart o10 o14 (Nat.le_refl _); have do11o14 := own_apart o11 o14 (Nat.le_refl _); have do13o14 := own_apart o13 o14 (Nat.le_refl _); have dG10o14 := G10.apart_new o14 (Nat.le_refl _); have dG11o14 := G11.apart_new o14 (Nat.le_refl _); replace o14 := own_mono o14 HB.size; have do9o15 := own_apart o9 o15 (Nat.le_refl _); have do10o15 := own_apart o10 o15 (Nat.le_refl _); have do11o15 := own_apart o11 o15 (Nat.le_refl _); have do13o15 := own_apart o13 o15 (Nat.le_refl _); have dG10o15 := G10.apart_new o15 (Nat.le_refl _); have dG11o15 := G11.apart_new o15 (Nat.le_refl _); replace o15 := own_mono o15 HB.size; have dQ9Q14 := Q9.aparts_new Q14 (Nat.le_refl _); have dQ10Q14 := Q10.aparts_new Q14 (Nat.le_refl _); have dQ11Q14 := Q11.aparts_new Q14 (Nat.le_refl _); have dQ13Q14 := Q13.aparts_new Q14 (Nat.le_refl _); replace Q14 := Q14.mono HB.size; have dQ9Q15 := Q9.aparts_new Q15 (Nat.le_refl _); have dQ10Q15 := Q10.aparts_new Q15 (Nat.le_refl _); have dQ11Q15 := Q11.aparts_new Q15 (Nat.le_refl _); have dQ13Q15 := Q13.aparts_new Q15 (Nat.le_refl _); replace Q15 := Q15.mono HB.size; replace Q13 := Q13.kept hgr (by simp); replace Q11 := Q11.kept hgr (by simp); replace G11 := G11.kept hgr (by simp); replace Q10 := Q10.kept hgr (by simp); replace G10 := G10.kept hgr (by simp); replace Q9 := Q9.kept hgr (by simp); replace o9 := o9.kept hgr (by cases Value.ownBlock _ <;> simp); replace o10 := o10.kept hgr (by cases Value.ownBlock _ <;> simp); replace o11 := o11.kept hgr (by cases Value.ownBlock _ <;> simp); replace o13 := o13.kept hgr (by cases Value.ownBlock _ <;> simp); replace HB := HB.grown hgr (by have := HB.size; omega) (by simp); clear hb hgr)
              | (go_at_call 7; (with_reducible refine (refSplit_calls os13 n (len_R h13.out Hlen.out) A13 c13 (by omega) (map_fits h13.out Hfo.out) R (h13.out.trans HR.out) na nd Hna.out Hnd.out _ (RR.of_own o13 (len_R h13.out Hlen.out) Q13.recs)).mono ?_); rintro e W3 ⟨A16, c16, A17, c17, os16, os17, rfl, h1617, o16, o17, Q16, Q17, d1617, hb⟩; have hgr := grown_of_below hb; have do9o16 := own_apart o9 o16 (Nat.le_refl _); have do10o16 := own_apart o10 o16 (Nat.le_refl _); have do11o16 := own_apart o11 o16 (Nat.le_refl _); have do13o16 := own_apart o13 o16 (Nat.le_refl _); have do14o16 := own_apart o14 o16 (Nat.le_refl _); have do15o16 := own_apart o15 o16 (Nat.le_refl _); have dG10o16 := G10.apart_new o16 (Nat.le_refl _); have dG11o16 := G11.apart_new o16 (Nat.le_refl _); replace o16 := own_mono o16 HB.size; have do9o17 := own_apart o9 o17 (Nat.le_refl _); have do10o17 := own_apart o10 o17 (Nat.le_refl _); have do11o17 := own_apart o11 o17 (Nat.le_refl _); have do13o17 := own_apart o13 o17 (Nat.le_refl _); have do14o17 := own_apart o14 o17 (Nat.le_refl _); have do15o17 := own_apart o15 o17 (Nat.le_refl _); have dG10o17 := G10.apart_new o17 (Nat.le_refl _); have dG11o17 := G11.apart_new o17 (Nat.le_refl _); replace o17 := own_mono o17 HB.size; have dQ9Q16 := Q9.aparts_new Q16 (Nat.le_refl _); have dQ10Q16 := Q10.aparts_new Q16 (Nat.le_refl _); have dQ11Q16 := Q11.aparts_new Q16 (Nat.le_refl _); have dQ13Q16 := Q13.aparts_new Q16 (Nat.le_refl _); have dQ14Q16 := Q14.aparts_new Q16 (Nat.le_refl _); have dQ15Q16 := Q15.aparts_new Q16 (Nat.le_refl _); replace Q16 := Q16.mono HB.size; have dQ9Q17 := Q9.aparts_new Q17 (Nat.le_refl _); have dQ10Q17 := Q10.aparts_new Q17 (Nat.le_refl _); have dQ11Q17 := Q11.aparts_new Q17 (Nat.le_refl _); have dQ13Q17 := Q13.aparts_new Q17 (Nat.le_refl _); have dQ14Q17 := Q14.aparts_new Q17 (Nat.le_refl _); have dQ15Q17 := Q15.aparts_new Q17 (Nat.le_refl _); replace Q17 := Q17.mono HB.size; replace Q15 := Q15.kept hgr (by simp); replace Q14 := Q14.kept hgr (by simp); replace Q13 := Q13.kept hgr (by simp); replace Q11 := Q11.kept hgr (by simp); replace G11 := G11.kept hgr (by simp); replace Q10 := Q10.kept hgr (by simp); replace G10 := G10.kept hgr (by simp); replace Q9 := Q9.kept hgr (by simp); replace o9 := o9.kept hgr (by cases Value.ownBlock _ <;> simp); replace o10 := o10.kept hgr (by cases Value.ownBlock _ <;> simp); replace o11 := o11.kept hgr (by cases Value.ownBlock _ <;> simp); replace o13 := o13.kept hgr (by cases Value.ownBlock _ <;> simp); replace o14 := o14.kept hgr (by cases Value.ownBlock _ <;> simp); replace o15 := o15.kept hgr (by cases Value.ownBlock _ <;> simp); replace HB := HB.grown hgr (by have := HB.size; omega) (by simp); clear hb hgr)
              | (go_at_call 8; clear k2; (with_reducible refine (refSameAll_n os14 os16 na (len_map h1415.out.1 Hna.out) A14 A16 c14 c16 (h1415.out.1.trans h1617.out.1.symm) (by omega) (fits_map h1415.out.1 HliveF.out) _ (RR.of_own o14 (len_map h1415.out.1 Hna.out) Q14.recs) (RR.of_own o16 (len_map h1617.out.1 Hna.out) Q16.recs)).mono ?_); rintro e W4 ⟨rfl, hb⟩; have hgr := grown_of_below hb; replace Q17 := Q17.kept hgr (by simp); replace Q16 := Q16.kept hgr (by simp); replace Q15 := Q15.kept hgr (by simp); replace Q14 := Q14.kept hgr (by simp); replace Q13 := Q13.kept hgr (by simp); replace Q11 := Q11.kept hgr (by simp); replace G11 := G11.kept hgr (by simp); replace Q10 := Q10.kept hgr (by simp); replace G10 := G10.kept hgr (by simp); replace Q9 := Q9.kept hgr (by simp); replace o9 := o9.kept hgr (by cases Value.ownBlock _ <;> simp); replace o10 := o10.kept hgr (by cases Value.ownBlock _ <;> simp); replace o11 := o11.kept hgr (by cases Value.ownBlock _ <;> simp); replace o13 := o13.kept hgr (by cases Value.ownBlock _ <;> simp); replace o14 := o14.kept hgr (by cases Value.ownBlock _ <;> simp); replace o15 := o15.kept hgr (by cases Value.ownBlock _ <;> simp); replace o16 := o16.kept hgr (by cases Value.ownBlock _ <;> simp); replace o17 := o17.kept hgr (by cases Value.ownBlock _ <;> simp); replace HB := HB.grown hgr (by have := HB.size; omega) (by simp); clear hb hgr)
              | (go_at_call 8; clear k3; (with_reducible refine (refSameAll_n os15 os17 nd (len_map h1415.out.2 Hnd.out) A15 A17 c15 c17 (h1415.out.2.trans h1617.out.2.symm) (by omega) (fits_map h1415.out.2 HdeadF.out) _ (RR.of_own o15 (len_map h1415.out.2 Hnd.out) Q15.recs) (RR.of_own o17 (len_map h1617.out.2 Hnd.out) Q17.recs)).mono ?_); rintro e W5 ⟨rfl, hb⟩; have hgr := grown_of_below hb; replace Q17 := Q17.kept hgr (by simp); replace Q16 := Q16.kept hgr (by simp); replace Q15 := Q15.kept hgr (by simp); replace Q14 := Q14.kept hgr (by simp); replace Q13 := Q13.kept hgr (by simp); replace Q11 := Q11.kept hgr (by simp); replace G11 := G11.kept hgr (by simp); replace Q10 := Q10.kept hgr (by simp); replace G10 := G10.kept hgr (by simp); replace Q9 := Q9.kept hgr (by simp); replace o9 := o9.kept hgr (by cases Value.ownBlock _ <;> simp); replace o10 := o10.kept hgr (by cases Value.ownBlock _ <;> simp); replace o11 := o11.kept hgr (by cases Value.ownBlock _ <;> simp); replace o13 := o13.kept hgr (by cases Value.ownBlock _ <;> simp); replace o14 := o14.kept hgr (by cases Value.ownBlock _ <;> simp); replace o15 := o15.kept hgr (by cases Value.ownBlock _ <;> simp); replace o16 := o16.kept hgr (by cases Value.ownBlock _ <;> simp); replace o17 := o17.kept hgr (by cases Value.ownBlock _ <;> simp); replace HB := HB.grown hgr (by have := HB.size; omega) (by simp); clear hb hgr)
              | (go_at_call 8; (with_reducible refine (refSameAll_n os os13 n Hlen.out A9 A13 c9 c13 h13.out.symm (by omega) Hfo.out _ (Mn.mk Hlen.out o9 Q9 Hsmall.out).rr (RR.of_own o13 (len_R h13.out Hlen.out) Q13.recs)).mono ?_); rintro e W6 ⟨rfl, hb⟩; have hgr := grown_of_below hb; replace Q17 := Q17.kept hgr (by simp); replace Q16 := Q16.kept hgr (by simp); replace Q15 := Q15.kept hgr (by simp); replace Q14 := Q14.kept hgr (by simp); replace Q13 := Q13.kept hgr (by simp); replace Q11 := Q11.kept hgr (by simp); replace G11 := G11.kept hgr (by simp); replace Q10 := Q10.kept hgr (by simp); replace G10 := G10.kept hgr (by simp); replace Q9 := Q9.kept hgr (by simp); replace o9 := o9.kept hgr (by cases Value.ownBlock _ <;> simp); replace o10 := o10.kept hgr (by cases Value.ownBlock _ <;> simp); replace o11 := o11.kept hgr (by cases Value.ownBlock _ <;> simp); replace o13 := o13.kept hgr (by cases Value.ownBlock _ <;> simp); replace o14 := o14.kept hgr (by cases Value.ownBlock _ <;> simp); replace o15 := o15.kept hgr (by cases Value.ownBlock _ <;> simp); replace o16 := o16.kept hgr (by cases Value.ownBlock _ <;> simp); replace o17 := o17.kept hgr (by cases Value.ownBlock _ <;> simp); replace HB := HB.grown hgr (by have := HB.size; omega) (by simp); clear hb hgr)
              | ((with_reducible refine gate_dst (N := 112) rfl ?_); refine ev_lit rfl rfl (#[.slice A14 na c14, .slice A15 nd c15]) 22 2 (by first | (go_simp; done) | (go_simp; rfl)) ?_; intro g5 W7 hg5 hsz hbn; have hgr := grown_of_below hbn; have zg5 : w.heap.size ≤ g5 := (by have := HB.size; omega); replace Q17 := Q17.kept hgr (by simp); replace Q16 := Q16.kept hgr (by simp); replace Q15 := Q15.kept hgr (by simp); replace Q14 := Q14.kept hgr (by simp); replace Q13 := Q13.kept hgr (by simp); replace Q11 := Q11.kept hgr (by simp); replace G11 := G11.kept hgr (by simp); replace Q10 := Q10.kept hgr (by simp); replace G10 := G10.kept hgr (by simp); replace Q9 := Q9.kept hgr (by simp); replace o9 := o9.kept hgr (by cases Value.ownBlock _ <;> simp); replace o10 := o10.kept hgr (by cases Value.ownBlock _ <;> simp); replace o11 := o11.kept hgr (by cases Value.ownBlock _ <;> simp); replace o13 := o13.kept hgr (by cases Value.ownBlock _ <;> simp); replace o14 := o14.kept hgr (by cases Value.ownBlock _ <;> simp); replace o15 := o15.kept hgr (by cases Value.ownBlock _ <;> simp); replace o16 := o16.kept hgr (by cases Value.ownBlock _ <;> simp); replace o17 := o17.kept hgr (by cases Value.ownBlock _ <;> simp); replace HB := HB.grown hgr (by have := HB.size; omega) (by simp); have hcg5 := hg5.cell; have hfg5 := hg5.frozen; clear hsz hbn hgr)
              | ((with_reducible refine gate_dst (N := 113) rfl ?_); refine ev_append rfl rfl Try.underlying34 info_rss rfl (by omega) rfl o10 rfl (hg5.reads (size := 1) (n := 2) rfl) (fun u hu => by simp at hu; rcases hu with rfl | rfl <;> rfl) (by omega) (by omega) (by have := HB.size; omega) ?_; intro A20 c20 W8 on hgr hat; have eo11o10 := own_apart_app o11 do11o10 hat; replace Q17 := Q17.kept hgr (OBs.ne_own Q17 o10 (by decide)); replace Q16 := Q16.kept hgr (OBs.ne_own Q16 o10 (by decide)); replace Q15 := Q15.kept hgr (OBs.ne_own Q15 o10 (by decide)); replace Q14 := Q14.kept hgr (OBs.ne_own Q14 o10 (by decide)); replace Q13 := Q13.kept hgr (OBs.ne_own Q13 o10 (by decide)); replace Q11 := Q11.kept hgr (OBs.ne_own Q11 o10 (by decide)); replace G11 := G11.kept hgr (OGs.ne_own G11 o10 (by decide)); replace Q10 := Q10.kept hgr (OBs.ne_own Q10 o10 (by decide)); replace G10 := G10.kept hgr (OGs.ne_own G10 o10 (by decide)); replace Q9 := Q9.kept hgr (OBs.ne_own Q9 o10 (by decide)); replace o9 := o9.kept hgr (by first | assumption | exact own_ty_ne o9 o10 (by decide) | exact own_sym (by assumption)); replace o11 := o11.kept hgr (do11o10); replace o13 := o13.kept hgr (by first | assumption | exact own_ty_ne o13 o10 (by decide) | exact own_sym (by assumption)); replace o14 := o14.kept hgr (by first | assumption | exact own_ty_ne o14 o10 (by decide) | exact own_sym (by assumption)); replace o15 := o15.kept hgr (by first | assumption | exact own_ty_ne o15 o10 (by decide) | exact own_sym (by assumption)); replace o16 := o16.kept hgr (by first | assumption | exact own_ty_ne o16 o10 (by decide) | exact own_sym (by assumption)); replace o17 := o17.kept hgr (by first | assumption | exact own_ty_ne o17 o10 (by decide) | exact own_sym (by assumption)); replace HB := HB.grown hgr (by have := HB.size; omega) (own_base o10); replace do11o10 := eo11o10; clear eo11o10; replace o10 := on; clear on hgr hat; have do10o11 := own_sym do11o10)
              | (go_at_call 12; clear k4; (with_reducible refine (cloneAll_n os16 na (len_map h1617.out.1 Hna.out) A16 c16 (by omega) (fits_map h1617.out.1 HliveF.out) _ (RR.of_own o16 (len_map h1617.out.1 Hna.out) Q16.recs)).mono ?_); rintro e W9 ⟨A18, c18, os18, rfl, h18, o18, Q18, hb⟩; have hgr := grown_of_below hb; have do9o18 := own_apart o9 o18 (Nat.le_refl _); have do10o18 := own_apart o10 o18 (Nat.le_refl _); have do11o18 := own_apart o11 o18 (Nat.le_refl _); have do13o18 := own_apart o13 o18 (Nat.le_refl _); have do14o18 := own_apart o14 o18 (Nat.le_refl _); have do15o18 := own_apart o15 o18 (Nat.le_refl _); have do16o18 := own_apart o16 o18 (Nat.le_refl _); have do17o18 := own_apart o17 o18 (Nat.le_refl _); have dG10o18 := G10.apart_new o18 (Nat.le_refl _); have dG11o18 := G11.apart_new o18 (Nat.le_refl _); replace o18 := own_mono o18 HB.size; have dQ9Q18 := Q9.aparts_new Q18 (Nat.le_refl _); have dQ10Q18 := Q10.aparts_new Q18 (Nat.le_refl _); have dQ11Q18 := Q11.aparts_new Q18 (Nat.le_refl _); have dQ13Q18 := Q13.aparts_new Q18 (Nat.le_refl _); have dQ14Q18 := Q14.aparts_new Q18 (Nat.le_refl _); have dQ15Q18 := Q15.aparts_new Q18 (Nat.le_refl _); have dQ16Q18 := Q16.aparts_new Q18 (Nat.le_refl _); have dQ17Q18 := Q17.aparts_new Q18 (Nat.le_refl _); replace Q18 := Q18.mono HB.size; replace Q17 := Q17.kept hgr (by simp); replace Q16 := Q16.kept hgr (by simp); replace Q15 := Q15.kept hgr (by simp); replace Q14 := Q14.kept hgr (by simp); replace Q13 := Q13.kept hgr (by simp); replace Q11 := Q11.kept hgr (by simp); replace G11 := G11.kept hgr (by simp); replace Q10 := Q10.kept hgr (by simp); replace G10 := G10.kept hgr (by simp); replace Q9 := Q9.kept hgr (by simp); replace o9 := o9.kept hgr (by cases Value.ownBlock _ <;> simp); replace o10 := o10.kept hgr (by cases Value.ownBlock _ <;> simp); replace o11 := o11.kept hgr (by cases Value.ownBlock _ <;> simp); replace o13 := o13.kept hgr (by cases Value.ownBlock _ <;> simp); replace o14 := o14.kept hgr (by cases Value.ownBlock _ <;> simp); replace o15 := o15.kept hgr (by cases Value.ownBlock _ <;> simp); replace o16 := o16.kept hgr (by cases Value.ownBlock _ <;> simp); replace o17 := o17.kept hgr (by cases Value.ownBlock _ <;> simp); replace HB := HB.grown hgr (by have := HB.size; omega) (by simp); clear hb hgr)
              | (go_at_call 12; (with_reducible refine (cloneAll_n os17 nd (len_map h1617.out.2 Hnd.out) A17 c17 (by omega) (fits_map h1617.out.2 HdeadF.out) _ (RR.of_own o17 (len_map h1617.out.2 Hnd.out) Q17.recs)).mono ?_); rintro e W10 ⟨A19, c19, os19, rfl, h19, o19, Q19, hb⟩; have hgr := grown_of_below hb; have do9o19 := own_apart o9 o19 (Nat.le_refl _); have do10o19 := own_apart o10 o19 (Nat.le_refl _); have do11o19 := own_apart o11 o19 (Nat.le_refl _); have do13o19 := own_apart o13 o19 (Nat.le_refl _); have do14o19 := own_apart o14 o19 (Nat.le_refl _); have do15o19 := own_apart o15 o19 (Nat.le_refl _); have do16o19 := own_apart o16 o19 (Nat.le_refl _); have do17o19 := own_apart o17 o19 (Nat.le_refl _); have do18o19 := own_apart o18 o19 (Nat.le_refl _); have dG10o19 := G10.apart_new o19 (Nat.le_refl _); have dG11o19 := G11.apart_new o19 (Nat.le_refl _); replace o19 := own_mono o19 HB.size; have dQ9Q19 := Q9.aparts_new Q19 (Nat.le_refl _); have dQ10Q19 := Q10.aparts_new Q19 (Nat.le_refl _); have dQ11Q19 := Q11.aparts_new Q19 (Nat.le_refl _); have dQ13Q19 := Q13.aparts_new Q19 (Nat.le_refl _); have dQ14Q19 := Q14.aparts_new Q19 (Nat.le_refl _); have dQ15Q19 := Q15.aparts_new Q19 (Nat.le_refl _); have dQ16Q19 := Q16.aparts_new Q19 (Nat.le_refl _); have dQ17Q19 := Q17.aparts_new Q19 (Nat.le_refl _); have dQ18Q19 := Q18.aparts_new Q19 (Nat.le_refl _); replace Q19 := Q19.mono HB.size; replace Q18 := Q18.kept hgr (by simp); replace Q17 := Q17.kept hgr (by simp); replace Q16 := Q16.kept hgr (by simp); replace Q15 := Q15.kept hgr (by simp); replace Q14 := Q14.kept hgr (by simp); replace Q13 := Q13.kept hgr (by simp); replace Q11 := Q11.kept hgr (by simp); replace G11 := G11.kept hgr (by simp); replace Q10 := Q10.kept hgr (by simp); replace G10 := G10.kept hgr (by simp); replace Q9 := Q9.kept hgr (by simp); replace o9 := o9.kept hgr (by cases Value.ownBlock _ <;> simp); replace o10 := o10.kept hgr (by cases Value.ownBlock _ <;> simp); replace o11 := o11.kept hgr (by cases Value.ownBlock _ <;> simp); replace o13 := o13.kept hgr (by cases Value.ownBlock _ <;> simp); replace o14 := o14.kept hgr (by cases Value.ownBlock _ <;> simp); replace o15 := o15.kept hgr (by cases Value.ownBlock _ <;> simp); replace o16 := o16.kept hgr (by cases Value.ownBlock _ <;> simp); replace o17 := o17.kept hgr (by cases Value.ownBlock _ <;> simp); replace o18 := o18.kept hgr (by cases Value.ownBlock _ <;> simp); replace HB := HB.grown hgr (by have := HB.size; omega) (by simp); clear hb hgr)
              | ((with_reducible refine gate_dst (N := 119) rfl ?_); refine ev_lit rfl rfl (#[.slice A18 na c18, .slice A19 nd c19]) 22 2 (by first | (go_simp; done) | (go_simp; rfl)) ?_; intro g6 W11 hg6 hsz hbn; have hgr := grown_of_below hbn; have zg6 : w.heap.size ≤ g6 := (by have := HB.size; omega); replace Q19 := Q19.kept hgr (by simp); replace Q18 := Q18.kept hgr (by simp); replace Q17 := Q17.kept hgr (by simp); replace Q16 := Q16.kept hgr (by simp); replace Q15 := Q15.kept hgr (by simp); replace Q14 := Q14.kept hgr (by simp); replace Q13 := Q13.kept hgr (by simp); replace Q11 := Q11.kept hgr (by simp); replace G11 := G11.kept hgr (by simp); replace Q10 := Q10.kept hgr (by simp); replace G10 := G10.kept hgr (by simp); replace Q9 := Q9.kept hgr (by simp); replace o9 := o9.kept hgr (by cases Value.ownBlock _ <;> simp); replace o10 := o10.kept hgr (by cases Value.ownBlock _ <;> simp); replace o11 := o11.kept hgr (by cases Value.ownBlock _ <;> simp); replace o13 := o13.kept hgr (by cases Value.ownBlock _ <;> simp); replace o14 := o14.kept hgr (by cases Value.ownBlock _ <;> simp); replace o15 := o15.kept hgr (by cases Value.ownBlock _ <;> simp); replace o16 := o16.kept hgr (by cases Value.ownBlock _ <;> simp); replace o17 := o17.kept hgr (by cases Value.ownBlock _ <;> simp); replace o18 := o18.kept hgr (by cases Value.ownBlock _ <;> simp); replace o19 := o19.kept hgr (by cases Value.ownBlock _ <;> simp); replace HB := HB.grown hgr (by have := HB.size; omega) (by simp); have hcg6 := hg6.cell; have hfg6 := hg6.frozen; clear hsz hbn hgr)
              | ((with_reducible refine gate_dst (N := 120) rfl ?_); refine ev_append rfl rfl Try.underlying34 info_rss rfl (by omega) rfl o11 rfl (hg6.reads (size := 1) (n := 2) rfl) (fun u hu => by simp at hu; rcases hu with rfl | rfl <;> rfl) (by omega) (by omega) (by have := HB.size; omega) ?_; intro A21 c21 W12 on hgr hat; have eo10o11 := own_apart_app o10 do10o11 hat; replace Q19 := Q19.kept hgr (OBs.ne_own Q19 o11 (by decide)); replace Q18 := Q18.kept hgr (OBs.ne_own Q18 o11 (by decide)); replace Q17 := Q17.kept hgr (OBs.ne_own Q17 o11 (by decide)); replace Q16 := Q16.kept hgr (OBs.ne_own Q16 o11 (by decide)); replace Q15 := Q15.kept hgr (OBs.ne_own Q15 o11 (by decide)); replace Q14 := Q14.kept hgr (OBs.ne_own Q14 o11 (by decide)); replace Q13 := Q13.kept hgr (OBs.ne_own Q13 o11 (by decide)); replace Q11 := Q11.kept hgr (OBs.ne_own Q11 o11 (by decide)); replace G11 := G11.kept hgr (OGs.ne_own G11 o11 (by decide)); replace Q10 := Q10.kept hgr (OBs.ne_own Q10 o11 (by decide)); replace G10 := G10.kept hgr (OGs.ne_own G10 o11 (by decide)); replace Q9 := Q9.kept hgr (OBs.ne_own Q9 o11 (by decide)); replace o9 := o9.kept hgr (by first | assumption | exact own_ty_ne o9 o11 (by decide) | exact own_sym (by assumption)); replace o10 := o10.kept hgr (do10o11); replace o13 := o13.kept hgr (by first | assumption | exact own_ty_ne o13 o11 (by decide) | exact own_sym (by assumption)); replace o14 := o14.kept hgr (by first | assumption | exact own_ty_ne o14 o11 (by decide) | exact own_sym (by assumption)); replace o15 := o15.kept hgr (by first | assumption | exact own_ty_ne o15 o11 (by decide) | exact own_sym (by assumption)); replace o16 := o16.kept hgr (by first | assumption | exact own_ty_ne o16 o11 (by decide) | exact own_sym (by assumption)); replace o17 := o17.kept hgr (by first | assumption | exact own_ty_ne o17 o11 (by decide) | exact own_sym (by assumption)); replace o18 := o18.kept hgr (by first | assumption | exact own_ty_ne o18 o11 (by decide) | exact own_sym (by assumption)); replace o19 := o19.kept hgr (by first | assumption | exact own_ty_ne o19 o11 (by decide) | exact own_sym (by assumption)); replace HB := HB.grown hgr (by have := HB.size; omega) (own_base o11); replace do10o11 := eo10o11; clear eo10o11; replace o11 := on; clear on hgr hat))
            have hl14 := len_map h1415.out.1 Hna.out
            have hl15 := len_map h1415.out.2 Hnd.out
            have hl18 := (map_len h18.out).trans (len_map h1617.out.1 Hna.out)
            have hl19 := (map_len h19.out).trans (len_map h1617.out.2 Hnd.out)
            obtain ⟨L2, M2, HS1⟩ : ∃ (L2 M2 : List LR), Aside (Ln w W12 n A9 c9 os (i + 1) (A20, c20) (A21, c21) L2 M2) := ⟨_, _, HSS.out.turn (z1 := (os14, A14, c14)) (z2 := (os15, A15, c15)) (u1 := (os18, A18, c18)) (u2 := (os19, A19, c19)) HB ⟨Hlen.out, o9, Q9, Hsmall.out⟩
              (by simpa [gl, gaCells, GA.val, hl14, hl15] using o10) (by simpa [gl, gaCells, GA.val, hl18, hl19] using o11) do10o11
              ((LS.mk G10 Q10).snoc2 hl14 o14 Q14 dG10o14 dQ10Q14 hl15 o15 Q15 dG10o15 dQ10Q15 (apart_of_own d1415.out.1) d1415.out.2) ((LS.mk G11 Q11).snoc2 hl18 o18 Q18 dG11o18 dQ11Q18 hl19 o19 Q19 dG11o19 dQ11Q19 (apart_of_own do18o19) dQ18Q19)
              (apart_of_own do9o14).symm (apart_of_own do9o15).symm (apart_of_own do9o18).symm (apart_of_own do9o19).symm dQ9Q14.symm dQ9Q15.symm dQ9Q18.symm dQ9Q19.symm
              (h1415.out.1.trans (h18.out.trans h1617.out.1).symm) (h1415.out.2.trans (h19.out.trans h1617.out.2).symm) ⟨by simp only; omega, fits_map (p := fun r => r.Fits ∧ r.Data.length ≤ 2000) h1415.out.1 Hlive.out⟩ ⟨by simp only; omega, fits_map (p := fun r => r.Fits ∧ r.Data.length ≤ 2000) h1415.out.2 Hdead.out⟩⟩
            clear HB o9 o10 o11 o13 o14 o15 o16 o17 o18 o19 Q9 Q10 Q11 Q13 Q14 Q15 Q16 Q17 Q18 Q19 G10 G11 HSS h13 h18 h19 h1415 h1617 hl14 hl15 hl18 hl19
            go_cut [] from 121 to 132 (fun wc => Aside (∃ os2, Ln w wc n A9 c9 os2 (i + 1) (A20, c20) (A21, c21) L2 M2))
            case first =>
              by_cases hk : i < nt
              · have q1 : decide ((i : Int) < (nt : Int)) = true := by rw [decide_eq_true_eq]; omega
                have q1' : decide (i < nt) = true := by rw [decide_eq_true_eq]; exact hk
                obtain ⟨t, htt⟩ : ∃ t, ts[i]? = some t := ⟨_, List.getElem?_eq_getElem (by rw [Hnt.out]; exact hk)⟩
                obtain ⟨ad, had, _, _⟩ := Hts.out.2 (by rw [Hnt.out]; omega)
                have Hld := Lib.hid (fun (W' : World) (hb : Below w.heap.size w W') => (Hts.out.next hb).load htt had)
                have Htb := Lib.hid (Htw.out t (List.mem_of_getElem? htt))
                subst had
                clear htt
                go_wp2
                refine held_start (fun w' => Below w.heap.size w w') (by kernel_rfl) (fun wd hbd => ?_)
                have A1 := HS1.out.next hbd
                have HB := A1.below
                clear hbd
                refine take_at (i := 0) (v := .slice A9 (n + 2) c9) 125 rfl rfl (by kernel_rfl) (by kernel_rfl) (by kernel_rfl) (fun _ _ _ h => h) (.inl ⟨rfl, fun w h => by simp [go_sem]⟩) HB ?_
                simp only [Act.put, List.getElem_toArray, List.getElem_cons_succ, List.getElem_cons_zero, List.setIfInBounds_toArray, List.set_cons_succ, List.set_cons_zero]
                refine take_at (i := 1) (v := .int .i64 n) 126 rfl rfl (by kernel_rfl) (by kernel_rfl) (by kernel_rfl) (fun _ _ _ h => h) (.inl ⟨rfl, fun w h => by simp [go_sem]⟩) HB ?_
                simp only [Act.put, List.getElem_toArray, List.getElem_cons_succ, List.getElem_cons_zero, List.setIfInBounds_toArray, List.set_cons_succ, List.set_cons_zero]
                refine take_at (i := 2) (v := .slice A9 n c9) 127 rfl rfl (by kernel_rfl) (by kernel_rfl) (by kernel_rfl) (fun _ _ _ h => h) (.inl ⟨rfl, fun w h => by simp [go_sem, hcc9]⟩) HB ?_
                simp only [Act.put, List.getElem_toArray, List.getElem_cons_succ, List.getElem_cons_zero, List.setIfInBounds_toArray, List.set_cons_succ, List.set_cons_zero]
                refine take_at (i := 3) (v := .slice (some ad) nt ct) 128 rfl rfl (by kernel_rfl) (by kernel_rfl) (by kernel_rfl) (fun _ _ _ h => h) (.inl ⟨rfl, fun w h => by simp [go_sem]⟩) HB ?_
                simp only [Act.put, List.getElem_toArray, List.getElem_cons_succ, List.getElem_cons_zero, List.setIfInBounds_toArray, List.set_cons_succ, List.set_cons_zero]
                refine take_at (i := 4) (v := .int .i64 i) 129 rfl rfl (by kernel_rfl) (by kernel_rfl) (by kernel_rfl) (fun _ _ _ h => h) (.inl ⟨rfl, fun w h => by simp [go_sem]⟩) HB ?_
                simp only [Act.put, List.getElem_toArray, List.getElem_cons_succ, List.getElem_cons_zero, List.setIfInBounds_toArray, List.set_cons_succ, List.set_cons_zero]
                refine take_at (i := 5) (v := .pointer (some (ad.add (i * 3)))) 130 rfl rfl (by kernel_rfl) (by kernel_rfl) (by kernel_rfl) (fun _ _ _ h => h) (.inl ⟨rfl, fun w h => by simp [go_sem, hk]⟩) HB ?_
                simp only [Act.put, List.getElem_toArray, List.getElem_cons_succ, List.getElem_cons_zero, List.setIfInBounds_toArray, List.set_cons_succ, List.set_cons_zero]
                refine take_at (i := 6) (v := .agg (t.cells)) 131 rfl rfl (by kernel_rfl) (by kernel_rfl) (by kernel_rfl) (fun _ _ _ h => h) (yields_at rfl rfl rfl (fun w h => Hld.out w h) Try.underlying45 rfl trn_size) HB ?_
                simp only [Act.put, List.getElem_toArray, List.getElem_cons_succ, List.getElem_cons_zero, List.setIfInBounds_toArray, List.set_cons_succ, List.set_cons_zero]
                refine held_one (i := 7) (by kernel_rfl) rfl ?_
                (refine ev_call2 rfl rfl ⟨_, _, Try.func13, by kernel_rfl, rfl⟩ rfl rfl ?_; refine Calls.mono (turned_calls t Htb.out _ n A9 c9 w.heap.size hn100 _ A1.mine) ?_; rintro e W1 ⟨rfl, HE⟩; refine ⟨_, rfl, ?_⟩; obtain ⟨os2, hM2, he2, hL2⟩ := HE.out; have A2 := A1.turned hM2 he2 hL2; replace HB := A2.below)
                refine ⟨HB, ?_⟩
                try simp only [Act.put, List.getElem_toArray, List.getElem_cons_succ, List.getElem_cons_zero, List.setIfInBounds_toArray, List.set_cons_succ, List.set_cons_zero]
                refine wpAnyH_done (by kernel_rfl) ?_ _
                go_wp2
                go_meet
                case rel => exact ⟨os2, A2⟩
              · have q1 : decide ((i : Int) < (nt : Int)) = false := by rw [decide_eq_false_iff_not]; omega
                have q1' : decide (i < nt) = false := by rw [decide_eq_false_iff_not]; exact hk
                go_wp2
                go_meet
                case rel => exact ⟨os, HS1.out⟩
            case rest =>
              obtain ⟨os2, HS2⟩ := hcut.out
              have HS3 := Lib.hid HS2
              clear hcut HS1 HS2
              go_wp2
              go_loopg [18] (2 * i + 2) (fun m v18 wr => ∃ k : Nat, m + k = 2 * i + 2 ∧ v18 = .int .i64 k ∧ Aside (Ln w wr n A9 c9 os2 (i + 1) (A20, c20) (A21, c21) L2 M2))
              case atStart => exact ⟨0, by omega, rfl, HS3.out⟩
              case round =>
                clear HS3
                obtain ⟨k, hm2, rfl, HA⟩ := hrel
                have HS := HA.out
                clear HA
                by_cases hk : k < 2 * i + 2
                · have q1 : decide ((k : Int) < 2 * (i : Int) + 2) = true := by rw [decide_eq_true_eq]; omega
                  have q1' : decide (k < 2 * i + 2) = true := by rw [decide_eq_true_eq]; exact hk
                  have hkn : ¬ (2 * (i : Int) + 2 ≤ (k : Int)) := by omega
                  obtain ⟨z, hz⟩ : ∃ z, L2[k]? = some z := ⟨_, List.getElem?_eq_getElem (by rw [HS.len]; omega)⟩
                  obtain ⟨u, hu⟩ : ∃ u, M2[k]? = some u := ⟨_, List.getElem?_eq_getElem (by rw [HS.lenM]; omega)⟩
                  have hzu : z.1.map (fun x => x.1) = u.1.map (fun x => x.1) := by
                    have h := congrArg (fun z => z[k]?) HS.same
                    simp only [List.getElem?_map, hz, hu, Option.map_some, Option.some.injEq] at h
                    exact h
                  have hzs := HS.small z (List.mem_of_getElem? hz)
                  obtain ⟨zs, Az, cz⟩ := z
                  obtain ⟨us, Au, cu⟩ := u
                  simp only at hzu hzs
                  have huz := (map_len hzu).symm
                  obtain ⟨nz, hnz⟩ : ∃ nz, zs.length = nz := ⟨_, rfl⟩
                  have hnu : us.length = nz := huz.trans hnz
                  obtain ⟨g20, hg20, _⟩ := own_at HS.o10 (by omega)
                  obtain ⟨g21, hg21, _⟩ := own_at HS.o11 (by omega)
                  simp only at hg20 hg21
                  subst hg20
                  subst hg21
                  have hc10 : ∀ W', Below wr.heap.size wr W' → W'.cell? ⟨g20, k, none⟩ = some (.slice Az nz cz) := fun W' hb => by
                    have := own_cellN (own_next HS.o10 hb) k (gaCells_get (gl_get hz))
                    simpa [GA.val, hnz] using this
                  have hc11 : ∀ W', Below wr.heap.size wr W' → W'.cell? ⟨g21, k, none⟩ = some (.slice Au nz cu) := fun W' hb => by
                    have := own_cellN (own_next HS.o11 hb) k (gaCells_get (gl_get hu))
                    simpa [GA.val, hnu] using this
                  have Hc10 := Lib.hid hc10
                  have Hc11 := Lib.hid hc11
                  have Hnz := Lib.hid hnz
                  have Hzu := Lib.hid hzu
                  have Hzf := Lib.hid (show ∀ y ∈ zs, y.1.Fits from fun y hy => (hzs.2 y hy).1)
                  have hnz100 : nz ≤ 100 := by have := hzs.1; omega
                  have Hz := Lib.hid hz
                  have Hu := Lib.hid hu
                  have HSS := Lib.hid HS
                  clear hc10 hc11 hnz hnu huz hzu hzs hz hu HS
                  go_wp2
                  refine held_start (fun w' => Below wr.heap.size wr w') (by kernel_rfl) (fun wd hbd => ?_)
                  have A1 := HSS.out.next hbd
                  have HB := hbd
                  refine take_at (i := 0) (v := .slice (some ⟨g20, 0, none⟩) (2 * i + 2) c20) 139 rfl rfl (by kernel_rfl) (by kernel_rfl) (by kernel_rfl) (fun _ _ _ h => h) (.inl ⟨rfl, fun w h => by simp [go_sem]⟩) HB ?_
                  simp only [Act.put, List.getElem_toArray, List.getElem_cons_succ, List.getElem_cons_zero, List.setIfInBounds_toArray, List.set_cons_succ, List.set_cons_zero]
                  refine take_at (i := 1) (v := .int .i64 k) 140 rfl rfl (by kernel_rfl) (by kernel_rfl) (by kernel_rfl) (fun _ _ _ h => h) (.inl ⟨rfl, fun w h => by simp [go_sem]⟩) HB ?_
                  simp only [Act.put, List.getElem_toArray, List.getElem_cons_succ, List.getElem_cons_zero, List.setIfInBounds_toArray, List.set_cons_succ, List.set_cons_zero]
                  refine take_at (i := 2) (v := .pointer (some ⟨g20, k, none⟩)) 141 rfl rfl (by kernel_rfl) (by kernel_rfl) (by kernel_rfl) (fun _ _ _ h => h) (.inl ⟨rfl, fun w h => by simp [go_sem, hk, hkn]⟩) HB ?_
                  simp only [Act.put, List.getElem_toArray, List.getElem_cons_succ, List.getElem_cons_zero, List.setIfInBounds_toArray, List.set_cons_succ, List.set_cons_zero]
                  refine take_at (i := 3) (v := .slice Az nz cz) 142 rfl rfl (by kernel_rfl) (by kernel_rfl) (by kernel_rfl) (fun _ _ _ h => h) (.inl ⟨rfl, fun w h => by simp [go_sem, Hc10.out w h]⟩) HB ?_
                  simp only [Act.put, List.getElem_toArray, List.getElem_cons_succ, List.getElem_cons_zero, List.setIfInBounds_toArray, List.set_cons_succ, List.set_cons_zero]
                  refine take_at (i := 4) (v := .slice (some ⟨g21, 0, none⟩) (2 * i + 2) c21) 143 rfl rfl (by kernel_rfl) (by kernel_rfl) (by kernel_rfl) (fun _ _ _ h => h) (.inl ⟨rfl, fun w h => by simp [go_sem]⟩) HB ?_
                  simp only [Act.put, List.getElem_toArray, List.getElem_cons_succ, List.getElem_cons_zero, List.setIfInBounds_toArray, List.set_cons_succ, List.set_cons_zero]
                  refine take_at (i := 5) (v := .int .i64 k) 144 rfl rfl (by kernel_rfl) (by kernel_rfl) (by kernel_rfl) (fun _ _ _ h => h) (.inl ⟨rfl, fun w h => by simp [go_sem]⟩) HB ?_
                  simp only [Act.put, List.getElem_toArray, List.getElem_cons_succ, List.getElem_cons_zero, List.setIfInBounds_toArray, List.set_cons_succ, List.set_cons_zero]
                  refine take_at (i := 6) (v := .pointer (some ⟨g21, k, none⟩)) 145 rfl rfl (by kernel_rfl) (by kernel_rfl) (by kernel_rfl) (fun _ _ _ h => h) (.inl ⟨rfl, fun w h => by simp [go_sem, hk, hkn]⟩) HB ?_
                  simp only [Act.put, List.getElem_toArray, List.getElem_cons_succ, List.getElem_cons_zero, List.setIfInBounds_toArray, List.set_cons_succ, List.set_cons_zero]
                  refine take_at (i := 7) (v := .slice Au nz cu) 146 rfl rfl (by kernel_rfl) (by kernel_rfl) (by kernel_rfl) (fun _ _ _ h => h) (.inl ⟨rfl, fun w h => by simp [go_sem, Hc11.out w h]⟩) HB ?_
                  simp only [Act.put, List.getElem_toArray, List.getElem_cons_succ, List.getElem_cons_zero, List.setIfInBounds_toArray, List.set_cons_succ, List.set_cons_zero]
                  refine held_one (i := 8) (by kernel_rfl) rfl ?_
                  (refine ev_call2 rfl rfl ⟨_, _, Try.func8, by kernel_rfl, rfl⟩ rfl rfl ?_; refine Calls.mono (refSameAll_n zs us nz Hnz.out Az Au cz cu Hzu.out (by omega) Hzf.out _ (A1.said.rr Hz.out) (A1.want.rr Hu.out)) ?_; rintro e W1 ⟨rfl, hb⟩; refine ⟨_, rfl, ?_⟩; have hgr := grown_of_below hb; replace A1 := A1.kept hgr (by simp); replace HB := HB.grown hgr (by have := HB.size; omega) (by simp); clear hb hgr)
                  refine ⟨HB, ?_⟩
                  try simp only [Act.put, List.getElem_toArray, List.getElem_cons_succ, List.getElem_cons_zero, List.setIfInBounds_toArray, List.set_cons_succ, List.set_cons_zero]
                  refine held_one (i := 9) (by kernel_rfl) rfl ?_
                  refine ev_run rfl (w1 := W1) (v := .bool false) (by simp [go_sem]) ?_
                  refine ⟨HB, ?_⟩
                  try simp only [Act.put, List.getElem_toArray, List.getElem_cons_succ, List.getElem_cons_zero, List.setIfInBounds_toArray, List.set_cons_succ, List.set_cons_zero]
                  refine wpAnyH_done (by kernel_rfl) ?_ _
                  go_wp2
                  go_roundg (gk - 1)
                  case measure => omega
                  case rel => exact ⟨k + 1, by omega, by go_num, A1⟩
                · have e3 : k = 2 * i + 2 := by omega
                  have q1 : decide ((k : Int) < 2 * (i : Int) + 2) = false := by rw [decide_eq_false_iff_not]; omega
                  have q1' : decide (k < 2 * i + 2) = false := by rw [decide_eq_false_iff_not]; exact hk
                  have hrow := HS.mine.row
                  obtain ⟨g9, hg9, _⟩ := own_at hrow (by omega)
                  subst hg9
                  have h7 : (os2 ++ tails)[n]? = some (tail7, none, 0) := by rw [List.getElem?_append_right (by rw [HS.mine.len]; omega), HS.mine.len, Nat.sub_self]; rfl
                  have h8 : (os2 ++ tails)[n + 1]? = some (tail8, none, 0) := by rw [List.getElem?_append_right (by rw [HS.mine.len]; omega), HS.mine.len, Nat.add_sub_cancel_left]; rfl
                  have hc70 : wr.cell? ⟨g9, n * 12, none⟩ = some (.int .i64 (-7)) := own_cellN hrow (n * 12 + 0) ((recCells_get h7 0 (by decide)).trans rfl)
                  have hc71 : wr.cell? ⟨g9, n * 12 + 1, none⟩ = some (.int .i64 (-77)) := own_cellN hrow (n * 12 + 1) ((recCells_get h7 1 (by decide)).trans rfl)
                  have hc80 : wr.cell? ⟨g9, (n + 1) * 12, none⟩ = some (.int .i64 (-8)) := own_cellN hrow ((n + 1) * 12 + 0) ((recCells_get h8 0 (by decide)).trans rfl)
                  have hc81 : wr.cell? ⟨g9, (n + 1) * 12 + 1, none⟩ = some (.int .i64 (-78)) := own_cellN hrow ((n + 1) * 12 + 1) ((recCells_get h8 1 (by decide)).trans rfl)
                  have HSS := Lib.hid HS
                  clear hrow h7 h8 HS
                  go_wp2
                  go_roundg (gm - 1)
                  case measure => omega
                  case rel => exact ⟨i + 1, os2, (A20, c20), (A21, c21), L2, M2, by omega, by go_num, rfl, rfl, HSS.out⟩
          · have s1 : decide (i < N) = false := decide_eq_false hlt
            have e4 : i = N := by omega
            subst e4
            have HB := HS.below
            have A1 := HS
            clear HS
            go_wp2_with (first
              | ((with_reducible refine gate_dst (N := 182) rfl ?_); refine ev_box rfl rfl (#[.slice none 0 0, .slice none 0 0, .slice none 0 0, .slice none 0 0, .slice none 0 0, .slice none 0 0]) rfl ?_; intro g19 W1 hg19 hsz hbn; have hgr := grown_of_below hbn; have zg19 : w.heap.size ≤ g19 := (by have := HB.size; omega); replace A1 := A1.kept hgr (by simp); replace HB := HB.grown hgr (by have := HB.size; omega) (by simp); have hcg19 := hg19.cell; have hfg19 := hg19.frozen; clear hsz hbn hgr))
            rename World => Wk
            have HMM := Lib.hid (Mk.start (Pr := PrL w.heap.size (.slice A10 (2 * i) c10) L 0) hg19 HB.size (PrL.not_blk A1.said hg19 zg19 A1.o10))
            have HP := Lib.hid (fun j => PrL.lt (j := j) A1.said HB.size A1.o10)
            have HA1 := Lib.hid A1
            have HB1 := Lib.hid HB
            clear A1 hg19 hcg19 hfg19 HB
            go_loopg [20] (2 * i) (fun m v20 wr => ∃ j : Nat, m + j = 2 * i ∧ v20 = .int .i64 j ∧ Aside (∃ (cnt : Nat) (a0 a1 a2 a3 : AC) (ls : List BA) (rs : List GA) (ss : List Int), cnt ≤ 100 * j ∧ Mk (PrL w.heap.size (.slice A10 (2 * i) c10) L j) w.heap.size wr g19 cnt j 0 0 a0 a1 a2 a3 (none, 0) (none, 0) ls [] rs [] ss ∧ KX (PrL w.heap.size (.slice A10 (2 * i) c10) L j) Wk wr))
            case atStart => exact ⟨0, by omega, rfl, ⟨0, _, _, _, _, _, _, _, by omega, HMM.out, KX.refl (HP.out 0)⟩⟩
            case round =>
              clear HMM
              obtain ⟨j, hm3, rfl, HA⟩ := hrel
              obtain ⟨cnt, a0, a1, a2, a3, ls, rs, ss, hcnt, hM, hK⟩ := HA.out
              clear HA
              by_cases hj : j < 2 * i
              · have q1 : decide ((j : Int) < 2 * (i : Int)) = true := by rw [decide_eq_true_eq]; omega
                have q1' : decide (j < 2 * i) = true := by rw [decide_eq_true_eq]; exact hj
                have hjn : ¬ (2 * (i : Int) ≤ (j : Int)) := by omega
                obtain ⟨z, hz⟩ : ∃ z, L[j]? = some z := ⟨_, List.getElem?_eq_getElem (by rw [HA1.out.len]; omega)⟩
                have hzs := HA1.out.small z (List.mem_of_getElem? hz)
                have hrow := hK.row (HA1.out.said.row hz) (fun k hk => .inr ⟨j, z, Nat.le_refl _, hz, .inl (own_block_some hk)⟩)
                have hdat := hK.obs (HA1.out.said.dat hz) (fun x hx ad e => .inr ⟨j, z, Nat.le_refl _, hz, .inr ⟨x, hx, ad, e, rfl⟩⟩)
                have hnl := PrL.not_lb HA1.out.said (Nat.le_refl _) HA1.out.o10 hz
                have hre := hM.reno (Qr := fun k => PrL w.heap.size (.slice A10 (2 * i) c10) L (j + 1) k ∨ LB z.2.1 z.1 k) (fun k hk => .inl (hk.elim PrL.step (fun h => .inr ⟨j, z, Nat.le_refl _, hz, h⟩)))
                have ho10 := hK.row HA1.out.o10 (fun k hk => .inl (.inr hk))
                obtain ⟨zs, Az, cz⟩ := z
                obtain ⟨nz, hnz⟩ : ∃ nz, zs.length = nz := ⟨_, rfl⟩
                simp only at hzs hrow hdat hnl hre
                rw [hnz] at hrow hzs
                have hput := put_at (PrL w.heap.size (.slice A10 (2 * i) c10) L (j + 1)) (-20 - (j : Int)) hre (fun k hk => Nat.lt_of_lt_of_le (HP.out (j + 1) k hk) hK.size) hnl hnz (by omega) (by omega) (fun y hy => by have := (hzs.2 y hy).2; omega) hrow hdat
                have Hput := Lib.hid hput
                have HK := Lib.hid hK
                obtain ⟨g10, hg10, _⟩ := own_at ho10 (by omega)
                simp only at hg10
                subst hg10
                have hcz := own_cellN ho10 j (gaCells_get (gl_get hz))
                simp only [GA.val, hnz] at hcz
                have hnz100 : nz ≤ 100 := hzs.1
                clear hz hzs hrow hdat hnl hre ho10 hnz hput hM hK
                go_wp2_with (first
                  | (go_at_call 9; (with_reducible refine Hput.out.mono ?_); rintro e W2 ⟨rfl, HE⟩))
                obtain ⟨b0, b1, b2, b3, hM2, hK2⟩ := HE.out
                go_roundg (gk - 1)
                case measure => omega
                case rel => exact ⟨j + 1, by omega, by go_num, ⟨cnt + nz, b0, b1, b2, b3, _, _, _, by omega, hM2, (HK.out.sub (fun k hk => hk.step)).trans hK2⟩⟩
              · have q1 : decide ((j : Int) < 2 * (i : Int)) = false := by rw [decide_eq_false_iff_not]; omega
                have q1' : decide (j < 2 * i) = false := by rw [decide_eq_false_iff_not]; exact hj
                have K1 := hK
                have M1 := hM
                clear hM hK
                go_wp2_with (first
                  | ((with_reducible refine gate_dst (N := 199) rfl ?_); refine ev_lit rfl rfl (endR.cells none 0) 25 1 (by first | (go_simp; done) | (go_simp; rfl)) ?_; intro g5 W1 hg5 hsz hbn; have hgr := grown_of_below hbn; have zg5 : Wk.heap.size ≤ g5 := (by have := K1.size; omega); replace M1 := M1.kept hgr (by simp); replace K1 := K1.grown hgr; have hcg5 := hg5.cell; have hfg5 := hg5.frozen; clear hsz hbn hgr)
                  | (go_at_call 5; (with_reducible refine (split_calls [(endR, none, 0)] 1 rfl _ 1 (by omega) endR_fits1 endR_wf1 [endR] rfl 0 1 endR_live endR_dead _ (RR.one hg5 RB.nil)).mono ?_); rintro e W2 ⟨A4, c4, A5, c5, os4, os5, rfl, h45, o4, o5, Q4, Q5, d45, hb⟩; have hgr := grown_of_below hb; replace M1 := M1.kept hgr (by simp); replace hg5 := hg5.grown hgr (by simp); replace K1 := K1.grown hgr; replace hcg5 := hg5.cell; replace hfg5 := hg5.frozen; clear hb hgr)
                  | (go_at_call 11; (with_reducible refine (hold_at M1 (fun k hk => Nat.lt_of_lt_of_le (HP.out j k hk) K1.size) (by omega) (by omega)).mono ?_); rintro e W9 ⟨rfl, HE⟩; have K2 := K1.trans HE.out.2; clear HE))
                go_ret
                exact ⟨rfl, HB1.out.trans (K2.below (fun k hk => .inl (.inl hk)))⟩
end Go.Proofs.Ytikodgaomhmbmaa
