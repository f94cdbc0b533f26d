/-
  The walk of the law LiftChain.
-/
import Derived.Test.YtjhiohjpkdjkoaaDoorDF
import Derived.Test.YtjhiohjpkdjkoaaDoorG2
set_option linter.unusedVariables false
set_option linter.unusedSimpArgs false
namespace Go.Proofs.YtjhiohjpkdjkoaaDoor
open Go.RowKit
attribute [local go_sem] Rec.size_ Rec.g0 Rec.g1 Rec.g2 Rec.g3 Rec.g4 Rec.g5 Rec.g6 Rec.g7 Rec.g8 Rec.g9 Rec.g10 Rec.g11 Rec.fold Rec.lit_fold Rec.same_self

theorem known_of {v : Int} (h1 : 1 ≤ v) (h3 : v ≤ 3) : known v = true := by unfold known; simp; omega
theorem downE_of {r : Rec} {v : Int} (h : r.chk = 0) (h1 : 1 ≤ v) (h2 : v ≤ r.V) : downE r v = if turnF r v then 0 else 40 := by
  have hv3 := ((chk_ok r).1 h).1
  unfold downE
  rw [if_neg (by rw [h]; simp), known_of h1 (by omega), if_neg (by decide), if_neg (by omega)]
theorem downR_of {r : Rec} {v : Int} (h : r.chk = 0) (h1 : 1 ≤ v) (h2 : v ≤ r.V) : downR r v = if turnF r v then turnR r v else Rec.zero := by
  unfold downR
  rw [downE_of h h1 h2]
  cases turnF r v <;> simp
theorem upE_of {r : Rec} {v : Int} (h : r.chk = 0) (h1 : r.V ≤ v) (h2 : v ≤ 3) : upE r v = 0 ∧ upR r v = turnR r v := by
  have hv3 := ((chk_ok r).1 h).1
  have e : upE r v = 0 := by
    unfold upE
    rw [if_neg (by rw [h]; simp), known_of (by omega) h2, if_neg (by decide), if_neg (by omega)]
  exact ⟨e, by unfold upR; rw [if_pos e]⟩
theorem chain3 {r : Rec} (h : r.chk = 0) (hv : r.V = 3) (hF : turnF r 2 = true) : downE (downR r 2) 1 = downE r 1 ∧ downR (downR r 2) 1 = downR r 1 := by
  have e : downR r 2 = turnR r 2 := by rw [downR_of h (by omega) (by omega), hF]; rfl
  obtain ⟨c1, c2, _⟩ := down_ok h (to := 2) (by omega) (by omega) hF
  obtain ⟨d1, d2⟩ := chain_down h hv hF
  rw [e, downE_of c1 (by omega) (by omega), downE_of h (by omega) (by omega), downR_of c1 (by omega) (by omega), downR_of h (by omega) (by omega), d1]
  refine ⟨rfl, ?_⟩
  cases hf : turnF r 1 with
  | false => rfl
  | true => exact d2 hf

set_option maxHeartbeats 4000000 in
set_option maxRecDepth 100000 in
theorem liftChain_bad (r : Rec) (A : Option Addr) (c : Nat) (hf : r.Fits) (hz : r.Name.size ≤ 1099511627776) (w : World) (hT : Tabs w) (ht : Tab w 2 waysL) (hR : RTabs w) (hd : RB w A r.Data) (hc : r.chk ≠ 0) :
    Calls Tryd.prog 12 #[.agg (r.cells A c)] w fun e w' => e = .returned (.bool true) ∧ Below w.heap.size w w' := by
  have HB := Below.refl w.heap.size w
  have HT := Lib.hid hT
  have Ht := Lib.hid ht
  have HR := Lib.hid hR
  clear hT ht hR
  have t1 := int_beq_false hc
  have t2 := int_bne_true hc
  have cl := fun w => least_calls r A c hf w
  have e1 : leastN r = 0 := if_neg hc
  rw [e1] at cl
  have Cl := Lib.hid cl
  clear hc e1 cl
  go_enter Tryd.func12, Tryd.ntmps12
  go_wp2_with (first
    | ((with_reducible refine gate_dst (N := 1) rfl ?_); refine ev_box rfl rfl (r.cells A c) rfl ?_; intro g1 W1 hg1 hsz hbn; have hgr := grown_of_below hbn; have zg1 : w.heap.size ≤ g1 := (by have := HB.size; omega); replace HB := HB.grown hgr (by have := HB.size; omega) (by simp); have hcg1 := hg1.cell; have hfg1 := hg1.frozen; clear hsz hbn hgr)
    | (go_at_call 48; (with_reducible refine (started_calls _ (HT.out.next HB) (Ht.out.next HB)).mono ?_); rintro e W2 ⟨rfl, hb⟩; have hgr := grown_of_below hb; replace hg1 := hg1.grown hgr (by simp); replace HB := HB.grown hgr (by have := HB.size; omega) (by simp); replace hcg1 := hg1.cell; replace hfg1 := hg1.frozen; clear hb hgr)
    | ((with_reducible refine gate_dst (N := 23) rfl ?_); refine wpList_load_row rfl _ _ rfl g1 rfl _ _ (0, 0) _ hg1 Tryd.underlying35 rfl rec_size ?_)
    | (go_at_call 49; (with_reducible refine (refCheck_calls r A c hz _ (HR.out.next HB) (hd.next HB)).mono ?_); rintro e W3 ⟨rfl, hb⟩; have hgr := grown_of_below hb; replace hg1 := hg1.grown hgr (by simp); replace HB := HB.grown hgr (by have := HB.size; omega) (by simp); replace hcg1 := hg1.cell; replace hfg1 := hg1.frozen; clear hb hgr)
    | ((with_reducible refine gate_dst (N := 27) rfl ?_); refine wpList_load_row rfl _ _ rfl g1 rfl _ _ (0, 0) _ hg1 Tryd.underlying35 rfl rec_size ?_)
    | (go_at_call 59; (with_reducible refine (Cl.out _ (HT.out.next HB) (Ht.out.next HB) (hd.next HB)).mono ?_); rintro e W4 ⟨rfl, hb⟩; have hgr := grown_of_below hb; replace hg1 := hg1.grown hgr (by simp); replace HB := HB.grown hgr (by have := HB.size; omega) (by simp); replace hcg1 := hg1.cell; replace hfg1 := hg1.frozen; clear hb hgr)
    | (go_at_call 33; (with_reducible refine (num_calls _ _).mono ?_); rintro e w1 ⟨rfl, rfl⟩))
  go_ret
  exact ⟨rfl, HB⟩

set_option maxHeartbeats 4000000 in
set_option maxRecDepth 100000 in
theorem liftChain_good (r : Rec) (A : Option Addr) (c : Nat) (hf : r.Fits) (hz : r.Name.size ≤ 1099511627776) (w : World) (hT : Tabs w) (ht : Tab w 2 waysL) (hR : RTabs w) (hd : RB w A r.Data) (hc : r.chk = 0) :
    Calls Tryd.prog 12 #[.agg (r.cells A c)] w fun e w' => e = .returned (.bool true) ∧ Below w.heap.size w w' := by
  have HB := Below.refl w.heap.size w
  have HT := Lib.hid hT
  have Ht := Lib.hid ht
  have HR := Lib.hid hR
  clear hT ht hR
  have hv3 : 1 ≤ r.V ∧ r.V ≤ 3 := ((chk_ok r).1 hc).1
  obtain ⟨l1, l2, l3⟩ := least_ok hc
  have cl := fun w => least_calls r A c hf w
  have e1 : leastN r = leastR r := if_pos hc
  rw [e1, hc] at cl
  have cc := fun w => refCheck_calls r A c hz w
  rw [hc] at cc
  have cd : ∀ v : Int, 1 ≤ v → v ≤ r.V → downE r v = if leastR r ≤ v then 0 else 40 := fun v h1 h2 => by
    rw [downE_of hc h1 h2, l3 v h1 h2]
    by_cases h : leastR r ≤ v <;> simp [h]
  generalize leastR r = n at l1 l2 l3 cl cd
  have Cl := Lib.hid cl
  have Cc := Lib.hid cc
  have Cd := Lib.hid cd
  have Hc := Lib.hid hc
  have H3 := Lib.hid l3
  have t3 : decide (n < 1) = false := by simp; omega
  have t4 : decide (r.V < n) = false := by simp; omega
  clear hc e1 cl cc cd l3
  go_enter Tryd.func12, Tryd.ntmps12
  go_wp2_with (first
    | ((with_reducible refine gate_dst (N := 1) rfl ?_); refine ev_box rfl rfl (r.cells A c) rfl ?_; intro g1 W1 hg1 hsz hbn; have hgr := grown_of_below hbn; have zg1 : w.heap.size ≤ g1 := (by have := HB.size; omega); replace HB := HB.grown hgr (by have := HB.size; omega) (by simp); have hcg1 := hg1.cell; have hfg1 := hg1.frozen; clear hsz hbn hgr)
    | (go_at_call 48; (with_reducible refine (started_calls _ (HT.out.next HB) (Ht.out.next HB)).mono ?_); rintro e W2 ⟨rfl, hb⟩; have hgr := grown_of_below hb; replace hg1 := hg1.grown hgr (by simp); replace HB := HB.grown hgr (by have := HB.size; omega) (by simp); replace hcg1 := hg1.cell; replace hfg1 := hg1.frozen; clear hb hgr)
    | ((with_reducible refine gate_dst (N := 23) rfl ?_); refine wpList_load_row rfl _ _ rfl g1 rfl _ _ (0, 0) _ hg1 Tryd.underlying35 rfl rec_size ?_)
    | (go_at_call 49; (with_reducible refine (Cc.out _ (HR.out.next HB) (hd.next HB)).mono ?_); rintro e W3 ⟨rfl, hb⟩; have hgr := grown_of_below hb; replace hg1 := hg1.grown hgr (by simp); replace HB := HB.grown hgr (by have := HB.size; omega) (by simp); replace hcg1 := hg1.cell; replace hfg1 := hg1.frozen; clear hb hgr)
    | ((with_reducible refine gate_dst (N := 27) rfl ?_); refine wpList_load_row rfl _ _ rfl g1 rfl _ _ (0, 0) _ hg1 Tryd.underlying35 rfl rec_size ?_)
    | (go_at_call 59; (with_reducible refine (Cl.out _ (HT.out.next HB) (Ht.out.next HB) (hd.next HB)).mono ?_); rintro e W4 ⟨rfl, hb⟩; have hgr := grown_of_below hb; replace hg1 := hg1.grown hgr (by simp); replace HB := HB.grown hgr (by have := HB.size; omega) (by simp); replace hcg1 := hg1.cell; replace hfg1 := hg1.frozen; clear hb hgr)
    | (go_at_call 33; (with_reducible refine (num_calls _ _).mono ?_); rintro e w1 ⟨rfl, rfl⟩))
  go_loopg [7] 3 (fun m v7 wr => ∃ v : Int, (m : Int) + v = 4 ∧ v7 = .int .i64 v ∧ Aside (1 ≤ v ∧ v ≤ r.V + 1 ∧ Blk wr g1 _ (r.cells A c) ∧ Below w.heap.size w wr))
  case atStart => exact ⟨1, by omega, rfl, ⟨by omega, by omega, hg1, HB⟩⟩
  case round =>
    clear hg1 hcg1 hfg1 HB
    obtain ⟨v, hn, rfl, HA⟩ := hrel
    obtain ⟨h1, hvV, hg1, HB⟩ := HA.out
    clear HA
    have hcg1 := hg1.cell
    have hfg1 := hg1.frozen
    by_cases hlt : v ≤ r.V
    · have t5 : decide (v ≤ r.V) = true := by simp [hlt]
      have ce := Cd.out v h1 hlt
      have ct := fun (w : World) => down_calls r A c v hf w
      rw [ce] at ct
      generalize downR r v = u at ct
      have Hv := Lib.hid (show v + 1 ≤ r.V + 1 by omega)
      by_cases hle : n ≤ v
      · rw [if_pos hle] at ct
        have t6 : decide (n ≤ v) = true := by simp [hle]
        have Ct := Lib.hid ct
        clear ct ce hle hlt hvV
        go_wp2_with (first
          | ((with_reducible refine gate_dst (N := 67) rfl ?_); refine wpList_load_row rfl _ _ rfl g1 rfl _ _ (0, 0) _ hg1 Tryd.underlying35 rfl rec_size ?_)
          | (go_at_call 50; (with_reducible refine (Ct.out _ (HT.out.next HB) (Ht.out.next HB) (hd.next HB)).mono ?_); rintro e W1 ⟨A5, c5, rfl, hd5, hb⟩; have hgr := grown_of_below hb; replace hg1 := hg1.grown hgr (by simp); replace HB := HB.grown hgr (by have := HB.size; omega) (by simp); replace hcg1 := hg1.cell; replace hfg1 := hg1.frozen; clear hb hgr)
          | ((with_reducible refine gate_dst (N := 8) rfl ?_); refine ev_alloc rfl rfl _ rec_zero ?_; intro g3 W2 hg3 hsz hbn; have hgr := grown_of_below hbn; have ng1g3 : g1 ≠ g3 := (by have := hg1.lt; omega); replace hg3 : Blk W2 g3 _ (Rec.zero.cells none 0) := hg3; have zg3 : w.heap.size ≤ g3 := (by have := HB.size; omega); replace hg1 := hg1.grown hgr (by simp); replace HB := HB.grown hgr (by have := HB.size; omega) (by simp); have hcg3 := hg3.cell; have hfg3 := hg3.frozen; replace hcg1 := hg1.cell; replace hfg1 := hg1.frozen; clear hsz hbn hgr)
          | ((with_reducible refine gate_store (p := 8) rfl ?_); refine ev_store_row (cs := u.cells A5 c5) rfl rfl rfl hg3 rfl rfl rec_size rfl (cells_one _ _ _) ?_; intro W3 hgn hgr; replace hg1 := hg1.grown hgr (by intro e; injection e with e; omega); replace HB := HB.grown hgr (by have := HB.size; omega) (by intro k e; injection e with e; omega); replace hg3 := hgn; replace hcg1 := hg1.cell; replace hfg1 := hg1.frozen; replace hcg3 := hg3.cell; replace hfg3 := hg3.frozen; clear hgn hgr)
          | (go_at_call 33; (with_reducible refine (num_calls _ _).mono ?_); rintro e w1 ⟨rfl, rfl⟩))
        have hx := Hv.out
        go_roundg (gk - 1)
        case measure => omega
        case rel => exact ⟨v + 1, by omega, by go_num, ⟨by omega, Hv.out, hg1, HB⟩⟩
      · rw [if_neg hle] at ct
        have t6 : decide (n ≤ v) = false := by simp; omega
        have Ct := Lib.hid ct
        clear ct ce hle hlt hvV
        go_wp2_with (first
          | ((with_reducible refine gate_dst (N := 67) rfl ?_); refine wpList_load_row rfl _ _ rfl g1 rfl _ _ (0, 0) _ hg1 Tryd.underlying35 rfl rec_size ?_)
          | (go_at_call 50; (with_reducible refine (Ct.out _ (HT.out.next HB) (Ht.out.next HB) (hd.next HB)).mono ?_); rintro e W1 ⟨A5, c5, rfl, hd5, hb⟩; have hgr := grown_of_below hb; replace hg1 := hg1.grown hgr (by simp); replace HB := HB.grown hgr (by have := HB.size; omega) (by simp); replace hcg1 := hg1.cell; replace hfg1 := hg1.frozen; clear hb hgr)
          | ((with_reducible refine gate_dst (N := 8) rfl ?_); refine ev_alloc rfl rfl _ rec_zero ?_; intro g3 W2 hg3 hsz hbn; have hgr := grown_of_below hbn; have ng1g3 : g1 ≠ g3 := (by have := hg1.lt; omega); replace hg3 : Blk W2 g3 _ (Rec.zero.cells none 0) := hg3; have zg3 : w.heap.size ≤ g3 := (by have := HB.size; omega); replace hg1 := hg1.grown hgr (by simp); replace HB := HB.grown hgr (by have := HB.size; omega) (by simp); have hcg3 := hg3.cell; have hfg3 := hg3.frozen; replace hcg1 := hg1.cell; replace hfg1 := hg1.frozen; clear hsz hbn hgr)
          | ((with_reducible refine gate_store (p := 8) rfl ?_); refine ev_store_row (cs := u.cells A5 c5) rfl rfl rfl hg3 rfl rfl rec_size rfl (cells_one _ _ _) ?_; intro W3 hgn hgr; replace hg1 := hg1.grown hgr (by intro e; injection e with e; omega); replace HB := HB.grown hgr (by have := HB.size; omega) (by intro k e; injection e with e; omega); replace hg3 := hgn; replace hcg1 := hg1.cell; replace hfg1 := hg1.frozen; replace hcg3 := hg3.cell; replace hfg3 := hg3.frozen; clear hgn hgr)
          | (go_at_call 33; (with_reducible refine (num_calls _ _).mono ?_); rintro e w1 ⟨rfl, rfl⟩))
        have hx := Hv.out
        go_roundg (gk - 1)
        case measure => omega
        case rel => exact ⟨v + 1, by omega, by go_num, ⟨by omega, Hv.out, hg1, HB⟩⟩
    · have t5 : decide (v ≤ r.V) = false := by simp; omega
      clear hlt hvV h1 hn
      by_cases hV1 : r.V = 1
      · have t7 := int_beq_true hV1
        obtain ⟨u1, u2⟩ := upE_of Hc.out (v := 2) (by omega) (by omega)
        obtain ⟨u3, u4⟩ := upE_of Hc.out (v := 3) (by omega) (by omega)
        obtain ⟨a1, a2, _⟩ := up_ok Hc.out (to := 2) (by omega) (by omega)
        obtain ⟨u5, u6⟩ := upE_of a1 (v := 3) (by omega) (by omega)
        have ca := fun (w : World) => up_calls r A c 2 hf w
        have cz := fun (w : World) => up_calls r A c 3 hf w
        have cb := fun (A : Option Addr) (c : Nat) (w : World) => up_calls (turnR r 2) A c 3 (hf.turn 2) w
        have hfz := hf.turn 3
        rw [u1, u2] at ca
        rw [u3, u4] at cz
        rw [u5, u6, chain_up hV1] at cb
        generalize turnR r 2 = a at ca cb
        generalize turnR r 3 = z at cz cb hfz
        have Ca := Lib.hid ca
        have Cb := Lib.hid cb
        have Cz := Lib.hid cz
        have hzl := hfz.data
        clear ca cb cz u1 u2 u3 u4 u5 u6 a1 a2 hV1 hfz
        have m1 : True := trivial
        have m2 : True := trivial
        go_wp2_with (first
          | ((with_reducible refine gate_dst (N := 83) rfl ?_); refine wpList_load_row rfl _ _ rfl g1 rfl _ _ (0, 0) _ hg1 Tryd.underlying35 rfl rec_size ?_)
          | (go_at_call 34; clear m1; (with_reducible refine (Ca.out _ (HT.out.next HB) (Ht.out.next HB) (hd.next HB)).mono ?_); rintro e W1 ⟨A5, c5, rfl, hd5, hb⟩; have hgr := grown_of_below hb; replace hg1 := hg1.grown hgr (by simp); replace HB := HB.grown hgr (by have := HB.size; omega) (by simp); replace hcg1 := hg1.cell; replace hfg1 := hg1.frozen; clear hb hgr)
          | ((with_reducible refine gate_dst (N := 10) rfl ?_); refine ev_alloc rfl rfl _ rec_zero ?_; intro g3 W2 hg3 hsz hbn; have hgr := grown_of_below hbn; have ng1g3 : g1 ≠ g3 := (by have := hg1.lt; omega); replace hg3 : Blk W2 g3 _ (Rec.zero.cells none 0) := hg3; have zg3 : w.heap.size ≤ g3 := (by have := HB.size; omega); replace hd5 := hd5.kept hgr (by simp); replace hg1 := hg1.grown hgr (by simp); replace HB := HB.grown hgr (by have := HB.size; omega) (by simp); have hcg3 := hg3.cell; have hfg3 := hg3.frozen; replace hcg1 := hg1.cell; replace hfg1 := hg1.frozen; clear hsz hbn hgr)
          | ((with_reducible refine gate_store (p := 10) rfl ?_); refine ev_store_row (cs := a.cells A5 c5) rfl rfl rfl hg3 rfl rfl rec_size rfl (cells_one _ _ _) ?_; intro W3 hgn hgr; replace hd5 := hd5.kept hgr (RU.ne_blk hd5 hg3 (by decide)); replace hg1 := hg1.grown hgr (by intro e; injection e with e; omega); replace HB := HB.grown hgr (by have := HB.size; omega) (by intro k e; injection e with e; omega); replace hg3 := hgn; replace hcg1 := hg1.cell; replace hfg1 := hg1.frozen; replace hcg3 := hg3.cell; replace hfg3 := hg3.frozen; clear hgn hgr)
          | ((with_reducible refine gate_dst (N := 88) rfl ?_); refine wpList_load_row rfl _ _ rfl g3 rfl _ _ (0, 0) _ hg3 Tryd.underlying35 rfl rec_size ?_)
          | (go_at_call 34; clear m2; (with_reducible refine (Cb.out _ _ _ (HT.out.next HB) (Ht.out.next HB) hd5.rb).mono ?_); rintro e W4 ⟨A6, c6, rfl, hd6, hb⟩; have hgr := grown_of_below hb; replace hd5 := hd5.kept hgr (by simp); replace hg1 := hg1.grown hgr (by simp); replace hg3 := hg3.grown hgr (by simp); replace HB := HB.grown hgr (by have := HB.size; omega) (by simp); replace hcg1 := hg1.cell; replace hfg1 := hg1.frozen; replace hcg3 := hg3.cell; replace hfg3 := hg3.frozen; clear hb hgr)
          | ((with_reducible refine gate_dst (N := 12) rfl ?_); refine ev_alloc rfl rfl _ rec_zero ?_; intro g4 W5 hg4 hsz hbn; have hgr := grown_of_below hbn; have ng1g4 : g1 ≠ g4 := (by have := hg1.lt; omega); have ng3g4 : g3 ≠ g4 := (by have := hg3.lt; omega); replace hg4 : Blk W5 g4 _ (Rec.zero.cells none 0) := hg4; have zg4 : w.heap.size ≤ g4 := (by have := HB.size; omega); replace hd6 := hd6.kept hgr (by simp); replace hd5 := hd5.kept hgr (by simp); replace hg1 := hg1.grown hgr (by simp); replace hg3 := hg3.grown hgr (by simp); replace HB := HB.grown hgr (by have := HB.size; omega) (by simp); have hcg4 := hg4.cell; have hfg4 := hg4.frozen; replace hcg1 := hg1.cell; replace hfg1 := hg1.frozen; replace hcg3 := hg3.cell; replace hfg3 := hg3.frozen; clear hsz hbn hgr)
          | ((with_reducible refine gate_store (p := 12) rfl ?_); refine ev_store_row (cs := z.cells A6 c6) rfl rfl rfl hg4 rfl rfl rec_size rfl (cells_one _ _ _) ?_; intro W6 hgn hgr; replace hd6 := hd6.kept hgr (RU.ne_blk hd6 hg4 (by decide)); replace hd5 := hd5.kept hgr (RU.ne_blk hd5 hg4 (by decide)); replace hg1 := hg1.grown hgr (by intro e; injection e with e; omega); replace hg3 := hg3.grown hgr (by intro e; injection e with e; omega); replace HB := HB.grown hgr (by have := HB.size; omega) (by intro k e; injection e with e; omega); replace hg4 := hgn; replace hcg1 := hg1.cell; replace hfg1 := hg1.frozen; replace hcg3 := hg3.cell; replace hfg3 := hg3.frozen; replace hcg4 := hg4.cell; replace hfg4 := hg4.frozen; clear hgn hgr)
          | ((with_reducible refine gate_dst (N := 93) rfl ?_); refine wpList_load_row rfl _ _ rfl g1 rfl _ _ (0, 0) _ hg1 Tryd.underlying35 rfl rec_size ?_)
          | (go_at_call 34; (with_reducible refine (Cz.out _ (HT.out.next HB) (Ht.out.next HB) (hd.next HB)).mono ?_); rintro e W7 ⟨A7, c7, rfl, hd7, hb⟩; have hgr := grown_of_below hb; replace hd6 := hd6.kept hgr (by simp); replace hd5 := hd5.kept hgr (by simp); replace hg1 := hg1.grown hgr (by simp); replace hg3 := hg3.grown hgr (by simp); replace hg4 := hg4.grown hgr (by simp); replace HB := HB.grown hgr (by have := HB.size; omega) (by simp); replace hcg1 := hg1.cell; replace hfg1 := hg1.frozen; replace hcg3 := hg3.cell; replace hfg3 := hg3.frozen; replace hcg4 := hg4.cell; replace hfg4 := hg4.frozen; clear hb hgr)
          | ((with_reducible refine gate_dst (N := 14) rfl ?_); refine ev_alloc rfl rfl _ rec_zero ?_; intro g5 W8 hg5 hsz hbn; have hgr := grown_of_below hbn; have ng1g5 : g1 ≠ g5 := (by have := hg1.lt; omega); have ng3g5 : g3 ≠ g5 := (by have := hg3.lt; omega); have ng4g5 : g4 ≠ g5 := (by have := hg4.lt; omega); replace hg5 : Blk W8 g5 _ (Rec.zero.cells none 0) := hg5; have zg5 : w.heap.size ≤ g5 := (by have := HB.size; omega); replace hd7 := hd7.kept hgr (by simp); replace hd6 := hd6.kept hgr (by simp); replace hd5 := hd5.kept hgr (by simp); replace hg1 := hg1.grown hgr (by simp); replace hg3 := hg3.grown hgr (by simp); replace hg4 := hg4.grown hgr (by simp); replace HB := HB.grown hgr (by have := HB.size; omega) (by simp); have hcg5 := hg5.cell; have hfg5 := hg5.frozen; replace hcg1 := hg1.cell; replace hfg1 := hg1.frozen; replace hcg3 := hg3.cell; replace hfg3 := hg3.frozen; replace hcg4 := hg4.cell; replace hfg4 := hg4.frozen; clear hsz hbn hgr)
          | ((with_reducible refine gate_store (p := 14) rfl ?_); refine ev_store_row (cs := z.cells A7 c7) rfl rfl rfl hg5 rfl rfl rec_size rfl (cells_one _ _ _) ?_; intro W9 hgn hgr; replace hd7 := hd7.kept hgr (RU.ne_blk hd7 hg5 (by decide)); replace hd6 := hd6.kept hgr (RU.ne_blk hd6 hg5 (by decide)); replace hd5 := hd5.kept hgr (RU.ne_blk hd5 hg5 (by decide)); replace hg1 := hg1.grown hgr (by intro e; injection e with e; omega); replace hg3 := hg3.grown hgr (by intro e; injection e with e; omega); replace hg4 := hg4.grown hgr (by intro e; injection e with e; omega); replace HB := HB.grown hgr (by have := HB.size; omega) (by intro k e; injection e with e; omega); replace hg5 := hgn; replace hcg1 := hg1.cell; replace hfg1 := hg1.frozen; replace hcg3 := hg3.cell; replace hfg3 := hg3.frozen; replace hcg4 := hg4.cell; replace hfg4 := hg4.frozen; replace hcg5 := hg5.cell; replace hfg5 := hg5.frozen; clear hgn hgr)
          | (go_at_call 33; (with_reducible refine (num_calls _ _).mono ?_); rintro e w1 ⟨rfl, rfl⟩)
          | ((with_reducible refine gate_dst (N := 111) rfl ?_); refine wpList_ungate (by first | rfl | simp [Region.wanted, yielded]) ?_; refine wpList_load_row rfl _ _ rfl g4 rfl _ _ (0, 0) _ hg4 Tryd.underlying35 rfl rec_size ?_)
          | ((with_reducible refine gate_dst (N := 112) rfl ?_); refine wpList_ungate (by first | rfl | simp [Region.wanted, yielded]) ?_; refine wpList_load_row rfl _ _ rfl g5 rfl _ _ (0, 0) _ hg5 Tryd.underlying35 rfl rec_size ?_)
          | (go_at_call 35; (with_reducible refine (same_later z _ _ _ _ _ hd6.rb hd7.rb hzl).mono ?_); rintro e W10 ⟨rfl, hb⟩; have hgr := grown_of_below hb; replace hd7 := hd7.kept hgr (by simp); replace hd6 := hd6.kept hgr (by simp); replace hd5 := hd5.kept hgr (by simp); replace hg1 := hg1.grown hgr (by simp); replace hg3 := hg3.grown hgr (by simp); replace hg4 := hg4.grown hgr (by simp); replace hg5 := hg5.grown hgr (by simp); replace HB := HB.grown hgr (by have := HB.size; omega) (by simp); replace hcg1 := hg1.cell; replace hfg1 := hg1.frozen; replace hcg3 := hg3.cell; replace hfg3 := hg3.frozen; replace hcg4 := hg4.cell; replace hfg4 := hg4.frozen; replace hcg5 := hg5.cell; replace hfg5 := hg5.frozen; clear hb hgr))
        go_ret
        exact ⟨rfl, HB⟩
      have t7 := int_beq_false hV1
      by_cases hV3 : r.V = 3
      · have t8 := int_beq_true hV3
        have ca := fun (w : World) => down_calls r A c 2 hf w
        have cb := fun (w : World) => down_calls r A c 1 hf w
        have hfb := hf.down 1
        cases hF : turnF r 2
        · have hF1 : turnF r 1 = false := by
            cases h : turnF r 1 with
            | false => rfl
            | true => rw [chain_lower hV3 h] at hF; cases hF
          have x1 : downE r 2 = 40 := by rw [downE_of Hc.out (by omega) (by omega), hF]; rfl
          have x2 : downE r 1 = 40 := by rw [downE_of Hc.out (by omega) (by omega), hF1]; rfl
          rw [x1] at ca
          rw [x2] at cb
          generalize downR r 2 = a at ca
          generalize downR r 1 = z at cb
          have Ca := Lib.hid ca
          have Cb := Lib.hid cb
          clear ca cb x1 x2 hF hF1 hV1 hV3
          have m1 : True := trivial
          go_wp2_with (first
            | ((with_reducible refine gate_dst (N := 119) rfl ?_); refine wpList_load_row rfl _ _ rfl g1 rfl _ _ (0, 0) _ hg1 Tryd.underlying35 rfl rec_size ?_)
            | (go_at_call 50; clear m1; (with_reducible refine (Ca.out _ (HT.out.next HB) (Ht.out.next HB) (hd.next HB)).mono ?_); rintro e W1 ⟨A5, c5, rfl, hd5, hb⟩; have hgr := grown_of_below hb; replace hg1 := hg1.grown hgr (by simp); replace HB := HB.grown hgr (by have := HB.size; omega) (by simp); replace hcg1 := hg1.cell; replace hfg1 := hg1.frozen; clear hb hgr)
            | ((with_reducible refine gate_dst (N := 16) rfl ?_); refine ev_alloc rfl rfl _ rec_zero ?_; intro g3 W2 hg3 hsz hbn; have hgr := grown_of_below hbn; have ng1g3 : g1 ≠ g3 := (by have := hg1.lt; omega); replace hg3 : Blk W2 g3 _ (Rec.zero.cells none 0) := hg3; have zg3 : w.heap.size ≤ g3 := (by have := HB.size; omega); replace hd5 := hd5.kept hgr (by simp); replace hg1 := hg1.grown hgr (by simp); replace HB := HB.grown hgr (by have := HB.size; omega) (by simp); have hcg3 := hg3.cell; have hfg3 := hg3.frozen; replace hcg1 := hg1.cell; replace hfg1 := hg1.frozen; clear hsz hbn hgr)
            | ((with_reducible refine gate_store (p := 16) rfl ?_); refine ev_store_row (cs := a.cells A5 c5) rfl rfl rfl hg3 rfl rfl rec_size rfl (cells_one _ _ _) ?_; intro W3 hgn hgr; replace hd5 := hd5.kept hgr (RU.ne_blk hd5 hg3 (by decide)); replace hg1 := hg1.grown hgr (by intro e; injection e with e; omega); replace HB := HB.grown hgr (by have := HB.size; omega) (by intro k e; injection e with e; omega); replace hg3 := hgn; replace hcg1 := hg1.cell; replace hfg1 := hg1.frozen; replace hcg3 := hg3.cell; replace hfg3 := hg3.frozen; clear hgn hgr)
            | ((with_reducible refine gate_dst (N := 124) rfl ?_); refine wpList_load_row rfl _ _ rfl g1 rfl _ _ (0, 0) _ hg1 Tryd.underlying35 rfl rec_size ?_)
            | (go_at_call 50; (with_reducible refine (Cb.out _ (HT.out.next HB) (Ht.out.next HB) (hd.next HB)).mono ?_); rintro e W4 ⟨A6, c6, rfl, hd6, hb⟩; have hgr := grown_of_below hb; replace hd5 := hd5.kept hgr (by simp); replace hg1 := hg1.grown hgr (by simp); replace hg3 := hg3.grown hgr (by simp); replace HB := HB.grown hgr (by have := HB.size; omega) (by simp); replace hcg1 := hg1.cell; replace hfg1 := hg1.frozen; replace hcg3 := hg3.cell; replace hfg3 := hg3.frozen; clear hb hgr)
            | ((with_reducible refine gate_dst (N := 18) rfl ?_); refine ev_alloc rfl rfl _ rec_zero ?_; intro g4 W5 hg4 hsz hbn; have hgr := grown_of_below hbn; have ng1g4 : g1 ≠ g4 := (by have := hg1.lt; omega); have ng3g4 : g3 ≠ g4 := (by have := hg3.lt; omega); replace hg4 : Blk W5 g4 _ (Rec.zero.cells none 0) := hg4; have zg4 : w.heap.size ≤ g4 := (by have := HB.size; omega); replace hd6 := hd6.kept hgr (by simp); replace hd5 := hd5.kept hgr (by simp); replace hg1 := hg1.grown hgr (by simp); replace hg3 := hg3.grown hgr (by simp); replace HB := HB.grown hgr (by have := HB.size; omega) (by simp); have hcg4 := hg4.cell; have hfg4 := hg4.frozen; replace hcg1 := hg1.cell; replace hfg1 := hg1.frozen; replace hcg3 := hg3.cell; replace hfg3 := hg3.frozen; clear hsz hbn hgr)
            | ((with_reducible refine gate_store (p := 18) rfl ?_); refine ev_store_row (cs := z.cells A6 c6) rfl rfl rfl hg4 rfl rfl rec_size rfl (cells_one _ _ _) ?_; intro W6 hgn hgr; replace hd6 := hd6.kept hgr (RU.ne_blk hd6 hg4 (by decide)); replace hd5 := hd5.kept hgr (RU.ne_blk hd5 hg4 (by decide)); replace hg1 := hg1.grown hgr (by intro e; injection e with e; omega); replace hg3 := hg3.grown hgr (by intro e; injection e with e; omega); replace HB := HB.grown hgr (by have := HB.size; omega) (by intro k e; injection e with e; omega); replace hg4 := hgn; replace hcg1 := hg1.cell; replace hfg1 := hg1.frozen; replace hcg3 := hg3.cell; replace hfg3 := hg3.frozen; replace hcg4 := hg4.cell; replace hfg4 := hg4.frozen; clear hgn hgr)
            | (go_at_call 33; (with_reducible refine (num_calls _ _).mono ?_); rintro e w1 ⟨rfl, rfl⟩))
          go_ret
          exact ⟨rfl, HB⟩
        · have x1 : downE r 2 = 0 := by rw [downE_of Hc.out (by omega) (by omega), hF]; rfl
          obtain ⟨x2, x3⟩ := chain3 Hc.out hV3 hF
          have cz := fun (A : Option Addr) (c : Nat) (w : World) => down_calls (downR r 2) A c 1 (hf.down 2) w
          rw [x1] at ca
          rw [x2, x3] at cz
          generalize downR r 2 = a at ca cz
          generalize downR r 1 = z at cb cz hfb
          generalize downE r 1 = e at cb cz
          have Ca := Lib.hid ca
          have Cb := Lib.hid cb
          have Cz := Lib.hid cz
          have hzl := hfb.data
          clear ca cb cz x1 x2 x3 hF hV1 hV3 hfb
          have m1 : True := trivial
          have m2 : True := trivial
          go_wp2_with (first
            | ((with_reducible refine gate_dst (N := 119) rfl ?_); refine wpList_load_row rfl _ _ rfl g1 rfl _ _ (0, 0) _ hg1 Tryd.underlying35 rfl rec_size ?_)
            | (go_at_call 50; clear m1; (with_reducible refine (Ca.out _ (HT.out.next HB) (Ht.out.next HB) (hd.next HB)).mono ?_); rintro e W1 ⟨A5, c5, rfl, hd5, hb⟩; have hgr := grown_of_below hb; replace hg1 := hg1.grown hgr (by simp); replace HB := HB.grown hgr (by have := HB.size; omega) (by simp); replace hcg1 := hg1.cell; replace hfg1 := hg1.frozen; clear hb hgr)
            | ((with_reducible refine gate_dst (N := 16) rfl ?_); refine ev_alloc rfl rfl _ rec_zero ?_; intro g3 W2 hg3 hsz hbn; have hgr := grown_of_below hbn; have ng1g3 : g1 ≠ g3 := (by have := hg1.lt; omega); replace hg3 : Blk W2 g3 _ (Rec.zero.cells none 0) := hg3; have zg3 : w.heap.size ≤ g3 := (by have := HB.size; omega); replace hd5 := hd5.kept hgr (by simp); replace hg1 := hg1.grown hgr (by simp); replace HB := HB.grown hgr (by have := HB.size; omega) (by simp); have hcg3 := hg3.cell; have hfg3 := hg3.frozen; replace hcg1 := hg1.cell; replace hfg1 := hg1.frozen; clear hsz hbn hgr)
            | ((with_reducible refine gate_store (p := 16) rfl ?_); refine ev_store_row (cs := a.cells A5 c5) rfl rfl rfl hg3 rfl rfl rec_size rfl (cells_one _ _ _) ?_; intro W3 hgn hgr; replace hd5 := hd5.kept hgr (RU.ne_blk hd5 hg3 (by decide)); replace hg1 := hg1.grown hgr (by intro e; injection e with e; omega); replace HB := HB.grown hgr (by have := HB.size; omega) (by intro k e; injection e with e; omega); replace hg3 := hgn; replace hcg1 := hg1.cell; replace hfg1 := hg1.frozen; replace hcg3 := hg3.cell; replace hfg3 := hg3.frozen; clear hgn hgr)
            | ((with_reducible refine gate_dst (N := 124) rfl ?_); refine wpList_load_row rfl _ _ rfl g1 rfl _ _ (0, 0) _ hg1 Tryd.underlying35 rfl rec_size ?_)
            | (go_at_call 50; clear m2; (with_reducible refine (Cb.out _ (HT.out.next HB) (Ht.out.next HB) (hd.next HB)).mono ?_); rintro e W4 ⟨A6, c6, rfl, hd6, hb⟩; have hgr := grown_of_below hb; replace hd5 := hd5.kept hgr (by simp); replace hg1 := hg1.grown hgr (by simp); replace hg3 := hg3.grown hgr (by simp); replace HB := HB.grown hgr (by have := HB.size; omega) (by simp); replace hcg1 := hg1.cell; replace hfg1 := hg1.frozen; replace hcg3 := hg3.cell; replace hfg3 := hg3.frozen; clear hb hgr)
            | ((with_reducible refine gate_dst (N := 18) rfl ?_); refine ev_alloc rfl rfl _ rec_zero ?_; intro g4 W5 hg4 hsz hbn; have hgr := grown_of_below hbn; have ng1g4 : g1 ≠ g4 := (by have := hg1.lt; omega); have ng3g4 : g3 ≠ g4 := (by have := hg3.lt; omega); replace hg4 : Blk W5 g4 _ (Rec.zero.cells none 0) := hg4; have zg4 : w.heap.size ≤ g4 := (by have := HB.size; omega); replace hd6 := hd6.kept hgr (by simp); replace hd5 := hd5.kept hgr (by simp); replace hg1 := hg1.grown hgr (by simp); replace hg3 := hg3.grown hgr (by simp); replace HB := HB.grown hgr (by have := HB.size; omega) (by simp); have hcg4 := hg4.cell; have hfg4 := hg4.frozen; replace hcg1 := hg1.cell; replace hfg1 := hg1.frozen; replace hcg3 := hg3.cell; replace hfg3 := hg3.frozen; clear hsz hbn hgr)
            | ((with_reducible refine gate_store (p := 18) rfl ?_); refine ev_store_row (cs := z.cells A6 c6) rfl rfl rfl hg4 rfl rfl rec_size rfl (cells_one _ _ _) ?_; intro W6 hgn hgr; replace hd6 := hd6.kept hgr (RU.ne_blk hd6 hg4 (by decide)); replace hd5 := hd5.kept hgr (RU.ne_blk hd5 hg4 (by decide)); replace hg1 := hg1.grown hgr (by intro e; injection e with e; omega); replace hg3 := hg3.grown hgr (by intro e; injection e with e; omega); replace HB := HB.grown hgr (by have := HB.size; omega) (by intro k e; injection e with e; omega); replace hg4 := hgn; replace hcg1 := hg1.cell; replace hfg1 := hg1.frozen; replace hcg3 := hg3.cell; replace hfg3 := hg3.frozen; replace hcg4 := hg4.cell; replace hfg4 := hg4.frozen; clear hgn hgr)
            | (go_at_call 33; (with_reducible refine (num_calls _ _).mono ?_); rintro e w1 ⟨rfl, rfl⟩)
            | ((with_reducible refine gate_dst (N := 137) rfl ?_); refine wpList_load_row rfl _ _ rfl g3 rfl _ _ (0, 0) _ hg3 Tryd.underlying35 rfl rec_size ?_)
            | (go_at_call 50; (with_reducible refine (Cz.out _ _ _ (HT.out.next HB) (Ht.out.next HB) hd5.rb).mono ?_); rintro e W7 ⟨A7, c7, rfl, hd7, hb⟩; have hgr := grown_of_below hb; replace hd6 := hd6.kept hgr (by simp); replace hd5 := hd5.kept hgr (by simp); replace hg1 := hg1.grown hgr (by simp); replace hg3 := hg3.grown hgr (by simp); replace hg4 := hg4.grown hgr (by simp); replace HB := HB.grown hgr (by have := HB.size; omega) (by simp); replace hcg1 := hg1.cell; replace hfg1 := hg1.frozen; replace hcg3 := hg3.cell; replace hfg3 := hg3.frozen; replace hcg4 := hg4.cell; replace hfg4 := hg4.frozen; clear hb hgr)
            | ((with_reducible refine gate_dst (N := 20) rfl ?_); refine ev_alloc rfl rfl _ rec_zero ?_; intro g5 W8 hg5 hsz hbn; have hgr := grown_of_below hbn; have ng1g5 : g1 ≠ g5 := (by have := hg1.lt; omega); have ng3g5 : g3 ≠ g5 := (by have := hg3.lt; omega); have ng4g5 : g4 ≠ g5 := (by have := hg4.lt; omega); replace hg5 : Blk W8 g5 _ (Rec.zero.cells none 0) := hg5; have zg5 : w.heap.size ≤ g5 := (by have := HB.size; omega); replace hd7 := hd7.kept hgr (by simp); replace hd6 := hd6.kept hgr (by simp); replace hd5 := hd5.kept hgr (by simp); replace hg1 := hg1.grown hgr (by simp); replace hg3 := hg3.grown hgr (by simp); replace hg4 := hg4.grown hgr (by simp); replace HB := HB.grown hgr (by have := HB.size; omega) (by simp); have hcg5 := hg5.cell; have hfg5 := hg5.frozen; replace hcg1 := hg1.cell; replace hfg1 := hg1.frozen; replace hcg3 := hg3.cell; replace hfg3 := hg3.frozen; replace hcg4 := hg4.cell; replace hfg4 := hg4.frozen; clear hsz hbn hgr)
            | ((with_reducible refine gate_store (p := 20) rfl ?_); refine ev_store_row (cs := z.cells A7 c7) rfl rfl rfl hg5 rfl rfl rec_size rfl (cells_one _ _ _) ?_; intro W9 hgn hgr; replace hd7 := hd7.kept hgr (RU.ne_blk hd7 hg5 (by decide)); replace hd6 := hd6.kept hgr (RU.ne_blk hd6 hg5 (by decide)); replace hd5 := hd5.kept hgr (RU.ne_blk hd5 hg5 (by decide)); replace hg1 := hg1.grown hgr (by intro e; injection e with e; omega); replace hg3 := hg3.grown hgr (by intro e; injection e with e; omega); replace hg4 := hg4.grown hgr (by intro e; injection e with e; omega); replace HB := HB.grown hgr (by have := HB.size; omega) (by intro k e; injection e with e; omega); replace hg5 := hgn; replace hcg1 := hg1.cell; replace hfg1 := hg1.frozen; replace hcg3 := hg3.cell; replace hfg3 := hg3.frozen; replace hcg4 := hg4.cell; replace hfg4 := hg4.frozen; replace hcg5 := hg5.cell; replace hfg5 := hg5.frozen; clear hgn hgr)
            | ((with_reducible refine gate_dst (N := 147) rfl ?_); refine wpList_ungate (by first | rfl | simp [Region.wanted, yielded]) ?_; refine wpList_load_row rfl _ _ rfl g5 rfl _ _ (0, 0) _ hg5 Tryd.underlying35 rfl rec_size ?_)
            | ((with_reducible refine gate_dst (N := 148) rfl ?_); refine wpList_ungate (by first | rfl | simp [Region.wanted, yielded]) ?_; refine wpList_load_row rfl _ _ rfl g4 rfl _ _ (0, 0) _ hg4 Tryd.underlying35 rfl rec_size ?_)
            | (go_at_call 35; (with_reducible refine (same_later z _ _ _ _ _ hd7.rb hd6.rb hzl).mono ?_); rintro e W10 ⟨rfl, hb⟩; have hgr := grown_of_below hb; replace hd7 := hd7.kept hgr (by simp); replace hd6 := hd6.kept hgr (by simp); replace hd5 := hd5.kept hgr (by simp); replace hg1 := hg1.grown hgr (by simp); replace hg3 := hg3.grown hgr (by simp); replace hg4 := hg4.grown hgr (by simp); replace hg5 := hg5.grown hgr (by simp); replace HB := HB.grown hgr (by have := HB.size; omega) (by simp); replace hcg1 := hg1.cell; replace hfg1 := hg1.frozen; replace hcg3 := hg3.cell; replace hfg3 := hg3.frozen; replace hcg4 := hg4.cell; replace hfg4 := hg4.frozen; replace hcg5 := hg5.cell; replace hfg5 := hg5.frozen; clear hb hgr))
          go_ret
          exact ⟨rfl, HB⟩
      · have t8 := int_beq_false hV3
        clear hV1 hV3
        go_wp2
        go_ret
        exact ⟨rfl, HB⟩
theorem liftChain_calls (r : Rec) (A : Option Addr) (c : Nat) (hf : r.Fits) (hz : r.Name.size ≤ 1099511627776) (w : World) (hT : Tabs w) (ht : Tab w 2 waysL) (hR : RTabs w) (hd : RB w A r.Data) :
    Calls Tryd.prog 12 #[.agg (r.cells A c)] w fun e w' => e = .returned (.bool true) ∧ Below w.heap.size w w' := by
  by_cases hc : r.chk = 0
  · exact liftChain_good r A c hf hz w hT ht hR hd hc
  · exact liftChain_bad r A c hf hz w hT ht hR hd hc
end Go.Proofs.YtjhiohjpkdjkoaaDoor
