/-
  The walk of the law RewriteSplits.
-/
import Derived.Test.YtikodgaomhmbmaaS11
set_option linter.unusedVariables false
set_option linter.unusedSimpArgs false
namespace Go.Proofs.Ytikodgaomhmbmaa
open Go.RowKit
attribute [local go_sem] Rec.size_ Rec.g0 Rec.g1 Rec.g2 Rec.g3 Rec.g4 Rec.g5 Rec.g6 Rec.g7 Rec.g8 Rec.g9 Rec.g10 Rec.g11 Rec.fold Rec.lit_fold

set_option maxHeartbeats 8000000 in
set_option maxRecDepth 100000 in
theorem splits_calls (l : List RA) (A : Option Addr) (c : Nat) (hl : l.length ≤ 1048576) (hs : ∀ y ∈ l, y.1.Name.size ≤ 1048576 ∧ y.1.Data.length ≤ 1048576) (hwf : ∀ y ∈ l, sagaWf y.1) (w : World) (hr : RR w A l) :
    Calls Try.prog 3 #[.slice A l.length c] w fun e w' => e = .returned (.bool true) ∧ Below w.heap.size w w' := by
  have HB := Below.refl w.heap.size w
  obtain ⟨n, hn⟩ : ∃ n, l.length = n := ⟨_, rfl⟩
  rw [hn] at hl ⊢
  obtain ⟨R, hR⟩ : ∃ R : List Rec, l.map (·.1) = R := ⟨_, rfl⟩
  obtain ⟨na, hna⟩ : ∃ na, (liveR R R).length = na := ⟨_, rfl⟩
  obtain ⟨nd, hnd⟩ : ∃ nd, (deadR R R).length = nd := ⟨_, rfl⟩
  have hRn : R.length = n := by rw [← hR, List.length_map, hn]
  have hna1 : na ≤ n := by rw [← hna, ← hRn]; exact liveR_le R R
  have hnd1 : nd ≤ n := by rw [← hnd, ← hRn]; exact deadR_le R R
  have hfit : ∀ y ∈ l, y.1.Fits := fun y hy => ⟨by have := (hs y hy).1; omega, by have := (hs y hy).2; omega⟩
  have of_R : ∀ (p : Rec → Prop) (os : List RA), os.map (·.1) = R → (∀ y ∈ l, p y.1) → ∀ y ∈ os, p y.1 := fun p os h1 h2 y hy => by
    have : y.1 ∈ l.map (·.1) := by rw [hR, ← h1]; exact List.mem_map.2 ⟨y, hy, rfl⟩
    obtain ⟨z, hz, e⟩ := List.mem_map.1 this
    rw [← e]
    exact h2 z hz
  have Hr := Lib.hid hr
  have Hn := Lib.hid hn
  have HR := Lib.hid hR
  have Hna := Lib.hid hna
  have Hnd := Lib.hid hnd
  have Hs := Lib.hid hs
  have Hfit := Lib.hid hfit
  have Hwf := Lib.hid hwf
  have HofR := Lib.hid of_R
  clear hr hn hR hna hnd hs hfit hwf of_R hRn
  have Hs11 := Lib.hid (show ∀ y ∈ l, y.1.Data.length ≤ 100000000000 from fun y hy => by have := (Hs.out y hy).2; omega)
  have Hlf := Lib.hid (show ∀ r ∈ R, r.Fits from fun r hr => by
    rw [← HR.out] at hr
    obtain ⟨y, hy, rfl⟩ := List.mem_map.1 hr
    exact Hfit.out y hy)
  have Hlive := Lib.hid (show ∀ r ∈ liveR R R, r.Fits from fun r hr => Hlf.out r (liveR_mem hr))
  have Hdead := Lib.hid (show ∀ r ∈ deadR R R, r.Fits from fun r hr => Hlf.out r (deadR_mem hr))
  have HlfD := Lib.hid (show ∀ r ∈ R, r.Data.length ≤ 1000000000 from fun r hr => by
    rw [← HR.out] at hr
    obtain ⟨y, hy, rfl⟩ := List.mem_map.1 hr
    have := (Hs.out y hy).2
    omega)
  have HliveD := Lib.hid (show ∀ r ∈ liveR R R, r.Data.length ≤ 1000000000 from fun r hr => HlfD.out r (liveR_mem hr))
  have HdeadD := Lib.hid (show ∀ r ∈ deadR R R, r.Data.length ≤ 1000000000 from fun r hr => HlfD.out r (deadR_mem hr))
  have k1 : True := trivial
  have k2 : True := trivial
  have k3 : True := trivial
  have k4 : True := trivial
  go_enter Try.func3, Try.ntmps3
  go_wp2_with (first
    | ((with_reducible refine gate_dst (N := 3) rfl ?_); refine ev_alloc rfl rfl _ rec_zero ?_; intro g3 W1 hg3 hsz hbn; have hgr := grown_of_below hbn; replace hg3 : Blk W1 g3 _ (Rec.zero.cells none 0) := hg3; have zg3 : w.heap.size ≤ g3 := (by have := HB.size; omega); replace HB := HB.grown hgr (by have := HB.size; omega) (by simp); have hcg3 := hg3.cell; have hfg3 := hg3.frozen; clear hsz hbn hgr)
    | ((with_reducible refine gate_store (p := 3) rfl ?_); refine ev_store_row (cs := endR.cells none 0) rfl rfl rfl hg3 rfl rfl rec_size rfl (cells_one _ _ _) ?_; intro W2 hgn hgr; replace HB := HB.grown hgr (by have := HB.size; omega) (by intro k e; injection e with e; omega); replace hg3 := hgn; replace hcg3 := hg3.cell; replace hfg3 := hg3.frozen; clear hgn hgr)
    | ((with_reducible refine gate_dst (N := 19) rfl ?_); refine wpList_load_row rfl _ _ rfl g3 rfl _ _ (0, 0) _ hg3 Try.underlying25 rfl rec_size ?_)
    | ((with_reducible refine gate_dst (N := 20) rfl ?_); refine ev_lit rfl rfl (endR.cells none 0) 25 1 (by first | (go_simp; done) | (go_simp; rfl)) ?_; intro g5 W3 hg5 hsz hbn; have hgr := grown_of_below hbn; have ng3g5 : g3 ≠ g5 := (by have := hg3.lt; omega); have zg5 : w.heap.size ≤ g5 := (by have := HB.size; omega); replace hg3 := hg3.grown hgr (by simp); replace HB := HB.grown hgr (by have := HB.size; omega) (by simp); have hcg5 := hg5.cell; have hfg5 := hg5.frozen; replace hcg3 := hg3.cell; replace hfg3 := hg3.frozen; clear hsz hbn hgr)
    | (go_at_call 5; clear k1; (with_reducible refine (split_calls [(endR, none, 0)] 1 rfl _ 1 (by omega) endR_fits1 endR_wf1 [endR] rfl 0 1 endR_live endR_dead _ (RR.one hg5 RB.nil)).mono ?_); rintro e W4 ⟨A4, c4, A5, c5, os4, os5, rfl, h45, o4, o5, Q4, Q5, d45, hb⟩; have hgr := grown_of_below hb; replace hg3 := hg3.grown hgr (by simp); replace hg5 := hg5.grown hgr (by simp); replace HB := HB.grown hgr (by have := HB.size; omega) (by simp); replace hcg3 := hg3.cell; replace hfg3 := hg3.frozen; replace hcg5 := hg5.cell; replace hfg5 := hg5.frozen; clear hb hgr)
    | (go_at_call 6; (with_reducible refine (laid_calls l n Hn.out A c (by omega) Hs11.out _ (Hr.out.next HB)).mono ?_); rintro e W5 ⟨A6, c6, A7, c7, os, rfl, hos, o6, o7, Q7, hb⟩; have hgr := grown_of_below hb; replace o6 := own_mono o6 HB.size; replace o7 := own_mono o7 HB.size; replace Q7 := Q7.mono HB.size; replace HB := HB.grown hgr (by have := HB.size; omega) (by simp); clear hb hgr)
    | (go_at_call 5; clear k2; (with_reducible refine (split_calls os n (len_R hos.out Hn.out) A6 c6 (by omega) (HofR.out Rec.Fits os (hos.out.trans HR.out) Hfit.out) (HofR.out sagaWf os (hos.out.trans HR.out) Hwf.out) R (hos.out.trans HR.out) na nd Hna.out Hnd.out _ (RR.of_longs o6 (len_R hos.out Hn.out) Q7)).mono ?_); rintro e W6 ⟨A8, c8, A9, c9, os8, os9, rfl, h89, o8, o9, Q8, Q9, d89, hb⟩; have hgr := grown_of_below hb; have do6o8 := own_apart o6 o8 (Nat.le_refl _); have do7o8 := own_apart o7 o8 (Nat.le_refl _); replace o8 := own_mono o8 HB.size; have do6o9 := own_apart o6 o9 (Nat.le_refl _); have do7o9 := own_apart o7 o9 (Nat.le_refl _); replace o9 := own_mono o9 HB.size; have dQ7Q8 := Q7.aparts_new Q8 (Nat.le_refl _); replace Q8 := Q8.mono HB.size; have dQ7Q9 := Q7.aparts_new Q9 (Nat.le_refl _); replace Q9 := Q9.mono HB.size; replace Q7 := Q7.kept hgr (by simp); replace o6 := o6.kept hgr (by cases Value.ownBlock _ <;> simp); replace o7 := o7.kept hgr (by cases Value.ownBlock _ <;> simp); replace HB := HB.grown hgr (by have := HB.size; omega) (by simp); clear hb hgr)
    | (go_at_call 7; (with_reducible refine (refSplit_calls l n Hn.out A c (by omega) Hfit.out R HR.out na nd Hna.out Hnd.out _ (Hr.out.next HB)).mono ?_); rintro e W7 ⟨A10, c10, A11, c11, os10, os11, rfl, h1011, o10, o11, Q10, Q11, d1011, hb⟩; have hgr := grown_of_below hb; have do6o10 := own_apart o6 o10 (Nat.le_refl _); have do7o10 := own_apart o7 o10 (Nat.le_refl _); have do8o10 := own_apart o8 o10 (Nat.le_refl _); have do9o10 := own_apart o9 o10 (Nat.le_refl _); replace o10 := own_mono o10 HB.size; have do6o11 := own_apart o6 o11 (Nat.le_refl _); have do7o11 := own_apart o7 o11 (Nat.le_refl _); have do8o11 := own_apart o8 o11 (Nat.le_refl _); have do9o11 := own_apart o9 o11 (Nat.le_refl _); replace o11 := own_mono o11 HB.size; have dQ7Q10 := Q7.aparts_new Q10 (Nat.le_refl _); have dQ8Q10 := Q8.aparts_new Q10 (Nat.le_refl _); have dQ9Q10 := Q9.aparts_new Q10 (Nat.le_refl _); replace Q10 := Q10.mono HB.size; have dQ7Q11 := Q7.aparts_new Q11 (Nat.le_refl _); have dQ8Q11 := Q8.aparts_new Q11 (Nat.le_refl _); have dQ9Q11 := Q9.aparts_new Q11 (Nat.le_refl _); replace Q11 := Q11.mono HB.size; replace Q9 := Q9.kept hgr (by simp); replace Q8 := Q8.kept hgr (by simp); replace Q7 := Q7.kept hgr (by simp); replace o6 := o6.kept hgr (by cases Value.ownBlock _ <;> simp); replace o7 := o7.kept hgr (by cases Value.ownBlock _ <;> simp); replace o8 := o8.kept hgr (by cases Value.ownBlock _ <;> simp); replace o9 := o9.kept hgr (by cases Value.ownBlock _ <;> simp); replace HB := HB.grown hgr (by have := HB.size; omega) (by simp); clear hb hgr)
    | (go_at_call 8; clear k3; (with_reducible refine (refSameAll_n os8 os10 na (len_map h89.out.1 Hna.out) A8 A10 c8 c10 (h89.out.1.trans h1011.out.1.symm) (by omega) (fits_map h89.out.1 Hlive.out) _ (RR.of_own o8 (len_map h89.out.1 Hna.out) Q8.recs) (RR.of_own o10 (len_map h1011.out.1 Hna.out) Q10.recs)).mono ?_); rintro e W8 ⟨rfl, hb⟩; have hgr := grown_of_below hb; replace Q11 := Q11.kept hgr (by simp); replace Q10 := Q10.kept hgr (by simp); replace Q9 := Q9.kept hgr (by simp); replace Q8 := Q8.kept hgr (by simp); replace Q7 := Q7.kept hgr (by simp); replace o6 := o6.kept hgr (by cases Value.ownBlock _ <;> simp); replace o7 := o7.kept hgr (by cases Value.ownBlock _ <;> simp); replace o8 := o8.kept hgr (by cases Value.ownBlock _ <;> simp); replace o9 := o9.kept hgr (by cases Value.ownBlock _ <;> simp); replace o10 := o10.kept hgr (by cases Value.ownBlock _ <;> simp); replace o11 := o11.kept hgr (by cases Value.ownBlock _ <;> simp); replace HB := HB.grown hgr (by have := HB.size; omega) (by simp); clear hb hgr)
    | (go_at_call 8; clear k4; (with_reducible refine (refSameAll_n os9 os11 nd (len_map h89.out.2 Hnd.out) A9 A11 c9 c11 (h89.out.2.trans h1011.out.2.symm) (by omega) (fits_map h89.out.2 Hdead.out) _ (RR.of_own o9 (len_map h89.out.2 Hnd.out) Q9.recs) (RR.of_own o11 (len_map h1011.out.2 Hnd.out) Q11.recs)).mono ?_); rintro e W9 ⟨rfl, hb⟩; have hgr := grown_of_below hb; replace Q11 := Q11.kept hgr (by simp); replace Q10 := Q10.kept hgr (by simp); replace Q9 := Q9.kept hgr (by simp); replace Q8 := Q8.kept hgr (by simp); replace Q7 := Q7.kept hgr (by simp); replace o6 := o6.kept hgr (by cases Value.ownBlock _ <;> simp); replace o7 := o7.kept hgr (by cases Value.ownBlock _ <;> simp); replace o8 := o8.kept hgr (by cases Value.ownBlock _ <;> simp); replace o9 := o9.kept hgr (by cases Value.ownBlock _ <;> simp); replace o10 := o10.kept hgr (by cases Value.ownBlock _ <;> simp); replace o11 := o11.kept hgr (by cases Value.ownBlock _ <;> simp); replace HB := HB.grown hgr (by have := HB.size; omega) (by simp); clear hb hgr)
    | (go_at_call 8; (with_reducible refine (refSameAll_n os l n (len_R hos.out Hn.out) A6 A c6 c hos.out (by omega) (HofR.out Rec.Fits os (hos.out.trans HR.out) Hfit.out) _ (RR.of_longs o6 (len_R hos.out Hn.out) Q7) (Hr.out.next HB)).mono ?_); rintro e W10 ⟨rfl, hb⟩; have hgr := grown_of_below hb; replace Q11 := Q11.kept hgr (by simp); replace Q10 := Q10.kept hgr (by simp); replace Q9 := Q9.kept hgr (by simp); replace Q8 := Q8.kept hgr (by simp); replace Q7 := Q7.kept hgr (by simp); replace o6 := o6.kept hgr (by cases Value.ownBlock _ <;> simp); replace o7 := o7.kept hgr (by cases Value.ownBlock _ <;> simp); replace o8 := o8.kept hgr (by cases Value.ownBlock _ <;> simp); replace o9 := o9.kept hgr (by cases Value.ownBlock _ <;> simp); replace o10 := o10.kept hgr (by cases Value.ownBlock _ <;> simp); replace o11 := o11.kept hgr (by cases Value.ownBlock _ <;> simp); replace HB := HB.grown hgr (by have := HB.size; omega) (by simp); clear hb hgr)
    | ((with_reducible refine gate_dst (N := 66) rfl ?_); refine ev_box rfl rfl (#[.slice none 0 0, .slice none 0 0, .slice none 0 0, .slice none 0 0, .slice none 0 0, .slice none 0 0]) rfl ?_; intro g12 W11 hg12 hsz hbn; have hgr := grown_of_below hbn; have zg12 : w.heap.size ≤ g12 := (by have := HB.size; omega); replace Q11 := Q11.kept hgr (by simp); replace Q10 := Q10.kept hgr (by simp); replace Q9 := Q9.kept hgr (by simp); replace Q8 := Q8.kept hgr (by simp); replace Q7 := Q7.kept hgr (by simp); replace o6 := o6.kept hgr (by cases Value.ownBlock _ <;> simp); replace o7 := o7.kept hgr (by cases Value.ownBlock _ <;> simp); replace o8 := o8.kept hgr (by cases Value.ownBlock _ <;> simp); replace o9 := o9.kept hgr (by cases Value.ownBlock _ <;> simp); replace o10 := o10.kept hgr (by cases Value.ownBlock _ <;> simp); replace o11 := o11.kept hgr (by cases Value.ownBlock _ <;> simp); replace HB := HB.grown hgr (by have := HB.size; omega) (by simp); have hcg12 := hg12.cell; have hfg12 := hg12.frozen; clear hsz hbn hgr))
  obtain ⟨Pr, hPr⟩ : ∃ Pr : Nat → Prop, Pr = fun k => k < W11.heap.size ∧ k ≠ g12 ∧ ¬ LB A8 os8 k ∧ ¬ LB A9 os9 k := ⟨_, rfl⟩
  have plt : ∀ k, Pr k → k < W11.heap.size := fun k hk => by rw [hPr] at hk; exact hk.1
  have h6 : ∀ k, (Value.slice A6 n c6).ownBlock = some k → Pr k := fun k hk => by
    rw [hPr]
    exact ⟨own_lt o6 k hk, fun e => own_blk_ne o6 hg12 (by decide) (by rw [hk, e]), notLB_row o6 o8 Q8 do6o8 (by decide) k hk, notLB_row o6 o9 Q9 do6o9 (by decide) k hk⟩
  have h7 : ∀ k, (Value.slice A7 n c7).ownBlock = some k → Pr k := fun k hk => by
    rw [hPr]
    exact ⟨own_lt o7 k hk, fun e => own_blk_ne o7 hg12 (by decide) (by rw [hk, e]), notLB_row o7 o8 Q8 (own_ty_ne o7 o8 (by decide)) (by decide) k hk, notLB_row o7 o9 Q9 (own_ty_ne o7 o9 (by decide)) (by decide) k hk⟩
  have h10 : ∀ k, (Value.slice A10 na c10).ownBlock = some k → Pr k := fun k hk => by
    rw [hPr]
    exact ⟨own_lt o10 k hk, fun e => own_blk_ne o10 hg12 (by decide) (by rw [hk, e]), notLB_row o10 o8 Q8 (own_sym do8o10) (by decide) k hk, notLB_row o10 o9 Q9 (own_sym do9o10) (by decide) k hk⟩
  have h11 : ∀ k, (Value.slice A11 nd c11).ownBlock = some k → Pr k := fun k hk => by
    rw [hPr]
    exact ⟨own_lt o11 k hk, fun e => own_blk_ne o11 hg12 (by decide) (by rw [hk, e]), notLB_row o11 o8 Q8 (own_sym do8o11) (by decide) k hk, notLB_row o11 o9 Q9 (own_sym do9o11) (by decide) k hk⟩
  have q7 : ∀ x ∈ longs os, ∀ ad, x.2.1 = some ad → Pr ad.block := fun x hx ad e => by
    rw [hPr]
    exact ⟨(Q7.lt x hx ad e).2, fun e2 => Q7.ne_blk hg12 (by decide) x hx ad e (by rw [e2]), notLB_obs Q7 o8 dQ7Q8 x hx ad e, notLB_obs Q7 o9 dQ7Q9 x hx ad e⟩
  have q10 : ∀ x ∈ bs os10, ∀ ad, x.2.1 = some ad → Pr ad.block := fun x hx ad e => by
    rw [hPr]
    exact ⟨(Q10.lt x hx ad e).2, fun e2 => Q10.ne_blk hg12 (by decide) x hx ad e (by rw [e2]), notLB_obs Q10 o8 dQ8Q10.symm x hx ad e, notLB_obs Q10 o9 dQ9Q10.symm x hx ad e⟩
  have q11 : ∀ x ∈ bs os11, ∀ ad, x.2.1 = some ad → Pr ad.block := fun x hx ad e => by
    rw [hPr]
    exact ⟨(Q11.lt x hx ad e).2, fun e2 => Q11.ne_blk hg12 (by decide) x hx ad e (by rw [e2]), notLB_obs Q11 o8 dQ8Q11.symm x hx ad e, notLB_obs Q11 o9 dQ9Q11.symm x hx ad e⟩
  have l89 := notLB_LB o8 Q8 o9 Q9 d89.out.1 d89.out.2
  have l8 : ∀ k, LB A8 os8 k → ¬ (Pr k ∨ LB A9 os9 k) := fun k hk hp => by
    rcases hp with hp | hp
    · rw [hPr] at hp
      exact hp.2.2.1 hk
    · exact l89 k hk hp
  have l9 : ∀ k, LB A9 os9 k → ¬ Pr k := fun k hk hp => by
    rw [hPr] at hp
    exact hp.2.2.2 hk
  have hlow : ∀ k, k < w.heap.size → Pr k := fun k hk => by
    rw [hPr]
    have := HB.size
    exact ⟨by omega, by omega, fun h => by have := LB_ge o8 Q8 k h; omega, fun h => by have := LB_ge o9 Q9 k h; omega⟩
  have hng : ¬ ((Pr g12 ∨ LB A9 os9 g12) ∨ LB A8 os8 g12) := fun h => by
    rcases h with (h | h) | h
    · rw [hPr] at h
      exact h.2.1 rfl
    · rcases h with ⟨ad, e, e2⟩ | ⟨x, hx, ad, e, e2⟩
      · subst e
        exact own_blk_ne o9 hg12 (by decide) (by rw [← e2]; rfl)
      · exact Q9.ne_blk hg12 (by decide) x hx ad e (by rw [e2])
    · rcases h with ⟨ad, e, e2⟩ | ⟨x, hx, ad, e, e2⟩
      · subst e
        exact own_blk_ne o8 hg12 (by decide) (by rw [← e2]; rfl)
      · exact Q8.ne_blk hg12 (by decide) x hx ad e (by rw [e2])
  have M0 := Mk.start (Pr := fun k => (Pr k ∨ LB A9 os9 k) ∨ LB A8 os8 k) hg12 HB.size hng
  have plt9 : ∀ k, Pr k ∨ LB A9 os9 k → k < W11.heap.size := fun k hk => hk.elim (plt k) (LB_lt o9 Q9 k)
  have hd8 := fits_map (p := fun r => r.Data.length ≤ 1000000000) h89.out.1 HliveD.out
  have hd9 := fits_map (p := fun r => r.Data.length ≤ 1000000000) h89.out.2 HdeadD.out
  have hl8 := len_map h89.out.1 Hna.out
  have hl9 := len_map h89.out.2 Hnd.out
  have Plt := Lib.hid plt
  have Plt9 := Lib.hid plt9
  have H6 := Lib.hid h6
  have H7 := Lib.hid h7
  have H10 := Lib.hid h10
  have H11 := Lib.hid h11
  have Hq7 := Lib.hid q7
  have Hq10 := Lib.hid q10
  have Hq11 := Lib.hid q11
  have L8 := Lib.hid l8
  have L9 := Lib.hid l9
  have Hlow := Lib.hid hlow
  have Hd8 := Lib.hid hd8
  have Hd9 := Lib.hid hd9
  have Hl8 := Lib.hid hl8
  have Hl9 := Lib.hid hl9
  have HM0 := Lib.hid M0
  have HO6 := Lib.hid o6
  have HO7 := Lib.hid o7
  have HO8 := Lib.hid o8
  have HO9 := Lib.hid o9
  have HO10 := Lib.hid o10
  have HO11 := Lib.hid o11
  have HQ7 := Lib.hid Q7
  have HQ8 := Lib.hid Q8
  have HQ9 := Lib.hid Q9
  have HQ10 := Lib.hid Q10
  have HQ11 := Lib.hid Q11
  have HB11 := Lib.hid HB
  have HW := Lib.hid (show ∀ W, KX Pr W11 W → Below w.heap.size w W from fun W K => HB.trans (K.below hlow))
  clear hPr plt h6 h7 h10 h11 q7 q10 q11 l89 l8 l9 hlow hng M0 plt9 hd8 hd9 hl8 hl9 o6 o7 o8 o9 o10 o11 Q7 Q8 Q9 Q10 Q11 hg12 hcg12 hfg12
  have k5 : True := trivial
  go_wp2_with (first
    | (go_at_call 9; clear k5; (with_reducible refine (put_at (fun k => Pr k ∨ LB A9 os9 k) (-7) HM0.out Plt9.out L8.out Hl8.out (by omega) (by omega) Hd8.out HO8.out HQ8.out).mono ?_); rintro e W12 ⟨rfl, HE⟩; obtain ⟨a0, a1, a2, a3, M1, K1⟩ := HE.out; clear HE)
    | (go_at_call 9; (with_reducible refine (put_at Pr (-8) M1 (fun k hk => Nat.lt_of_lt_of_le (Plt.out k hk) K1.size) L9.out Hl9.out (by omega) (by omega) Hd9.out (K1.rowLB (os := os9) HO9.out (fun j hj => .inr hj)) (K1.obsLB (A := A9) HQ9.out (fun j hj => .inr hj))).mono ?_); rintro e W13 ⟨rfl, HE⟩; obtain ⟨b0, b1, b2, b3, M2, K2⟩ := HE.out; have K3 := (K1.sub (fun k hk => Or.inl hk)).trans K2; clear HE M1 K1 K2)
    | (go_at_call 10; (with_reducible refine (grow_at M2 (fun k hk => Nat.lt_of_lt_of_le (Plt.out k hk) K3.size) (by omega) (by omega)).mono ?_); rintro e W14 ⟨rfl, HE⟩; obtain ⟨b4, b5, us, vs, M3, K4⟩ := HE.out; have K5 := K3.trans K4; clear HE M2 K3 K4)
    | (go_at_call 5; (with_reducible refine (split_calls os n (len_R hos.out Hn.out) A6 c6 (by omega) (HofR.out Rec.Fits os (hos.out.trans HR.out) Hfit.out) (HofR.out sagaWf os (hos.out.trans HR.out) Hwf.out) R (hos.out.trans HR.out) na nd Hna.out Hnd.out _ (RR.of_longs (K5.row HO6.out H6.out) (len_R hos.out Hn.out) (K5.obs HQ7.out Hq7.out))).mono ?_); rintro e W15 ⟨A13, c13, A14, c14, os13, os14, rfl, h1314, o13, o14, Q13, Q14, d1314, hb15⟩))
  have p13 : ∀ k, LB A13 os13 k → ¬ (Pr k ∨ LB A14 os14 k) := fun k hk hp => by
    rcases hp with hp | hp
    · have h1 := Plt.out k hp
      have h2 := LB_ge o13 Q13 k hk
      have h3 := K5.size
      omega
    · exact notLB_LB o13 Q13 o14 Q14 d1314.out.1 d1314.out.2 k hk hp
  have p14 : ∀ k, LB A14 os14 k → ¬ Pr k := fun k hk hp => by
    have h1 := Plt.out k hp
    have h2 := LB_ge o14 Q14 k hk
    have h3 := K5.size
    omega
  have M4 := M3.renext (Qr := fun k => (Pr k ∨ LB A14 os14 k) ∨ LB A13 os13 k) hb15 (fun k hk => by
    rcases hk with (hk | hk) | hk
    · exact .inl hk
    · exact .inr (LB_ge o14 Q14 k hk)
    · exact .inr (LB_ge o13 Q13 k hk))
  have K6 := K5.next hb15
  have plt4 : ∀ k, (Pr k ∨ LB A14 os14 k) ∨ LB A13 os13 k → k < W15.heap.size := fun k hk => by
    rcases hk with (hk | hk) | hk
    · exact Nat.lt_of_lt_of_le (Plt.out k hk) K6.size
    · exact LB_lt o14 Q14 k hk
    · exact LB_lt o13 Q13 k hk
  have hbs : w.heap.size ≤ W14.heap.size := Nat.le_trans HB11.out.size K5.size
  replace o13 := own_mono o13 hbs
  replace o14 := own_mono o14 hbs
  replace Q13 := Q13.mono hbs
  replace Q14 := Q14.mono hbs
  have P13 := Lib.hid p13
  have P14 := Lib.hid p14
  have Plt4 := Lib.hid plt4
  have hl13 := len_map h1314.out.1 Hna.out
  have hl14 := len_map h1314.out.2 Hnd.out
  have Hl13 := Lib.hid hl13
  have Hl14 := Lib.hid hl14
  have Hd13 := Lib.hid (fits_map (p := fun r => r.Data.length ≤ 1000000000) h1314.out.1 HliveD.out)
  have Hd14 := Lib.hid (fits_map (p := fun r => r.Data.length ≤ 1000000000) h1314.out.2 HdeadD.out)
  clear p13 p14 plt4 hbs hl13 hl14 M3 K5 hb15
  have Y4 := KX.refl Plt4.out
  have k6 : True := trivial
  have k7 : True := trivial
  have k8 : True := trivial
  go_wp2_with (first
    | (go_at_call 8; clear k6; (with_reducible refine (refSameAll_n os13 os10 na Hl13.out A13 A10 c13 c10 (h1314.out.1.trans h1011.out.1.symm) (by omega) (fits_map h1314.out.1 Hlive.out) _ (RR.of_own o13 Hl13.out Q13.recs) (RR.of_own (K6.row HO10.out H10.out) (len_map h1011.out.1 Hna.out) (K6.obs HQ10.out Hq10.out).recs)).mono ?_); rintro e W1 ⟨rfl, hb⟩; have hgr := grown_of_below hb; replace Y4 := Y4.kept hgr (by simp); replace M4 := M4.kept hgr (by simp); replace Q14 := Q14.kept hgr (by simp); replace Q13 := Q13.kept hgr (by simp); replace o13 := o13.kept hgr (by cases Value.ownBlock _ <;> simp); replace o14 := o14.kept hgr (by cases Value.ownBlock _ <;> simp); replace K6 := K6.grown hgr; clear hb hgr)
    | (go_at_call 8; clear k7; (with_reducible refine (refSameAll_n os14 os11 nd Hl14.out A14 A11 c14 c11 (h1314.out.2.trans h1011.out.2.symm) (by omega) (fits_map h1314.out.2 Hdead.out) _ (RR.of_own o14 Hl14.out Q14.recs) (RR.of_own (K6.row HO11.out H11.out) (len_map h1011.out.2 Hnd.out) (K6.obs HQ11.out Hq11.out).recs)).mono ?_); rintro e W2 ⟨rfl, hb⟩; have hgr := grown_of_below hb; replace Y4 := Y4.kept hgr (by simp); replace M4 := M4.kept hgr (by simp); replace Q14 := Q14.kept hgr (by simp); replace Q13 := Q13.kept hgr (by simp); replace o13 := o13.kept hgr (by cases Value.ownBlock _ <;> simp); replace o14 := o14.kept hgr (by cases Value.ownBlock _ <;> simp); replace K6 := K6.grown hgr; clear hb hgr)
    | (go_at_call 8; (with_reducible refine (refSameAll_n os l n (len_R hos.out Hn.out) A6 A c6 c hos.out (by omega) (HofR.out Rec.Fits os (hos.out.trans HR.out) Hfit.out) _ (RR.of_longs (K6.row HO6.out H6.out) (len_R hos.out Hn.out) (K6.obs HQ7.out Hq7.out)) (Hr.out.next (HW.out _ K6))).mono ?_); rintro e W3 ⟨rfl, hb⟩; have hgr := grown_of_below hb; replace Y4 := Y4.kept hgr (by simp); replace M4 := M4.kept hgr (by simp); replace Q14 := Q14.kept hgr (by simp); replace Q13 := Q13.kept hgr (by simp); replace o13 := o13.kept hgr (by cases Value.ownBlock _ <;> simp); replace o14 := o14.kept hgr (by cases Value.ownBlock _ <;> simp); replace K6 := K6.grown hgr; clear hb hgr)
    | (go_at_call 11; (with_reducible refine (hold_at M4 (fun k hk => Nat.lt_of_lt_of_le (Plt4.out k hk) Y4.size) (by omega) (by omega)).mono ?_); rintro e W16 ⟨rfl, HE⟩; obtain ⟨⟨b6, b7, us2, vs2, M5⟩, K7⟩ := HE.out; have K8 := K6.trans (K7.sub (fun k hk => Or.inl (Or.inl hk))); replace o13 := K7.rowLB (os := os13) o13 (fun j hj => Or.inr hj); replace Q13 := K7.obsLB (A := A13) Q13 (fun j hj => Or.inr hj); replace o14 := K7.rowLB (os := os14) o14 (fun j hj => Or.inl (Or.inr hj)); replace Q14 := K7.obsLB (A := A14) Q14 (fun j hj => Or.inl (Or.inr hj)); clear HE M4 K6)
    | (go_at_call 9; clear k8; (with_reducible refine (put_at (fun k => Pr k ∨ LB A14 os14 k) (-9) M5 (fun k hk => Nat.lt_of_lt_of_le (Plt4.out k (Or.inl hk)) (Nat.le_trans Y4.size K7.size)) P13.out Hl13.out (by omega) (by omega) Hd13.out o13 Q13).mono ?_); rintro e W17 ⟨rfl, HE⟩; obtain ⟨d0, d1, d2, d3, M6, K9⟩ := HE.out; clear HE M5)
    | (go_at_call 9; (with_reducible refine (put_at Pr (-10) M6 (fun k hk => Nat.lt_of_lt_of_le (Plt.out k hk) (Nat.le_trans K8.size K9.size)) P14.out Hl14.out (by omega) (by omega) Hd14.out (K9.rowLB (os := os14) o14 (fun j hj => Or.inr hj)) (K9.obsLB (A := A14) Q14 (fun j hj => Or.inr hj))).mono ?_); rintro e W18 ⟨rfl, HE⟩; obtain ⟨f0, f1, f2, f3, M7, K10⟩ := HE.out; have K11 := (K8.trans (K9.sub (fun k hk => Or.inl hk))).trans K10; clear HE M6 K8 K9 K10))
  have HMK := Lib.hid (And.intro M7 K11)
  clear M7 K11 K7 Y4 o13 o14 Q13 Q14
  go_loopg [15] n (fun m v15 wr => ∃ k : Nat, m + k = n ∧ v15 = .int .i64 k ∧ Aside (wr = W18))
  case atStart => exact ⟨0, by omega, rfl, rfl⟩
  case round =>
    obtain ⟨k, hm, rfl, HA⟩ := hrel
    obtain rfl : W18 = wr := HA.out.symm
    clear HA
    by_cases hlt : k < n
    · have s1 : decide ((k : Int) < (n : Int)) = true := by rw [decide_eq_true_eq]; omega
      have s1' : decide (k < n) = true := by rw [decide_eq_true_eq]; exact hlt
      obtain ⟨x, hx⟩ : ∃ x, os[k]? = some x := ⟨_, List.getElem?_eq_getElem (by rw [len_R hos.out Hn.out]; exact hlt)⟩
      obtain ⟨r, Ai, ci⟩ := x
      obtain ⟨nb, hnb⟩ : ∃ nb, r.Data.length = nb := ⟨_, rfl⟩
      have hnbl : nb ≤ 1048576 := by
        have h1 := HofR.out (fun r => r.Data.length ≤ 1048576) os (hos.out.trans HR.out) (fun y hy => (Hs.out y hy).2) _ (List.mem_of_getElem? hx)
        simp only at h1
        omega
      obtain ⟨g7, hg7, _⟩ := own_at HO7.out (by omega)
      have o7 := HMK.out.2.row HO7.out H7.out
      subst hg7
      have hc7 := own_cellN o7 k (baCells_get (longs_get hx))
      simp only [List.length_append, hnb, show pad3.length = 3 from rfl] at hc7
      have hB := (HMK.out.2.obs HQ7.out Hq7.out).all _ (List.mem_of_getElem? (longs_get hx))
      obtain ⟨gi, hgi, _⟩ := hB.at_ (by simp only [List.length_append, show pad3.length = 3 from rfl]; omega)
      simp only at hgi
      subst hgi
      have hat : ∀ j b, pad3[j]? = some b → W18.cell? ⟨gi, nb + j, none⟩ = some (.int .u8 b.toNat) := fun j b hj => ob_cell hB (show (r.Data ++ pad3)[nb + j]? = some b by rw [List.getElem?_append_right (by omega), hnb, Nat.add_sub_cancel_left]; exact hj)
      have hc91 : W18.cell? ⟨gi, nb, none⟩ = some (.int .u8 91) := hat 0 91 rfl
      have hc92 : W18.cell? ⟨gi, nb + 1, none⟩ = some (.int .u8 92) := hat 1 92 rfl
      have hc93 : W18.cell? ⟨gi, nb + 2, none⟩ = some (.int .u8 93) := hat 2 93 rfl
      clear hx hnb hat hB o7
      go_wp2
      go_roundg (gk - 1)
      case measure => omega
      case rel => exact ⟨k + 1, by omega, by go_num, rfl⟩
    · obtain rfl : k = n := by omega
      have s1 : decide ((k : Int) < (k : Int)) = false := by simp
      have s1' : decide (k < k) = false := by simp
      have M8 := HMK.out.1
      have K8 := HMK.out.2
      clear HMK
      go_wp2_with (first
        | (go_at_call 11; (with_reducible refine (hold_at M8 (fun k hk => Nat.lt_of_lt_of_le (Plt.out k hk) K8.size) (by omega) (by omega)).mono ?_); rintro e W16 ⟨rfl, HE⟩; have K9 := K8.trans HE.out.2; clear HE M8 K8)
        | (go_at_call 8; (with_reducible refine (refSameAll_n os l k (len_R hos.out Hn.out) A6 A c6 c hos.out (by omega) (HofR.out Rec.Fits os (hos.out.trans HR.out) Hfit.out) _ (RR.of_longs (K9.row HO6.out H6.out) (len_R hos.out Hn.out) (K9.obs HQ7.out Hq7.out)) (Hr.out.next (HW.out _ K9))).mono ?_); rintro e W19 ⟨rfl, hb⟩; replace K9 := K9.next hb; clear hb))
      go_ret
      exact ⟨rfl, HW.out _ K9⟩
end Go.Proofs.Ytikodgaomhmbmaa
