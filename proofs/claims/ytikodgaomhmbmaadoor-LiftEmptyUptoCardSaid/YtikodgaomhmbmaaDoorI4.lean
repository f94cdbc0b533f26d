/-
  The walks of annalslaw4.hollow, unspoilt and of the law LiftEmpty.
-/
import Derived.Test.YtikodgaomhmbmaaDoorI3
set_option linter.unusedVariables false
set_option linter.unusedSimpArgs false
namespace Go.Proofs.YtikodgaomhmbmaaDoor
open Go.RowKit
attribute [local go_sem] Rec.size_ Rec.g0 Rec.g1 Rec.g2 Rec.g3 Rec.g4 Rec.g5 Rec.g6 Rec.g7 Rec.g8 Rec.g9 Rec.g10 Rec.g11 Rec.fold Rec.lit_fold

/-- Eighty bytes of a mark. -/
def hollowL (k : Nat) : List UInt8 := List.replicate k 211
theorem hollowL_len (k : Nat) : (hollowL k).length = k := by simp [hollowL]
set_option maxHeartbeats 2000000 in
set_option maxRecDepth 100000 in
theorem hollow_calls (w : World) : Calls Tryd.prog 44 #[] w fun e w' => ∃ g c', e = .returned (.slice (some ⟨g, 0, none⟩) 80 c') ∧ OB w' w.heap.size (some ⟨g, 0, none⟩) c' (hollowL 80) ∧ Below w.heap.size w w' := by
  have HB := Below.refl w.heap.size w
  go_enter Tryd.func44, Tryd.ntmps44
  go_wp2
  go_loopg [1, 2] 80 (fun m v1 v2 wr => ∃ (k : Nat) (A' : Option Addr) (c' : Nat), m + k = 80 ∧ v2 = .int .i64 k ∧ v1 = .slice A' k c' ∧ Aside (wr.ownsRow w.heap.size 5 1 (.slice A' k c') k (u8s (hollowL k)) ∧ Below w.heap.size w wr))
  case atStart => exact ⟨0, none, 0, by omega, rfl, rfl, ⟨own_nil _ _ _ _, HB⟩⟩
  case round =>
    clear HB
    obtain ⟨k, A2, c2, hm, rfl, rfl, HA⟩ := hrel
    obtain ⟨o1, HB⟩ := HA.out
    clear HA
    by_cases hlt : k < 80
    · have s1 : decide ((k : Int) < 80) = true := by rw [decide_eq_true_eq]; omega
      have s1' : decide (k < 80) = true := by rw [decide_eq_true_eq]; exact hlt
      have hnext : hollowL (k + 1) = hollowL k ++ [211] := by unfold hollowL; rw [List.replicate_succ']
      have Hnext := Lib.hid hnext
      clear hnext
      go_wp2_with (first
        | ((with_reducible refine gate_dst (N := 8) rfl ?_); refine ev_lit rfl rfl (#[.int .u8 211]) 5 1 (by first | (go_simp; done) | (go_simp; rfl)) ?_; intro g5 W1 hg5 hsz hbn; have hgr := grown_of_below hbn; have zg5 : w.heap.size ≤ g5 := (by have := HB.size; omega); replace o1 := o1.kept hgr (by cases Value.ownBlock _ <;> simp); replace HB := HB.grown hgr (by have := HB.size; omega) (by simp); have hcg5 := hg5.cell; have hfg5 := hg5.frozen; clear hsz hbn hgr)
        | ((with_reducible refine gate_dst (N := 9) rfl ?_); refine ev_append rfl rfl Tryd.underlying25 info_u8 rfl (by omega) rfl o1 rfl (hg5.reads (size := 1) (n := 1) rfl) (fun u hu => by simp at hu; subst hu; rfl) (by omega) (by omega) (by have := HB.size; omega) ?_; intro A6 c6 W2 on hgr hat; replace HB := HB.grown hgr (by have := HB.size; omega) (own_base o1); replace o1 := on; clear on hgr hat))
      go_roundg (gk - 1)
      case measure => omega
      case rel => exact ⟨k + 1, A6, c6, by omega, by go_num, rfl, ⟨by rw [Hnext.out, u8s_append]; simpa [u8s] using o1, HB⟩⟩
    · have s1 : decide ((k : Int) < 80) = false := by rw [decide_eq_false_iff_not]; omega
      have s1' : decide (k < 80) = false := by rw [decide_eq_false_iff_not]; exact hlt
      obtain rfl : k = 80 := by omega
      obtain ⟨g, rfl, _⟩ := own_at o1 (by omega)
      go_wp2
      go_ret
      exact ⟨g, c2, rfl, OB.of_own (by rw [hollowL_len]; exact o1), HB⟩
set_option maxHeartbeats 2000000 in
set_option maxRecDepth 100000 in
theorem unspoilt_calls (A : Option Addr) (c : Nat) (w : World) (hr : RB w A (hollowL 80)) : Calls Tryd.prog 45 #[.slice A 80 c] w fun e w' => e = .returned (.bool true) ∧ Below w.heap.size w w' := by
  have HB := Below.refl w.heap.size w
  have Hr := Lib.hid hr
  clear hr
  go_enter Tryd.func45, Tryd.ntmps45
  go_wp2
  go_loopg [3] 80 (fun m v3 wr => ∃ k : Nat, m + k = 80 ∧ v3 = .int .i64 k ∧ Aside (Below w.heap.size w wr))
  case atStart => exact ⟨0, by omega, rfl, HB⟩
  case round =>
    clear HB
    obtain ⟨k, hm, rfl, HA⟩ := hrel
    have HB := HA.out
    clear HA
    by_cases hlt : k < 80
    · have s1 : decide ((k : Int) < 80) = true := by rw [decide_eq_true_eq]; omega
      have s1' : decide (k < 80) = true := by rw [decide_eq_true_eq]; exact hlt
      obtain ⟨ad, had, hc⟩ := (Hr.out.next HB).cell_at (k := k) (b := 211) (by unfold hollowL; rw [List.getElem?_replicate, if_pos hlt])
      have hc' : wr.cell? (ad.add k) = some (.int .u8 211) := hc
      subst had
      clear hc Hr
      go_wp2
      go_roundg (gk - 1)
      case measure => omega
      case rel => exact ⟨k + 1, by omega, by go_num, HB⟩
    · have s1 : decide ((k : Int) < 80) = false := by rw [decide_eq_false_iff_not]; omega
      have s1' : decide (k < 80) = false := by rw [decide_eq_false_iff_not]; exact hlt
      go_wp2
      go_ret
      exact ⟨rfl, HB⟩

/-- The records, the data of the first i emptied. -/
structure Emptied (os : List RA) (i : Nat) (cur : List RA) : Prop where
  len : cur.length = os.length
  at_ : ∀ k x, os[k]? = some x → ∃ y, cur[k]? = some y ∧ y.1.Name = x.1.Name ∧ (k < i → y.1.Data = []) ∧ (i ≤ k → y = x)
theorem Emptied.start (os : List RA) : Emptied os 0 os := ⟨rfl, fun k x hx => ⟨x, hx, rfl, fun h => by omega, fun _ => rfl⟩⟩
theorem Emptied.step {os cur : List RA} {i : Nat} (h : Emptied os i cur) {x : RA} (hx : cur[i]? = some x) (A : Option Addr) (c : Nat) : Emptied os (i + 1) (cur.set i ({ x.1 with Data := [] }, A, c)) := by
  refine ⟨by rw [List.length_set]; exact h.len, fun k z hz => ?_⟩
  obtain ⟨y, h1, h2, h3, h4⟩ := h.at_ k z hz
  by_cases hk : k = i
  · subst hk
    rw [hx] at h1
    injection h1 with h1
    subst h1
    exact ⟨({ x.1 with Data := [] }, A, c), by rw [List.getElem?_set_self (List.getElem?_eq_some_iff.1 hx).1], h2, fun _ => rfl, fun h => by omega⟩
  · exact ⟨y, by rw [List.getElem?_set_ne (fun e => hk e.symm)]; exact h1, h2, fun h => h3 (by omega), fun h => h4 (by omega)⟩
theorem Emptied.data {os cur : List RA} {i : Nat} (h : Emptied os i cur) (hi : os.length ≤ i) : ∀ y ∈ cur, y.1.Data = [] := fun y hy => by
  obtain ⟨k, hk⟩ := List.mem_iff_getElem?.1 hy
  have hkl : k < os.length := by rw [← h.len]; exact (List.getElem?_eq_some_iff.1 hk).1
  obtain ⟨z, h1, _, h3, _⟩ := h.at_ k _ (List.getElem?_eq_getElem hkl)
  rw [hk] at h1
  injection h1 with h1
  rw [h1]
  exact h3 (by omega)
theorem Emptied.fits {os cur : List RA} {i : Nat} (h : Emptied os i cur) (hi : os.length ≤ i) (hf : ∀ y ∈ os, y.1.Fits) : ∀ y ∈ cur, y.1.Fits := fun y hy => by
  have hd := h.data hi y hy
  obtain ⟨k, hk⟩ := List.mem_iff_getElem?.1 hy
  have hkl : k < os.length := by rw [← h.len]; exact (List.getElem?_eq_some_iff.1 hk).1
  obtain ⟨z, h1, h2, _, _⟩ := h.at_ k _ (List.getElem?_eq_getElem hkl)
  rw [hk] at h1
  injection h1 with h1
  refine ⟨by rw [h1, h2]; exact (hf _ (List.getElem_mem hkl)).name, by rw [hd]; decide⟩
theorem Emptied.get {os cur : List RA} {i : Nat} (h : Emptied os i cur) {k : Nat} (hk : k < os.length) : ∃ x, cur[k]? = some x := by
  obtain ⟨y, h1, _⟩ := h.at_ k _ (List.getElem?_eq_getElem hk)
  exact ⟨y, h1⟩
theorem empty_cells {os : List RA} {i : Nat} {x : RA} (h : os[i]? = some x) (A : Option Addr) (c : Nat) : recCells (os.set i ({ x.1 with Data := [] }, A, c)) = (recCells os).set (i * 12 + 11) (.slice A 0 c) :=
  recCells_set 11 _ h rfl (by decide)
theorem rr_empty {w : World} {base n c : Nat} {A : Option Addr} {e : TypeId} {os : List RA} (h : w.ownsRow base e 12 (.slice A n c) n (recCells os)) (hn : os.length = n) (hd : ∀ y ∈ os, y.1.Data = []) : RR w A os :=
  ⟨by subst hn; exact Reads.of_own h, fun x hx => by rw [hd x hx]; exact RB.nil⟩

set_option maxHeartbeats 8000000 in
set_option maxRecDepth 100000 in
theorem liftEmpty_calls (to : Int) (l : List RA) (A : Option Addr) (c : Nat) (hl : l.length ≤ 1048576) (hfit : ∀ y ∈ l, y.1.Fits) (w : World) (hT : Tabs w) (ht : Tab w 1 waysL) (hr : RR w A l) :
    Calls Tryd.prog 7 #[.int .i64 to, .slice A l.length c] w fun e w' => e = .returned (.bool true) ∧ Below w.heap.size w w' := by
  have HB := Below.refl w.heap.size w
  have HT := Lib.hid hT
  have Ht := Lib.hid ht
  have Hr := Lib.hid hr
  have Hfit := Lib.hid hfit
  obtain ⟨n, hn⟩ : ∃ n, l.length = n := ⟨_, rfl⟩
  rw [hn] at hl ⊢
  have cc := fun w => cloneAll_n l n hn A c (by omega) hfit w
  have Cc := Lib.hid cc
  have Hn := Lib.hid hn
  clear hT ht hr hfit hn cc
  go_enter Tryd.func7, Tryd.ntmps7
  go_wp2_with (first
    | (go_at_call 36; (with_reducible refine (Cc.out _ (Hr.out.next HB)).mono ?_); rintro e W1 ⟨A7, c7, os, rfl, hos, o7, Q7, hb⟩; have hgr := grown_of_below hb; replace o7 := own_mono o7 HB.size; replace HB := HB.grown hgr (by have := HB.size; omega) (by simp); clear hb hgr))
  have Hos := Lib.hid (show os.length = n from (map_len hos.out).trans Hn.out)
  have Hof := Lib.hid (map_fits hos.out Hfit.out)
  clear Q7 hos Cc Hr Hfit Hn
  go_loopg [6, 7] n (fun m v6 v7 wr => ∃ (i : Nat) (A6 : Option Addr) (c6 : Nat) (ws : List BA) (cur : List RA), m + i = n ∧ v7 = .int .i64 i ∧ v6 = .slice A6 i c6 ∧
    Aside (Emptied os i cur ∧ ws.length = i ∧ (∀ x ∈ ws, x.1 = hollowL 80) ∧ wr.ownsRow w.heap.size 25 1 (.slice A6 i c6) i (baCells ws) ∧ wr.ownsRow w.heap.size 27 12 (.slice A7 n c7) n (recCells cur) ∧ OBs wr w.heap.size ws ∧ Below w.heap.size w wr))
  case atStart => exact ⟨0, none, 0, [], os, by omega, rfl, rfl, ⟨Emptied.start os, rfl, (fun x hx => by cases hx), own_nil _ _ _ _, o7, OBs.nil, HB⟩⟩
  case round =>
    clear o7 HB
    obtain ⟨i, A6, c6, ws, cur, hm, rfl, rfl, HA⟩ := hrel
    obtain ⟨hE, hwl, hws, o6, o7, Q6, HB⟩ := HA.out
    clear HA
    have HE := Lib.hid hE
    have Hws := Lib.hid (And.intro hwl hws)
    clear hE hwl hws
    by_cases hlt : i < n
    · have s1 : decide ((i : Int) < (n : Int)) = true := by rw [decide_eq_true_eq]; omega
      have s1' : decide (i < n) = true := by rw [decide_eq_true_eq]; exact hlt
      obtain ⟨g7, rfl, _⟩ := own_at o7 (by omega)
      obtain ⟨x, hx⟩ := HE.out.get (k := i) (by rw [Hos.out]; exact hlt)
      have Hx := Lib.hid hx
      clear hx
      go_wp2_with (first
        | (go_at_call 44; (with_reducible refine (hollow_calls _).mono ?_); rintro e W1 ⟨g8, c8, rfl, B8, hb⟩; have hgr := grown_of_below hb; have dQ6B8 := Q6.apart_new B8 (Nat.le_refl _); replace B8 := B8.mono HB.size; replace Q6 := Q6.kept hgr (by simp); replace o6 := o6.kept hgr (by cases Value.ownBlock _ <;> simp); replace o7 := o7.kept hgr (by cases Value.ownBlock _ <;> simp); replace HB := HB.grown hgr (by have := HB.size; omega) (by simp); clear hb hgr)
        | ((with_reducible refine gate_dst (N := 25) rfl ?_); refine ev_lit rfl rfl (#[.slice (some ⟨g8, 0, none⟩) 80 c8]) 25 1 (by first | (go_simp; done) | (go_simp; rfl)) ?_; intro g5 W2 hg5 hsz hbn; have hgr := grown_of_below hbn; have zg5 : w.heap.size ≤ g5 := (by have := HB.size; omega); replace B8 := B8.kept hgr (by simp); replace Q6 := Q6.kept hgr (by simp); replace o6 := o6.kept hgr (by cases Value.ownBlock _ <;> simp); replace o7 := o7.kept hgr (by cases Value.ownBlock _ <;> simp); replace HB := HB.grown hgr (by have := HB.size; omega) (by simp); have hcg5 := hg5.cell; have hfg5 := hg5.frozen; clear hsz hbn hgr)
        | ((with_reducible refine gate_dst (N := 26) rfl ?_); refine ev_append rfl rfl Tryd.underlying24 info_bytes rfl (by omega) rfl o6 rfl (hg5.reads (size := 1) (n := 1) rfl) (fun u hu => by simp at hu; subst hu; rfl) (by omega) (by omega) (by have := HB.size; omega) ?_; intro A9 c9 W3 on hgr hat; replace B8 := B8.kept hgr (OB.ne_own B8 o6 (by decide)); replace Q6 := Q6.kept hgr (OBs.ne_own Q6 o6 (by decide)); replace o7 := o7.kept hgr (by first | assumption | exact own_ty_ne o7 o6 (by decide) | exact own_sym (by assumption)); replace HB := HB.grown hgr (by have := HB.size; omega) (own_base o6); replace o6 := on; clear on hgr hat)
        | ((with_reducible refine gate_store (p := 32) rfl ?_); refine ev_store_ownN rfl rfl rfl o7 (k := (i * 12 + 11)) (v := .slice (some ⟨g8, 0, none⟩) 0 c8) (by omega) rfl rfl (by kernel_rfl) (by kernel_rfl) ?_; intro W4 on hgr; replace B8 := B8.kept hgr (OB.ne_own B8 o7 (by decide)); replace Q6 := Q6.kept hgr (OBs.ne_own Q6 o7 (by decide)); replace o6 := o6.kept hgr (by first | assumption | exact own_ty_ne o6 o7 (by decide) | exact own_sym (by assumption)); replace HB := HB.grown hgr (by have := HB.size; omega) (own_base o7); replace o7 := on; clear on hgr))
      go_roundg (gk - 1)
      case measure => omega
      case rel => exact ⟨i + 1, A9, c9, ws ++ [(hollowL 80, some ⟨g8, 0, none⟩, c8)], cur.set i ({ x.1 with Data := [] }, some ⟨g8, 0, none⟩, c8), by omega, by go_num, rfl, ⟨HE.out.step Hx.out _ _, by rw [List.length_append, Hws.out.1]; rfl, (fun y hy => by
        rcases List.mem_append.1 hy with hy | hy
        · exact Hws.out.2 y hy
        · rw [mem_one hy]), by rw [baCells_append]; exact o6, by rw [empty_cells Hx.out]; exact o7, Q6.snoc B8 dQ6B8, HB⟩⟩
    · obtain rfl : i = n := by omega
      have s1 : decide ((i : Int) < (i : Int)) = false := by simp
      have s1' : decide (i < i) = false := by simp
      have hcd := HE.out.data (by rw [Hos.out]; exact Nat.le_refl _)
      have hcf := HE.out.fits (by rw [Hos.out]; exact Nat.le_refl _) Hof.out
      have hcl : cur.length = i := HE.out.len.trans Hos.out
      obtain ⟨X, m, hXm, hm3, hXf, cl⟩ := lifted_any to (cur.map (·.1)) i (by simpa using hcl) (by omega) (mapped hcf)
      have Cl2 := Lib.hid (fun w => cl cur A7 c7 w rfl)
      have Hcd := Lib.hid (And.intro hcl hcd)
      have HXm := Lib.hid hXm
      have HXf := Lib.hid hXf
      obtain ⟨n3, hn3⟩ : ∃ n3, n3 = 3 * m := ⟨_, rfl⟩
      have Hn3 := Lib.hid hn3
      have k1 : True := trivial
      have k2 : True := trivial
      have k3 : True := trivial
      have k4 : True := trivial
      clear hcd hcf hcl cl hXm hXf hn3 HE Hof Hos
      go_wp2_with (first
        | (go_at_call 31; clear k1; (with_reducible refine (Cl2.out _ (HT.out.next HB) (Ht.out.next HB) (rr_empty o7 Hcd.out.1 Hcd.out.2)).mono ?_); rintro e W1 ⟨A9, c9, os9, rfl, hos9, o9, Q9, hb⟩; have hgr := grown_of_below hb; have do6o9 := own_apart o6 o9 (Nat.le_refl _); have do7o9 := own_apart o7 o9 (Nat.le_refl _); replace o9 := own_mono o9 HB.size; have dQ6Q9 := Q6.aparts_new Q9 (Nat.le_refl _); replace Q9 := Q9.mono HB.size; replace Q6 := Q6.kept hgr (by simp); replace o6 := o6.kept hgr (by cases Value.ownBlock _ <;> simp); replace o7 := o7.kept hgr (by cases Value.ownBlock _ <;> simp); replace HB := HB.grown hgr (by have := HB.size; omega) (by simp); clear hb hgr)
        | (go_at_call 34; clear k2; (with_reducible refine (data_calls os9 m ((len_of_map hos9.out).trans HXm.out) A9 c9 (by omega) _ (Reads.of_own o9)).mono ?_); rintro e W2 ⟨A10, c10, rfl, o10, hb⟩; have hgr := grown_of_below hb; have do6o10 := own_apart o6 o10 (Nat.le_refl _); have do7o10 := own_apart o7 o10 (Nat.le_refl _); have do9o10 := own_apart o9 o10 (Nat.le_refl _); replace o10 := own_mono o10 HB.size; replace Q9 := Q9.kept hgr (by simp); replace Q6 := Q6.kept hgr (by simp); replace o6 := o6.kept hgr (by cases Value.ownBlock _ <;> simp); replace o7 := o7.kept hgr (by cases Value.ownBlock _ <;> simp); replace o9 := o9.kept hgr (by cases Value.ownBlock _ <;> simp); replace HB := HB.grown hgr (by have := HB.size; omega) (by simp); clear hb hgr)
        | (go_at_call 33; clear k3; have QF := Q9; (with_reducible refine (filled4_n (bs os9) m n3 ((bs_len os9).trans ((len_of_map hos9.out).trans HXm.out)) Hn3.out A10 c10 _ w.heap.size (by omega) (bs_short (fits_of_map hos9.out HXf.out)) _ HB.size QF o10).mono ?_); rintro e W3 ⟨A11, c11, ts, rfl, hmore, o11, hX⟩; have do6o11 := own_apart o6 o11 (Nat.le_refl _); have do7o11 := own_apart o7 o11 (Nat.le_refl _); have do9o11 := own_apart o9 o11 (Nat.le_refl _); have do10o11 := own_apart o10 o11 (Nat.le_refl _); replace o11 := own_mono o11 HB.size; replace o6 := own_spared o6 hX.sp QF (by decide); replace o7 := own_spared o7 hX.sp QF (by decide); replace o9 := own_spared o9 hX.sp QF (by decide); replace o10 := own_spared o10 hX.sp QF (by decide); replace Q6 := Q6.spared hX.sp dQ6Q9.symm; replace HB := hX.sp.keeps QF HB (Nat.le_refl _) HB.size; have V1 := hX.fam; clear hX QF))
      go_wp2_with (first
        | (go_at_call 31; (with_reducible refine (Cl2.out _ (HT.out.next HB) (Ht.out.next HB) (rr_empty o7 Hcd.out.1 Hcd.out.2)).mono ?_); rintro e W1 ⟨A12, c12, os12, rfl, hos12, o12, Q12, hb⟩; have hgr := grown_of_below hb; have do6o12 := own_apart o6 o12 (Nat.le_refl _); have do7o12 := own_apart o7 o12 (Nat.le_refl _); have do9o12 := own_apart o9 o12 (Nat.le_refl _); have do11o12 := own_apart o11 o12 (Nat.le_refl _); replace o12 := own_mono o12 HB.size; have dQ6Q12 := Q6.aparts_new Q12 (Nat.le_refl _); have dV1Q12 := V1.aparts_new Q12 (Nat.le_refl _); replace Q12 := Q12.mono HB.size; replace V1 := V1.kept hgr (by simp); replace Q6 := Q6.kept hgr (by simp); replace o6 := o6.kept hgr (by cases Value.ownBlock _ <;> simp); replace o7 := o7.kept hgr (by cases Value.ownBlock _ <;> simp); replace o9 := o9.kept hgr (by cases Value.ownBlock _ <;> simp); replace o11 := o11.kept hgr (by cases Value.ownBlock _ <;> simp); replace HB := HB.grown hgr (by have := HB.size; omega) (by simp); clear hb hgr)
        | (go_at_call 34; clear k4; (with_reducible refine (data_calls os12 m ((len_of_map hos12.out).trans HXm.out) A12 c12 (by omega) _ (Reads.of_own o12)).mono ?_); rintro e W2 ⟨A14, c14, rfl, o14, hb⟩; have hgr := grown_of_below hb; have do6o14 := own_apart o6 o14 (Nat.le_refl _); have do7o14 := own_apart o7 o14 (Nat.le_refl _); have do9o14 := own_apart o9 o14 (Nat.le_refl _); have do11o14 := own_apart o11 o14 (Nat.le_refl _); have do12o14 := own_apart o12 o14 (Nat.le_refl _); replace o14 := own_mono o14 HB.size; replace Q12 := Q12.kept hgr (by simp); replace V1 := V1.kept hgr (by simp); replace Q6 := Q6.kept hgr (by simp); replace o6 := o6.kept hgr (by cases Value.ownBlock _ <;> simp); replace o7 := o7.kept hgr (by cases Value.ownBlock _ <;> simp); replace o9 := o9.kept hgr (by cases Value.ownBlock _ <;> simp); replace o11 := o11.kept hgr (by cases Value.ownBlock _ <;> simp); replace o12 := o12.kept hgr (by cases Value.ownBlock _ <;> simp); replace HB := HB.grown hgr (by have := HB.size; omega) (by simp); clear hb hgr)
        | (go_at_call 33; have QF := Q12; (with_reducible refine (filled4_n (bs os12) m n3 ((bs_len os12).trans ((len_of_map hos12.out).trans HXm.out)) Hn3.out A14 c14 _ w.heap.size (by omega) (bs_short (fits_of_map hos12.out HXf.out)) _ HB.size QF o14).mono ?_); rintro e W3 ⟨A15, c15, ts2, rfl, hmore2, o15, hX⟩; have do6o15 := own_apart o6 o15 (Nat.le_refl _); have do7o15 := own_apart o7 o15 (Nat.le_refl _); have do9o15 := own_apart o9 o15 (Nat.le_refl _); have do11o15 := own_apart o11 o15 (Nat.le_refl _); have do12o15 := own_apart o12 o15 (Nat.le_refl _); have do14o15 := own_apart o14 o15 (Nat.le_refl _); replace o15 := own_mono o15 HB.size; replace o6 := own_spared o6 hX.sp QF (by decide); replace o7 := own_spared o7 hX.sp QF (by decide); replace o9 := own_spared o9 hX.sp QF (by decide); replace o11 := own_spared o11 hX.sp QF (by decide); replace o12 := own_spared o12 hX.sp QF (by decide); replace o14 := own_spared o14 hX.sp QF (by decide); replace Q6 := Q6.spared hX.sp dQ6Q12.symm; replace V1 := V1.spared hX.sp dV1Q12; replace HB := hX.sp.keeps QF HB (Nat.le_refl _) HB.size; have V2 := hX.fam; clear hX QF))
      have F6 := Lib.hid (And.intro o6 Q6)
      have F9 := Lib.hid (And.intro o9 (And.intro o11 (And.intro o12 (And.intro o15 (And.intro V1 (And.intro V2 HB))))))
      clear o6 Q6 o9 o11 o12 o15 V1 V2 HB
      go_loopg [13] i (fun m v13 wr => ∃ k : Nat, m + k = i ∧ v13 = .int .i64 k ∧ Aside (Below W3.heap.size W3 wr))
      case atStart => exact ⟨0, by omega, rfl, Below.refl _ _⟩
      case round =>
        obtain ⟨k, hmk, rfl, HA⟩ := hrel
        have HZ := HA.out
        clear HA
        by_cases hk : k < i
        · have r1 : decide ((k : Int) < (i : Int)) = true := by rw [decide_eq_true_eq]; omega
          have r1' : decide (k < i) = true := by rw [decide_eq_true_eq]; exact hk
          obtain ⟨x, hx⟩ : ∃ x, ws[k]? = some x := ⟨_, List.getElem?_eq_getElem (by rw [Hws.out.1]; exact hk)⟩
          have hx1 := Hws.out.2 x (List.mem_of_getElem? hx)
          obtain ⟨b, Ak, ck⟩ := x
          simp only at hx1
          subst hx1
          obtain ⟨g6, rfl, _⟩ := own_at F6.out.1 (by omega)
          have hc : _ := own_cellN (own_next F6.out.1 HZ) k (baCells_get hx)
          rw [show ((hollowL 80, Ak, ck) : BA).1.length = 80 from hollowL_len 80] at hc
          have hr : RB _ Ak (hollowL 80) := ((F6.out.2.next HZ).all _ (List.mem_of_getElem? hx)).rb
          clear hx F6 F9
          have HB := HZ
          go_wp2_with (first
            | (go_at_call 45; (with_reducible refine (unspoilt_calls Ak ck _ hr).mono ?_); rintro e W1 ⟨rfl, hb⟩; have hgr := grown_of_below hb; replace HB := HB.grown hgr (by have := HB.size; omega) (by simp); clear hb hgr))
          go_roundg (gk - 1)
          case measure => omega
          case rel => exact ⟨k + 1, by omega, by go_num, HB⟩
        · have r1 : decide ((k : Int) < (i : Int)) = false := by rw [decide_eq_false_iff_not]; omega
          have r1' : decide (k < i) = false := by rw [decide_eq_false_iff_not]; exact hk
          obtain ⟨o9, o11, o12, o15, V1, V2, HB⟩ := F9.out
          replace o9 := own_next o9 HZ
          replace o11 := own_next o11 HZ
          replace o12 := own_next o12 HZ
          replace o15 := own_next o15 HZ
          replace V1 := V1.next HZ
          replace V2 := V2.next HZ
          replace HB := below_go HB HZ
          clear F6 F9 HZ
          go_wp2_with (first
            | (go_at_call 28; (with_reducible refine (started_calls _ (HT.out.next HB) (Ht.out.next HB)).mono ?_); rintro e W1 ⟨rfl, hb⟩; have hgr := grown_of_below hb; replace V2 := V2.kept hgr (by simp); replace V1 := V1.kept hgr (by simp); replace o9 := o9.kept hgr (by cases Value.ownBlock _ <;> simp); replace o11 := o11.kept hgr (by cases Value.ownBlock _ <;> simp); replace o12 := o12.kept hgr (by cases Value.ownBlock _ <;> simp); replace o15 := o15.kept hgr (by cases Value.ownBlock _ <;> simp); replace HB := HB.grown hgr (by have := HB.size; omega) (by simp); clear hb hgr)
            | (go_at_call 34; (with_reducible refine (data_calls os9 m ((len_of_map hos9.out).trans HXm.out) A9 c9 (by omega) _ (Reads.of_own o9)).mono ?_); rintro e W2 ⟨A17, c17, rfl, o17, hb⟩; have hgr := grown_of_below hb; have do9o17 := own_apart o9 o17 (Nat.le_refl _); have do11o17 := own_apart o11 o17 (Nat.le_refl _); have do12o17 := own_apart o12 o17 (Nat.le_refl _); have do15o17 := own_apart o15 o17 (Nat.le_refl _); replace o17 := own_mono o17 HB.size; replace V2 := V2.kept hgr (by simp); replace V1 := V1.kept hgr (by simp); replace o9 := o9.kept hgr (by cases Value.ownBlock _ <;> simp); replace o11 := o11.kept hgr (by cases Value.ownBlock _ <;> simp); replace o12 := o12.kept hgr (by cases Value.ownBlock _ <;> simp); replace o15 := o15.kept hgr (by cases Value.ownBlock _ <;> simp); replace HB := HB.grown hgr (by have := HB.size; omega) (by simp); clear hb hgr)
            | (go_at_call 35; (with_reducible refine (stand4_calls (bs os9) m n3 Hn3.out A17 A11 c17 c11 ts _ (stands_of_fam hmore.out ((bs_len os9).trans ((len_of_map hos9.out).trans HXm.out)) o17 (own_n Hn3.out o11) V1 (by omega) (bs_short (fits_of_map hos9.out HXf.out)))).mono ?_); rintro e W3 ⟨rfl, hb⟩; have hgr := grown_of_below hb; replace V2 := V2.kept hgr (by simp); replace V1 := V1.kept hgr (by simp); replace o9 := o9.kept hgr (by cases Value.ownBlock _ <;> simp); replace o11 := o11.kept hgr (by cases Value.ownBlock _ <;> simp); replace o12 := o12.kept hgr (by cases Value.ownBlock _ <;> simp); replace o15 := o15.kept hgr (by cases Value.ownBlock _ <;> simp); replace o17 := o17.kept hgr (by cases Value.ownBlock _ <;> simp); replace HB := HB.grown hgr (by have := HB.size; omega) (by simp); clear hb hgr)
            | (go_at_call 34; (with_reducible refine (data_calls os12 m ((len_of_map hos12.out).trans HXm.out) A12 c12 (by omega) _ (Reads.of_own o12)).mono ?_); rintro e W4 ⟨A18, c18, rfl, o18, hb⟩; have hgr := grown_of_below hb; have do9o18 := own_apart o9 o18 (Nat.le_refl _); have do11o18 := own_apart o11 o18 (Nat.le_refl _); have do12o18 := own_apart o12 o18 (Nat.le_refl _); have do15o18 := own_apart o15 o18 (Nat.le_refl _); have do17o18 := own_apart o17 o18 (Nat.le_refl _); replace o18 := own_mono o18 HB.size; replace V2 := V2.kept hgr (by simp); replace V1 := V1.kept hgr (by simp); replace o9 := o9.kept hgr (by cases Value.ownBlock _ <;> simp); replace o11 := o11.kept hgr (by cases Value.ownBlock _ <;> simp); replace o12 := o12.kept hgr (by cases Value.ownBlock _ <;> simp); replace o15 := o15.kept hgr (by cases Value.ownBlock _ <;> simp); replace o17 := o17.kept hgr (by cases Value.ownBlock _ <;> simp); replace HB := HB.grown hgr (by have := HB.size; omega) (by simp); clear hb hgr)
            | (go_at_call 35; (with_reducible refine (stand4_calls (bs os12) m n3 Hn3.out A18 A15 c18 c15 ts2 _ (stands_of_fam hmore2.out ((bs_len os12).trans ((len_of_map hos12.out).trans HXm.out)) o18 (own_n Hn3.out o15) V2 (by omega) (bs_short (fits_of_map hos12.out HXf.out)))).mono ?_); rintro e W5 ⟨rfl, hb⟩; have hgr := grown_of_below hb; replace V2 := V2.kept hgr (by simp); replace V1 := V1.kept hgr (by simp); replace o9 := o9.kept hgr (by cases Value.ownBlock _ <;> simp); replace o11 := o11.kept hgr (by cases Value.ownBlock _ <;> simp); replace o12 := o12.kept hgr (by cases Value.ownBlock _ <;> simp); replace o15 := o15.kept hgr (by cases Value.ownBlock _ <;> simp); replace o17 := o17.kept hgr (by cases Value.ownBlock _ <;> simp); replace o18 := o18.kept hgr (by cases Value.ownBlock _ <;> simp); replace HB := HB.grown hgr (by have := HB.size; omega) (by simp); clear hb hgr))
          go_ret
          exact ⟨rfl, HB⟩
end Go.Proofs.YtikodgaomhmbmaaDoor
