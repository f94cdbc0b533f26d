/-
  The walk of annalslaw12.Marks.grow.
-/
import Derived.Test.YtikodgaomhmbmaaS8
set_option linter.unusedVariables false
set_option linter.unusedSimpArgs false
namespace Go.Proofs.Ytikodgaomhmbmaa
open Go.RowKit
attribute [local go_sem] Rec.size_ Rec.g0 Rec.g1 Rec.g2 Rec.g3 Rec.g4 Rec.g5 Rec.g6 Rec.g7 Rec.g8 Rec.g9 Rec.g10 Rec.g11 Rec.fold Rec.lit_fold

theorem mem_ev {α : Type} {z : α} {l : List α} : z ∈ [z] ++ l := by simp
theorem blk_list {w : World} {g : Nat} {t : TypeId} {cs : Array Value} (h : Blk w g t cs) : ∀ j u, cs.toList[j]? = some u → w.cell? ((⟨g, 0, none⟩ : Addr).add j) = some u := by
  intro j u hu
  have e : (⟨g, 0, none⟩ : Addr).add j = ⟨g, j, none⟩ := by unfold Addr.add; split <;> simp_all
  rw [e, h.cell]
  simpa using hu
theorem ob_cell {w : World} {base c g : Nat} {l : List UInt8} (h : OB w base (some ⟨g, 0, none⟩) c l) {k : Nat} {b : UInt8} (hk : l[k]? = some b) : w.cell? ⟨g, k, none⟩ = some (.int .u8 b.toNat) := by
  have := h.cell rfl (j := k) (u := .int .u8 b.toNat) (by unfold u8s; rw [List.getElem?_map, hk]; rfl)
  rwa [show (⟨g, 0, none⟩ : Addr).add k = ⟨g, k, none⟩ by unfold Addr.add; split <;> simp_all] at this
def GrowSaid (Pr : Nat → Prop) (base : Nat) (w : World) (g n m : Nat) (a0 a1 a2 a3 : AC) (ls : List BA) (rs : List GA) (ss : List Int) (e : Ending) (w' : World) : Prop :=
  e = .returned (.tuple #[]) ∧ Aside (∃ a4 a5 xs ys, Mk Pr base w' g n m n m a0 a1 a2 a3 a4 a5 ls xs rs ys ss ∧ KX Pr w w')

set_option maxHeartbeats 8000000 in
set_option maxRecDepth 100000 in
theorem grow_calls (Pr : Nat → Prop) (base : Nat) (w : World) (g0 n m x y : Nat) (a0 a1 a2 a3 a4 a5 : AC) (ls xs : List BA) (rs ys : List GA) (ss : List Int) (hM : Mk Pr base w g0 n m x y a0 a1 a2 a3 a4 a5 ls xs rs ys ss) (hP : ∀ k, Pr k → k < w.heap.size) (hb1 : n ≤ 100000000) (hb2 : m ≤ 1000000) :
    Calls Try.prog 10 #[.pointer (some ⟨g0, 0, none⟩)] w (GrowSaid Pr base w g0 n m a0 a1 a2 a3 ls rs ss) := by
  have HG0 := Lib.hid (GrV.start hM hP)
  have HM := Lib.hid hM
  have hbase := hM.hbase
  have hxn := hM.hxn
  have hym := hM.hym
  have hg0 := hM.hg
  have hcg0 := hg0.cell
  obtain ⟨A0, c0⟩ := a0
  obtain ⟨A1, c1⟩ := a1
  obtain ⟨A2, c2⟩ := a2
  obtain ⟨A3, c3⟩ := a3
  clear hM hP
  unfold GrowSaid
  go_enter Try.func10, Try.ntmps10
  go_wp2
  clear hcg0 hg0
  go_loopg [2] (n - x) (fun k v2 wr => ∃ (i : Nat), k + i = n ∧ v2 = .int .i64 i ∧ Aside (∃ (b4 : AC) (us : List BA), GrV Pr base w wr g0 n m i y (A0, c0) (A1, c1) (A2, c2) (A3, c3) b4 a5 ls us rs ys ss [] [] ∧ us.length = i ∧ Bx ls us))
  case atStart => exact ⟨x, by omega, rfl, ⟨a4, xs, HG0.out, HM.out.lxs, HM.out.bx⟩⟩
  case round =>
    clear HG0
    obtain ⟨gm, rfl⟩ : ∃ gm, gm = gk := ⟨_, rfl⟩
    obtain ⟨i, hm, rfl, HA⟩ := hrel
    obtain ⟨⟨A4, c4⟩, us, HS, hul, hbx⟩ := HA.out
    clear HA
    have Hul := Lib.hid hul
    have Hbx := Lib.hid hbx
    have hg0 := HS.hg
    have hcg0 := hg0.cell
    clear hul hbx
    by_cases hlt : i < n
    · have s1 : decide ((i : Int) < (n : Int)) = true := by rw [decide_eq_true_eq]; omega
      have s1' : decide (i < n) = true := by rw [decide_eq_true_eq]; exact hlt
      obtain ⟨q, hx⟩ : ∃ q, ls[i]? = some q := ⟨_, List.getElem?_eq_getElem (by rw [HM.out.lls]; exact hlt)⟩
      obtain ⟨hq1, hq2⟩ := HM.out.bl i _ hx
      obtain ⟨b, Ai, ci⟩ := q
      obtain ⟨nb, hnb⟩ : ∃ nb, b.length = nb := ⟨_, rfl⟩
      simp only at hq1 hq2
      rw [hnb] at hq1 hq2
      subst hq1
      have Hx := Lib.hid hx
      obtain ⟨gL, hgL, _⟩ := own_at HS.o0 (by omega)
      simp only at hgL
      subst hgL
      obtain ⟨gB, hgB, _⟩ := HS.B1.at_ (by rw [mks_len]; omega)
      simp only at hgB
      subst hgB
      have hL : ∀ (W : World) (ev : List (Nat × BA)), GrV Pr base w W g0 n m i y (some ⟨gL, 0, none⟩, c0) (some ⟨gB, 0, none⟩, c1) (A2, c2) (A3, c3) (A4, c4) a5 ls us rs ys ss ev [] → W.cell? ⟨gL, i, none⟩ = some (.slice Ai nb ci) ∧ W.cell? ⟨gB, i, none⟩ = some (.int .u8 (UInt8.ofNat (1 + i % 250)).toNat) := fun W ev h => by
        refine ⟨?_, ob_cell h.B1 (mks_get hlt)⟩
        have := own_cellN h.o0 i (baCells_get Hx.out)
        simpa [MK_len] using this
      have HL := Lib.hid hL
      have h28 := (hL _ _ HS).1
      obtain ⟨mb, hmb⟩ : ∃ mb, mb = UInt8.ofNat (1 + i % 250) := ⟨_, rfl⟩
      have hone : MK i 1 = [mb] := by rw [hmb]; rfl
      have Hone := Lib.hid hone
      have Hmb := Lib.hid hmb
      have HX := Lib.hid (HS.sub (ev' := [(i, MK i (nb + 0), Ai, ci)]) (eg' := []) (fun z hz => by
        rcases List.mem_append.1 hz with hz | hz
        · obtain rfl := List.mem_singleton.1 hz
          exact List.mem_append_right _ (List.mem_append_left _ (tagged_mem.2 Hx.out))
        · exact List.mem_append_right _ hz) (fun z hz => hz))
      clear hx hL hnb hmb hone HS
      go_wp2
      clear hcg0 hg0 h28
      go_loopg [3, 4] (nb + 70) (fun k v3 v4 wr => ∃ (j : Nat) (A5 : Option Addr) (c5 : Nat), k + j = nb + 70 ∧ v4 = .int .i64 j ∧ v3 = .slice A5 (nb + j) c5 ∧ Aside (GrV Pr base w wr g0 n m i y (some ⟨gL, 0, none⟩, c0) (some ⟨gB, 0, none⟩, c1) (A2, c2) (A3, c3) (A4, c4) a5 ls us rs ys ss [(i, MK i (nb + j), A5, c5)] []))
      case atStart => exact ⟨0, Ai, ci, by omega, rfl, rfl, HX.out⟩
      case round =>
        clear HX
        obtain ⟨j, A5, c5, hm3, rfl, rfl, HA⟩ := hrel
        have X1 := HA.out
        clear HA
        have hcg0 := X1.hg.cell
        have h28 := (HL.out _ _ X1).1
        by_cases hj : j < nb + 70
        · have q1 : decide ((j : Int) < (nb : Int) + 70) = true := by rw [decide_eq_true_eq]; omega
          have q1' : decide (j < nb + 70) = true := by rw [decide_eq_true_eq]; exact hj
          have h8 := (HL.out _ _ X1).2
          rw [← Hmb.out] at h8
          have Hpp := Lib.hid (show MK i (nb + j) ++ MK i 1 <+: FB i by rw [MK_add]; exact FB_pre (by omega))
          have hlen : (MK i (nb + j)).length = nb + j := MK_len _ _
          have Hlen := Lib.hid hlen
          clear hlen
          go_wp2_with (first
            | ((with_reducible refine gate_dst (N := 50) rfl ?_); refine ev_lit rfl rfl (#[.int .u8 mb.toNat]) 5 1 (by first | (go_simp; done) | (go_simp; rfl)) ?_; intro g5 W1 hg5 hsz hbn; have hgr := grown_of_below hbn; have zg5 : w.heap.size ≤ g5 := (by have := X1.size; omega); replace X1 := X1.grown hgr; have hcg5 := hg5.cell; have hfg5 := hg5.frozen; clear hsz hbn hgr)
            | ((with_reducible refine gate_dst (N := 51) rfl ?_); refine ev_append_ob rfl rfl rfl Hlen.out (X1.fam.all _ mem_ev) (by have := X1.ok; have := X1.size; omega) rfl (MK_len i 1) (by rw [Hone.out]; exact blk_u8s (l := [mb]) hg5) (by omega) ?_; intro A6 c6 W2 hG; replace X1 := X1.append mem_ev Hpp.out hG; clear hG))
          have X3 := X1.sub (ev' := [(i, MK i (nb + (j + 1)), A6, c6)]) (eg' := []) (fun z hz => by
            rcases List.mem_append.1 hz with hz | hz
            · obtain rfl := List.mem_singleton.1 hz
              rw [show MK i (nb + (j + 1)) = MK i (nb + j) ++ MK i 1 from (MK_add i (nb + j) 1).symm]
              exact List.mem_append_left _ List.mem_cons_self
            · exact List.mem_append_right _ hz) (fun z hz => hz)
          go_roundg (gk - 1)
          case measure => omega
          case rel => exact ⟨j + 1, A6, c6, by omega, by go_num, rfl, X3⟩
        · have q1 : decide ((j : Int) < (nb : Int) + 70) = false := by rw [decide_eq_false_iff_not]; omega
          have q1' : decide (j < nb + 70) = false := by rw [decide_eq_false_iff_not]; exact hj
          obtain ⟨nz, hnz⟩ : ∃ nz, nz = nb + j := ⟨_, rfl⟩
          have hnz2 : nz = 2 * nb + 70 := by omega
          rw [← hnz] at X1 ⊢
          have hg0 := X1.hg
          have hfg0 := hg0.frozen
          have o0 := X1.o0
          have B1 := X1.B1
          have o2 := X1.o2
          have o3 := X1.o3
          have o4 := X1.o4
          have o5 := X1.o5
          have V1 := X1.fam
          have J1 := X1.famG
          have K1 := X1.K1
          have do0o4 := X1.do0o4
          have nKg0 := X1.nKg0
          have nKo4 := X1.nKo4
          have HXX := Lib.hid X1
          have Hnz2 := Lib.hid hnz2
          clear X1 hnz hnz2
          go_wp2_with (first
            | ((with_reducible refine gate_dst (N := 58) rfl ?_); refine ev_lit rfl rfl (#[.slice A5 nz c5]) 23 1 (by first | (go_simp; done) | (go_simp; rfl)) ?_; intro g5 W1 hg5 hsz hbn; have hgr := grown_of_below hbn; have ng0g5 : g0 ≠ g5 := (by have := hg0.lt; omega); have zg5 : w.heap.size ≤ g5 := (by have := K1.size; omega); replace J1 := J1.kept hgr (by simp); replace V1 := V1.kept hgr (by simp); replace B1 := B1.kept hgr (by simp); replace hg0 := hg0.grown hgr (by simp); replace o0 := o0.kept hgr (by cases Value.ownBlock _ <;> simp); replace o2 := o2.kept hgr (by cases Value.ownBlock _ <;> simp); replace o3 := o3.kept hgr (by cases Value.ownBlock _ <;> simp); replace o4 := o4.kept hgr (by cases Value.ownBlock _ <;> simp); replace o5 := o5.kept hgr (by cases Value.ownBlock _ <;> simp); replace K1 := K1.grown hgr; have hcg5 := hg5.cell; have hfg5 := hg5.frozen; replace hcg0 := hg0.cell; replace hfg0 := hg0.frozen; clear hsz hbn hgr)
            | ((with_reducible refine gate_dst (N := 59) rfl ?_); refine ev_append rfl rfl Try.underlying28 info_bytes rfl (by omega) rfl o4 rfl (hg5.reads (size := 1) (n := 1) rfl) (fun u hu => by simp at hu; subst hu; rfl) (by omega) (by omega) (by have := K1.size; omega) ?_; intro A6 c6 W2 on hgr hat; have eKo4 := kx_app K1 nKo4 hat; have eo0o4 := own_apart_app o0 do0o4 hat; replace J1 := J1.kept hgr (FamG.ne_own J1 o4 (by decide)); replace V1 := V1.kept hgr (Fam.ne_own V1 o4 (by decide)); replace B1 := B1.kept hgr (OB.ne_own B1 o4 (by decide)); replace hg0 := hg0.grown hgr (fun e => own_blk_ne o4 hg0 (by decide) e.symm); replace o0 := o0.kept hgr (do0o4); replace o2 := o2.kept hgr (by first | assumption | exact own_ty_ne o2 o4 (by decide) | exact own_sym (by assumption)); replace o3 := o3.kept hgr (by first | assumption | exact own_ty_ne o3 o4 (by decide) | exact own_sym (by assumption)); replace o5 := o5.kept hgr (by first | assumption | exact own_ty_ne o5 o4 (by decide) | exact own_sym (by assumption)); replace K1 := K1.kept hgr nKo4; replace do0o4 := eo0o4; clear eo0o4; replace nKo4 := eKo4; clear eKo4; replace o4 := on; replace hcg0 := hg0.cell; replace hfg0 := hg0.frozen; clear on hgr hat)
            | ((with_reducible refine gate_store (p := 61) rfl ?_); refine ev_store_cell rfl rfl rfl hg0 rfl (i := 4) (v := .slice A6 (i + 1) c6) rfl rfl (by kernel_rfl) (by first | exact (show (4 : Nat) < 12 by decide) | exact (show (4 : Nat) < 16 by decide) | exact (show (4 : Nat) < 6 by decide)) ?_; intro W3 hgn hgr; replace hgn : Blk W3 g0 _ (#[.slice (some ⟨gL, 0, none⟩) n c0, .slice (some ⟨gB, 0, none⟩) n c1, .slice A2 m c2, .slice A3 m c3, .slice A6 (i + 1) c6, .slice a5.1 y a5.2]) := hgn; replace J1 := J1.kept hgr (FamG.ne_blk J1 hg0 (by decide)); replace V1 := V1.kept hgr (Fam.ne_blk V1 hg0 (by decide)); replace B1 := B1.kept hgr (OB.ne_blk B1 hg0 (by decide)); replace o0 := o0.kept hgr (.inr (own_blk_ne o0 hg0 (by decide))); replace o2 := o2.kept hgr (.inr (own_blk_ne o2 hg0 (by decide))); replace o3 := o3.kept hgr (.inr (own_blk_ne o3 hg0 (by decide))); replace o4 := o4.kept hgr (.inr (own_blk_ne o4 hg0 (by decide))); replace o5 := o5.kept hgr (.inr (own_blk_ne o5 hg0 (by decide))); replace K1 := K1.kept hgr (kx_blk nKg0); replace hg0 := hgn; replace hcg0 := hg0.cell; replace hfg0 := hg0.frozen; clear hgn hgr))
          have hob := HXX.out
          have hsub : ∀ z ∈ [] ++ (tagged ls ++ tagged (us ++ [(MK i nz, A5, c5)])), z ∈ [(i, MK i nz, A5, c5)] ++ (tagged ls ++ tagged us) := fun z hz => by
            rw [tagged_snoc Hul.out] at hz
            simp only [List.nil_append, List.mem_append, List.mem_cons, List.not_mem_nil, or_false] at hz ⊢
            rcases hz with h | h | h <;> simp [h]
          have hbx2 := Hbx.out.snoc (z := (MK i nz, A5, c5)) Hul.out Hx.out (by simp only [MK_len, Hnz2.out])
          go_roundg (gm - 1)
          case measure => omega
          case rel => exact ⟨i + 1, by omega, by go_num, ⟨(A6, c6), us ++ [(MK i nz, A5, c5)], ⟨K1, hg0, o0, B1, o2, o3, by rw [baCells_append]; simpa [baCells, MK_len] using o4, o5, V1.sub hsub, J1, do0o4, hob.do2o5, fun z hz => hob.dV1B1 z (hsub z hz), nKg0, nKo4, hob.nKo5, fun z hz => hob.nKV z (hsub z hz), hob.nKJ, hbase⟩, by simp [Hul.out], hbx2⟩⟩
    · have e0 : n = i := by omega
      subst e0
      have s1 : decide ((n : Int) < (n : Int)) = false := by simp
      have s1' : decide (n < n) = false := by simp
      have HX0 := Lib.hid HS
      clear HS
      go_wp2
      clear hcg0 hg0
      go_loopg [5] (m - y) (fun k v5 wr => ∃ (i : Nat), k + i = m ∧ v5 = .int .i64 i ∧ Aside (∃ (b5 : AC) (vs : List GA), GrV Pr base w wr g0 n m n i (A0, c0) (A1, c1) (A2, c2) (A3, c3) (A4, c4) b5 ls us rs vs ss [] [] ∧ vs.length = i ∧ Ry rs vs ss))
      case atStart => exact ⟨y, by omega, rfl, ⟨a5, ys, HX0.out, HM.out.lys, HM.out.ry⟩⟩
      case round =>
        clear HX0
        obtain ⟨gm2, rfl⟩ : ∃ gm2, gm2 = gk := ⟨_, rfl⟩
        obtain ⟨i, hm2, rfl, HA⟩ := hrel
        obtain ⟨⟨A8, c8⟩, vs, HS, hvl, hry⟩ := HA.out
        clear HA
        have Hvl := Lib.hid hvl
        have Hry := Lib.hid hry
        have hg0 := HS.hg
        have hcg0 := hg0.cell
        clear hvl hry
        by_cases hlt : i < m
        · have s2 : decide ((i : Int) < (m : Int)) = true := by rw [decide_eq_true_eq]; omega
          have s2' : decide (i < m) = true := by rw [decide_eq_true_eq]; exact hlt
          obtain ⟨q, hx⟩ : ∃ q, rs[i]? = some q := ⟨_, List.getElem?_eq_getElem (by rw [HM.out.lrs]; exact hlt)⟩
          obtain ⟨s, hs⟩ : ∃ s, ss[i]? = some s := ⟨_, List.getElem?_eq_getElem (by rw [HM.out.lss]; exact hlt)⟩
          obtain ⟨hq1, hq2⟩ := HM.out.rl i _ s hx hs
          obtain ⟨cs, nb, Ai, ci⟩ := q
          simp only at hq1 hq2
          have Hq1 := Lib.hid hq1
          have Hx := Lib.hid hx
          have Hs := Lib.hid hs
          obtain ⟨gL, hgL, _⟩ := own_at HS.o2 (by omega)
          simp only at hgL
          subst hgL
          obtain ⟨gB, hgB, _⟩ := own_at HS.o3 (by omega)
          simp only at hgB
          subst hgB
          have hL : ∀ (W : World) (eg : List (Nat × GA)), GrV Pr base w W g0 n m n i (A0, c0) (A1, c1) (some ⟨gL, 0, none⟩, c2) (some ⟨gB, 0, none⟩, c3) (A4, c4) (A8, c8) ls us rs vs ss [] eg → W.cell? ⟨gL, i, none⟩ = some (.slice Ai nb ci) ∧ W.cell? ⟨gB, i, none⟩ = some (.int .i64 s) := fun W eg h =>
            ⟨own_cellN h.o2 i (gaCells_get Hx.out), own_cellN h.o3 i (inC_get Hs.out)⟩
          have HL := Lib.hid hL
          have h90 := (hL _ _ HS).1
          have HX := Lib.hid (HS.sub (ev' := []) (eg' := [(i, cs ++ padS s 0, nb + 0, Ai, ci)]) (fun z hz => hz) (fun z hz => by
            rcases List.mem_append.1 hz with hz | hz
            · obtain rfl := List.mem_singleton.1 hz
              rw [show cs ++ padS s 0 = cs by simp [padS, recCells]]
              exact List.mem_append_right _ (List.mem_append_left _ (taggedG_mem.2 Hx.out))
            · exact List.mem_append_right _ hz))
          clear hx hs hL hq1 HS
          go_wp2
          clear hcg0 hg0 h90
          go_loopg [6, 7] (nb + 20) (fun k v6 v7 wr => ∃ (j : Nat) (A5 : Option Addr) (c5 : Nat), k + j = nb + 20 ∧ v7 = .int .i64 j ∧ v6 = .slice A5 (nb + j) c5 ∧ Aside (GrV Pr base w wr g0 n m n i (A0, c0) (A1, c1) (some ⟨gL, 0, none⟩, c2) (some ⟨gB, 0, none⟩, c3) (A4, c4) (A8, c8) ls us rs vs ss [] [(i, cs ++ padS s j, nb + j, A5, c5)]))
          case atStart => exact ⟨0, Ai, ci, by omega, rfl, rfl, HX.out⟩
          case round =>
            clear HX
            obtain ⟨j, A5, c5, hm3, rfl, rfl, HA⟩ := hrel
            have X1 := HA.out
            clear HA
            have hcg0 := X1.hg.cell
            have h90 := (HL.out _ _ X1).1
            by_cases hj : j < nb + 20
            · have q1 : decide ((j : Int) < (nb : Int) + 20) = true := by rw [decide_eq_true_eq]; omega
              have q1' : decide (j < nb + 20) = true := by rw [decide_eq_true_eq]; exact hj
              have h8 := (HL.out _ _ X1).2
              have Hpp := Lib.hid (show (cs ++ padS s j) ++ padS s 1 <+: FRof rs ss i by rw [List.append_assoc, padS_add]; exact FRof_pre Hx.out Hs.out (by omega))
              go_wp2_with (first
                | ((with_reducible refine gate_dst (N := 105) rfl ?_); refine ev_lit rfl rfl ((sagaR s).cells none 0) 25 1 (by first | (go_simp; done) | (go_simp; rfl)) ?_; intro g5 W1 hg5 hsz hbn; have hgr := grown_of_below hbn; have zg5 : w.heap.size ≤ g5 := (by have := X1.size; omega); replace X1 := X1.grown hgr; have hcg5 := hg5.cell; have hfg5 := hg5.frozen; clear hsz hbn hgr)
                | ((with_reducible refine gate_dst (N := 106) rfl ?_); refine ev_append_share rfl rfl Try.underlying22 info_rec rfl (by omega) rfl (X1.famG.all _ mem_ev) (m := 1) (news := padS s 1) rfl (padS_len s 1) (by have h := blk_list hg5; simpa [padS, recCells, RA.cs] using h) recCells_1 (by omega) (by omega) (by have := X1.size; omega) ?_; intro A6 c6 W2 hG; replace X1 := X1.appendG mem_ev Hpp.out hG; clear hG))
              have X3 := X1.sub (ev' := []) (eg' := [(i, cs ++ padS s (j + 1), nb + (j + 1), A6, c6)]) (fun z hz => hz) (fun z hz => by
                rcases List.mem_append.1 hz with hz | hz
                · obtain rfl := List.mem_singleton.1 hz
                  rw [show cs ++ padS s (j + 1) = cs ++ padS s j ++ padS s 1 by rw [List.append_assoc, padS_add]]
                  exact List.mem_append_left _ List.mem_cons_self
                · exact List.mem_append_right _ hz)
              go_roundg (gk - 1)
              case measure => omega
              case rel => exact ⟨j + 1, A6, c6, by omega, by go_num, rfl, X3⟩
            · have q1 : decide ((j : Int) < (nb : Int) + 20) = false := by rw [decide_eq_false_iff_not]; omega
              have q1' : decide (j < nb + 20) = false := by rw [decide_eq_false_iff_not]; exact hj
              have e3 : j = nb + 20 := by omega
              obtain ⟨nz, hnz⟩ : ∃ nz, nz = nb + j := ⟨_, rfl⟩
              have hnz2 : nz = 2 * nb + 20 := by omega
              have hsg : SagaC (cs ++ padS s j) nz s := by rw [hnz]; exact Hq1.out.pad j
              rw [← hnz] at X1 ⊢
              have hg0 := X1.hg
              have hfg0 := hg0.frozen
              have o0 := X1.o0
              have B1 := X1.B1
              have o2 := X1.o2
              have o3 := X1.o3
              have o4 := X1.o4
              have o5 := X1.o5
              have V1 := X1.fam
              have J1 := X1.famG
              have K1 := X1.K1
              have do2o5 := X1.do2o5
              have nKg0 := X1.nKg0
              have nKo5 := X1.nKo5
              have HXX := Lib.hid X1
              have Hnz2 := Lib.hid hnz2
              have Hsg := Lib.hid hsg
              clear X1 hnz hnz2 hsg
              go_wp2_with (first
                | ((with_reducible refine gate_dst (N := 113) rfl ?_); refine ev_lit rfl rfl (#[.slice A5 nz c5]) 22 1 (by first | (go_simp; done) | (go_simp; rfl)) ?_; intro g5 W1 hg5 hsz hbn; have hgr := grown_of_below hbn; have ng0g5 : g0 ≠ g5 := (by have := hg0.lt; omega); have zg5 : w.heap.size ≤ g5 := (by have := K1.size; omega); replace J1 := J1.kept hgr (by simp); replace V1 := V1.kept hgr (by simp); replace B1 := B1.kept hgr (by simp); replace hg0 := hg0.grown hgr (by simp); replace o0 := o0.kept hgr (by cases Value.ownBlock _ <;> simp); replace o2 := o2.kept hgr (by cases Value.ownBlock _ <;> simp); replace o3 := o3.kept hgr (by cases Value.ownBlock _ <;> simp); replace o4 := o4.kept hgr (by cases Value.ownBlock _ <;> simp); replace o5 := o5.kept hgr (by cases Value.ownBlock _ <;> simp); replace K1 := K1.grown hgr; have hcg5 := hg5.cell; have hfg5 := hg5.frozen; replace hcg0 := hg0.cell; replace hfg0 := hg0.frozen; clear hsz hbn hgr)
                | ((with_reducible refine gate_dst (N := 114) rfl ?_); refine ev_append rfl rfl Try.underlying34 info_rss rfl (by omega) rfl o5 rfl (hg5.reads (size := 1) (n := 1) rfl) (fun u hu => by simp at hu; subst hu; rfl) (by omega) (by omega) (by have := K1.size; omega) ?_; intro A6 c6 W2 on hgr hat; have eKo5 := kx_app K1 nKo5 hat; have eo2o5 := own_apart_app o2 do2o5 hat; replace J1 := J1.kept hgr (FamG.ne_own J1 o5 (by decide)); replace V1 := V1.kept hgr (Fam.ne_own V1 o5 (by decide)); replace B1 := B1.kept hgr (OB.ne_own B1 o5 (by decide)); replace hg0 := hg0.grown hgr (fun e => own_blk_ne o5 hg0 (by decide) e.symm); replace o0 := o0.kept hgr (by first | assumption | exact own_ty_ne o0 o5 (by decide) | exact own_sym (by assumption)); replace o2 := o2.kept hgr (do2o5); replace o3 := o3.kept hgr (by first | assumption | exact own_ty_ne o3 o5 (by decide) | exact own_sym (by assumption)); replace o4 := o4.kept hgr (by first | assumption | exact own_ty_ne o4 o5 (by decide) | exact own_sym (by assumption)); replace K1 := K1.kept hgr nKo5; replace do2o5 := eo2o5; clear eo2o5; replace nKo5 := eKo5; clear eKo5; replace o5 := on; replace hcg0 := hg0.cell; replace hfg0 := hg0.frozen; clear on hgr hat)
                | ((with_reducible refine gate_store (p := 116) rfl ?_); refine ev_store_cell rfl rfl rfl hg0 rfl (i := 5) (v := .slice A6 (i + 1) c6) rfl rfl (by kernel_rfl) (by first | exact (show (5 : Nat) < 12 by decide) | exact (show (5 : Nat) < 16 by decide) | exact (show (5 : Nat) < 6 by decide)) ?_; intro W3 hgn hgr; replace hgn : Blk W3 g0 _ (#[.slice A0 n c0, .slice A1 n c1, .slice (some ⟨gL, 0, none⟩) m c2, .slice (some ⟨gB, 0, none⟩) m c3, .slice A4 n c4, .slice A6 (i + 1) c6]) := hgn; replace J1 := J1.kept hgr (FamG.ne_blk J1 hg0 (by decide)); replace V1 := V1.kept hgr (Fam.ne_blk V1 hg0 (by decide)); replace B1 := B1.kept hgr (OB.ne_blk B1 hg0 (by decide)); replace o0 := o0.kept hgr (.inr (own_blk_ne o0 hg0 (by decide))); replace o2 := o2.kept hgr (.inr (own_blk_ne o2 hg0 (by decide))); replace o3 := o3.kept hgr (.inr (own_blk_ne o3 hg0 (by decide))); replace o4 := o4.kept hgr (.inr (own_blk_ne o4 hg0 (by decide))); replace o5 := o5.kept hgr (.inr (own_blk_ne o5 hg0 (by decide))); replace K1 := K1.kept hgr (kx_blk nKg0); replace hg0 := hgn; replace hcg0 := hg0.cell; replace hfg0 := hg0.frozen; clear hgn hgr))
              have hob := HXX.out
              have hsub : ∀ z ∈ [] ++ (taggedG rs ++ taggedG (vs ++ [(cs ++ padS s j, nz, A5, c5)])), z ∈ [(i, cs ++ padS s j, nz, A5, c5)] ++ (taggedG rs ++ taggedG vs) := fun z hz => by
                rw [taggedG_snoc Hvl.out] at hz
                simp only [List.nil_append, List.mem_append, List.mem_cons, List.not_mem_nil, or_false] at hz ⊢
                rcases hz with h | h | h <;> simp [h]
              have hry2 := Hry.out.snoc (z := (cs ++ padS s j, nz, A5, c5)) Hvl.out Hx.out Hs.out (by simp only [Hnz2.out]) Hsg.out
              go_roundg (gm2 - 1)
              case measure => omega
              case rel => exact ⟨i + 1, by omega, by go_num, ⟨(A6, c6), vs ++ [(cs ++ padS s j, nz, A5, c5)], ⟨K1, hg0, o0, B1, o2, o3, o4, by rw [gaCells_append]; exact o5, V1, J1.sub hsub, hob.do0o4, do2o5, hob.dV1B1, nKg0, hob.nKo4, nKo5, hob.nKV, fun z hz => hob.nKJ z (hsub z hz), hbase⟩, by simp [Hvl.out], hry2⟩⟩
        · have e1 : m = i := by omega
          subst e1
          have s2 : decide ((m : Int) < (m : Int)) = false := by simp
          have s2' : decide (m < m) = false := by simp
          have HXX := Lib.hid HS
          clear HS
          go_wp2
          go_end0
          have h := HXX.out
          have k := HM.out
          have hmk : Mk Pr base wr g0 n m n m (A0, c0) (A1, c1) (A2, c2) (A3, c3) (A4, c4) (A8, c8) ls us rs vs ss :=
            ⟨h.hg, h.o0, h.B1, h.o2, h.o3, h.o4, h.o5, h.fam, h.famG, h.do0o4, h.do2o5, h.dV1B1, h.nKg0, k.nKo0, k.nKB1, k.nKo2, k.nKo3, h.nKo4, h.nKo5, h.nKV, h.nKJ, Nat.le_trans hbase h.size, k.lls, Hul.out, k.lrs, Hvl.out, k.lss, Nat.le_refl _, Nat.le_refl _, k.bl, Hbx.out, k.rl, Hry.out⟩
          exact ⟨rfl, ⟨⟨A4, c4, A8, c8, us, vs, hmk⟩, h.K1⟩⟩
end Go.Proofs.Ytikodgaomhmbmaa
