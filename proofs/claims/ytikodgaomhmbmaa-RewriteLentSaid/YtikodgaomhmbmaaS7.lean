/-
  The walk of annalslaw12.Marks.put.
-/
import Derived.Test.YtikodgaomhmbmaaS6
set_option linter.unusedVariables false
set_option linter.unusedSimpArgs false
namespace Go.Proofs.Ytikodgaomhmbmaa
open Go.RowKit
attribute [local go_sem] Rec.size_ Rec.g0 Rec.g1 Rec.g2 Rec.g3 Rec.g4 Rec.g5 Rec.g6 Rec.g7 Rec.g8 Rec.g9 Rec.g10 Rec.g11 Rec.fold Rec.lit_fold

theorem mk_put {Pr : Nat → Prop} {base : Nat} {w W : World} {g n m x y nl : Nat} {a0 a1 a2 a3 a4 a5 b0 b1 b2 b3 : AC} {A : Option Addr} {c : Nat} {os : List RA} {ls xs : List BA} {rs ys : List GA} {ss : List Int} {s : Int} {cur : List BA}
    (hM : Mk (fun k => Pr k ∨ LB A os k) base w g n m x y a0 a1 a2 a3 a4 a5 ls xs rs ys ss) (hl : os.length = nl) (hs : ∀ z ∈ os, z.1.Data.length ≤ 1000000000) (hnl : nl ≤ 100000000) (hc : Cur n (bs os) nl 0 cur) (hbase : base ≤ W.heap.size)
    (hg : Blk W g 37 #[.slice b0.1 (n + nl) b0.2, .slice b1.1 (n + nl) b1.2, .slice b2.1 (m + 1) b2.2, .slice b3.1 (m + 1) b3.2, .slice a4.1 x a4.2, .slice a5.1 y a5.2])
    (o0 : W.ownsRow base 23 1 (.slice b0.1 (n + nl) b0.2) (n + nl) (baCells (ls ++ (bs os).take nl))) (B1 : OB W base b1.1 b1.2 (mks (n + nl)))
    (o2 : W.ownsRow base 22 1 (.slice b2.1 (m + 1) b2.2) (m + 1) (gaCells rs ++ [.slice A nl c])) (o3 : W.ownsRow base 3 1 (.slice b3.1 (m + 1) b3.2) (m + 1) (inC ss ++ [.int .i64 s]))
    (o4 : W.ownsRow base 23 1 (.slice a4.1 x a4.2) x (baCells xs)) (o5 : W.ownsRow base 22 1 (.slice a5.1 y a5.2) y (gaCells ys))
    (oR : W.ownsRow base 25 12 (.slice A nl c) nl (recCells (sag s nl os))) (Q1 : OBs W base cur) (V1 : Fam FB W base (tagged ls ++ tagged xs)) (J1 : FamG 25 12 (FRof rs ss) W base (taggedG rs ++ taggedG ys))
    (do0o4 : (Value.slice b0.1 (n + nl) b0.2).ownBlock = none ∨ (Value.slice b0.1 (n + nl) b0.2).ownBlock ≠ (Value.slice a4.1 x a4.2).ownBlock) (do2o5 : (Value.slice b2.1 (m + 1) b2.2).ownBlock = none ∨ (Value.slice b2.1 (m + 1) b2.2).ownBlock ≠ (Value.slice a5.1 y a5.2).ownBlock)
    (dV1B1 : ∀ z ∈ tagged ls ++ tagged xs, Apart z.2.2.1 b1.1) (dQ1B1 : ∀ z ∈ cur, Apart z.2.1 b1.1) (dV1Q1 : ∀ z ∈ tagged ls ++ tagged xs, ∀ q ∈ bs os, Apart z.2.2.1 q.2.1) (dJ1oR : ∀ z ∈ taggedG rs ++ taggedG ys, ∀ ad, z.2.2.2.1 = some ad → some ad.block ≠ (Value.slice A nl c).ownBlock)
    (nKg0 : ¬ Pr g) (nKo0 : ∀ k, (Value.slice b0.1 (n + nl) b0.2).ownBlock = some k → ¬ Pr k) (nKB1 : ∀ ad, b1.1 = some ad → ¬ Pr ad.block) (nKo2 : ∀ k, (Value.slice b2.1 (m + 1) b2.2).ownBlock = some k → ¬ Pr k) (nKo3 : ∀ k, (Value.slice b3.1 (m + 1) b3.2).ownBlock = some k → ¬ Pr k)
    (nKoR : ∀ k, (Value.slice A nl c).ownBlock = some k → ¬ Pr k) (nKQ : ∀ q ∈ bs os, ∀ ad, q.2.1 = some ad → ¬ Pr ad.block) :
    Mk Pr base W g (n + nl) (m + 1) x y b0 b1 b2 b3 a4 a5 (ls ++ marksN n (bs os)) xs (rs ++ [(recCells (sag s nl os), nl, A, c)]) ys (ss ++ [s]) := by
  have hbl : (bs os).length = nl := by rw [bs_len]; exact hl
  obtain rfl : cur = marksN n (bs os) := by
    rw [← hbl] at hc
    exact hc.done
  have hln := hM.lls
  have hmem : ∀ z ∈ tagged (ls ++ marksN n (bs os)) ++ tagged xs, z ∈ tagged ls ++ tagged xs ∨ z.2 ∈ marksN n (bs os) := fun z hz => by
    rcases List.mem_append.1 hz with hz | hz
    · rw [tagged_mem] at hz
      rcases Nat.lt_or_ge z.1 ls.length with h1 | h1
      · rw [List.getElem?_append_left h1] at hz
        exact .inl (List.mem_append_left _ (tagged_mem.2 hz))
      · rw [List.getElem?_append_right h1] at hz
        exact .inr (List.mem_of_getElem? hz)
    · exact .inl (List.mem_append_right _ hz)
  have hmemG : ∀ z ∈ taggedG (rs ++ [(recCells (sag s nl os), nl, A, c)]) ++ taggedG ys, z ∈ taggedG rs ++ taggedG ys ∨ z.2 = (recCells (sag s nl os), nl, A, c) := fun z hz => by
    rcases List.mem_append.1 hz with hz | hz
    · rw [taggedG_mem] at hz
      rcases Nat.lt_or_ge z.1 rs.length with h1 | h1
      · rw [List.getElem?_append_left h1] at hz
        exact .inl (List.mem_append_left _ (taggedG_mem.2 hz))
      · rw [List.getElem?_append_right h1] at hz
        exact .inr (by have := List.mem_of_getElem? hz; simpa using this)
    · exact .inl (List.mem_append_right _ hz)
  refine ⟨hg, ?_, B1, ?_, ?_, o4, o5, fam_add V1 Q1 hln (fun i z hz => ?_) (by rw [hM.lxs]; exact hM.hxn) (fun z hz q hq => ?_), famG_add J1 oR hM.lrs hM.lss (by rw [hM.lys]; exact hM.hym) dJ1oR, do0o4, do2o5, fun z hz => ?_, nKg0, nKo0, nKB1, nKo2, nKo3,
    fun k hk hp => hM.nKo4 k hk (.inl hp), fun k hk hp => hM.nKo5 k hk (.inl hp), fun z hz ad e => ?_, fun z hz ad e => ?_, hbase, by rw [List.length_append, marksN_len, hbl, hln], hM.lxs, by rw [List.length_append, hM.lrs]; rfl, hM.lys, by rw [List.length_append, hM.lss]; rfl, Nat.le_trans hM.hxn (by omega), Nat.le_trans hM.hym (by omega),
    fun i z hz => ?_, fun i z hz => ?_, fun i z t hz ht => ?_, fun i z t hz ht => ?_⟩
  · rw [baCells_append, baCells_marksN, ← baCells_append]
    rwa [List.take_of_length_le (by omega)] at o0
  · rw [gaCells_append]
    exact o2
  · rw [inC_append]
    exact o3
  · rw [marksN_get] at hz
    obtain ⟨q, hq, rfl⟩ := Option.map_eq_some_iff.1 hz
    obtain ⟨r, hr, rfl⟩ := List.mem_map.1 (List.mem_of_getElem? hq)
    have := hs r hr
    exact FB_pre (by simp only; omega)
  · obtain ⟨u, hu, e⟩ := hc.lies hq
    rw [← e]
    exact dV1Q1 z hz u hu
  · rcases hmem z hz with hz | hz
    · exact dV1B1 z hz
    · exact dQ1B1 _ hz
  · rcases hmem z hz with hz | hz
    · exact fun hp => hM.nKV z hz ad e (.inl hp)
    · obtain ⟨u, hu, e2⟩ := hc.lies hz
      exact nKQ u hu ad (by rw [e2]; exact e)
  · rcases hmemG z hz with hz | hz
    · exact fun hp => hM.nKJ z hz ad e (.inl hp)
    · rw [hz] at e
      simp only at e
      subst e
      exact nKoR ad.block rfl
  · rcases Nat.lt_or_ge i ls.length with h1 | h1
    · rw [List.getElem?_append_left h1] at hz
      exact hM.bl i z hz
    · rw [List.getElem?_append_right h1, marksN_get] at hz
      obtain ⟨q, hq, rfl⟩ := Option.map_eq_some_iff.1 hz
      obtain ⟨r, hr, rfl⟩ := List.mem_map.1 (List.mem_of_getElem? hq)
      have := hs r hr
      simp only [MK_len]
      exact ⟨by rw [show n + (i - ls.length) = i by omega], this⟩
  · obtain ⟨u, hu, e⟩ := hM.bx i z hz
    exact ⟨u, by rw [List.getElem?_append_left (List.getElem?_eq_some_iff.1 hu).1]; exact hu, e⟩
  · rcases Nat.lt_or_ge i rs.length with h1 | h1
    · have := hM.lrs
      have := hM.lss
      rw [List.getElem?_append_left h1] at hz
      rw [List.getElem?_append_left (by omega)] at ht
      exact hM.rl i z t hz ht
    · have h2 := hM.lrs
      have h3 := hM.lss
      rw [List.getElem?_append_right h1] at hz
      rw [List.getElem?_append_right (by omega), h3, ← h2] at ht
      obtain ⟨h4, h5⟩ := List.getElem?_eq_some_iff.1 hz
      simp at h4
      have e0 : i - rs.length = 0 := by omega
      rw [e0] at hz ht
      simp at hz ht
      subst hz
      subst ht
      have := sag_all s os
      rw [hl] at this
      exact ⟨this, by simp only; omega⟩
  · have h2 := (List.getElem?_eq_some_iff.1 hz).1
    have h3 := hM.hym
    rw [hM.lys] at h2
    rw [List.getElem?_append_left (by rw [hM.lss]; omega)] at ht
    obtain ⟨u, hu, e⟩ := hM.ry i z t hz ht
    exact ⟨u, by rw [List.getElem?_append_left (List.getElem?_eq_some_iff.1 hu).1]; exact hu, e⟩

/-- What put leaves. -/
def PutSaid (Pr : Nat → Prop) (base : Nat) (w : World) (g n m x y nl : Nat) (a4 a5 : AC) (A : Option Addr) (c : Nat) (os : List RA) (ls xs : List BA) (rs ys : List GA) (ss : List Int) (s : Int) (e : Ending) (w' : World) : Prop :=
  e = .returned (.tuple #[]) ∧ Aside (∃ a0 a1 a2 a3, Mk Pr base w' g (n + nl) (m + 1) x y a0 a1 a2 a3 a4 a5 (ls ++ marksN n (bs os)) xs (rs ++ [(recCells (sag s nl os), nl, A, c)]) ys (ss ++ [s]) ∧ KX Pr w w')

set_option maxHeartbeats 8000000 in
set_option maxRecDepth 100000 in
theorem put_calls (Pr : Nat → Prop) (base : Nat) (w : World) (g0 n m x y nl : Nat) (a0 a1 a2 a3 a4 a5 : AC) (A : Option Addr) (c : Nat) (os : List RA) (ls xs : List BA) (rs ys : List GA) (ss : List Int) (s : Int)
    (hM : Mk (fun k => Pr k ∨ LB A os k) base w g0 n m x y a0 a1 a2 a3 a4 a5 ls xs rs ys ss) (hP : ∀ k, Pr k → k < w.heap.size) (hn : ∀ k, LB A os k → ¬ Pr k) (hl : os.length = nl) (hb1 : n + nl ≤ 100000000) (hb2 : m ≤ 1000000) (hs : ∀ z ∈ os, z.1.Data.length ≤ 1000000000)
    (ho : w.ownsRow base 25 12 (.slice A nl c) nl (recCells os)) (hQ : OBs w base (bs os)) :
    Calls Try.prog 9 #[.pointer (some ⟨g0, 0, none⟩), .slice A nl c, .int .i64 s] w (PutSaid Pr base w g0 n m x y nl a4 a5 A c os ls xs rs ys ss s) := by
  have HS0 := Lib.hid (PutSt.start (s := s) hM hP hn ho hQ)
  have HM := Lib.hid hM
  have Hl := Lib.hid hl
  have Hs := Lib.hid hs
  have Hn := Lib.hid hn
  have hbase := hM.hbase
  clear hM hP hn hl hs ho hQ
  unfold PutSaid
  go_enter Try.func9, Try.ntmps9
  go_wp2
  go_loopg [6] nl (fun k v6 wr => ∃ (i : Nat), k + i = nl ∧ v6 = .int .i64 i ∧ Aside (∃ (b0 b1 : AC) (ni : Nat) (cur : List BA), PutSt Pr base w wr g0 n m x y nl b0 b1 a2 a3 a4 a5 A c os ls xs rs ys ss s i 0 ni cur))
  case atStart => exact ⟨0, by omega, rfl, ⟨_, _, _, _, HS0.out⟩⟩
  case round =>
    clear HS0
    obtain ⟨gm, rfl⟩ : ∃ gm, gm = gk := ⟨_, rfl⟩
    obtain ⟨i, hm, rfl, HA⟩ := hrel
    obtain ⟨⟨A0, c0⟩, ⟨A1, c1⟩, ni, cur, HS⟩ := HA.out
    clear HA
    by_cases hlt : i < nl
    · have s1 : decide ((i : Int) < (nl : Int)) = true := by rw [decide_eq_true_eq]; omega
      have s1' : decide (i < nl) = true := by rw [decide_eq_true_eq]; exact hlt
      obtain ⟨q, hx⟩ : ∃ q, os[i]? = some q := ⟨_, List.getElem?_eq_getElem (by rw [Hl.out]; exact hlt)⟩
      obtain ⟨r, Ai, ci⟩ := q
      obtain ⟨gR, hgR, _⟩ := own_at HS.oR (by omega)
      subst hgR
      obtain ⟨nb, hnb⟩ : ∃ nb, r.Data.length = nb := ⟨_, rfl⟩
      have hnbl : nb ≤ 1000000000 := by have := Hs.out _ (List.mem_of_getElem? hx); simp only at this; omega
      have h11 := own_cellN HS.oR (i * 12 + 11) ((recCells_get (sag_at hx) 11 (by decide)).trans (Rec.g11 _ _ _))
      rw [hnb] at h11
      have hg0 := HS.hg
      have hcg0 := hg0.cell
      have hni := HS.hni
      have Hni := Lib.hid hni
      have hnil : ni ≤ 100000000 := by omega
      clear hni
      obtain ⟨mb, hmb⟩ : ∃ mb, mb = UInt8.ofNat (1 + ni % 250) := ⟨_, rfl⟩
      have tm : (ni : Int).tmod 250 = (ni : Int) % 250 := by rw [Int.tmod_eq_emod_of_nonneg (by omega)]
      have tw : IntKind.u8.wrap ((1 : Int) + (ni : Int) % 250) = (mb.toNat : Int) := by rw [hmb]; exact mark_wrap ni
      have Hmb := Lib.hid hmb
      have Hx := Lib.hid hx
      have Hnb := Lib.hid hnb
      have HSS := Lib.hid HS
      clear hmb hx hnb HS
      go_wp2
      clear hcg0 hg0 h11
      go_loopg [9] nb (fun k v9 wr => ∃ (j : Nat), k + j = nb ∧ v9 = .int .i64 j ∧ Aside (∃ (cur : List BA), PutSt Pr base w wr g0 n m x y nl (A0, c0) (A1, c1) a2 a3 a4 a5 (some ⟨gR, 0, none⟩) c os ls xs rs ys ss s i j ni cur))
      case atStart => exact ⟨0, by omega, rfl, ⟨_, HSS.out⟩⟩
      case round =>
        clear HSS
        obtain ⟨j, hmj, rfl, HA⟩ := hrel
        obtain ⟨cur, HS⟩ := HA.out
        clear HA
        by_cases hj : j < nb
        · have r1 : decide ((j : Int) < (nb : Int)) = true := by rw [decide_eq_true_eq]; omega
          have r1' : decide (j < nb) = true := by rw [decide_eq_true_eq]; exact hj
          obtain ⟨b', hb', hbl⟩ := HS.hcur.get (bs_get Hx.out)
          simp only at hbl
          have hB := HS.Q1.all _ (List.mem_of_getElem? hb')
          have hjb' : j < b'.length := by rw [hbl, Hnb.out]; exact hj
          obtain ⟨gi, hgi, _⟩ := hB.at_ (by simp only; omega)
          simp only at hgi
          subst hgi
          have Hb' := Lib.hid hb'
          have HFF := Lib.hid HS
          clear hb' HS hbl
          go_wp2_with (first
            | ((with_reducible refine gate_store (p := 38) rfl ?_); refine ev_store_ob (b := mb) rfl rfl rfl hB (k := j) hjb' rfl rfl (by kernel_rfl) ?_; intro W2 B9 hgr))
          rw [Hmb.out] at B9
          go_roundg (gk - 1)
          case measure => omega
          case rel => exact ⟨j + 1, by omega, by go_num, ⟨_, HFF.out.byte (bs_get Hx.out) Hb'.out (by rw [Hnb.out]; exact hj) B9 hgr⟩⟩
        · have r1 : decide ((j : Int) < (nb : Int)) = false := by rw [decide_eq_false_iff_not]; omega
          have r1' : decide (j < nb) = false := by rw [decide_eq_false_iff_not]; exact hj
          obtain rfl : j = nb := by omega
          have hg0 := HS.hg
          have o0 := HS.o0
          have B1 := HS.B1
          have o2 := HS.o2
          have o3 := HS.o3
          have o4 := HS.o4
          have o5 := HS.o5
          have o6 := HS.oR
          have Q1 := HS.Q1
          have V1 := HS.V1
          have J1 := HS.J1
          have K1 := HS.K1
          have do4o0 := own_sym HS.do0o4
          have do0o4 := HS.do0o4
          have dV1B1 := HS.dV1B1
          have dQ1B1 := HS.dQ1B1
          have dJ1o6 := HS.dJ1oR
          have nKg0 := HS.nKg0
          have nKo0 := HS.nKo0
          have nKB1 := HS.nKB1
          have nKo6 := HS.nKoR
          have HSS := Lib.hid HS
          have hcg0 := hg0.cell
          have hfg0 := hg0.frozen
          have hKs := K1.size
          have hmk : (mks ni).length = ni := mks_len _
          have Hmk := Lib.hid hmk
          have hi12 : i * 12 + 2 < nl * 12 := by omega
          clear HS hmk
          go_wp2_with (first
            | ((with_reducible refine gate_dst (N := 45) rfl ?_); refine ev_lit rfl rfl (#[.slice Ai j ci]) 23 1 (by first | (go_simp; done) | (go_simp; rfl)) ?_; intro g5 W1 hg5 hsz hbn; have hgr := grown_of_below hbn; have ng0g5 : g0 ≠ g5 := (by have := hg0.lt; omega); have zg5 : w.heap.size ≤ g5 := (by have := K1.size; omega); replace J1 := J1.kept hgr (by simp); replace V1 := V1.kept hgr (by simp); replace Q1 := Q1.kept hgr (by simp); replace B1 := B1.kept hgr (by simp); replace hg0 := hg0.grown hgr (by simp); replace o0 := o0.kept hgr (by cases Value.ownBlock _ <;> simp); replace o2 := o2.kept hgr (by cases Value.ownBlock _ <;> simp); replace o3 := o3.kept hgr (by cases Value.ownBlock _ <;> simp); replace o4 := o4.kept hgr (by cases Value.ownBlock _ <;> simp); replace o5 := o5.kept hgr (by cases Value.ownBlock _ <;> simp); replace o6 := o6.kept hgr (by cases Value.ownBlock _ <;> simp); replace K1 := K1.grown hgr; have hcg5 := hg5.cell; have hfg5 := hg5.frozen; replace hcg0 := hg0.cell; replace hfg0 := hg0.frozen; clear hsz hbn hgr)
            | ((with_reducible refine gate_dst (N := 46) rfl ?_); refine ev_append rfl rfl Try.underlying28 info_bytes rfl (by omega) rfl o0 rfl (hg5.reads (size := 1) (n := 1) rfl) (fun u hu => by simp at hu; subst hu; rfl) (by omega) (by omega) (by have := K1.size; omega) ?_; intro A6 c6 W2 on hgr hat; have eKo0 := kx_app K1 nKo0 hat; have eo4o0 := own_apart_app o4 do4o0 hat; replace J1 := J1.kept hgr (FamG.ne_own J1 o0 (by decide)); replace V1 := V1.kept hgr (Fam.ne_own V1 o0 (by decide)); replace Q1 := Q1.kept hgr (OBs.ne_own Q1 o0 (by decide)); replace B1 := B1.kept hgr (OB.ne_own B1 o0 (by decide)); replace hg0 := hg0.grown hgr (fun e => own_blk_ne o0 hg0 (by decide) e.symm); replace o2 := o2.kept hgr (by first | assumption | exact own_ty_ne o2 o0 (by decide) | exact own_sym (by assumption)); replace o3 := o3.kept hgr (by first | assumption | exact own_ty_ne o3 o0 (by decide) | exact own_sym (by assumption)); replace o4 := o4.kept hgr (do4o0); replace o5 := o5.kept hgr (by first | assumption | exact own_ty_ne o5 o0 (by decide) | exact own_sym (by assumption)); replace o6 := o6.kept hgr (by first | assumption | exact own_ty_ne o6 o0 (by decide) | exact own_sym (by assumption)); replace K1 := K1.kept hgr nKo0; replace do4o0 := eo4o0; clear eo4o0; replace nKo0 := eKo0; clear eKo0; replace o0 := on; replace hcg0 := hg0.cell; replace hfg0 := hg0.frozen; clear on hgr hat)
            | ((with_reducible refine gate_store (p := 48) rfl ?_); refine ev_store_cell rfl rfl rfl hg0 rfl (i := 0) (v := .slice A6 (ni + 1) c6) rfl rfl (by kernel_rfl) (by first | exact (show (0 : Nat) < 12 by decide) | exact (show (0 : Nat) < 16 by decide) | exact (show (0 : Nat) < 6 by decide)) ?_; intro W3 hgn hgr; replace hgn : Blk W3 g0 _ (#[.slice A6 (ni + 1) c6, .slice A1 ni c1, .slice a2.1 m a2.2, .slice a3.1 m a3.2, .slice a4.1 x a4.2, .slice a5.1 y a5.2]) := hgn; replace J1 := J1.kept hgr (FamG.ne_blk J1 hg0 (by decide)); replace V1 := V1.kept hgr (Fam.ne_blk V1 hg0 (by decide)); replace Q1 := Q1.kept hgr (OBs.ne_blk Q1 hg0 (by decide)); replace B1 := B1.kept hgr (OB.ne_blk B1 hg0 (by decide)); replace o0 := o0.kept hgr (.inr (own_blk_ne o0 hg0 (by decide))); replace o2 := o2.kept hgr (.inr (own_blk_ne o2 hg0 (by decide))); replace o3 := o3.kept hgr (.inr (own_blk_ne o3 hg0 (by decide))); replace o4 := o4.kept hgr (.inr (own_blk_ne o4 hg0 (by decide))); replace o5 := o5.kept hgr (.inr (own_blk_ne o5 hg0 (by decide))); replace o6 := o6.kept hgr (.inr (own_blk_ne o6 hg0 (by decide))); replace K1 := K1.kept hgr (kx_blk nKg0); replace hg0 := hgn; replace hcg0 := hg0.cell; replace hfg0 := hg0.frozen; clear hgn hgr)
            | ((with_reducible refine gate_dst (N := 55) rfl ?_); refine ev_lit rfl rfl (#[.int .u8 mb.toNat]) 5 1 (by first | (go_simp; done) | (go_simp; rfl)) ?_; intro g6 W4 hg6 hsz hbn; have hgr := grown_of_below hbn; have ng0g6 : g0 ≠ g6 := (by have := hg0.lt; omega); have zg6 : w.heap.size ≤ g6 := (by have := K1.size; omega); replace J1 := J1.kept hgr (by simp); replace V1 := V1.kept hgr (by simp); replace Q1 := Q1.kept hgr (by simp); replace B1 := B1.kept hgr (by simp); replace hg0 := hg0.grown hgr (by simp); replace o0 := o0.kept hgr (by cases Value.ownBlock _ <;> simp); replace o2 := o2.kept hgr (by cases Value.ownBlock _ <;> simp); replace o3 := o3.kept hgr (by cases Value.ownBlock _ <;> simp); replace o4 := o4.kept hgr (by cases Value.ownBlock _ <;> simp); replace o5 := o5.kept hgr (by cases Value.ownBlock _ <;> simp); replace o6 := o6.kept hgr (by cases Value.ownBlock _ <;> simp); replace K1 := K1.grown hgr; have hcg6 := hg6.cell; have hfg6 := hg6.frozen; replace hcg0 := hg0.cell; replace hfg0 := hg0.frozen; clear hsz hbn hgr)
            | ((with_reducible refine gate_dst (N := 56) rfl ?_); refine ev_append_ob rfl rfl rfl Hmk.out B1 (by have := K1.size; omega) rfl rfl (blk_u8s (l := [mb]) hg6) (by omega) ?_; intro A7 c7 W5 hG; replace hg0 := hg0.kept_ob B1 hG.grown (by decide); replace o0 := own_ob o0 B1 hG.grown (by decide); replace o2 := own_ob o2 B1 hG.grown (by decide); replace o3 := own_ob o3 B1 hG.grown (by decide); replace o4 := own_ob o4 B1 hG.grown (by decide); replace o5 := own_ob o5 B1 hG.grown (by decide); replace o6 := own_ob o6 B1 hG.grown (by decide); have eQ1B1 := apart_apps Q1 dQ1B1 hG; replace Q1 := Q1.kept_apart hG.grown (fun x hx => (dQ1B1 x hx).symm); replace dQ1B1 := eQ1B1; clear eQ1B1; have eV1B1 := apart_appv V1 dV1B1 hG; replace V1 := V1.kept_apart hG.grown dV1B1; replace dV1B1 := eV1B1; clear eV1B1; replace J1 := J1.kept_ob B1 hG.grown (by decide); have eKB1 := kx_ob K1 nKB1 hG; replace K1 := K1.kept_ob hG.grown nKB1; replace nKB1 := eKB1; clear eKB1; replace B1 := hG.made; clear hG; replace hcg0 := hg0.cell; replace hfg0 := hg0.frozen)
            | ((with_reducible refine gate_store (p := 58) rfl ?_); refine ev_store_cell rfl rfl rfl hg0 rfl (i := 1) (v := .slice A7 (ni + 1) c7) rfl rfl (by kernel_rfl) (by first | exact (show (1 : Nat) < 12 by decide) | exact (show (1 : Nat) < 16 by decide) | exact (show (1 : Nat) < 6 by decide)) ?_; intro W6 hgn hgr; replace hgn : Blk W6 g0 _ (#[.slice A6 (ni + 1) c6, .slice A7 (ni + 1) c7, .slice a2.1 m a2.2, .slice a3.1 m a3.2, .slice a4.1 x a4.2, .slice a5.1 y a5.2]) := hgn; replace J1 := J1.kept hgr (FamG.ne_blk J1 hg0 (by decide)); replace V1 := V1.kept hgr (Fam.ne_blk V1 hg0 (by decide)); replace Q1 := Q1.kept hgr (OBs.ne_blk Q1 hg0 (by decide)); replace B1 := B1.kept hgr (OB.ne_blk B1 hg0 (by decide)); replace o0 := o0.kept hgr (.inr (own_blk_ne o0 hg0 (by decide))); replace o2 := o2.kept hgr (.inr (own_blk_ne o2 hg0 (by decide))); replace o3 := o3.kept hgr (.inr (own_blk_ne o3 hg0 (by decide))); replace o4 := o4.kept hgr (.inr (own_blk_ne o4 hg0 (by decide))); replace o5 := o5.kept hgr (.inr (own_blk_ne o5 hg0 (by decide))); replace o6 := o6.kept hgr (.inr (own_blk_ne o6 hg0 (by decide))); replace K1 := K1.kept hgr (kx_blk nKg0); replace hg0 := hgn; replace hcg0 := hg0.cell; replace hfg0 := hg0.frozen; clear hgn hgr)
            | ((with_reducible refine gate_store (p := 63) rfl ?_); refine ev_store_ownN rfl rfl rfl o6 (k := (i * 12 + 2)) (v := (.int .i64 s)) hi12 rfl rfl (by kernel_rfl) (by kernel_rfl) ?_; intro W7 on hgr; replace J1 := J1.kept hgr dJ1o6; replace V1 := V1.kept hgr (Fam.ne_own V1 o6 (by decide)); replace Q1 := Q1.kept hgr (OBs.ne_own Q1 o6 (by decide)); replace B1 := B1.kept hgr (OB.ne_own B1 o6 (by decide)); replace hg0 := hg0.grown hgr (fun e => own_blk_ne o6 hg0 (by decide) e.symm); replace o0 := o0.kept hgr (by first | assumption | exact own_ty_ne o0 o6 (by decide) | exact own_sym (by assumption)); replace o2 := o2.kept hgr (by first | assumption | exact own_ty_ne o2 o6 (by decide) | exact own_sym (by assumption)); replace o3 := o3.kept hgr (by first | assumption | exact own_ty_ne o3 o6 (by decide) | exact own_sym (by assumption)); replace o4 := o4.kept hgr (by first | assumption | exact own_ty_ne o4 o6 (by decide) | exact own_sym (by assumption)); replace o5 := o5.kept hgr (by first | assumption | exact own_ty_ne o5 o6 (by decide) | exact own_sym (by assumption)); replace K1 := K1.kept hgr nKo6; replace o6 := on; replace hcg0 := hg0.cell; replace hfg0 := hg0.frozen; clear on hgr))
          have hob := HSS.out
          rw [Hmb.out, ← mks_snoc] at B1
          go_roundg (gm - 1)
          case measure => omega
          case rel => exact ⟨i + 1, by omega, by go_num, ⟨(A6, c6), (A7, c7), ni + 1, cur, by have := Hni.out; omega, K1, hg0, by rw [List.take_add_one, bs_get Hx.out, Option.toList, ← List.append_assoc, baCells_append]; simpa [baCells, Hnb.out] using o0, B1, o2, o3, o4, o5, by rw [sag_succ Hx.out]; exact o6, Q1, V1, J1, hob.hcur.next_row (bs_get Hx.out) Hnb.out.symm, own_sym do4o0, hob.do2o5, dV1B1, dQ1B1, hob.dV1Q1, hob.dJ1oR, hob.nKg0, nKo0, nKB1, hob.nKo2, hob.nKo3, hob.nKoR, hob.nKQ⟩⟩
    · obtain rfl : i = nl := by omega
      have s1 : decide ((i : Int) < (i : Int)) = false := by simp
      have s1' : decide (i < i) = false := by simp
      have hg0 := HS.hg
      have hcg0 := hg0.cell
      have hfg0 := hg0.frozen
      have o0 := HS.o0
      have B1 := HS.B1
      have o2 := HS.o2
      have o3 := HS.o3
      have o4 := HS.o4
      have o5 := HS.o5
      have o6 := HS.oR
      have Q1 := HS.Q1
      have V1 := HS.V1
      have J1 := HS.J1
      have K1 := HS.K1
      have do5o2 := own_sym HS.do2o5
      have nKg0 := HS.nKg0
      have nKo2 := HS.nKo2
      have nKo3 := HS.nKo3
      have HSS := Lib.hid HS
      clear HS
      go_wp2_with (first
        | ((with_reducible refine gate_dst (N := 70) rfl ?_); refine ev_lit rfl rfl (#[.slice A i c]) 22 1 (by first | (go_simp; done) | (go_simp; rfl)) ?_; intro g5 W1 hg5 hsz hbn; have hgr := grown_of_below hbn; have ng0g5 : g0 ≠ g5 := (by have := hg0.lt; omega); have zg5 : w.heap.size ≤ g5 := (by have := K1.size; omega); replace J1 := J1.kept hgr (by simp); replace V1 := V1.kept hgr (by simp); replace Q1 := Q1.kept hgr (by simp); replace B1 := B1.kept hgr (by simp); replace hg0 := hg0.grown hgr (by simp); replace o0 := o0.kept hgr (by cases Value.ownBlock _ <;> simp); replace o2 := o2.kept hgr (by cases Value.ownBlock _ <;> simp); replace o3 := o3.kept hgr (by cases Value.ownBlock _ <;> simp); replace o4 := o4.kept hgr (by cases Value.ownBlock _ <;> simp); replace o5 := o5.kept hgr (by cases Value.ownBlock _ <;> simp); replace o6 := o6.kept hgr (by cases Value.ownBlock _ <;> simp); replace K1 := K1.grown hgr; have hcg5 := hg5.cell; have hfg5 := hg5.frozen; replace hcg0 := hg0.cell; replace hfg0 := hg0.frozen; clear hsz hbn hgr)
        | ((with_reducible refine gate_dst (N := 71) rfl ?_); refine ev_append rfl rfl Try.underlying34 info_rss rfl (by omega) rfl o2 rfl (hg5.reads (size := 1) (n := 1) rfl) (fun u hu => by simp at hu; subst hu; rfl) (by omega) (by omega) (by have := K1.size; omega) ?_; intro A6 c6 W2 on hgr hat; have eKo2 := kx_app K1 nKo2 hat; have eo5o2 := own_apart_app o5 do5o2 hat; replace J1 := J1.kept hgr (FamG.ne_own J1 o2 (by decide)); replace V1 := V1.kept hgr (Fam.ne_own V1 o2 (by decide)); replace Q1 := Q1.kept hgr (OBs.ne_own Q1 o2 (by decide)); replace B1 := B1.kept hgr (OB.ne_own B1 o2 (by decide)); replace hg0 := hg0.grown hgr (fun e => own_blk_ne o2 hg0 (by decide) e.symm); replace o0 := o0.kept hgr (by first | assumption | exact own_ty_ne o0 o2 (by decide) | exact own_sym (by assumption)); replace o3 := o3.kept hgr (by first | assumption | exact own_ty_ne o3 o2 (by decide) | exact own_sym (by assumption)); replace o4 := o4.kept hgr (by first | assumption | exact own_ty_ne o4 o2 (by decide) | exact own_sym (by assumption)); replace o5 := o5.kept hgr (do5o2); replace o6 := o6.kept hgr (by first | assumption | exact own_ty_ne o6 o2 (by decide) | exact own_sym (by assumption)); replace K1 := K1.kept hgr nKo2; replace do5o2 := eo5o2; clear eo5o2; replace nKo2 := eKo2; clear eKo2; replace o2 := on; replace hcg0 := hg0.cell; replace hfg0 := hg0.frozen; clear on hgr hat)
        | ((with_reducible refine gate_store (p := 73) rfl ?_); refine ev_store_cell rfl rfl rfl hg0 rfl (i := 2) (v := .slice A6 (m + 1) c6) rfl rfl (by kernel_rfl) (by first | exact (show (2 : Nat) < 12 by decide) | exact (show (2 : Nat) < 16 by decide) | exact (show (2 : Nat) < 6 by decide)) ?_; intro W3 hgn hgr; replace hgn : Blk W3 g0 _ (#[.slice A0 ni c0, .slice A1 ni c1, .slice A6 (m + 1) c6, .slice a3.1 m a3.2, .slice a4.1 x a4.2, .slice a5.1 y a5.2]) := hgn; replace J1 := J1.kept hgr (FamG.ne_blk J1 hg0 (by decide)); replace V1 := V1.kept hgr (Fam.ne_blk V1 hg0 (by decide)); replace Q1 := Q1.kept hgr (OBs.ne_blk Q1 hg0 (by decide)); replace B1 := B1.kept hgr (OB.ne_blk B1 hg0 (by decide)); replace o0 := o0.kept hgr (.inr (own_blk_ne o0 hg0 (by decide))); replace o2 := o2.kept hgr (.inr (own_blk_ne o2 hg0 (by decide))); replace o3 := o3.kept hgr (.inr (own_blk_ne o3 hg0 (by decide))); replace o4 := o4.kept hgr (.inr (own_blk_ne o4 hg0 (by decide))); replace o5 := o5.kept hgr (.inr (own_blk_ne o5 hg0 (by decide))); replace o6 := o6.kept hgr (.inr (own_blk_ne o6 hg0 (by decide))); replace K1 := K1.kept hgr (kx_blk nKg0); replace hg0 := hgn; replace hcg0 := hg0.cell; replace hfg0 := hg0.frozen; clear hgn hgr)
        | ((with_reducible refine gate_dst (N := 80) rfl ?_); refine ev_lit rfl rfl (#[.int .i64 s]) 3 1 (by first | (go_simp; done) | (go_simp; rfl)) ?_; intro g6 W4 hg6 hsz hbn; have hgr := grown_of_below hbn; have ng0g6 : g0 ≠ g6 := (by have := hg0.lt; omega); have zg6 : w.heap.size ≤ g6 := (by have := K1.size; omega); replace J1 := J1.kept hgr (by simp); replace V1 := V1.kept hgr (by simp); replace Q1 := Q1.kept hgr (by simp); replace B1 := B1.kept hgr (by simp); replace hg0 := hg0.grown hgr (by simp); replace o0 := o0.kept hgr (by cases Value.ownBlock _ <;> simp); replace o2 := o2.kept hgr (by cases Value.ownBlock _ <;> simp); replace o3 := o3.kept hgr (by cases Value.ownBlock _ <;> simp); replace o4 := o4.kept hgr (by cases Value.ownBlock _ <;> simp); replace o5 := o5.kept hgr (by cases Value.ownBlock _ <;> simp); replace o6 := o6.kept hgr (by cases Value.ownBlock _ <;> simp); replace K1 := K1.grown hgr; have hcg6 := hg6.cell; have hfg6 := hg6.frozen; replace hcg0 := hg0.cell; replace hfg0 := hg0.frozen; clear hsz hbn hgr)
        | ((with_reducible refine gate_dst (N := 81) rfl ?_); refine ev_append rfl rfl Try.underlying35 info_int rfl (by omega) rfl o3 rfl (hg6.reads (size := 1) (n := 1) rfl) (fun u hu => by simp at hu; subst hu; rfl) (by omega) (by omega) (by have := K1.size; omega) ?_; intro A7 c7 W5 on hgr hat; have eKo3 := kx_app K1 nKo3 hat; replace J1 := J1.kept hgr (FamG.ne_own J1 o3 (by decide)); replace V1 := V1.kept hgr (Fam.ne_own V1 o3 (by decide)); replace Q1 := Q1.kept hgr (OBs.ne_own Q1 o3 (by decide)); replace B1 := B1.kept hgr (OB.ne_own B1 o3 (by decide)); replace hg0 := hg0.grown hgr (fun e => own_blk_ne o3 hg0 (by decide) e.symm); replace o0 := o0.kept hgr (by first | assumption | exact own_ty_ne o0 o3 (by decide) | exact own_sym (by assumption)); replace o2 := o2.kept hgr (by first | assumption | exact own_ty_ne o2 o3 (by decide) | exact own_sym (by assumption)); replace o4 := o4.kept hgr (by first | assumption | exact own_ty_ne o4 o3 (by decide) | exact own_sym (by assumption)); replace o5 := o5.kept hgr (by first | assumption | exact own_ty_ne o5 o3 (by decide) | exact own_sym (by assumption)); replace o6 := o6.kept hgr (by first | assumption | exact own_ty_ne o6 o3 (by decide) | exact own_sym (by assumption)); replace K1 := K1.kept hgr nKo3; replace nKo3 := eKo3; clear eKo3; replace o3 := on; replace hcg0 := hg0.cell; replace hfg0 := hg0.frozen; clear on hgr hat)
        | ((with_reducible refine gate_store (p := 83) rfl ?_); refine ev_store_cell rfl rfl rfl hg0 rfl (i := 3) (v := .slice A7 (m + 1) c7) rfl rfl (by kernel_rfl) (by first | exact (show (3 : Nat) < 12 by decide) | exact (show (3 : Nat) < 16 by decide) | exact (show (3 : Nat) < 6 by decide)) ?_; intro W6 hgn hgr; replace hgn : Blk W6 g0 _ (#[.slice A0 ni c0, .slice A1 ni c1, .slice A6 (m + 1) c6, .slice A7 (m + 1) c7, .slice a4.1 x a4.2, .slice a5.1 y a5.2]) := hgn; replace J1 := J1.kept hgr (FamG.ne_blk J1 hg0 (by decide)); replace V1 := V1.kept hgr (Fam.ne_blk V1 hg0 (by decide)); replace Q1 := Q1.kept hgr (OBs.ne_blk Q1 hg0 (by decide)); replace B1 := B1.kept hgr (OB.ne_blk B1 hg0 (by decide)); replace o0 := o0.kept hgr (.inr (own_blk_ne o0 hg0 (by decide))); replace o2 := o2.kept hgr (.inr (own_blk_ne o2 hg0 (by decide))); replace o3 := o3.kept hgr (.inr (own_blk_ne o3 hg0 (by decide))); replace o4 := o4.kept hgr (.inr (own_blk_ne o4 hg0 (by decide))); replace o5 := o5.kept hgr (.inr (own_blk_ne o5 hg0 (by decide))); replace o6 := o6.kept hgr (.inr (own_blk_ne o6 hg0 (by decide))); replace K1 := K1.kept hgr (kx_blk nKg0); replace hg0 := hgn; replace hcg0 := hg0.cell; replace hfg0 := hg0.frozen; clear hgn hgr))
      have hob := HSS.out
      obtain rfl : ni = n + i := hob.hni
      go_end0
      have hmk := mk_put (b0 := (A0, c0)) (b1 := (A1, c1)) (b2 := (A6, c6)) (b3 := (A7, c7)) HM.out Hl.out Hs.out (by omega) hob.hcur (Nat.le_trans hbase K1.size) hg0 o0 B1 o2 o3 o4 o5 o6 Q1 V1 J1 hob.do0o4 (own_sym do5o2) hob.dV1B1 hob.dQ1B1 hob.dV1Q1 hob.dJ1oR nKg0 hob.nKo0 hob.nKB1 nKo2 nKo3 hob.nKoR hob.nKQ
      exact ⟨rfl, ⟨⟨A0, c0, A1, c1, A6, c6, A7, c7, hmk⟩, K1⟩⟩
end Go.Proofs.Ytikodgaomhmbmaa
