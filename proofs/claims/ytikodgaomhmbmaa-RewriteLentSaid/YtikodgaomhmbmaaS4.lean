/-
  annalslaw12.laid: each record's data cut out of a longer list of bytes of its own.
-/
import Derived.Test.YtikodgaomhmbmaaS3
set_option linter.unusedVariables false
set_option linter.unusedSimpArgs false
namespace Go.Proofs.Ytikodgaomhmbmaa
open Go.RowKit
attribute [local go_sem] Rec.size_ Rec.g0 Rec.g1 Rec.g2 Rec.g3 Rec.g4 Rec.g5 Rec.g6 Rec.g7 Rec.g8 Rec.g9 Rec.g10 Rec.g11 Rec.fold Rec.lit_fold

theorem blk_u8s {w : World} {g : Nat} {t : TypeId} {l : List UInt8} (h : Blk w g t (u8s l).toArray) : ∀ j u, (u8s l)[j]? = some u → w.cell? ((⟨g, 0, none⟩ : Addr).add j) = some u := by
  intro j u hu
  have e : (⟨g, 0, none⟩ : Addr).add j = ⟨g, j, none⟩ := by unfold Addr.add; split <;> simp_all
  rw [e, h.cell]
  simpa using hu
/-- What laid adds. -/
def pad3 : List UInt8 := [91, 92, 93]
/-- The longer lists that the records' data are cut out of. -/
def longs (os : List RA) : List BA := os.map fun x => (x.1.Data ++ pad3, x.2.1, x.2.2)
theorem longs_snoc (os : List RA) (x : RA) : longs (os ++ [x]) = longs os ++ [(x.1.Data ++ pad3, x.2.1, x.2.2)] := by simp [longs]
theorem longs_get {os : List RA} {k : Nat} {x : RA} (h : os[k]? = some x) : (longs os)[k]? = some (x.1.Data ++ pad3, x.2.1, x.2.2) := by simp [longs, h]
theorem RB.begin_ {w : World} {A : Option Addr} {b m : List UInt8} (ha : RB w A (b ++ m)) : RB w A b := by
  refine ⟨by simp [u8s], fun hn => ?_⟩
  obtain ⟨ad, e, hlt, hcc⟩ := ha.2 (by rw [List.length_append]; omega)
  refine ⟨ad, e, hlt, fun j u hu => hcc j u ?_⟩
  have hj : j < (u8s b).length := (List.getElem?_eq_some_iff.1 hu).1
  rw [u8s_append, List.getElem?_append_left hj]
  exact hu
theorem RR.of_longs {w : World} {base b n c : Nat} {A : Option Addr} {e : TypeId} {os : List RA} (h : w.ownsRow base e 12 (.slice A n c) n (recCells os)) (hn : os.length = n) (Q : OBs w b (longs os)) : RR w A os := by
  subst hn
  refine ⟨Reads.of_own h, fun x hx => ?_⟩
  exact (Q.all (x.1.Data ++ pad3, x.2.1, x.2.2) (List.mem_map.2 ⟨x, hx, rfl⟩)).rb.begin_
theorem own_room {w : World} {base n c size : Nat} {A : Option Addr} {e : TypeId} {xs : List Value} (h : w.ownsRow base e size (.slice A n c) n xs) : n ≤ c := by
  rcases h.2 with ⟨hv, h0⟩ | ⟨g', cap, cur, hv, _, _, h1, h2, _⟩
  · omega
  · injection hv with _ _ hc
    omega
theorem longs_map (os : List RA) {R : List Rec} (h : os.map (·.1) = R) : (longs os).map (·.1) = R.map fun r => r.Data ++ pad3 := by
  subst h
  simp [longs, List.map_map, Function.comp_def]

theorem own_ob {w w1 : World} {base b size n c : Nat} {e : TypeId} {v : Value} {xs : List Value} {A : Option Addr} {l : List UInt8} (ho : w.ownsRow b e size v n xs) (h : OB w base A c l) (hgr : w.grownBy w1 (A.map (·.block))) (hne : 5 ≠ e) : w1.ownsRow b e size v n xs := by
  refine ho.kept hgr ?_
  cases hA : A with
  | none => cases v.ownBlock <;> simp
  | some ad => exact .inr fun e2 => h.ne_own ho hne ad hA e2.symm
theorem OB.kept_apart {w w' : World} {base c : Nat} {A B : Option Addr} {l : List UInt8} (h : OB w base B c l) (hgr : w.grownBy w' (A.map (·.block))) (hd : Apart A B) : OB w' base B c l := h.kept hgr fun b hb e => by
  cases hA : A with
  | none => rw [hA] at e; cases e
  | some a =>
    rw [hA] at e
    injection e with e
    exact hd a b hA hb e.symm
theorem RU.kept_apart {w w' : World} {A B : Option Addr} {l : List UInt8} (h : RU w B l) (hgr : w.grownBy w' (A.map (·.block))) (hd : Apart A B) : RU w' B l := h.kept hgr fun _ b hb e => by
  cases hA : A with
  | none => rw [hA] at e; cases e
  | some a =>
    rw [hA] at e
    injection e with e
    exact hd a b hA hb e.symm
theorem OBs.kept_apart {w w' : World} {base : Nat} {A : Option Addr} {os : List BA} (h : OBs w base os) (hgr : w.grownBy w' (A.map (·.block))) (hd : ∀ x ∈ os, Apart A x.2.1) : OBs w' base os := ⟨fun x hx => (h.all x hx).kept_apart hgr (hd x hx), h.apart⟩
theorem Blk.kept_ob {w w' : World} {g base c : Nat} {t : TypeId} {cs : Array Value} {A : Option Addr} {l : List UInt8} (hg : Blk w g t cs) (h : OB w base A c l) (hgr : w.grownBy w' (A.map (·.block))) (hne : 5 ≠ t) : Blk w' g t cs := by
  refine hg.grown hgr fun e => ?_
  cases hA : A with
  | none => rw [hA] at e; cases e
  | some a =>
    rw [hA] at e
    exact h.ne_blk hg hne a hA e.symm

theorem grown_ob {w wr W : World} {c : Nat} {A : Option Addr} {l : List UInt8} (hb : Below w.heap.size w wr) (h : OB wr w.heap.size A c l) (hgr : wr.grownBy W (A.map (·.block))) : Below w.heap.size w W :=
  hb.grown hgr hb.size fun k e => by
    cases hA : A with
    | none => rw [hA] at e; cases e
    | some a =>
      rw [hA] at e
      injection e with e
      have e : a.block = k := e
      have := (h.lt hA).1
      omega
theorem apart_app {w wr W : World} {base base' c c' c1 : Nat} {A B A1 : Option Addr} {l l' m : List UInt8} (h : OB w base' B c' m) (d : Apart B A) (hG : Grew w base A c l l' A1 c1 W) : Apart B A1 := by
  rcases hG.lies with ⟨rfl, _⟩ | ⟨_, hnew⟩
  · exact d
  · intro a b ha hb e
    have h1 := (h.lt ha).2
    have h2 := hnew b hb
    omega
theorem apart_apps {w W : World} {base base' c c1 : Nat} {A A1 : Option Addr} {l l' : List UInt8} {os : List BA} (h : OBs w base' os) (d : ∀ x ∈ os, Apart x.2.1 A) (hG : Grew w base A c l l' A1 c1 W) : ∀ x ∈ os, Apart x.2.1 A1 := fun x hx => apart_app (wr := w) (h.all x hx) (d x hx) hG

set_option maxHeartbeats 4000000 in
set_option maxRecDepth 100000 in
theorem laid_calls (l : List RA) (n : Nat) (hn : l.length = n) (A : Option Addr) (c : Nat) (hl : n * 120 ≤ 140737488351232) (hs : ∀ y ∈ l, y.1.Data.length ≤ 100000000000) (w : World) (hr : RR w A l) :
    Calls Try.prog 6 #[.slice A n c] w fun e w' => ∃ (A1 : Option Addr) (c1 : Nat) (A2 : Option Addr) (c2 : Nat) (os : List RA), e = .returned (.tuple #[.slice A1 n c1, .slice A2 n c2]) ∧ Aside (os.map (·.1) = l.map (·.1)) ∧
      w'.ownsRow w.heap.size 25 12 (.slice A1 n c1) n (recCells os) ∧ w'.ownsRow w.heap.size 23 1 (.slice A2 n c2) n (baCells (longs os)) ∧ OBs w' w.heap.size (longs os) ∧ Below w.heap.size w w' := by
  have HB := Below.refl w.heap.size w
  have Hr := Lib.hid hr
  have Hn := Lib.hid hn
  have Hs := Lib.hid hs
  clear hr hn hs
  go_enter Try.func6, Try.ntmps6
  go_wp2
  go_loopg [4, 5, 6] n (fun m v4 v5 v6 wr => ∃ (k : Nat) (A4 : Option Addr) (c4 : Nat) (A5 : Option Addr) (c5 : Nat) (os : List RA), m + k = n ∧ v6 = .int .i64 k ∧ v4 = .slice A4 k c4 ∧ v5 = .slice A5 k c5 ∧
    Aside (os.map (·.1) = (l.map (·.1)).take k ∧ wr.ownsRow w.heap.size 25 12 (.slice A4 k c4) k (recCells os) ∧ wr.ownsRow w.heap.size 23 1 (.slice A5 k c5) k (baCells (longs os)) ∧ OBs wr w.heap.size (longs os) ∧ Below w.heap.size w wr))
  case atStart => exact ⟨0, none, 0, none, 0, [], by omega, rfl, rfl, rfl, ⟨rfl, own_nil _ _ _ _, own_nil _ _ _ _, OBs.nil, HB⟩⟩
  case round =>
    clear HB
    obtain ⟨k, A4, c4, A5, c5, os, hm, rfl, rfl, rfl, HA⟩ := hrel
    obtain ⟨hos, o4, o5, Q5, HB⟩ := HA.out
    clear HA
    have Hos := Lib.hid hos
    clear hos
    by_cases hlt : k < n
    · have s1 : decide ((k : Int) < (n : Int)) = true := by rw [decide_eq_true_eq]; omega
      have s1' : decide (k < n) = true := by rw [decide_eq_true_eq]; exact hlt
      obtain ⟨x, hx⟩ : ∃ x, l[k]? = some x := ⟨_, List.getElem?_eq_getElem (by rw [Hn.out]; exact hlt)⟩
      obtain ⟨r, Ar, cr⟩ := x
      have hxm : (l.map (·.1))[k]? = some r := by rw [List.getElem?_map, hx]; rfl
      have hrs := Hs.out _ (List.mem_of_getElem? hx)
      simp only at hrs
      have hxd : RB w Ar r.Data := Hr.out.data _ (List.mem_of_getElem? hx)
      obtain ⟨ad, had, _, _⟩ := Hr.out.get hx
      have hld := fun (W : World) (hb : Below w.heap.size w W) => (Hr.out.next hb).load hx had
      have h11 : ∀ (W : World), Below w.heap.size w W → W.cell? { block := (ad.add (k * 12)).block, off := (ad.add (k * 12)).off + 11 } = some (.slice Ar r.Data.length cr) := fun W hb => hld W hb 11 _ rfl
      have Hld := Lib.hid hld
      have hx11 := h11 _ HB
      subst had
      have n3 : (l.map (·.1)).take (k + 1) = (l.map (·.1)).take k ++ [r] := by rw [List.take_add_one, hxm]; rfl
      have N3 := Lib.hid n3
      clear hx hld n3 hxm h11
      go_wp2_with (first
        | ((with_reducible refine gate_dst (N := 28) rfl ?_); refine ev_append_nil rfl rfl Try.underlying23 info_u8 rfl (by omega) rfl rfl (hxd.next HB) u8s_one (by omega) (by omega) ?_; intro A6 c6 W1 B7 hbn; replace B7 := OB.of_own B7; have hgr := grown_of_below hbn; have dQ5B7 := Q5.apart_new B7 (Nat.le_refl _); replace B7 := B7.mono HB.size; replace Q5 := Q5.kept hgr (by simp); replace o4 := o4.kept hgr (by cases Value.ownBlock _ <;> simp); replace o5 := o5.kept hgr (by cases Value.ownBlock _ <;> simp); replace HB := HB.grown hgr (by have := HB.size; omega) (by simp); clear hbn hgr)
        | ((with_reducible refine gate_dst (N := 30) rfl ?_); refine ev_lit rfl rfl (#[.int .u8 91, .int .u8 92, .int .u8 93]) 5 3 (by first | (go_simp; done) | (go_simp; rfl)) ?_; intro g5 W2 hg5 hsz hbn; have hgr := grown_of_below hbn; have zg5 : w.heap.size ≤ g5 := (by have := HB.size; omega); replace B7 := B7.kept hgr (by simp); replace Q5 := Q5.kept hgr (by simp); replace o4 := o4.kept hgr (by cases Value.ownBlock _ <;> simp); replace o5 := o5.kept hgr (by cases Value.ownBlock _ <;> simp); replace HB := HB.grown hgr (by have := HB.size; omega) (by simp); have hcg5 := hg5.cell; have hfg5 := hg5.frozen; clear hsz hbn hgr)
        | ((with_reducible refine gate_dst (N := 31) rfl ?_); refine ev_append_ob rfl rfl rfl rfl B7 (by have := HB.size; omega) rfl (show pad3.length = 3 from rfl) (blk_u8s hg5) (by omega) ?_; intro A7 c7 W3 hG; replace o4 := own_ob o4 B7 hG.grown (by decide); replace o5 := own_ob o5 B7 hG.grown (by decide); have eQ5B7 := apart_apps Q5 dQ5B7 hG; replace Q5 := Q5.kept_apart hG.grown (fun x hx => (dQ5B7 x hx).symm); replace dQ5B7 := eQ5B7; clear eQ5B7; replace HB := grown_ob HB B7 hG.grown; replace B7 := hG.made; clear hG; have hcap := B7.len; rw [List.length_append] at hcap; have hcap : r.Data.length + 3 ≤ c7 := hcap)
        | ((with_reducible refine gate_dst (N := 35) rfl ?_); refine ev_load_at rfl rfl rfl (Hld.out _ HB) Try.underlying25 rfl rec_size ?_)
        | ((with_reducible refine gate_dst (N := 9) rfl ?_); refine ev_alloc rfl rfl _ rec_zero ?_; intro g9 W4 hg9 hsz hbn; have hgr := grown_of_below hbn; have no4g9 := own_new o4 hsz; have no5g9 := own_new o5 hsz; replace hg9 : Blk W4 g9 _ (Rec.zero.cells none 0) := hg9; have zg9 : w.heap.size ≤ g9 := (by have := HB.size; omega); replace B7 := B7.kept hgr (by simp); replace Q5 := Q5.kept hgr (by simp); replace o4 := o4.kept hgr (by cases Value.ownBlock _ <;> simp); replace o5 := o5.kept hgr (by cases Value.ownBlock _ <;> simp); replace HB := HB.grown hgr (by have := HB.size; omega) (by simp); have hcg9 := hg9.cell; have hfg9 := hg9.frozen; clear hsz hbn hgr)
        | ((with_reducible refine gate_store (p := 9) rfl ?_); refine ev_store_row (cs := r.cells Ar cr) rfl rfl rfl hg9 rfl rfl rec_size rfl (cells_one _ _ _) ?_; intro W5 hgn hgr; replace B7 := B7.kept hgr (OB.ne_blk B7 hg9 (by decide)); replace Q5 := Q5.kept hgr (OBs.ne_blk Q5 hg9 (by decide)); replace o4 := o4.kept hgr (.inr no4g9); replace o5 := o5.kept hgr (.inr no5g9); replace HB := HB.grown hgr (by have := HB.size; omega) (by intro k e; injection e with e; omega); replace hg9 := hgn; replace hcg9 := hg9.cell; replace hfg9 := hg9.frozen; clear hgn hgr)
        | ((with_reducible refine gate_store (p := 39) rfl ?_); refine ev_store_cell rfl rfl rfl hg9 rfl (i := 11) (v := .slice A7 r.Data.length c7) rfl rfl (by kernel_rfl) (by first | exact (show (11 : Nat) < 12 by decide) | exact (show (11 : Nat) < 16 by decide) | exact (show (11 : Nat) < 6 by decide)) ?_; intro W6 hgn hgr; replace hgn : Blk W6 g9 _ (r.cells A7 c7) := hgn; replace B7 := B7.kept hgr (OB.ne_blk B7 hg9 (by decide)); replace Q5 := Q5.kept hgr (OBs.ne_blk Q5 hg9 (by decide)); replace o4 := o4.kept hgr (.inr no4g9); replace o5 := o5.kept hgr (.inr no5g9); replace HB := HB.grown hgr (by have := HB.size; omega) (by intro k e; injection e with e; omega); replace hg9 := hgn; replace hcg9 := hg9.cell; replace hfg9 := hg9.frozen; clear hgn hgr)
        | ((with_reducible refine gate_dst (N := 41) rfl ?_); refine wpList_load_row rfl _ _ rfl g9 rfl _ _ (0, 0) _ hg9 Try.underlying25 rfl rec_size ?_)
        | ((with_reducible refine gate_dst (N := 42) rfl ?_); refine ev_lit rfl rfl (r.cells A7 c7) 25 1 (by first | (go_simp; done) | (go_simp; rfl)) ?_; intro g6 W7 hg6 hsz hbn; have hgr := grown_of_below hbn; have ng9g6 : g9 ≠ g6 := (by have := hg9.lt; omega); have zg6 : w.heap.size ≤ g6 := (by have := HB.size; omega); replace B7 := B7.kept hgr (by simp); replace Q5 := Q5.kept hgr (by simp); replace hg9 := hg9.grown hgr (by simp); replace o4 := o4.kept hgr (by cases Value.ownBlock _ <;> simp); replace o5 := o5.kept hgr (by cases Value.ownBlock _ <;> simp); replace HB := HB.grown hgr (by have := HB.size; omega) (by simp); have hcg6 := hg6.cell; have hfg6 := hg6.frozen; replace hcg9 := hg9.cell; replace hfg9 := hg9.frozen; clear hsz hbn hgr)
        | ((with_reducible refine gate_dst (N := 43) rfl ?_); refine ev_append rfl rfl Try.underlying22 info_rec rfl (by omega) rfl o4 rfl (hg6.reads (size := 12) (n := 1) rfl) (recCells_1 (l := [(r, A7, c7)])) (by omega) (by omega) (by have := HB.size; omega) ?_; intro A8 c8 W8 on hgr hat; replace B7 := B7.kept hgr (OB.ne_own B7 o4 (by decide)); replace Q5 := Q5.kept hgr (OBs.ne_own Q5 o4 (by decide)); replace hg9 := hg9.grown hgr (fun e => no4g9 e.symm); replace o5 := o5.kept hgr (by first | assumption | exact own_ty_ne o5 o4 (by decide) | exact own_sym (by assumption)); replace HB := HB.grown hgr (by have := HB.size; omega) (own_base o4); replace o4 := on; replace hcg9 := hg9.cell; replace hfg9 := hg9.frozen; clear on hgr hat)
        | ((with_reducible refine gate_dst (N := 46) rfl ?_); refine ev_lit rfl rfl (#[.slice A7 (r.Data.length + 3) c7]) 23 1 (by first | (go_simp; done) | (go_simp; rfl)) ?_; intro g7 W9 hg7 hsz hbn; have hgr := grown_of_below hbn; have ng9g7 : g9 ≠ g7 := (by have := hg9.lt; omega); have zg7 : w.heap.size ≤ g7 := (by have := HB.size; omega); replace B7 := B7.kept hgr (by simp); replace Q5 := Q5.kept hgr (by simp); replace hg9 := hg9.grown hgr (by simp); replace o4 := o4.kept hgr (by cases Value.ownBlock _ <;> simp); replace o5 := o5.kept hgr (by cases Value.ownBlock _ <;> simp); replace HB := HB.grown hgr (by have := HB.size; omega) (by simp); have hcg7 := hg7.cell; have hfg7 := hg7.frozen; replace hcg9 := hg9.cell; replace hfg9 := hg9.frozen; clear hsz hbn hgr)
        | ((with_reducible refine gate_dst (N := 47) rfl ?_); refine ev_append rfl rfl Try.underlying28 info_bytes rfl (by omega) rfl o5 rfl (hg7.reads (size := 1) (n := 1) rfl) (fun u hu => by simp at hu; subst hu; rfl) (by omega) (by omega) (by have := HB.size; omega) ?_; intro A10 c10 W10 on hgr hat; replace B7 := B7.kept hgr (OB.ne_own B7 o5 (by decide)); replace Q5 := Q5.kept hgr (OBs.ne_own Q5 o5 (by decide)); replace hg9 := hg9.grown hgr (fun e => no5g9 e.symm); replace o4 := o4.kept hgr (by first | assumption | exact own_ty_ne o4 o5 (by decide) | exact own_sym (by assumption)); replace HB := HB.grown hgr (by have := HB.size; omega) (own_base o5); replace o5 := on; replace hcg9 := hg9.cell; replace hfg9 := hg9.frozen; clear on hgr hat))
      go_roundg (gk - 1)
      case measure => omega
      case rel => exact ⟨k + 1, A8, c8, A10, c10, os ++ [(r, A7, c7)], by omega, by go_num, rfl, rfl, ⟨by rw [List.map_append, Hos.out, N3.out]; rfl, by rw [recCells_append, recCells_one]; simpa [RA.cs] using o4, by rw [longs_snoc, baCells_append]; simpa [baCells, pad3] using o5, by rw [longs_snoc]; exact Q5.snoc B7 dQ5B7, HB⟩⟩
    · obtain rfl : k = n := by omega
      have s1 : decide ((k : Int) < (k : Int)) = false := by simp
      have s1' : decide (k < k) = false := by simp
      have n3 : os.map (·.1) = l.map (·.1) := by rw [Hos.out, List.take_of_length_le (by rw [List.length_map, Hn.out]; omega)]
      go_wp2
      go_ret2
      first | exact ⟨A4, c4, A5, c5, os, rfl, n3, o4, o5, Q5, HB⟩ | exact ⟨A4, c4, A5, c5, rfl, os, n3, o4, o5, Q5, HB⟩
end Go.Proofs.Ytikodgaomhmbmaa
