/-
  The walk of the law LiftLent.
-/
import Derived.Test.YtikodgaomhmbmaaDoorMLG
import Derived.Test.YtikodgaomhmbmaaDoorH5
import Derived.Test.YtikodgaomhmbmaaDoorM2
set_option linter.unusedVariables false
set_option linter.unusedSimpArgs false
namespace Go.Proofs.YtikodgaomhmbmaaDoor
open Go.RowKit
attribute [local go_sem] Rec.size_ Rec.g0 Rec.fold Rec.lit_fold

theorem info_strs : (Tryd.prog.info? 38).map (fun i => (i.zero, i.size, i.bytes)) = some (some (.slice none 0 0), 1, 24) := by kernel_rfl
theorem info_rss : (Tryd.prog.info? 22).map (fun i => (i.zero, i.size, i.bytes)) = some (some (.slice none 0 0), 1, 24) := by kernel_rfl
def waysC : Array Value := #[.int .i64 0, .int .i64 0, .int .i64 1, .int .i64 1, .int .i64 0, .int .i64 1]
theorem ways_zero : (Tryd.prog.info? 39).map (fun i => i.zero) = some (some (.agg #[.int .i64 0, .int .i64 0, .int .i64 0, .int .i64 0, .int .i64 0, .int .i64 0])) := by kernel_rfl
theorem ways_size : (Tryd.prog.info? 39).map (·.size) = some 6 := by kernel_rfl
theorem wr0 : IntKind.i64.wrap 0 = 0 := by decide
theorem wr1 : IntKind.i64.wrap 1 = 1 := by decide
theorem wr2 : IntKind.i64.wrap 2 = 2 := by decide
theorem wr3 : IntKind.i64.wrap 3 = 3 := by decide
theorem own_of_blk {w : World} {base g n : Nat} {t : TypeId} {xs : List Value} (h : Blk w g t xs.toArray) (hb : base ≤ g) (hn : xs.length = n) (hm : n ≤ maxLen) : w.ownsRow base t 1 (.slice (some ⟨g, 0, none⟩) n n) n xs :=
  ⟨by omega, .inr ⟨g, n, xs.toArray, rfl, hb, h, Nat.le_refl _, hm, by simpa using hn, by simp only [List.take_of_length_le (Nat.le_of_eq (hn.trans (Nat.mul_one n).symm))]⟩⟩
/-- The steps that the i-th list of words begins as. -/
def wl (i : Nat) : List ByteArray := if i = 2 ∨ i = 3 ∨ i = 5 then stepsL 3 1 else stepsL 1 3
theorem way_at (i : Nat) (hi : i < 6) : (waysC[i]? = some (.int .i64 0) ∧ wl i = stepsL 1 3) ∨ (waysC[i]? = some (.int .i64 1) ∧ wl i = stepsL 3 1) := by
  obtain rfl | rfl | rfl | rfl | rfl | rfl : i = 0 ∨ i = 1 ∨ i = 2 ∨ i = 3 ∨ i = 4 ∨ i = 5 := by omega
  all_goals simp [waysC, wl]
/-- The first lists of words. -/
structure Ws (w wr : World) (g7 : Nat) (a5 a6 a8 : AC) (i : Nat) (ls : List GA) : Prop where
  below : Below w.heap.size w wr
  ways : Blk wr g7 39 waysC
  up : wr.ownsRow w.heap.size 9 1 (.slice a5.1 2 a5.2) 2 (strs (stepsL 1 3))
  down : wr.ownsRow w.heap.size 9 1 (.slice a6.1 2 a6.2) 2 (strs (stepsL 3 1))
  row : wr.ownsRow w.heap.size 38 1 (.slice a8.1 i a8.2) i (gaCells ls)
  W : OGs 9 1 wr w.heap.size ls
  len : ls.length = i
  at_ : ∀ k x, ls[k]? = some x → x.1 = strs (wl k) ∧ x.2.1 = 2
  apU : ∀ x ∈ ls, Apart x.2.2.1 a5.1
  apD : ∀ x ∈ ls, Apart x.2.2.1 a6.1
section
variable {w wr W : World} {g7 i : Nat} {a5 a6 a8 : AC} {ls : List GA}
theorem Ws.next (h : Ws w wr g7 a5 a6 a8 i ls) (hb : Below wr.heap.size wr W) : Ws w W g7 a5 a6 a8 i ls :=
  ⟨below_go h.below hb, h.ways.next hb, own_next h.up hb, own_next h.down hb, own_next h.row hb, h.W.next hb, h.len, h.at_, h.apU, h.apD⟩
theorem Ws.snoc (h : Ws w wr g7 a5 a6 a8 i ls) (hB : Below w.heap.size w W) (h7 : Blk W g7 39 waysC) (o5 : W.ownsRow w.heap.size 9 1 (.slice a5.1 2 a5.2) 2 (strs (stepsL 1 3))) (o6 : W.ownsRow w.heap.size 9 1 (.slice a6.1 2 a6.2) 2 (strs (stepsL 3 1)))
    {A B : Option Addr} {c d : Nat} (o8 : W.ownsRow w.heap.size 38 1 (.slice A (i + 1) c) (i + 1) (gaCells ls ++ [.slice B 2 d])) (G : OGs 9 1 W w.heap.size ls) (oB : W.ownsRow w.heap.size 9 1 (.slice B 2 d) 2 (strs (wl i))) (dG : ∀ x ∈ ls, Apart x.2.2.1 B) (d5 : Apart B a5.1) (d6 : Apart B a6.1) :
    Ws w W g7 a5 a6 (A, c) (i + 1) (ls ++ [(strs (wl i), 2, B, d)]) := by
  refine ⟨hB, h7, o5, o6, by rw [gaCells_append]; exact o8, G.snoc oB dG, by simp [h.len], fun k x hx => ?_, fun x hx => ?_, fun x hx => ?_⟩
  · rcases Nat.lt_or_ge k i with hk | hk
    · rw [List.getElem?_append_left (by rw [h.len]; exact hk)] at hx
      exact h.at_ k x hx
    · rw [List.getElem?_append_right (by rw [h.len]; exact hk), h.len] at hx
      obtain ⟨hl, hx⟩ := List.getElem?_eq_some_iff.1 hx
      simp at hl
      obtain rfl : k = i := by omega
      simp at hx
      subst hx
      exact ⟨rfl, rfl⟩
  · rcases List.mem_append.1 hx with hx | hx
    · exact h.apU x hx
    · obtain rfl := List.mem_singleton.1 hx
      exact d5
  · rcases List.mem_append.1 hx with hx | hx
    · exact h.apD x hx
    · obtain rfl := List.mem_singleton.1 hx
      exact d6
end
/-- A list of records as a slice of a row. -/
def gr (m : Nat) (z : List RA × AC) : GA := (recCells z.1, m, z.2.1, z.2.2)
/-- The first lists of records, and what is wanted. -/
structure Cs (w wr : World) (g7 : Nat) (a5 a6 a8 a10 a13 : AC) (m : Nat) (X : List Rec) (os : List RA) (ls : List GA) (i : Nat) (L : List (List RA × AC)) : Prop where
  ws : Ws w wr g7 a5 a6 a8 6 ls
  want : wr.ownsRow w.heap.size 27 12 (.slice a10.1 m a10.2) m (recCells os)
  wantd : RUs wr os
  wantX : os.map (·.1) = X
  row : wr.ownsRow w.heap.size 22 1 (.slice a13.1 i a13.2) i (gaCells (L.map (gr m)))
  R : OGs 27 12 wr w.heap.size (L.map (gr m))
  dat : RUs wr (L.map (·.1)).flatten
  len : L.length = i
  at_ : ∀ z ∈ L, z.1.map (·.1) = X
  apX : ∀ x ∈ L.map (gr m), Apart x.2.2.1 a10.1
section
variable {w wr W : World} {g7 i m : Nat} {a5 a6 a8 a10 a13 : AC} {X : List Rec} {os : List RA} {ls : List GA} {L : List (List RA × AC)}
theorem Cs.next (h : Cs w wr g7 a5 a6 a8 a10 a13 m X os ls i L) (hb : Below wr.heap.size wr W) : Cs w W g7 a5 a6 a8 a10 a13 m X os ls i L :=
  ⟨h.ws.next hb, own_next h.want hb, fun x hx => (h.wantd x hx).next hb, h.wantX, own_next h.row hb, h.R.next hb, fun x hx => (h.dat x hx).next hb, h.len, h.at_, h.apX⟩
theorem Cs.snoc (h : Cs w wr g7 a5 a6 a8 a10 a13 m X os ls i L) (hW : Ws w W g7 a5 a6 a8 6 ls) (o10 : W.ownsRow w.heap.size 27 12 (.slice a10.1 m a10.2) m (recCells os)) (S10 : RUs W os)
    {A B : Option Addr} {c d : Nat} {q : List RA} (o13 : W.ownsRow w.heap.size 22 1 (.slice A (i + 1) c) (i + 1) (gaCells (L.map (gr m)) ++ [.slice B m d])) (G : OGs 27 12 W w.heap.size (L.map (gr m))) (oB : W.ownsRow w.heap.size 27 12 (.slice B m d) m (recCells q)) (dG : ∀ x ∈ L.map (gr m), Apart x.2.2.1 B) (dX : Apart B a10.1)
    (S : RUs W (L.map (·.1)).flatten) (Sq : RUs W q) (hq : q.map (·.1) = X) : Cs w W g7 a5 a6 a8 a10 (A, c) m X os ls (i + 1) (L ++ [(q, B, d)]) := by
  refine ⟨hW, o10, S10, h.wantX, by rw [List.map_append, gaCells_append]; exact o13, by rw [List.map_append]; exact G.snoc oB dG, fun x hx => ?_, by simp [h.len], fun z hz => ?_, fun x hx => ?_⟩
  · rw [List.map_append, List.flatten_append] at hx
    rcases List.mem_append.1 hx with hx | hx
    · exact S x hx
    · exact Sq x (by simpa using hx)
  · rcases List.mem_append.1 hz with hz | hz
    · exact h.at_ z hz
    · obtain rfl := List.mem_singleton.1 hz
      exact hq
  · rw [List.map_append] at hx
    rcases List.mem_append.1 hx with hx | hx
    · exact h.apX x hx
    · obtain rfl := List.mem_singleton.1 hx
      exact dX
end
theorem words_two {l : List ByteArray} (hl : l.length = 2) (A B : Option Addr) (c d : Nat) (w : World) (ha : RS w A l) (hb : RS w B l) :
    Calls Tryd.prog 24 #[.slice A 2 c, .slice B 2 d] w fun e w' => e = .returned (.bool true) ∧ Below w.heap.size w w' := by
  have := words_self l A B c d w ha hb (by omega)
  rwa [hl] at this
theorem own_rs2 {w : World} {base : Nat} {A : Option Addr} {c : Nat} {l : List ByteArray} {e : TypeId} (hl : l.length = 2) (h : w.ownsRow base e 1 (.slice A 2 c) 2 (strs l)) : RS w A l := by
  rw [← hl] at h
  exact own_rs h
theorem Cs.st {w wr : World} {g7 m : Nat} {a5 a6 a8 a10 a13 : AC} {X : List Rec} {os : List RA} {ls : List GA} {L : List (List RA × AC)} (h : Cs w wr g7 a5 a6 a8 a10 a13 m X os ls 3 L) : St w wr g7 a5 a6 a8 a10 a13 m os ls (L.map (gr m)) :=
  ⟨h.ws.below, h.ws.ways, h.ws.up, h.ws.down, h.want, h.wantd, h.ws.row, h.row, h.ws.W, h.R, h.ws.len, by rw [List.length_map]; exact h.len, fun x hx => by
    obtain ⟨k, hk⟩ := List.mem_iff_getElem?.1 hx
    exact (h.ws.at_ k x hk).2, fun x hx => by
    obtain ⟨z, _, rfl⟩ := List.mem_map.1 hx
    rfl, h.ws.apU, h.ws.apD, h.apX⟩
set_option maxHeartbeats 16000000 in
set_option maxRecDepth 100000 in
theorem liftLent_calls (to : Int) (l : List RA) (A : Option Addr) (c : Nat) (hl : l.length ≤ 1048576) (hsm : ∀ y ∈ l, y.1.Name.size ≤ 1048576 ∧ y.1.Data.length ≤ 1048576) (w : World) (hT : Tabs w) (ht : Tab w 1 waysL) (hR : RTabs w) (hr : RR w A l) :
    Calls Tryd.prog 4 #[.int .i64 to, .slice A l.length c] w fun e w' => e = .returned (.bool true) ∧ Below w.heap.size w w' := by
  have HB := Below.refl w.heap.size w
  have HT := Lib.hid hT
  have Ht := Lib.hid ht
  have HR := Lib.hid hR
  have Hr := Lib.hid hr
  have hfit : ∀ y ∈ l, y.1.Fits := fun y hy => ⟨by have := (hsm y hy).1; omega, by have := (hsm y hy).2; omega⟩
  obtain ⟨n, hn⟩ : ∃ n, l.length = n := ⟨_, rfl⟩
  obtain ⟨ua, ue, X, hx1, hx2, cu, cr⟩ := upAll_any to (l.map (·.1)) n (by simpa using hn) (by omega) (mapped hfit) (fun r hr => by obtain ⟨x, hx, rfl⟩ := List.mem_map.1 hr; have := (hsm x hx).1; omega)
  have Hn := Lib.hid hn
  have hn2 : n ≤ 1048576 := by omega
  rw [hn]
  have Cu := Lib.hid (fun w hT ht hr => cu l A c w rfl hT ht hr)
  have Cr := Lib.hid (fun w hR hr => cr l A c w rfl hR hr)
  obtain ⟨m, hm⟩ : ∃ m, X.length = m := ⟨_, rfl⟩
  have Hx1 := Lib.hid hx1
  have Hm := Lib.hid hm
  rw [hm] at hx2 Cu Cr
  clear hT ht hR hr hsm hfit hn hl cu cr hx1 hm
  go_enter Tryd.func4, Tryd.ntmps4
  go_wp2_with (first
    | ((with_reducible refine gate_dst (N := 38) rfl ?_); refine ev_lit rfl rfl (#[.string ⟨#[49,116,111,50]⟩, .string ⟨#[50,116,111,51]⟩]) 9 2 (by first | (go_simp; done) | (go_simp; rfl)) ?_; intro g38 W1 hg38 hsz hbn; have hgr := grown_of_below hbn; have zg38 : w.heap.size ≤ g38 := (by have := HB.size; omega); replace HB := HB.grown hgr (by have := HB.size; omega) (by simp); have hcg38 := hg38.cell; have hfg38 := hg38.frozen; clear hsz hbn hgr)
    | ((with_reducible refine gate_dst (N := 39) rfl ?_); refine ev_lit rfl rfl (#[.string ⟨#[51,116,111,50]⟩, .string ⟨#[50,116,111,49]⟩]) 9 2 (by first | (go_simp; done) | (go_simp; rfl)) ?_; intro g39 W2 hg39 hsz hbn; have hgr := grown_of_below hbn; have ng38g39 : g38 ≠ g39 := (by have := hg38.lt; omega); have zg39 : w.heap.size ≤ g39 := (by have := HB.size; omega); replace hg38 := hg38.grown hgr (by simp); replace HB := HB.grown hgr (by have := HB.size; omega) (by simp); have hcg39 := hg39.cell; have hfg39 := hg39.frozen; replace hcg38 := hg38.cell; replace hfg38 := hg38.frozen; clear hsz hbn hgr)
    | ((with_reducible refine gate_dst (N := 7) rfl ?_); refine ev_alloc rfl rfl _ ways_zero ?_; intro g7 W3 hg7 hsz hbn; have hgr := grown_of_below hbn; have ng38g7 : g38 ≠ g7 := (by have := hg38.lt; omega); have ng39g7 : g39 ≠ g7 := (by have := hg39.lt; omega); replace hg7 : Blk W3 g7 _ (#[.int .i64 0, .int .i64 0, .int .i64 0, .int .i64 0, .int .i64 0, .int .i64 0]) := hg7; have zg7 : w.heap.size ≤ g7 := (by have := HB.size; omega); replace hg38 := hg38.grown hgr (by simp); replace hg39 := hg39.grown hgr (by simp); replace HB := HB.grown hgr (by have := HB.size; omega) (by simp); have hcg7 := hg7.cell; have hfg7 := hg7.frozen; replace hcg38 := hg38.cell; replace hfg38 := hg38.frozen; replace hcg39 := hg39.cell; replace hfg39 := hg39.frozen; clear hsz hbn hgr)
    | ((with_reducible refine gate_store (p := 7) rfl ?_); refine ev_store_row (cs := #[.int .i64 0, .int .i64 0, .int .i64 1, .int .i64 1, .int .i64 0, .int .i64 1]) rfl rfl rfl hg7 rfl rfl ways_size rfl (by kernel_rfl) ?_; intro W4 hgn hgr; replace hg38 := hg38.grown hgr (by intro e; injection e with e; omega); replace hg39 := hg39.grown hgr (by intro e; injection e with e; omega); replace HB := HB.grown hgr (by have := HB.size; omega) (by intro k e; injection e with e; omega); replace hg7 := hgn; replace hcg38 := hg38.cell; replace hfg38 := hg38.frozen; replace hcg39 := hg39.cell; replace hfg39 := hg39.frozen; replace hcg7 := hg7.cell; replace hfg7 := hg7.frozen; clear hgn hgr))
  have o5 : _ := own_of_blk (n := 2) (xs := [.string ⟨#[49,116,111,50]⟩, .string ⟨#[50,116,111,51]⟩]) hg38 zg38 rfl (by decide)
  have o6 : _ := own_of_blk (n := 2) (xs := [.string ⟨#[51,116,111,50]⟩, .string ⟨#[50,116,111,49]⟩]) hg39 zg39 rfl (by decide)
  have hwa : Ws w _ g7 (some ⟨g38, 0, none⟩, 2) (some ⟨g39, 0, none⟩, 2) (none, 0) 0 [] := ⟨HB, hg7, by rw [steps13]; exact o5, by rw [steps31]; exact o6, own_nil _ _ _ _, OGs.nil, rfl, fun k x hx => (by cases hx), fun x hx => (by cases hx), fun x hx => (by cases hx)⟩
  have HW0 := Lib.hid hwa
  clear hwa o5 o6 hg38 hg39 hg7 HB
  go_loopg [8, 9] 6 (fun q v8 v9 wr => ∃ (i : Nat) (a8 : AC) (ls : List GA), q + i = 6 ∧ v9 = .int .i64 i ∧ v8 = .slice a8.1 i a8.2 ∧ Aside (Ws w wr g7 (some ⟨g38, 0, none⟩, 2) (some ⟨g39, 0, none⟩, 2) a8 i ls))
  case atStart => exact ⟨0, (none, 0), [], by omega, rfl, rfl, HW0.out⟩
  case round =>
    clear HW0
    obtain ⟨i, ⟨A8, c8⟩, ls, hq, rfl, rfl, HA⟩ := hrel
    have HS := HA.out
    clear HA
    by_cases hi : i < 6
    · have s1 : decide ((i : Int) < 6) = true := by rw [decide_eq_true_eq]; omega
      have s1' : decide (i < 6) = true := by rw [decide_eq_true_eq]; exact hi
      have HSS := Lib.hid HS
      have hi6 : ((6 : Int) ≤ (i : Int)) = False := eq_false (by omega)
      clear HS
      obtain ⟨hw1, hw2⟩ | ⟨hw1, hw2⟩ := way_at i hi
      · have hcell : ∀ w' : World, Below w.heap.size w w' ∧ Blk w' g7 39 waysC → w'.cell? ⟨g7, i, none⟩ = some (.int .i64 0) := fun w' h => by rw [h.2.cell]; exact hw1
        have Hc := Lib.hid hcell
        have Hw2 := Lib.hid hw2
        clear hcell hw1 hw2
        go_wp2
        refine held_start (fun w' => Below w.heap.size w w' ∧ Blk w' g7 39 waysC) (by kernel_rfl) (fun wd hbd => ?_)
        have HS := HSS.out.next hbd
        have HB := HS.below
        have hg7 := HS.ways
        have o5 := HS.up
        have o6 := HS.down
        have o8 := HS.row
        have G8 := HS.W
        clear hbd
        refine take_at (i := 0) (v := .slice A8 i c8) 45 rfl rfl (by kernel_rfl) (by kernel_rfl) (by kernel_rfl) (fun _ _ _ h => h) (.inl ⟨rfl, fun w h => by simp [go_sem]⟩) ⟨HB, hg7⟩ ?_
        simp only [Act.put, List.getElem_toArray, List.getElem_cons_succ, List.getElem_cons_zero, List.setIfInBounds_toArray, List.set_cons_succ, List.set_cons_zero]
        refine take_at (i := 1) (v := .int .i64 i) 46 rfl rfl (by kernel_rfl) (by kernel_rfl) (by kernel_rfl) (fun _ _ _ h => h) (.inl ⟨rfl, fun w h => by simp [go_sem]⟩) ⟨HB, hg7⟩ ?_
        simp only [Act.put, List.getElem_toArray, List.getElem_cons_succ, List.getElem_cons_zero, List.setIfInBounds_toArray, List.set_cons_succ, List.set_cons_zero]
        refine take_at (i := 2) (v := .pointer (some ⟨g7, i, none⟩)) 47 rfl rfl (by kernel_rfl) (by kernel_rfl) (by kernel_rfl) (fun _ _ _ h => h) (.inl ⟨rfl, fun w h => by simp [go_sem, hi6]⟩) ⟨HB, hg7⟩ ?_
        simp only [Act.put, List.getElem_toArray, List.getElem_cons_succ, List.getElem_cons_zero, List.setIfInBounds_toArray, List.set_cons_succ, List.set_cons_zero]
        refine take_at (i := 3) (v := .int .i64 0) 48 rfl rfl (by kernel_rfl) (by kernel_rfl) (by kernel_rfl) (fun _ _ _ h => h) (.inl ⟨rfl, fun w h => by simp [go_sem, Hc.out w h]⟩) ⟨HB, hg7⟩ ?_
        simp only [Act.put, List.getElem_toArray, List.getElem_cons_succ, List.getElem_cons_zero, List.setIfInBounds_toArray, List.set_cons_succ, List.set_cons_zero]
        refine take_at (i := 4) (v := .int .i64 0) 49 rfl rfl (by kernel_rfl) (by kernel_rfl) (by kernel_rfl) (fun _ _ _ h => h) (.inl ⟨rfl, fun w h => by simp [go_sem, wr0]⟩) ⟨HB, hg7⟩ ?_
        simp only [Act.put, List.getElem_toArray, List.getElem_cons_succ, List.getElem_cons_zero, List.setIfInBounds_toArray, List.set_cons_succ, List.set_cons_zero]
        refine take_at (i := 5) (v := .int .i64 1) 50 rfl rfl (by kernel_rfl) (by kernel_rfl) (by kernel_rfl) (fun _ _ _ h => h) (.inl ⟨rfl, fun w h => by simp [go_sem, wr1]⟩) ⟨HB, hg7⟩ ?_
        simp only [Act.put, List.getElem_toArray, List.getElem_cons_succ, List.getElem_cons_zero, List.setIfInBounds_toArray, List.set_cons_succ, List.set_cons_zero]
        refine take_at (i := 6) (v := .int .i64 i) 51 rfl rfl (by kernel_rfl) (by kernel_rfl) (by kernel_rfl) (fun _ _ _ h => h) (.inl ⟨rfl, fun w h => by simp [go_sem]⟩) ⟨HB, hg7⟩ ?_
        simp only [Act.put, List.getElem_toArray, List.getElem_cons_succ, List.getElem_cons_zero, List.setIfInBounds_toArray, List.set_cons_succ, List.set_cons_zero]
        refine take_at (i := 7) (v := .pointer (some ⟨g7, i, none⟩)) 52 rfl rfl (by kernel_rfl) (by kernel_rfl) (by kernel_rfl) (fun _ _ _ h => h) (.inl ⟨rfl, fun w h => by simp [go_sem, hi6]⟩) ⟨HB, hg7⟩ ?_
        simp only [Act.put, List.getElem_toArray, List.getElem_cons_succ, List.getElem_cons_zero, List.setIfInBounds_toArray, List.set_cons_succ, List.set_cons_zero]
        refine take_at (i := 8) (v := .int .i64 0) 53 rfl rfl (by kernel_rfl) (by kernel_rfl) (by kernel_rfl) (fun _ _ _ h => h) (.inl ⟨rfl, fun w h => by simp [go_sem, Hc.out w h]⟩) ⟨HB, hg7⟩ ?_
        simp only [Act.put, List.getElem_toArray, List.getElem_cons_succ, List.getElem_cons_zero, List.setIfInBounds_toArray, List.set_cons_succ, List.set_cons_zero]
        refine take_at (i := 9) (v := .int .i64 0) 54 rfl rfl (by kernel_rfl) (by kernel_rfl) (by kernel_rfl) (fun _ _ _ h => h) (.inl ⟨rfl, fun w h => by simp [go_sem, wr0]⟩) ⟨HB, hg7⟩ ?_
        simp only [Act.put, List.getElem_toArray, List.getElem_cons_succ, List.getElem_cons_zero, List.setIfInBounds_toArray, List.set_cons_succ, List.set_cons_zero]
        refine take_at (i := 10) (v := .int .i64 3) 55 rfl rfl (by kernel_rfl) (by kernel_rfl) (by kernel_rfl) (fun _ _ _ h => h) (.inl ⟨rfl, fun w h => by simp [go_sem, wr3]⟩) ⟨HB, hg7⟩ ?_
        simp only [Act.put, List.getElem_toArray, List.getElem_cons_succ, List.getElem_cons_zero, List.setIfInBounds_toArray, List.set_cons_succ, List.set_cons_zero]
        refine held_one (i := 11) (by kernel_rfl) rfl ?_
        (refine ev_call2 rfl rfl ⟨_, _, Tryd.func21, by kernel_rfl, rfl⟩ rfl rfl ?_; refine Calls.mono (steps_calls' (a := 1) (b := 3) (l := stepsL 1 3) (n := 2) rfl steps13_len _ (Ht.out.next HB)) ?_; rintro e W1 ⟨A56, c56, rfl, o56, hb⟩; refine ⟨_, rfl, ?_⟩; have hgr := grown_of_below hb; have do5o56 := own_apart o5 o56 (Nat.le_refl _); have do6o56 := own_apart o6 o56 (Nat.le_refl _); have do8o56 := own_apart o8 o56 (Nat.le_refl _); have dG8o56 := G8.apart_new o56 (Nat.le_refl _); replace o56 := own_mono o56 HB.size; replace G8 := G8.kept hgr (by simp); replace hg7 := hg7.grown hgr (by simp); replace o5 := o5.kept hgr (by cases Value.ownBlock _ <;> simp); replace o6 := o6.kept hgr (by cases Value.ownBlock _ <;> simp); replace o8 := o8.kept hgr (by cases Value.ownBlock _ <;> simp); replace HB := HB.grown hgr (by have := HB.size; omega) (by simp); replace hcg7 := hg7.cell; replace hfg7 := hg7.frozen; clear hb hgr)
        refine ⟨⟨HB, hg7⟩, ?_⟩
        try simp only [Act.put, List.getElem_toArray, List.getElem_cons_succ, List.getElem_cons_zero, List.setIfInBounds_toArray, List.set_cons_succ, List.set_cons_zero]
        refine held_one (i := 12) (by kernel_rfl) rfl ?_
        ((with_reducible refine gate_dst (N := 57) rfl ?_); refine ev_lit rfl rfl (#[.slice A56 2 c56]) 38 1 (by first | (go_simp; done) | (go_simp; rfl)) ?_; intro g57 W2 hg57 hsz hbn; have hgr := grown_of_below hbn; have ng7g57 : g7 ≠ g57 := (by have := hg7.lt; omega); have zg57 : w.heap.size ≤ g57 := (by have := HB.size; omega); replace G8 := G8.kept hgr (by simp); replace hg7 := hg7.grown hgr (by simp); replace o5 := o5.kept hgr (by cases Value.ownBlock _ <;> simp); replace o6 := o6.kept hgr (by cases Value.ownBlock _ <;> simp); replace o8 := o8.kept hgr (by cases Value.ownBlock _ <;> simp); replace o56 := o56.kept hgr (by cases Value.ownBlock _ <;> simp); replace HB := HB.grown hgr (by have := HB.size; omega) (by simp); have hcg57 := hg57.cell; have hfg57 := hg57.frozen; replace hcg7 := hg7.cell; replace hfg7 := hg7.frozen; clear hsz hbn hgr)
        refine ⟨⟨HB, hg7⟩, ?_⟩
        try simp only [Act.put, List.getElem_toArray, List.getElem_cons_succ, List.getElem_cons_zero, List.setIfInBounds_toArray, List.set_cons_succ, List.set_cons_zero]
        refine held_one (i := 13) (by kernel_rfl) rfl ?_
        ((with_reducible refine gate_dst (N := 58) rfl ?_); refine ev_append rfl rfl Tryd.underlying40 info_strs rfl (by omega) rfl o8 rfl (hg57.reads (size := 1) (n := 1) rfl) (fun u hu => by simp at hu; subst hu; rfl) (by omega) (by omega) (by have := HB.size; omega) ?_; intro A9 c9 W3 on hgr hat; clear hg57 hcg57 hfg57; replace G8 := G8.kept hgr (OGs.ne_own G8 o8 (by decide)); replace hg7 := hg7.grown hgr (fun e => own_blk_ne o8 hg7 (by decide) e.symm); replace o5 := o5.kept hgr (by first | assumption | exact own_ty_ne o5 o8 (by decide) | exact own_sym (by assumption)); replace o6 := o6.kept hgr (by first | assumption | exact own_ty_ne o6 o8 (by decide) | exact own_sym (by assumption)); replace o56 := o56.kept hgr (by first | assumption | exact own_ty_ne o56 o8 (by decide) | exact own_sym (by assumption)); replace HB := HB.grown hgr (by have := HB.size; omega) (own_base o8); replace o8 := on; replace hcg7 := hg7.cell; replace hfg7 := hg7.frozen; clear on hgr hat)
        refine ⟨⟨HB, hg7⟩, ?_⟩
        try simp only [Act.put, List.getElem_toArray, List.getElem_cons_succ, List.getElem_cons_zero, List.setIfInBounds_toArray, List.set_cons_succ, List.set_cons_zero]
        refine held_one (i := 14) (by kernel_rfl) rfl ?_
        refine ev_run rfl (w1 := W3) (v := .slice A9 (i + 1) c9) (by simp [go_sem]) ?_
        refine ⟨⟨HB, hg7⟩, ?_⟩
        try simp only [Act.put, List.getElem_toArray, List.getElem_cons_succ, List.getElem_cons_zero, List.setIfInBounds_toArray, List.set_cons_succ, List.set_cons_zero]
        refine wpAnyH_done (by kernel_rfl) ?_ _
        have HS2 := Lib.hid (HSS.out.snoc HB hg7 o5 o6 o8 G8 (by rw [Hw2.out]; exact o56) dG8o56 (apart_of_own (own_sym do5o56)) (apart_of_own (own_sym do6o56)))
        clear HB hg7 o5 o6 o8 G8 o56 HS dG8o56 do5o56 do6o56
        go_wp2
        go_roundg (gk - 1)
        case measure => omega
        case rel => exact ⟨i + 1, (A9, c9), _, by omega, by go_num, rfl, HS2.out⟩
      · have hcell : ∀ w' : World, Below w.heap.size w w' ∧ Blk w' g7 39 waysC → w'.cell? ⟨g7, i, none⟩ = some (.int .i64 1) := fun w' h => by rw [h.2.cell]; exact hw1
        have Hc := Lib.hid hcell
        have Hw2 := Lib.hid hw2
        clear hcell hw1 hw2
        go_wp2
        refine held_start (fun w' => Below w.heap.size w w' ∧ Blk w' g7 39 waysC) (by kernel_rfl) (fun wd hbd => ?_)
        have HS := HSS.out.next hbd
        have HB := HS.below
        have hg7 := HS.ways
        have o5 := HS.up
        have o6 := HS.down
        have o8 := HS.row
        have G8 := HS.W
        clear hbd
        refine take_at (i := 0) (v := .slice A8 i c8) 45 rfl rfl (by kernel_rfl) (by kernel_rfl) (by kernel_rfl) (fun _ _ _ h => h) (.inl ⟨rfl, fun w h => by simp [go_sem]⟩) ⟨HB, hg7⟩ ?_
        simp only [Act.put, List.getElem_toArray, List.getElem_cons_succ, List.getElem_cons_zero, List.setIfInBounds_toArray, List.set_cons_succ, List.set_cons_zero]
        refine take_at (i := 1) (v := .int .i64 i) 46 rfl rfl (by kernel_rfl) (by kernel_rfl) (by kernel_rfl) (fun _ _ _ h => h) (.inl ⟨rfl, fun w h => by simp [go_sem]⟩) ⟨HB, hg7⟩ ?_
        simp only [Act.put, List.getElem_toArray, List.getElem_cons_succ, List.getElem_cons_zero, List.setIfInBounds_toArray, List.set_cons_succ, List.set_cons_zero]
        refine take_at (i := 2) (v := .pointer (some ⟨g7, i, none⟩)) 47 rfl rfl (by kernel_rfl) (by kernel_rfl) (by kernel_rfl) (fun _ _ _ h => h) (.inl ⟨rfl, fun w h => by simp [go_sem, hi6]⟩) ⟨HB, hg7⟩ ?_
        simp only [Act.put, List.getElem_toArray, List.getElem_cons_succ, List.getElem_cons_zero, List.setIfInBounds_toArray, List.set_cons_succ, List.set_cons_zero]
        refine take_at (i := 3) (v := .int .i64 1) 48 rfl rfl (by kernel_rfl) (by kernel_rfl) (by kernel_rfl) (fun _ _ _ h => h) (.inl ⟨rfl, fun w h => by simp [go_sem, Hc.out w h]⟩) ⟨HB, hg7⟩ ?_
        simp only [Act.put, List.getElem_toArray, List.getElem_cons_succ, List.getElem_cons_zero, List.setIfInBounds_toArray, List.set_cons_succ, List.set_cons_zero]
        refine take_at (i := 4) (v := .int .i64 2) 49 rfl rfl (by kernel_rfl) (by kernel_rfl) (by kernel_rfl) (fun _ _ _ h => h) (.inl ⟨rfl, fun w h => by simp [go_sem, wr2]⟩) ⟨HB, hg7⟩ ?_
        simp only [Act.put, List.getElem_toArray, List.getElem_cons_succ, List.getElem_cons_zero, List.setIfInBounds_toArray, List.set_cons_succ, List.set_cons_zero]
        refine take_at (i := 5) (v := .int .i64 3) 50 rfl rfl (by kernel_rfl) (by kernel_rfl) (by kernel_rfl) (fun _ _ _ h => h) (.inl ⟨rfl, fun w h => by simp [go_sem, wr3]⟩) ⟨HB, hg7⟩ ?_
        simp only [Act.put, List.getElem_toArray, List.getElem_cons_succ, List.getElem_cons_zero, List.setIfInBounds_toArray, List.set_cons_succ, List.set_cons_zero]
        refine take_at (i := 6) (v := .int .i64 i) 51 rfl rfl (by kernel_rfl) (by kernel_rfl) (by kernel_rfl) (fun _ _ _ h => h) (.inl ⟨rfl, fun w h => by simp [go_sem]⟩) ⟨HB, hg7⟩ ?_
        simp only [Act.put, List.getElem_toArray, List.getElem_cons_succ, List.getElem_cons_zero, List.setIfInBounds_toArray, List.set_cons_succ, List.set_cons_zero]
        refine take_at (i := 7) (v := .pointer (some ⟨g7, i, none⟩)) 52 rfl rfl (by kernel_rfl) (by kernel_rfl) (by kernel_rfl) (fun _ _ _ h => h) (.inl ⟨rfl, fun w h => by simp [go_sem, hi6]⟩) ⟨HB, hg7⟩ ?_
        simp only [Act.put, List.getElem_toArray, List.getElem_cons_succ, List.getElem_cons_zero, List.setIfInBounds_toArray, List.set_cons_succ, List.set_cons_zero]
        refine take_at (i := 8) (v := .int .i64 1) 53 rfl rfl (by kernel_rfl) (by kernel_rfl) (by kernel_rfl) (fun _ _ _ h => h) (.inl ⟨rfl, fun w h => by simp [go_sem, Hc.out w h]⟩) ⟨HB, hg7⟩ ?_
        simp only [Act.put, List.getElem_toArray, List.getElem_cons_succ, List.getElem_cons_zero, List.setIfInBounds_toArray, List.set_cons_succ, List.set_cons_zero]
        refine take_at (i := 9) (v := .int .i64 2) 54 rfl rfl (by kernel_rfl) (by kernel_rfl) (by kernel_rfl) (fun _ _ _ h => h) (.inl ⟨rfl, fun w h => by simp [go_sem, wr2]⟩) ⟨HB, hg7⟩ ?_
        simp only [Act.put, List.getElem_toArray, List.getElem_cons_succ, List.getElem_cons_zero, List.setIfInBounds_toArray, List.set_cons_succ, List.set_cons_zero]
        refine take_at (i := 10) (v := .int .i64 1) 55 rfl rfl (by kernel_rfl) (by kernel_rfl) (by kernel_rfl) (fun _ _ _ h => h) (.inl ⟨rfl, fun w h => by simp [go_sem, wr1]⟩) ⟨HB, hg7⟩ ?_
        simp only [Act.put, List.getElem_toArray, List.getElem_cons_succ, List.getElem_cons_zero, List.setIfInBounds_toArray, List.set_cons_succ, List.set_cons_zero]
        refine held_one (i := 11) (by kernel_rfl) rfl ?_
        (refine ev_call2 rfl rfl ⟨_, _, Tryd.func21, by kernel_rfl, rfl⟩ rfl rfl ?_; refine Calls.mono (steps_calls' (a := 3) (b := 1) (l := stepsL 3 1) (n := 2) rfl steps31_len _ (Ht.out.next HB)) ?_; rintro e W1 ⟨A56, c56, rfl, o56, hb⟩; refine ⟨_, rfl, ?_⟩; have hgr := grown_of_below hb; have do5o56 := own_apart o5 o56 (Nat.le_refl _); have do6o56 := own_apart o6 o56 (Nat.le_refl _); have do8o56 := own_apart o8 o56 (Nat.le_refl _); have dG8o56 := G8.apart_new o56 (Nat.le_refl _); replace o56 := own_mono o56 HB.size; replace G8 := G8.kept hgr (by simp); replace hg7 := hg7.grown hgr (by simp); replace o5 := o5.kept hgr (by cases Value.ownBlock _ <;> simp); replace o6 := o6.kept hgr (by cases Value.ownBlock _ <;> simp); replace o8 := o8.kept hgr (by cases Value.ownBlock _ <;> simp); replace HB := HB.grown hgr (by have := HB.size; omega) (by simp); replace hcg7 := hg7.cell; replace hfg7 := hg7.frozen; clear hb hgr)
        refine ⟨⟨HB, hg7⟩, ?_⟩
        try simp only [Act.put, List.getElem_toArray, List.getElem_cons_succ, List.getElem_cons_zero, List.setIfInBounds_toArray, List.set_cons_succ, List.set_cons_zero]
        refine held_one (i := 12) (by kernel_rfl) rfl ?_
        ((with_reducible refine gate_dst (N := 57) rfl ?_); refine ev_lit rfl rfl (#[.slice A56 2 c56]) 38 1 (by first | (go_simp; done) | (go_simp; rfl)) ?_; intro g57 W2 hg57 hsz hbn; have hgr := grown_of_below hbn; have ng7g57 : g7 ≠ g57 := (by have := hg7.lt; omega); have zg57 : w.heap.size ≤ g57 := (by have := HB.size; omega); replace G8 := G8.kept hgr (by simp); replace hg7 := hg7.grown hgr (by simp); replace o5 := o5.kept hgr (by cases Value.ownBlock _ <;> simp); replace o6 := o6.kept hgr (by cases Value.ownBlock _ <;> simp); replace o8 := o8.kept hgr (by cases Value.ownBlock _ <;> simp); replace o56 := o56.kept hgr (by cases Value.ownBlock _ <;> simp); replace HB := HB.grown hgr (by have := HB.size; omega) (by simp); have hcg57 := hg57.cell; have hfg57 := hg57.frozen; replace hcg7 := hg7.cell; replace hfg7 := hg7.frozen; clear hsz hbn hgr)
        refine ⟨⟨HB, hg7⟩, ?_⟩
        try simp only [Act.put, List.getElem_toArray, List.getElem_cons_succ, List.getElem_cons_zero, List.setIfInBounds_toArray, List.set_cons_succ, List.set_cons_zero]
        refine held_one (i := 13) (by kernel_rfl) rfl ?_
        ((with_reducible refine gate_dst (N := 58) rfl ?_); refine ev_append rfl rfl Tryd.underlying40 info_strs rfl (by omega) rfl o8 rfl (hg57.reads (size := 1) (n := 1) rfl) (fun u hu => by simp at hu; subst hu; rfl) (by omega) (by omega) (by have := HB.size; omega) ?_; intro A9 c9 W3 on hgr hat; clear hg57 hcg57 hfg57; replace G8 := G8.kept hgr (OGs.ne_own G8 o8 (by decide)); replace hg7 := hg7.grown hgr (fun e => own_blk_ne o8 hg7 (by decide) e.symm); replace o5 := o5.kept hgr (by first | assumption | exact own_ty_ne o5 o8 (by decide) | exact own_sym (by assumption)); replace o6 := o6.kept hgr (by first | assumption | exact own_ty_ne o6 o8 (by decide) | exact own_sym (by assumption)); replace o56 := o56.kept hgr (by first | assumption | exact own_ty_ne o56 o8 (by decide) | exact own_sym (by assumption)); replace HB := HB.grown hgr (by have := HB.size; omega) (own_base o8); replace o8 := on; replace hcg7 := hg7.cell; replace hfg7 := hg7.frozen; clear on hgr hat)
        refine ⟨⟨HB, hg7⟩, ?_⟩
        try simp only [Act.put, List.getElem_toArray, List.getElem_cons_succ, List.getElem_cons_zero, List.setIfInBounds_toArray, List.set_cons_succ, List.set_cons_zero]
        refine held_one (i := 14) (by kernel_rfl) rfl ?_
        refine ev_run rfl (w1 := W3) (v := .slice A9 (i + 1) c9) (by simp [go_sem]) ?_
        refine ⟨⟨HB, hg7⟩, ?_⟩
        try simp only [Act.put, List.getElem_toArray, List.getElem_cons_succ, List.getElem_cons_zero, List.setIfInBounds_toArray, List.set_cons_succ, List.set_cons_zero]
        refine wpAnyH_done (by kernel_rfl) ?_ _
        have HS2 := Lib.hid (HSS.out.snoc HB hg7 o5 o6 o8 G8 (by rw [Hw2.out]; exact o56) dG8o56 (apart_of_own (own_sym do5o56)) (apart_of_own (own_sym do6o56)))
        clear HB hg7 o5 o6 o8 G8 o56 HS dG8o56 do5o56 do6o56
        go_wp2
        go_roundg (gk - 1)
        case measure => omega
        case rel => exact ⟨i + 1, (A9, c9), _, by omega, by go_num, rfl, HS2.out⟩
    · obtain rfl : i = 6 := by omega
      have HB := HS.below
      have hg7 := HS.ways
      have o5 := HS.up
      have o6 := HS.down
      have o8 := HS.row
      have Gx8 := HS.W
      have HSS := Lib.hid HS
      have hcg7 : True := trivial
      have hfg7 : True := trivial
      clear HS
      go_wp2_with (first
        | (go_at_call 22; (with_reducible refine (Cr.out _ (HR.out.next HB) (Hr.out.next HB)).mono ?_); rintro e W1 ⟨A10, c10, os, rfl, hos, o10, S10, hb⟩; have hgr := grown_of_below hb; have do5o10 := own_apart o5 o10 (Nat.le_refl _); have do6o10 := own_apart o6 o10 (Nat.le_refl _); have do8o10 := own_apart o8 o10 (Nat.le_refl _); replace o10 := own_mono o10 HB.size; replace Gx8 := Gx8.kept hgr (by simp); replace hg7 := hg7.grown hgr (by simp); replace o5 := o5.kept hgr (by cases Value.ownBlock _ <;> simp); replace o6 := o6.kept hgr (by cases Value.ownBlock _ <;> simp); replace o8 := o8.kept hgr (by cases Value.ownBlock _ <;> simp); replace HB := HB.grown hgr (by have := HB.size; omega) (by simp); replace hcg7 := hg7.cell; replace hfg7 := hg7.frozen; clear hb hgr))
      have HC0 : Aside (Cs w _ g7 (some ⟨g38, 0, none⟩, 2) (some ⟨g39, 0, none⟩, 2) (A8, c8) (A10, c10) (none, 0) m X os ls 0 []) := ⟨⟨HB, hg7, o5, o6, o8, Gx8, HSS.out.len, HSS.out.at_, HSS.out.apU, HSS.out.apD⟩, o10, S10, hos.out, own_nil _ _ _ _, OGs.nil, fun x hx => (by cases hx), rfl, fun z hz => (by cases hz), fun x hx => (by cases hx)⟩
      have HC1 := Lib.hid HC0.out
      clear HC0 HB hg7 o5 o6 o8 Gx8 o10 S10 hos
      go_loopg [13, 14] 3 (fun q v13 v14 wr => ∃ (i : Nat) (a13 : AC) (L : List (List RA × AC)), q + i = 3 ∧ v14 = .int .i64 i ∧ v13 = .slice a13.1 i a13.2 ∧ Aside (Cs w wr g7 (some ⟨g38, 0, none⟩, 2) (some ⟨g39, 0, none⟩, 2) (A8, c8) (A10, c10) a13 m X os ls i L))
      case atStart => exact ⟨0, (none, 0), [], by omega, rfl, rfl, HC1.out⟩
      case round =>
        clear HC1 HSS hcg7 hfg7
        obtain ⟨i, ⟨A13, c13⟩, L, hqm, rfl, rfl, HA⟩ := hrel
        have HS := HA.out
        clear HA
        by_cases hi : i < 3
        · have s1 : decide ((i : Int) < 3) = true := by rw [decide_eq_true_eq]; omega
          have s1' : decide (i < 3) = true := by rw [decide_eq_true_eq]; exact hi
          have HB := HS.ws.below
          have hg7 := HS.ws.ways
          have o5 := HS.ws.up
          have o6 := HS.ws.down
          have o8 := HS.ws.row
          have Gx8 := HS.ws.W
          have o10 := HS.want
          have S10 := HS.wantd
          have o13 := HS.row
          have G13 := HS.R
          have S13 := HS.dat
          have HCS := Lib.hid HS
          have hcg7 : True := trivial
          have hfg7 : True := trivial
          clear HS
          go_wp2_with (first
            | (go_at_call 23; (with_reducible refine (Cu.out _ (HT.out.next HB) (Ht.out.next HB) (Hr.out.next HB)).mono ?_); rintro e W1 ⟨A15, c15, q, rfl, hq, o15, S15, hb⟩; have hgr := grown_of_below hb; have do5o15 := own_apart o5 o15 (Nat.le_refl _); have do6o15 := own_apart o6 o15 (Nat.le_refl _); have do8o15 := own_apart o8 o15 (Nat.le_refl _); have do10o15 := own_apart o10 o15 (Nat.le_refl _); have do13o15 := own_apart o13 o15 (Nat.le_refl _); have dG13o15 := G13.apart_new o15 (Nat.le_refl _); replace o15 := own_mono o15 HB.size; replace S13 := S13.kept hgr (by simp); replace S10 := S10.kept hgr (by simp); replace G13 := G13.kept hgr (by simp); replace Gx8 := Gx8.kept hgr (by simp); replace hg7 := hg7.grown hgr (by simp); replace o5 := o5.kept hgr (by cases Value.ownBlock _ <;> simp); replace o6 := o6.kept hgr (by cases Value.ownBlock _ <;> simp); replace o8 := o8.kept hgr (by cases Value.ownBlock _ <;> simp); replace o10 := o10.kept hgr (by cases Value.ownBlock _ <;> simp); replace o13 := o13.kept hgr (by cases Value.ownBlock _ <;> simp); replace HB := HB.grown hgr (by have := HB.size; omega) (by simp); replace hcg7 := hg7.cell; replace hfg7 := hg7.frozen; clear hb hgr)
            | ((with_reducible refine gate_dst (N := 79) rfl ?_); refine ev_lit rfl rfl (#[.slice A15 m c15]) 22 1 (by first | (go_simp; done) | (go_simp; rfl)) ?_; intro g79 W2 hg79 hsz hbn; have hgr := grown_of_below hbn; have ng7g79 : g7 ≠ g79 := (by have := hg7.lt; omega); have zg79 : w.heap.size ≤ g79 := (by have := HB.size; omega); replace S15 := S15.kept hgr (by simp); replace S13 := S13.kept hgr (by simp); replace S10 := S10.kept hgr (by simp); replace G13 := G13.kept hgr (by simp); replace Gx8 := Gx8.kept hgr (by simp); replace hg7 := hg7.grown hgr (by simp); replace o5 := o5.kept hgr (by cases Value.ownBlock _ <;> simp); replace o6 := o6.kept hgr (by cases Value.ownBlock _ <;> simp); replace o8 := o8.kept hgr (by cases Value.ownBlock _ <;> simp); replace o10 := o10.kept hgr (by cases Value.ownBlock _ <;> simp); replace o13 := o13.kept hgr (by cases Value.ownBlock _ <;> simp); replace o15 := o15.kept hgr (by cases Value.ownBlock _ <;> simp); replace HB := HB.grown hgr (by have := HB.size; omega) (by simp); have hcg79 := hg79.cell; have hfg79 := hg79.frozen; replace hcg7 := hg7.cell; replace hfg7 := hg7.frozen; clear hsz hbn hgr)
            | ((with_reducible refine gate_dst (N := 80) rfl ?_); refine ev_append rfl rfl Tryd.underlying44 info_rss rfl (by omega) rfl o13 rfl (hg79.reads (size := 1) (n := 1) rfl) (fun u hu => by simp at hu; subst hu; rfl) (by omega) (by omega) (by have := HB.size; omega) ?_; intro A9 c9 W3 on hgr hat; clear hg79 hcg79 hfg79; replace S15 := S15.kept hgr (RUs.ne_own S15 o13 (by decide)); replace S13 := S13.kept hgr (RUs.ne_own S13 o13 (by decide)); replace S10 := S10.kept hgr (RUs.ne_own S10 o13 (by decide)); replace G13 := G13.kept hgr (OGs.ne_own G13 o13 (by decide)); replace Gx8 := Gx8.kept hgr (OGs.ne_own Gx8 o13 (by decide)); replace hg7 := hg7.grown hgr (fun e => own_blk_ne o13 hg7 (by decide) e.symm); replace o5 := o5.kept hgr (by first | assumption | exact own_ty_ne o5 o13 (by decide) | exact own_sym (by assumption)); replace o6 := o6.kept hgr (by first | assumption | exact own_ty_ne o6 o13 (by decide) | exact own_sym (by assumption)); replace o8 := o8.kept hgr (by first | assumption | exact own_ty_ne o8 o13 (by decide) | exact own_sym (by assumption)); replace o10 := o10.kept hgr (by first | assumption | exact own_ty_ne o10 o13 (by decide) | exact own_sym (by assumption)); replace o15 := o15.kept hgr (by first | assumption | exact own_ty_ne o15 o13 (by decide) | exact own_sym (by assumption)); replace HB := HB.grown hgr (by have := HB.size; omega) (own_base o13); replace o13 := on; replace hcg7 := hg7.cell; replace hfg7 := hg7.frozen; clear on hgr hat))
          have HS2 := Lib.hid (HCS.out.snoc ⟨HB, hg7, o5, o6, o8, Gx8, HCS.out.ws.len, HCS.out.ws.at_, HCS.out.ws.apU, HCS.out.ws.apD⟩ o10 S10 o13 G13 o15 dG13o15 (apart_of_own (own_sym do10o15)) S13 S15 hq.out)
          clear HB hg7 o5 o6 o8 Gx8 o10 S10 o13 G13 S13 o15 S15 dG13o15 hq
          go_roundg (gk - 1)
          case measure => omega
          case rel => exact ⟨i + 1, (A9, c9), _, by omega, by go_num, rfl, HS2.out⟩
        · obtain rfl : i = 3 := by omega
          have HC2 := Lib.hid HS
          clear HS
          go_wp2
          go_loopg [18] 6 (fun q v18 wr => ∃ i : Nat, q + i = 6 ∧ v18 = .int .i64 i ∧ Aside (Cs w wr g7 (some ⟨g38, 0, none⟩, 2) (some ⟨g39, 0, none⟩, 2) (A8, c8) (A10, c10) (A13, c13) m X os ls 3 L))
          case atStart => exact ⟨0, by omega, rfl, HC2.out⟩
          case round =>
            clear HC2
            obtain ⟨i, hqm, rfl, HA⟩ := hrel
            have HS := HA.out
            clear HA
            by_cases hi : i < 6
            · have s1 : decide ((i : Int) < 6) = true := by rw [decide_eq_true_eq]; omega
              have s1' : decide (i < 6) = true := by rw [decide_eq_true_eq]; exact hi
              have hi6 : ((6 : Int) ≤ (i : Int)) = False := eq_false (by omega)
              obtain ⟨k, hk⟩ : ∃ k, k = i / 2 := ⟨_, rfl⟩
              have td : (i : Int).tdiv 2 = (k : Int) := by rw [Int.tdiv_eq_ediv_of_nonneg (by omega)]; omega
              have hk3 : k < 3 := by omega
              obtain ⟨x, hx⟩ : ∃ x, ls[i]? = some x := ⟨_, List.getElem?_eq_getElem (by rw [HS.ws.len]; exact hi)⟩
              obtain ⟨z, hz⟩ : ∃ z, L[k]? = some z := ⟨_, List.getElem?_eq_getElem (by rw [HS.len]; exact hk3)⟩
              obtain ⟨e1, e2⟩ := HS.ws.at_ i x hx
              obtain ⟨xs, xn, B, d⟩ := x
              obtain ⟨q, D, e⟩ := z
              simp only at e1 e2
              subst e1
              subst e2
              have hzg : (L.map (gr m))[k]? = some (recCells q, m, D, e) := by rw [List.getElem?_map, hz]; rfl
              obtain ⟨g8, hg8, _⟩ := own_at HS.ws.row (by omega)
              obtain ⟨g13, hg13, _⟩ := own_at HS.row (by omega)
              simp only at hg8 hg13
              subst hg8
              subst hg13
              have Hzm := HS.at_ _ (List.mem_of_getElem? hz)
              have Hzx := Lib.hid (show q.map (·.1) = os.map (·.1) from Hzm.trans HS.wantX.symm)
              have Hzl := Lib.hid (show q.length = m by have := congrArg List.length Hzm; rw [List.length_map] at this; exact this.trans Hm.out)
              have Hzf := Lib.hid (show ∀ y ∈ q, y.1.Fits from fun y hy => Hx1.out _ (Hzm ▸ List.mem_map.2 ⟨y, hy, rfl⟩))
              have hol : os.length = m := by have := congrArg List.length HS.wantX; rw [List.length_map] at this; exact this.trans Hm.out
              have hc8 : ∀ W', Below wr.heap.size wr W' → W'.cell? ⟨g8, i, none⟩ = some (.slice B 2 d) := fun W' u => cell_ga (own_next HS.ws.row u) hx
              have hc13 : ∀ W', Below wr.heap.size wr W' → W'.cell? ⟨g13, k, none⟩ = some (.slice D m e) := fun W' u => cell_ga (own_next HS.row u) hzg
              have rU : ∀ W', Below wr.heap.size wr W' → RS W' (some ⟨g38, 0, none⟩) (stepsL 1 3) := fun W' u => own_rs2 steps13_len (own_next HS.ws.up u)
              have rD : ∀ W', Below wr.heap.size wr W' → RS W' (some ⟨g39, 0, none⟩) (stepsL 3 1) := fun W' u => own_rs2 steps31_len (own_next HS.ws.down u)
              have rW : ∀ W', Below wr.heap.size wr W' → RS W' B (wl i) := fun W' u => own_rs2 (by rcases way_at i hi with h | h <;> rw [h.2] <;> first | exact steps13_len | exact steps31_len) (own_next (HS.ws.W.all _ (List.mem_of_getElem? hx)) u)
              have rZ : ∀ W', Below wr.heap.size wr W' → RR W' D q := fun W' u => RR.of_own (own_next (HS.R.all _ (List.mem_of_getElem? hzg)) u) Hzl.out (fun y hy => (HS.dat y (List.mem_flatten.2 ⟨q, List.mem_map.2 ⟨_, List.mem_of_getElem? hz, rfl⟩, hy⟩)).next u)
              have rX : ∀ W', Below wr.heap.size wr W' → RR W' A10 os := fun W' u => RR.of_own (own_next HS.want u) hol (fun y hy => (HS.wantd y hy).next u)
              clear Hzm hk hzg hol
              obtain ⟨hw1, hw2⟩ | ⟨hw1, hw2⟩ := way_at i hi
              · have hcw : ∀ W', Below wr.heap.size wr W' → W'.cell? ⟨g7, i, none⟩ = some (.int .i64 0) := fun W' u => by rw [(HS.ws.ways.next u).cell]; exact hw1
                rw [hw2] at rW
                have HSS := Lib.hid HS
                clear HS hx hz hw1 hw2
                have HB := Below.refl wr.heap.size wr
                have w0 := hcw _ HB
                have w1 := hc8 _ HB
                have w2 := hc13 _ HB
                go_wp2_with (first
                  | (go_at_call 24; (with_reducible refine (words_two steps13_len _ _ _ _ _ (rW _ HB) (rU _ HB)).mono ?_); rintro e W1 ⟨rfl, hb⟩; have hgr := grown_of_below hb; replace HB := HB.grown hgr (by have := HB.size; omega) (by simp); clear hb hgr; have w0 := hcw _ HB; have w2 := hc13 _ HB)
                  | (go_at_call 25; (with_reducible refine (refSameAll_n _ _ m Hzl.out _ _ _ _ Hzx.out (by omega) Hzf.out _ (rZ _ HB) (rX _ HB)).mono ?_); rintro e W2 ⟨rfl, hb⟩; have hgr := grown_of_below hb; replace HB := HB.grown hgr (by have := HB.size; omega) (by simp); clear hb hgr))
                have HS := HSS.out.next HB
                clear rU rD rW rZ rX hcw hc8 hc13 HSS HB
                go_roundg (gk - 1)
                case measure => omega
                case rel => exact ⟨i + 1, by omega, by go_num, HS⟩
              · have hcw : ∀ W', Below wr.heap.size wr W' → W'.cell? ⟨g7, i, none⟩ = some (.int .i64 1) := fun W' u => by rw [(HS.ws.ways.next u).cell]; exact hw1
                rw [hw2] at rW
                have HSS := Lib.hid HS
                clear HS hx hz hw1 hw2
                have HB := Below.refl wr.heap.size wr
                have w0 := hcw _ HB
                have w1 := hc8 _ HB
                have w2 := hc13 _ HB
                go_wp2_with (first
                  | (go_at_call 24; (with_reducible refine (words_two steps31_len _ _ _ _ _ (rW _ HB) (rD _ HB)).mono ?_); rintro e W1 ⟨rfl, hb⟩; have hgr := grown_of_below hb; replace HB := HB.grown hgr (by have := HB.size; omega) (by simp); clear hb hgr; have w0 := hcw _ HB; have w2 := hc13 _ HB)
                  | (go_at_call 25; (with_reducible refine (refSameAll_n _ _ m Hzl.out _ _ _ _ Hzx.out (by omega) Hzf.out _ (rZ _ HB) (rX _ HB)).mono ?_); rintro e W2 ⟨rfl, hb⟩; have hgr := grown_of_below hb; replace HB := HB.grown hgr (by have := HB.size; omega) (by simp); clear hb hgr))
                have HS := HSS.out.next HB
                clear rU rD rW rZ rX hcw hc8 hc13 HSS HB
                go_roundg (gk - 1)
                case measure => omega
                case rel => exact ⟨i + 1, by omega, by go_num, HS⟩
            · obtain rfl : i = 6 := by omega
              obtain ⟨w0, rfl⟩ : ∃ w0, w0 = wr := ⟨_, rfl⟩
              have hst := HS.st
              have hos : os.map (·.1) = X := HS.wantX
              obtain ⟨ms, hms⟩ : ∃ ms, L.map (gr m) = ms := ⟨_, rfl⟩
              rw [hms] at hst
              have HSt := Lib.hid hst
              have Hos := Lib.hid hos
              clear HS hst hos hms
              go_wp2
              go_loopg [19] 6 (fun q v19 wr => ∃ i : Nat, q + i = 6 ∧ v19 = .int .i64 i ∧ Aside (∃ cur, Fg 9 1 MKW wr w.heap.size ls cur i 0 ∧ OGs 27 12 wr w.heap.size ms ∧ KX (Stay w0 ls ms) w0 wr))
              case atStart => exact ⟨0, by omega, rfl, ⟨_, Fg.start HSt.out.W rfl, HSt.out.R, HSt.out.kx⟩⟩
              case round =>
                obtain ⟨gm, rfl⟩ : ∃ gm, gm = gk := ⟨_, rfl⟩
                obtain ⟨i, hqm, rfl, HA⟩ := hrel
                obtain ⟨cur, HF, HR3, HK⟩ := HA.out
                clear HA
                by_cases hi : i < 6
                · have s1 : decide ((i : Int) < 6) = true := by rw [decide_eq_true_eq]; omega
                  have s1' : decide (i < 6) = true := by rw [decide_eq_true_eq]; exact hi
                  obtain ⟨x, hx⟩ : ∃ x, ls[i]? = some x := ⟨_, List.getElem?_eq_getElem (by rw [HSt.out.lenW]; exact hi)⟩
                  have e2 := HSt.out.nW x (List.mem_of_getElem? hx)
                  obtain ⟨xs, xn, B, d⟩ := x
                  simp only at e2
                  subst e2
                  have Hx := Lib.hid hx
                  have HF0 := Lib.hid HF
                  have HR0 := Lib.hid HR3
                  have HK0 := Lib.hid HK
                  clear hx HF HR3 HK
                  go_wp2
                  go_loopg [20] 2 (fun q v20 wr => ∃ j : Nat, q + j = 2 ∧ v20 = .int .i64 j ∧ Aside (∃ cur, Fg 9 1 MKW wr w.heap.size ls cur i j ∧ OGs 27 12 wr w.heap.size ms ∧ KX (Stay w0 ls ms) w0 wr))
                  case atStart => exact ⟨0, by omega, rfl, ⟨_, HF0.out, HR0.out, HK0.out⟩⟩
                  case round =>
                    clear HF0 HR0 HK0
                    obtain ⟨j, hqn, rfl, HA⟩ := hrel
                    obtain ⟨cur, HF, HR3, HK⟩ := HA.out
                    clear HA
                    obtain ⟨g8, hg8, _⟩ := own_at (HSt.out.rowW_at HK) (by omega)
                    simp only at hg8
                    subst hg8
                    have hc8 := cell_ga (HSt.out.rowW_at HK) Hx.out
                    by_cases hj : j < 2
                    · have q1 : decide ((j : Int) < 2) = true := by rw [decide_eq_true_eq]; omega
                      have q1' : decide (j < 2) = true := by rw [decide_eq_true_eq]; exact hj
                      have hi6 : ((6 : Int) ≤ (i : Int)) = False := eq_false (by omega)
                      have hj2 : ((2 : Int) ≤ (j : Int)) = False := eq_false (by omega)
                      obtain ⟨ys, hy, oB, hyt⟩ := HF.row Hx.out
                      obtain ⟨gB, hgB, _⟩ := own_at oB (by omega)
                      subst hgB
                      have Hc8 := Lib.hid (fun (w' : World) (h : KX (Stay w0 ls ms) w0 w') => cell_ga (HSt.out.rowW_at h) Hx.out)
                      have Hy := Lib.hid hy
                      have Hyt := Lib.hid hyt
                      clear hy hyt
                      go_wp2
                      clear hc8
                      refine held_start (fun w' => KX (Stay w0 ls ms) w0 w') (by kernel_rfl) (fun wd hbd => ?_)
                      have K9 := HK.next hbd
                      replace HF := HF.next hbd
                      replace HR3 := HR3.next hbd
                      replace oB := own_next oB hbd
                      clear hbd HK
                      refine take_at (i := 0) (v := .slice (some ⟨g8, 0, none⟩) 6 c8) 136 rfl rfl (by kernel_rfl) (by kernel_rfl) (by kernel_rfl) (fun _ _ _ h => h) (.inl ⟨rfl, fun w h => by simp [go_sem]⟩) K9 ?_
                      simp only [Act.put, List.getElem_toArray, List.getElem_cons_succ, List.getElem_cons_zero, List.setIfInBounds_toArray, List.set_cons_succ, List.set_cons_zero]
                      refine take_at (i := 1) (v := .int .i64 i) 137 rfl rfl (by kernel_rfl) (by kernel_rfl) (by kernel_rfl) (fun _ _ _ h => h) (.inl ⟨rfl, fun w h => by simp [go_sem]⟩) K9 ?_
                      simp only [Act.put, List.getElem_toArray, List.getElem_cons_succ, List.getElem_cons_zero, List.setIfInBounds_toArray, List.set_cons_succ, List.set_cons_zero]
                      refine take_at (i := 2) (v := .pointer (some ⟨g8, i, none⟩)) 138 rfl rfl (by kernel_rfl) (by kernel_rfl) (by kernel_rfl) (fun _ _ _ h => h) (.inl ⟨rfl, fun w h => by simp [go_sem, hi6]⟩) K9 ?_
                      simp only [Act.put, List.getElem_toArray, List.getElem_cons_succ, List.getElem_cons_zero, List.setIfInBounds_toArray, List.set_cons_succ, List.set_cons_zero]
                      refine take_at (i := 3) (v := .slice (some ⟨gB, 0, none⟩) 2 d) 139 rfl rfl (by kernel_rfl) (by kernel_rfl) (by kernel_rfl) (fun _ _ _ h => h) (.inl ⟨rfl, fun w h => by simp [go_sem, Hc8.out w h]⟩) K9 ?_
                      simp only [Act.put, List.getElem_toArray, List.getElem_cons_succ, List.getElem_cons_zero, List.setIfInBounds_toArray, List.set_cons_succ, List.set_cons_zero]
                      refine take_at (i := 4) (v := .int .i64 j) 140 rfl rfl (by kernel_rfl) (by kernel_rfl) (by kernel_rfl) (fun _ _ _ h => h) (.inl ⟨rfl, fun w h => by simp [go_sem]⟩) K9 ?_
                      simp only [Act.put, List.getElem_toArray, List.getElem_cons_succ, List.getElem_cons_zero, List.setIfInBounds_toArray, List.set_cons_succ, List.set_cons_zero]
                      refine take_at (i := 5) (v := .int .i64 i) 141 rfl rfl (by kernel_rfl) (by kernel_rfl) (by kernel_rfl) (fun _ _ _ h => h) (.inl ⟨rfl, fun w h => by simp [go_sem]⟩) K9 ?_
                      simp only [Act.put, List.getElem_toArray, List.getElem_cons_succ, List.getElem_cons_zero, List.setIfInBounds_toArray, List.set_cons_succ, List.set_cons_zero]
                      refine held_one (i := 6) (by kernel_rfl) rfl ?_
                      (refine ev_call1 rfl rfl ⟨_, _, Tryd.func26, by kernel_rfl, rfl⟩ rfl ?_; refine Calls.mono (word_calls i hi _) ?_; rintro e W1 ⟨rfl, hb⟩; refine ⟨_, rfl, ?_⟩; have hgr := grown_of_below hb; replace HR3 := HR3.kept hgr (by simp); replace HF := HF.kept hgr (by simp); replace oB := oB.kept hgr (by cases Value.ownBlock _ <;> simp); replace K9 := K9.grown hgr; clear hb hgr)
                      refine ⟨K9, ?_⟩
                      try simp only [Act.put, List.getElem_toArray, List.getElem_cons_succ, List.getElem_cons_zero, List.setIfInBounds_toArray, List.set_cons_succ, List.set_cons_zero]
                      refine held_one (i := 7) (by kernel_rfl) rfl ?_
                      refine ev_run rfl (w1 := W1) (v := .pointer (some ⟨gB, j, none⟩)) (by simp [go_sem, hj2]) ?_
                      refine ⟨K9, ?_⟩
                      try simp only [Act.put, List.getElem_toArray, List.getElem_cons_succ, List.getElem_cons_zero, List.setIfInBounds_toArray, List.set_cons_succ, List.set_cons_zero]
                      refine held_one (i := 8) (by kernel_rfl) rfl ?_
                      (refine ev_store_ownN rfl rfl rfl oB (k := j) (by omega) rfl rfl (by kernel_rfl) (by kernel_rfl) ?_; intro W7 oB2 hgr; replace HR3 := HR3.kept hgr (HR3.ne_own oB (by decide)); replace K9 := kx_fg_l K9 Hx.out hgr; have HF2 := HF.elem Hx.out Hy.out oB2 (fg_word oB.1 hj Hyt.out) hgr)
                      refine ⟨K9, ?_⟩
                      try simp only [Act.put, List.getElem_toArray, List.getElem_cons_succ, List.getElem_cons_zero, List.setIfInBounds_toArray, List.set_cons_succ, List.set_cons_zero]
                      refine wpAnyH_done (by kernel_rfl) ?_ _
                      go_wp2
                      go_roundg (gk - 1)
                      case measure => omega
                      case rel => exact ⟨j + 1, by omega, by go_num, ⟨_, HF2, HR3, K9⟩⟩
                    · obtain rfl : j = 2 := by omega
                      have q1 : decide (((2 : Nat) : Int) < 2) = false := by decide
                      have q1' : decide ((2 : Nat) < 2) = false := by decide
                      have HF0 := Lib.hid (HF.next_row Hx.out rfl)
                      have HR0 := Lib.hid HR3
                      have HK0 := Lib.hid HK
                      clear HF HR3 HK
                      go_wp2
                      clear hc8
                      go_roundg (gm - 1)
                      case measure => omega
                      case rel => exact ⟨i + 1, by omega, by go_num, ⟨_, HF0.out, HR0.out, HK0.out⟩⟩
                · obtain rfl : i = 6 := by omega
                  have HFw := Lib.hid HF
                  have HFr := Lib.hid (Fg.start (full := MKV) HR3 rfl)
                  have HK0 := Lib.hid HK
                  clear HF HR3 HK
                  go_wp2
                  go_loopg [21] 3 (fun q v21 wr => ∃ i : Nat, q + i = 3 ∧ v21 = .int .i64 i ∧ Aside (∃ cur2, Fg 27 12 MKV wr w.heap.size ms cur2 i 0 ∧ Fg 9 1 MKW wr w.heap.size ls cur 6 0 ∧ KX (Stay w0 ls ms) w0 wr))
                  case atStart => exact ⟨0, by omega, rfl, ⟨_, HFr.out, HFw.out, HK0.out⟩⟩
                  case round =>
                    clear HFw HFr HK0
                    obtain ⟨gm, rfl⟩ : ∃ gm, gm = gk := ⟨_, rfl⟩
                    obtain ⟨i, hqm, rfl, HA⟩ := hrel
                    obtain ⟨cur2, HF, HFw, HK⟩ := HA.out
                    clear HA
                    by_cases hi : i < 3
                    · have s1 : decide ((i : Int) < 3) = true := by rw [decide_eq_true_eq]; omega
                      have s1' : decide (i < 3) = true := by rw [decide_eq_true_eq]; exact hi
                      obtain ⟨x, hx⟩ : ∃ x, ms[i]? = some x := ⟨_, List.getElem?_eq_getElem (by rw [HSt.out.lenR]; exact hi)⟩
                      have e2 := HSt.out.nR x (List.mem_of_getElem? hx)
                      obtain ⟨xs, xn, B, d⟩ := x
                      simp only at e2
                      replace e2 := e2.symm
                      subst e2
                      have Hx := Lib.hid hx
                      have HF0 := Lib.hid HF
                      have HFw0 := Lib.hid HFw
                      have HK0 := Lib.hid HK
                      clear hx HF HFw HK
                      go_wp2
                      go_loopg [22] m (fun q v22 wr => ∃ j : Nat, q + j = m ∧ v22 = .int .i64 j ∧ Aside (∃ cur2, Fg 27 12 MKV wr w.heap.size ms cur2 i j ∧ Fg 9 1 MKW wr w.heap.size ls cur 6 0 ∧ KX (Stay w0 ls ms) w0 wr))
                      case atStart => exact ⟨0, by omega, rfl, ⟨_, HF0.out, HFw0.out, HK0.out⟩⟩
                      case round =>
                        clear HF0 HFw0 HK0
                        obtain ⟨j, hqn, rfl, HA⟩ := hrel
                        obtain ⟨cur2, HF, HFw, HK⟩ := HA.out
                        clear HA
                        obtain ⟨g13, hg13, _⟩ := own_at (HSt.out.rowR_at HK) (by omega)
                        simp only at hg13
                        subst hg13
                        have hc13 := cell_ga (HSt.out.rowR_at HK) Hx.out
                        by_cases hj : j < m
                        · have q1 : decide ((j : Int) < (m : Int)) = true := by rw [decide_eq_true_eq]; omega
                          have q1' : decide (j < m) = true := by rw [decide_eq_true_eq]; exact hj
                          obtain ⟨ys, hy, oB, hyt⟩ := HF.row Hx.out
                          obtain ⟨gB, hgB, _⟩ := own_at oB (by omega)
                          subst hgB
                          have Hy := Lib.hid hy
                          have Hyt := Lib.hid hyt
                          have K9 := HK
                          clear hy hyt HK
                          go_wp2_with (first
                            | ((with_reducible refine gate_store (p := 165) rfl ?_); refine ev_store_elem (cs := (verR i).cells none 0) rfl rfl rfl oB (k := j) hj (by first | rfl | omega) rfl rfl rec_size rfl (cells_one _ _ _) ?_; intro W2 oB2 hgr))
                          replace HFw := HFw.kept hgr (HFw.rows.ne_own oB (by decide))
                          replace K9 := kx_fg_m K9 Hx.out hgr
                          have HF2 := HF.elem Hx.out Hy.out oB2 (fg_rec oB.1 hj Hyt.out) hgr
                          clear HF oB oB2 hgr hc13
                          go_roundg (gk - 1)
                          case measure => omega
                          case rel => exact ⟨j + 1, by omega, by go_num, ⟨_, HF2, HFw, K9⟩⟩
                        · have ejm : j = m := by omega
                          have q1 : decide ((j : Int) < (m : Int)) = false := by rw [decide_eq_false_iff_not]; omega
                          have q1' : decide (j < m) = false := by rw [decide_eq_false_iff_not]; exact hj
                          have HF0 := Lib.hid (HF.next_row (by rw [ejm]; exact Hx.out) rfl)
                          have HFw0 := Lib.hid HFw
                          have HK0 := Lib.hid HK
                          clear HF HFw HK
                          go_wp2
                          clear hc13
                          go_roundg (gm - 1)
                          case measure => omega
                          case rel => exact ⟨i + 1, by omega, by go_num, ⟨_, HF0.out, HFw0.out, HK0.out⟩⟩
                    · obtain rfl : i = 3 := by omega
                      obtain ⟨b, hb⟩ : ∃ b, b = wr.heap.size := ⟨_, rfl⟩
                      obtain ⟨fw0, hfw0⟩ : ∃ f, f = taggedG (ls.mapIdx fun k x => (MKW k x.2.1, x.2)) := ⟨_, rfl⟩
                      obtain ⟨fr0, hfr0⟩ : ∃ f, f = taggedG (ms.mapIdx fun k x => (MKV k x.2.1, x.2)) := ⟨_, rfl⟩
                      have hLS := LS.start HSt.out HK HFw HF
                      rw [← hb, ← hfw0, ← hfr0] at hLS
                      have Htw := Lib.hid (show ∀ (k n : Nat) (xs : List Value) (A : Option Addr) (c : Nat), ls[k]? = some (xs, n, A, c) → (k, MKW k n, n, A, c) ∈ fw0 from fun k n xs A c h => by rw [hfw0]; exact tag_w h)
                      have Htr := Lib.hid (show ∀ (k n : Nat) (xs : List Value) (A : Option Addr) (c : Nat), ms[k]? = some (xs, n, A, c) → (k, MKV k n, n, A, c) ∈ fr0 from fun k n xs A c h => by rw [hfr0]; exact tag_r h)
                      have HL0 := Lib.hid hLS
                      clear HF HFw HK hLS hb hfw0 hfr0
                      go_wp2
                      go_loopg [23, 24] 6 (fun q v23 v24 wr => ∃ (k : Nat) (A9 : Option Addr) (c9 : Nat) (ts : List (Nat × GA)), q + k = 6 ∧ v24 = .int .i64 k ∧ v23 = .slice A9 k c9 ∧ Aside (MoreG FW 22 k ts ∧ wr.ownsRow b 38 1 (.slice A9 k c9) k (gaCells (ts.map (·.2))) ∧ LS b w w0 wr ls ms m (fw0 ++ ts) fr0))
                      case atStart => exact ⟨0, none, 0, [], by omega, rfl, rfl, ⟨MoreG.nil, own_nil _ _ _ _, by simpa using HL0.out⟩⟩
                      case round =>
                        clear HL0
                        obtain ⟨gm2, rfl⟩ : ∃ gm2, gm2 = gk := ⟨_, rfl⟩
                        obtain ⟨k, A9, c9, ts, hm5, rfl, rfl, HA⟩ := hrel
                        obtain ⟨hmore, o9, X1⟩ := HA.out
                        clear HA
                        have Hmore := Lib.hid hmore
                        clear hmore
                        by_cases hk : k < 6
                        · have r1 : decide ((k : Int) < 6) = true := by rw [decide_eq_true_eq]; omega
                          have r1' : decide (k < 6) = true := by rw [decide_eq_true_eq]; exact hk
                          obtain ⟨x, hx⟩ : ∃ x, ls[k]? = some x := ⟨_, List.getElem?_eq_getElem (by rw [HSt.out.lenW]; exact hk)⟩
                          have e2 := HSt.out.nW x (List.mem_of_getElem? hx)
                          obtain ⟨xs, nt, B, d⟩ := x
                          simp only at e2
                          have hnt2 : nt ≤ 2 := by omega
                          have Hnt := Lib.hid e2
                          obtain ⟨g8, hg8, _⟩ := own_at (HSt.out.rowW_at X1.K) (by omega)
                          simp only at hg8
                          subst hg8
                          have hcw := cell_ga (HSt.out.rowW_at X1.K) hx
                          have hmem : (k, MKW k (nt + 0), nt + 0, B, d) ∈ fw0 := Htw.out k nt xs B d hx
                          have HX2 := Lib.hid (X1.sub (fw' := (k, MKW k (nt + 0), nt + 0, B, d) :: (fw0 ++ ts)) (fun x hx => by
                            rcases List.mem_cons.1 hx with rfl | hx
                            · exact List.mem_append_left _ hmem
                            · exact hx) (fun x hx => hx))
                          clear X1 hx e2 hmem
                          go_wp2
                          go_loopg [25, 26] 20 (fun q v25 v26 wr => ∃ (j : Nat) (A3 : Option Addr) (c3 : Nat), q + j = 20 ∧ v26 = .int .i64 j ∧ v25 = .slice A3 (nt + j) c3 ∧ Aside (wr.ownsRow b 38 1 (.slice A9 k c9) k (gaCells (ts.map (·.2))) ∧ LS b w w0 wr ls ms m ((k, MKW k (nt + j), nt + j, A3, c3) :: (fw0 ++ ts)) fr0))
                          case atStart => exact ⟨0, B, d, by omega, rfl, rfl, ⟨o9, HX2.out⟩⟩
                          case round =>
                            clear o9 HX2 hcw
                            obtain ⟨j, A3, c3, hm6, rfl, rfl, HA⟩ := hrel
                            obtain ⟨o9, X1⟩ := HA.out
                            clear HA
                            by_cases hj : j < 20
                            · have q1 : decide ((j : Int) < 20) = true := by rw [decide_eq_true_eq]; omega
                              have q1' : decide (j < 20) = true := by rw [decide_eq_true_eq]; exact hj
                              have Hpp := Lib.hid (show MKW k (nt + j) ++ MKW k 1 <+: FW k by rw [MKW_add]; exact FW_pre (by omega))
                              go_wp2_with (first
                                | (go_at_call 26; (with_reducible refine (word_calls k hk _).mono ?_); rintro e W1 ⟨rfl, hb⟩; have hgr := grown_of_below hb; replace o9 := o9.kept hgr (by cases Value.ownBlock _ <;> simp); replace X1 := X1.grown hgr; clear hb hgr)
                                | ((with_reducible refine gate_dst (N := 181) rfl ?_); refine ev_lit rfl rfl (#[.string (wd k)]) 9 1 (by first | (go_simp; done) | (go_simp; rfl)) ?_; intro g5 W2 hg5 hsz hbn; have hgr := grown_of_below hbn; have zg5 : w.heap.size ≤ g5 := (by have := X1.size; omega); replace o9 := o9.kept hgr (by cases Value.ownBlock _ <;> simp); replace X1 := X1.grown hgr; have hcg5 := hg5.cell; have hfg5 := hg5.frozen; clear hsz hbn hgr)
                                | ((with_reducible refine gate_dst (N := 182) rfl ?_); refine ev_append_share rfl rfl Tryd.underlying38 info_str rfl (by omega) rfl (X1.fW.all _ List.mem_cons_self) (m := 1) (news := MKW k 1) rfl rfl (blk_one hg5) (fun u hu => by simp [MKW] at hu; subst hu; rfl) (by omega) (by omega) (by have := X1.size; omega) ?_; intro A4 c4 W2 hG; replace o9 := own_famG o9 X1.fW List.mem_cons_self hG.grown (by decide); replace X1 := X1.appW List.mem_cons_self Hpp.out hG; clear hG))
                              have X3 := X1.sub (fw' := (k, MKW k (nt + (j + 1)), nt + (j + 1), A4, c4) :: (fw0 ++ ts)) (fun x hx => by
                                rcases List.mem_cons.1 hx with rfl | hx
                                · rw [show MKW k (nt + (j + 1)) = MKW k (nt + j) ++ MKW k 1 from (MKW_add k (nt + j) 1).symm]
                                  exact List.mem_cons_self
                                · exact List.mem_cons_of_mem _ (List.mem_cons_of_mem _ hx)) (fun x hx => hx)
                              go_roundg (gk - 1)
                              case measure => omega
                              case rel => exact ⟨j + 1, A4, c4, by omega, by go_num, rfl, ⟨o9, X3⟩⟩
                            · obtain rfl : j = 20 := by omega
                              have q1 : decide (((20 : Nat) : Int) < 20) = false := by decide
                              have q1' : decide ((20 : Nat) < 20) = false := by decide
                              have X3 := X1.sub (fw' := fw0 ++ (ts ++ [(k, MKW k (nt + 20), nt + 20, A3, c3)])) (fun x hx => by
                                simp only [List.mem_append, List.mem_cons, List.not_mem_nil, or_false] at hx ⊢
                                rcases hx with h | h | h <;> simp [h]) (fun x hx => hx)
                              clear X1
                              go_wp2_with (first
                                | ((with_reducible refine gate_dst (N := 185) rfl ?_); refine ev_lit rfl rfl (#[.slice A3 (nt + 20) c3]) 38 1 (by first | (go_simp; done) | (go_simp; rfl)) ?_; intro g5 W1 hg5 hsz hbn; have hgr := grown_of_below hbn; have zg5 : w.heap.size ≤ g5 := (by have := X3.size; omega); replace o9 := o9.kept hgr (by cases Value.ownBlock _ <;> simp); replace X3 := X3.grown hgr; have hcg5 := hg5.cell; have hfg5 := hg5.frozen; clear hsz hbn hgr)
                                | ((with_reducible refine gate_dst (N := 186) rfl ?_); refine ev_append rfl rfl Tryd.underlying40 info_strs rfl (by omega) rfl o9 rfl (hg5.reads (size := 1) (n := 1) rfl) (fun u hu => by simp at hu; subst hu; rfl) (by omega) (by omega) (by have := X3.size; omega) ?_; intro A6 c6 W2 on hgr hat; replace X3 := X3.kept hgr (X3.ne_own o9 (by decide)); replace o9 := on; clear on hgr hat))
                              have hnt := Hnt.out
                              subst hnt
                              go_roundg (gm2 - 1)
                              case measure => omega
                              case rel => exact ⟨k + 1, A6, c6, _, by omega, by go_num, rfl, ⟨Hmore.out.snoc A3 c3, by rw [List.map_append, gaCells_append]; exact o9, X3⟩⟩
                        · obtain rfl : k = 6 := by omega
                          have Ho0 := Lib.hid o9
                          have HL0 := Lib.hid X1
                          clear X1 o9
                          go_wp2
                          go_loopg [27, 28] 3 (fun q v27 v28 wr => ∃ (k : Nat) (A7 : Option Addr) (c7 : Nat) (us : List (Nat × GA)), q + k = 3 ∧ v28 = .int .i64 k ∧ v27 = .slice A7 k c7 ∧ Aside (MoreG (FV m) (m + 20) k us ∧ wr.ownsRow b 38 1 (.slice A9 6 c9) 6 (gaCells (ts.map (·.2))) ∧ wr.ownsRow b 22 1 (.slice A7 k c7) k (gaCells (us.map (·.2))) ∧ LS b w w0 wr ls ms m (fw0 ++ ts) (fr0 ++ us)))
                          case atStart => exact ⟨0, none, 0, [], by omega, rfl, rfl, ⟨MoreG.nil, Ho0.out, own_nil _ _ _ _, by simpa using HL0.out⟩⟩
                          case round =>
                            clear HL0 Ho0
                            obtain ⟨gm3, rfl⟩ : ∃ gm3, gm3 = gk := ⟨_, rfl⟩
                            obtain ⟨k, A7, c7, us, hm7, rfl, rfl, HA⟩ := hrel
                            obtain ⟨hmore, o9, o7, X1⟩ := HA.out
                            clear HA
                            have Hmr := Lib.hid hmore
                            clear hmore
                            by_cases hk : k < 3
                            · have r1 : decide ((k : Int) < 3) = true := by rw [decide_eq_true_eq]; omega
                              have r1' : decide (k < 3) = true := by rw [decide_eq_true_eq]; exact hk
                              obtain ⟨x, hx⟩ : ∃ x, ms[k]? = some x := ⟨_, List.getElem?_eq_getElem (by rw [HSt.out.lenR]; exact hk)⟩
                              have e2 := HSt.out.nR x (List.mem_of_getElem? hx)
                              obtain ⟨xs, xn, B, d⟩ := x
                              simp only at e2
                              replace e2 := e2.symm
                              subst e2
                              obtain ⟨g13, hg13, _⟩ := own_at (HSt.out.rowR_at X1.K) (by omega)
                              simp only at hg13
                              subst hg13
                              have hcw := cell_ga (HSt.out.rowR_at X1.K) hx
                              have hmem : (k, MKV k (m + 0), m + 0, B, d) ∈ fr0 := Htr.out k m xs B d hx
                              have HX2 := Lib.hid (X1.sub (fr' := (k, MKV k (m + 0), m + 0, B, d) :: (fr0 ++ us)) (fun x hx => hx) (fun x hx => by
                                rcases List.mem_cons.1 hx with rfl | hx
                                · exact List.mem_append_left _ hmem
                                · exact hx))
                              clear X1 hx hmem
                              go_wp2
                              go_loopg [29, 30] 20 (fun q v29 v30 wr => ∃ (j : Nat) (A3 : Option Addr) (c3 : Nat), q + j = 20 ∧ v30 = .int .i64 j ∧ v29 = .slice A3 (m + j) c3 ∧ Aside (wr.ownsRow b 38 1 (.slice A9 6 c9) 6 (gaCells (ts.map (·.2))) ∧ wr.ownsRow b 22 1 (.slice A7 k c7) k (gaCells (us.map (·.2))) ∧ LS b w w0 wr ls ms m (fw0 ++ ts) ((k, MKV k (m + j), m + j, A3, c3) :: (fr0 ++ us))))
                              case atStart => exact ⟨0, B, d, by omega, rfl, rfl, ⟨o9, o7, HX2.out⟩⟩
                              case round =>
                                clear o9 o7 HX2 hcw
                                obtain ⟨j, A3, c3, hm6, rfl, rfl, HA⟩ := hrel
                                obtain ⟨o9, o7, X1⟩ := HA.out
                                clear HA
                                by_cases hj : j < 20
                                · have q1 : decide ((j : Int) < 20) = true := by rw [decide_eq_true_eq]; omega
                                  have q1' : decide (j < 20) = true := by rw [decide_eq_true_eq]; exact hj
                                  have Hpp := Lib.hid (show MKV k (m + j) ++ MKV k 1 <+: FV m k by rw [MKV_add]; exact FV_pre (by omega))
                                  go_wp2_with (first
                                    | ((with_reducible refine gate_dst (N := 203) rfl ?_); refine ev_lit rfl rfl ((verR k).cells none 0) 27 1 (by first | (go_simp; done) | (go_simp; rfl)) ?_; intro g5 W1 hg5 hsz hbn; have hgr := grown_of_below hbn; have zg5 : w.heap.size ≤ g5 := (by have := X1.size; omega); replace o9 := o9.kept hgr (by cases Value.ownBlock _ <;> simp); replace o7 := o7.kept hgr (by cases Value.ownBlock _ <;> simp); replace X1 := X1.grown hgr; have hcg5 := hg5.cell; have hfg5 := hg5.frozen; clear hsz hbn hgr)
                                    | ((with_reducible refine gate_dst (N := 204) rfl ?_); refine ev_append_share rfl rfl Tryd.underlying22 info_rec rfl (by omega) rfl (X1.fR.all _ List.mem_cons_self) (m := 1) (news := MKV k 1) rfl (MKV_len k 1) (by have h := blk_row hg5; simpa [MKV, recCells, RA.cs] using h) recCells_1 (by omega) (by omega) (by have := X1.size; omega) ?_; intro A4 c4 W2 hG; replace o9 := own_famG o9 X1.fR List.mem_cons_self hG.grown (by decide); replace o7 := own_famG o7 X1.fR List.mem_cons_self hG.grown (by decide); replace X1 := X1.appR List.mem_cons_self Hpp.out hG; clear hG))
                                  have X3 := X1.sub (fr' := (k, MKV k (m + (j + 1)), m + (j + 1), A4, c4) :: (fr0 ++ us)) (fun x hx => hx) (fun x hx => by
                                    rcases List.mem_cons.1 hx with rfl | hx
                                    · rw [show MKV k (m + (j + 1)) = MKV k (m + j) ++ MKV k 1 from (MKV_add k (m + j) 1).symm]
                                      exact List.mem_cons_self
                                    · exact List.mem_cons_of_mem _ (List.mem_cons_of_mem _ hx))
                                  go_roundg (gk - 1)
                                  case measure => omega
                                  case rel => exact ⟨j + 1, A4, c4, by omega, by go_num, rfl, ⟨o9, o7, X3⟩⟩
                                · obtain rfl : j = 20 := by omega
                                  have q1 : decide (((20 : Nat) : Int) < 20) = false := by decide
                                  have q1' : decide ((20 : Nat) < 20) = false := by decide
                                  have X3 := X1.sub (fr' := fr0 ++ (us ++ [(k, MKV k (m + 20), m + 20, A3, c3)])) (fun x hx => hx) (fun x hx => by
                                    simp only [List.mem_append, List.mem_cons, List.not_mem_nil, or_false] at hx ⊢
                                    rcases hx with h | h | h <;> simp [h])
                                  clear X1
                                  go_wp2_with (first
                                    | ((with_reducible refine gate_dst (N := 207) rfl ?_); refine ev_lit rfl rfl (#[.slice A3 (m + 20) c3]) 22 1 (by first | (go_simp; done) | (go_simp; rfl)) ?_; intro g5 W1 hg5 hsz hbn; have hgr := grown_of_below hbn; have zg5 : w.heap.size ≤ g5 := (by have := X3.size; omega); replace o9 := o9.kept hgr (by cases Value.ownBlock _ <;> simp); replace o7 := o7.kept hgr (by cases Value.ownBlock _ <;> simp); replace X3 := X3.grown hgr; have hcg5 := hg5.cell; have hfg5 := hg5.frozen; clear hsz hbn hgr)
                                    | ((with_reducible refine gate_dst (N := 208) rfl ?_); refine ev_append rfl rfl Tryd.underlying44 info_rss rfl (by omega) rfl o7 rfl (hg5.reads (size := 1) (n := 1) rfl) (fun u hu => by simp at hu; subst hu; rfl) (by omega) (by omega) (by have := X3.size; omega) ?_; intro A6 c6 W2 on hgr hat; replace o9 := o9.kept hgr (by first | assumption | exact own_ty_ne o9 o7 (by decide) | exact own_sym (by assumption)); replace X3 := X3.kept hgr (X3.ne_own o7 (by decide)); replace o7 := on; clear on hgr hat))
                                  go_roundg (gm3 - 1)
                                  case measure => omega
                                  case rel => exact ⟨k + 1, A6, c6, _, by omega, by go_num, rfl, ⟨Hmr.out.snoc A3 c3, o9, by rw [List.map_append, gaCells_append]; exact o7, X3⟩⟩
                            · obtain rfl : k = 3 := by omega
                              obtain ⟨wx, rfl⟩ : ∃ wx, wx = wr := ⟨_, rfl⟩
                              have hol : os.length = m := by have := congrArg List.length Hos.out; rw [List.length_map] at this; exact this.trans Hm.out
                              have HBX : ∀ W', Below wx.heap.size wx W' → Below w.heap.size w W' := fun W' u => HSt.out.below_at (X1.next u).K
                              have rU : ∀ W', Below wx.heap.size wx W' → RS W' (some ⟨g38, 0, none⟩) (stepsL 1 3) := fun W' u => own_rs2 steps13_len (HSt.out.up_at (X1.next u).K)
                              have rD : ∀ W', Below wx.heap.size wx W' → RS W' (some ⟨g39, 0, none⟩) (stepsL 3 1) := fun W' u => own_rs2 steps31_len (HSt.out.down_at (X1.next u).K)
                              have rX : ∀ W', Below wx.heap.size wx W' → RR W' A10 os := fun W' u => RR.of_own (HSt.out.want_at (X1.next u).K) hol (HSt.out.wantd_at (X1.next u).K)
                              have Hql := Lib.hid (show ∀ q : List RA, q.map (·.1) = X → q.length = m from fun q h => by have := congrArg List.length h; rw [List.length_map] at this; exact this.trans Hm.out)
                              have Hqf := Lib.hid (show ∀ q : List RA, q.map (·.1) = X → ∀ y ∈ q, y.1.Fits from fun q h y hy => Hx1.out _ (h ▸ List.mem_map.2 ⟨y, hy, rfl⟩))
                              have HX1 := Lib.hid X1
                              have Ho9 := Lib.hid o9
                              have Ho7 := Lib.hid o7
                              have HB := Below.refl wx.heap.size wx
                              have k1 : True := trivial
                              clear X1 o9 o7 hol
                              go_wp2_with (first
                                | (go_at_call 27; (with_reducible refine (lists_calls to n m A c ua ue X Hm.out _ (Ht.out.next (HBX _ HB)) (Cu.out _ (HT.out.next (HBX _ HB)) (Ht.out.next (HBX _ HB)) (Hr.out.next (HBX _ HB)))).mono ?_); rintro e W1 ⟨A4, A5, A6, c4, c5, c6, q6, rfl, hq, o4, o5, o6, S6, hb⟩; have hgr := grown_of_below hb; replace o4 := own_mono o4 HB.size; replace o5 := own_mono o5 HB.size; replace o6 := own_mono o6 HB.size; replace HB := HB.grown hgr (by have := HB.size; omega) (by simp); clear hb hgr)
                                | (go_at_call 24; clear k1; (with_reducible refine (words_two steps13_len _ _ _ _ _ (own_rs2 steps13_len o4) (rU _ HB)).mono ?_); rintro e W2 ⟨rfl, hb⟩; have hgr := grown_of_below hb; replace S6 := S6.kept hgr (by simp); replace o4 := o4.kept hgr (by cases Value.ownBlock _ <;> simp); replace o5 := o5.kept hgr (by cases Value.ownBlock _ <;> simp); replace o6 := o6.kept hgr (by cases Value.ownBlock _ <;> simp); replace HB := HB.grown hgr (by have := HB.size; omega) (by simp); clear hb hgr)
                                | (go_at_call 24; (with_reducible refine (words_two steps31_len _ _ _ _ _ (own_rs2 steps31_len o5) (rD _ HB)).mono ?_); rintro e W3 ⟨rfl, hb⟩; have hgr := grown_of_below hb; replace S6 := S6.kept hgr (by simp); replace o4 := o4.kept hgr (by cases Value.ownBlock _ <;> simp); replace o5 := o5.kept hgr (by cases Value.ownBlock _ <;> simp); replace o6 := o6.kept hgr (by cases Value.ownBlock _ <;> simp); replace HB := HB.grown hgr (by have := HB.size; omega) (by simp); clear hb hgr)
                                | (go_at_call 25; (with_reducible refine (refSameAll_n q6 os m (Hql.out _ hq.out) _ _ _ _ (hq.out.trans Hos.out.symm) (by omega) (Hqf.out _ hq.out) _ (RR.of_own o6 (Hql.out _ hq.out) S6) (rX _ HB)).mono ?_); rintro e W4 ⟨rfl, hb⟩; have hgr := grown_of_below hb; replace S6 := S6.kept hgr (by simp); replace o4 := o4.kept hgr (by cases Value.ownBlock _ <;> simp); replace o5 := o5.kept hgr (by cases Value.ownBlock _ <;> simp); replace o6 := o6.kept hgr (by cases Value.ownBlock _ <;> simp); replace HB := HB.grown hgr (by have := HB.size; omega) (by simp); clear hb hgr))
                              have HB0 := Lib.hid HB
                              clear o4 o5 o6 S6 hq HB rU rD rX Hql Hqf
                              go_loopg [34] 6 (fun q v34 wr => ∃ i : Nat, q + i = 6 ∧ v34 = .int .i64 i ∧ Aside (Below wx.heap.size wx wr))
                              case atStart => exact ⟨0, by omega, rfl, HB0.out⟩
                              case round =>
                                clear HB0
                                obtain ⟨gm4, rfl⟩ : ∃ gm4, gm4 = gk := ⟨_, rfl⟩
                                obtain ⟨i, hq4, rfl, HA⟩ := hrel
                                have HB := HA.out
                                clear HA
                                by_cases hi : i < 6
                                · have s1 : decide ((i : Int) < 6) = true := by rw [decide_eq_true_eq]; omega
                                  have s1' : decide (i < 6) = true := by rw [decide_eq_true_eq]; exact hi
                                  have hi6 : ((6 : Int) ≤ (i : Int)) = False := eq_false (by omega)
                                  obtain ⟨x, hx⟩ : ∃ x, ls[i]? = some x := ⟨_, List.getElem?_eq_getElem (by rw [HSt.out.lenW]; exact hi)⟩
                                  have e2 := HSt.out.nW x (List.mem_of_getElem? hx)
                                  obtain ⟨xs, xn, B, d⟩ := x
                                  simp only at e2
                                  subst e2
                                  obtain ⟨C, e, hts⟩ := Hmore.out.at_ i hi
                                  have hts2 : (ts.map (·.2))[i]? = some (FW i, 22, C, e) := by rw [List.getElem?_map, hts]; rfl
                                  obtain ⟨g8, hg8, _⟩ := own_at (HSt.out.rowW_at HX1.out.K) (by omega)
                                  obtain ⟨g9, hg9, _⟩ := own_at Ho9.out (by omega)
                                  simp only at hg8 hg9
                                  subst hg8
                                  subst hg9
                                  have hmB := Htw.out i 2 xs B d hx
                                  have oB : ∀ W', Below wx.heap.size wx W' → W'.ownsRow w.heap.size 9 1 (.slice B 2 d) 2 (MKW i 2) := fun W' u => (HX1.out.next u).fW.all _ (List.mem_append_left _ hmB)
                                  have oC : ∀ W', Below wx.heap.size wx W' → W'.ownsRow w.heap.size 9 1 (.slice C 22 e) 22 (FW i) := fun W' u => (HX1.out.next u).fW.all _ (List.mem_append_right _ (List.mem_of_getElem? hts))
                                  obtain ⟨gB, hgB, _⟩ := own_at (oB _ HB) (by omega)
                                  obtain ⟨gC, hgC, _⟩ := own_at (oC _ HB) (by omega)
                                  subst hgB
                                  subst hgC
                                  have Hc8 := Lib.hid (fun (W' : World) (u : Below wx.heap.size wx W') => cell_ga (HSt.out.rowW_at (HX1.out.next u).K) hx)
                                  have Hc9 := Lib.hid (fun (W' : World) (u : Below wx.heap.size wx W') => cell_ga (own_next Ho9.out u) hts2)
                                  have HcB := Lib.hid (fun (k : Nat) (hk : k < 2) (W' : World) (u : Below wx.heap.size wx W') => own_cellN (oB W' u) k (MKW_get hk))
                                  have HcC := Lib.hid (fun (k : Nat) (hk : k < 22) (W' : World) (u : Below wx.heap.size wx W') => own_cellN (oC W' u) k (MKW_get hk))
                                  have HB0 := Lib.hid HB
                                  clear hx hts hts2 hmB oB oC HB
                                  go_wp2
                                  go_loopg [35] 22 (fun q v35 wr => ∃ k : Nat, q + k = 22 ∧ v35 = .int .i64 k ∧ Aside (Below wx.heap.size wx wr))
                                  case atStart => exact ⟨0, by omega, rfl, HB0.out⟩
                                  case round =>
                                    clear HB0
                                    obtain ⟨k, hq5, rfl, HA⟩ := hrel
                                    have HB := HA.out
                                    clear HA
                                    have hc9 := Hc9.out _ HB
                                    by_cases hk : k < 22
                                    · have q1 : decide ((k : Int) < 22) = true := by rw [decide_eq_true_eq]; omega
                                      have q1' : decide (k < 22) = true := by rw [decide_eq_true_eq]; exact hk
                                      have hk22 : ((22 : Int) ≤ (k : Int)) = False := eq_false (by omega)
                                      have HcC2 := Lib.hid (HcC.out k hk)
                                      have HB1 := Lib.hid HB
                                      clear hc9 HB
                                      by_cases hk2 : k < 2
                                      · have p1 : ((k : Int) < 2) = True := eq_true (by omega)
                                        have hk2' : ((2 : Int) ≤ (k : Int)) = False := eq_false (by omega)
                                        have HcB2 := Lib.hid (HcB.out k hk2)
                                        have hc9 := Hc9.out _ HB1.out
                                        go_wp2
                                        refine held_start (fun w' => Below wx.heap.size wx w') (by kernel_rfl) (fun w9 hbd => ?_)
                                        have HB := below_go HB1.out hbd
                                        clear hbd hc9
                                        refine take_at (i := 0) (v := .slice (some ⟨g9, 0, none⟩) 6 c9) 245 rfl rfl (by kernel_rfl) (by kernel_rfl) (by kernel_rfl) (fun _ _ _ h => h) (.inl ⟨rfl, fun w h => by simp [go_sem]⟩) HB ?_
                                        simp only [Act.put, List.getElem_toArray, List.getElem_cons_succ, List.getElem_cons_zero, List.setIfInBounds_toArray, List.set_cons_succ, List.set_cons_zero]
                                        refine take_at (i := 1) (v := .int .i64 i) 246 rfl rfl (by kernel_rfl) (by kernel_rfl) (by kernel_rfl) (fun _ _ _ h => h) (.inl ⟨rfl, fun w h => by simp [go_sem]⟩) HB ?_
                                        simp only [Act.put, List.getElem_toArray, List.getElem_cons_succ, List.getElem_cons_zero, List.setIfInBounds_toArray, List.set_cons_succ, List.set_cons_zero]
                                        refine take_at (i := 2) (v := .pointer (some ⟨g9, i, none⟩)) 247 rfl rfl (by kernel_rfl) (by kernel_rfl) (by kernel_rfl) (fun _ _ _ h => h) (.inl ⟨rfl, fun w h => by simp [go_sem, hi6]⟩) HB ?_
                                        simp only [Act.put, List.getElem_toArray, List.getElem_cons_succ, List.getElem_cons_zero, List.setIfInBounds_toArray, List.set_cons_succ, List.set_cons_zero]
                                        refine take_at (i := 3) (v := .slice (some ⟨gC, 0, none⟩) 22 e) 248 rfl rfl (by kernel_rfl) (by kernel_rfl) (by kernel_rfl) (fun _ _ _ h => h) (.inl ⟨rfl, fun w h => by simp [go_sem, Hc9.out w h]⟩) HB ?_
                                        simp only [Act.put, List.getElem_toArray, List.getElem_cons_succ, List.getElem_cons_zero, List.setIfInBounds_toArray, List.set_cons_succ, List.set_cons_zero]
                                        refine take_at (i := 4) (v := .int .i64 k) 249 rfl rfl (by kernel_rfl) (by kernel_rfl) (by kernel_rfl) (fun _ _ _ h => h) (.inl ⟨rfl, fun w h => by simp [go_sem]⟩) HB ?_
                                        simp only [Act.put, List.getElem_toArray, List.getElem_cons_succ, List.getElem_cons_zero, List.setIfInBounds_toArray, List.set_cons_succ, List.set_cons_zero]
                                        refine take_at (i := 5) (v := .pointer (some ⟨gC, k, none⟩)) 250 rfl rfl (by kernel_rfl) (by kernel_rfl) (by kernel_rfl) (fun _ _ _ h => h) (.inl ⟨rfl, fun w h => by simp [go_sem, hk22]⟩) HB ?_
                                        simp only [Act.put, List.getElem_toArray, List.getElem_cons_succ, List.getElem_cons_zero, List.setIfInBounds_toArray, List.set_cons_succ, List.set_cons_zero]
                                        refine take_at (i := 6) (v := .string (wd i)) 251 rfl rfl (by kernel_rfl) (by kernel_rfl) (by kernel_rfl) (fun _ _ _ h => h) (.inl ⟨rfl, fun w h => by simp [go_sem, HcC2.out w h]⟩) HB ?_
                                        simp only [Act.put, List.getElem_toArray, List.getElem_cons_succ, List.getElem_cons_zero, List.setIfInBounds_toArray, List.set_cons_succ, List.set_cons_zero]
                                        refine take_at (i := 7) (v := .int .i64 i) 252 rfl rfl (by kernel_rfl) (by kernel_rfl) (by kernel_rfl) (fun _ _ _ h => h) (.inl ⟨rfl, fun w h => by simp [go_sem]⟩) HB ?_
                                        simp only [Act.put, List.getElem_toArray, List.getElem_cons_succ, List.getElem_cons_zero, List.setIfInBounds_toArray, List.set_cons_succ, List.set_cons_zero]
                                        refine held_one (i := 8) (by kernel_rfl) rfl ?_
                                        (refine ev_call1 rfl rfl ⟨_, _, Tryd.func26, by kernel_rfl, rfl⟩ rfl ?_; refine Calls.mono (word_calls i hi _) ?_; rintro e W1 ⟨rfl, hb⟩; refine ⟨_, rfl, ?_⟩; have hgr := grown_of_below hb; replace HB := HB.grown hgr (by have := HB.size; omega) (by simp); clear hb hgr)
                                        refine ⟨HB, ?_⟩
                                        try simp only [Act.put, List.getElem_toArray, List.getElem_cons_succ, List.getElem_cons_zero, List.setIfInBounds_toArray, List.set_cons_succ, List.set_cons_zero]
                                        refine held_one (i := 9) (by kernel_rfl) rfl ?_
                                        refine ev_run rfl (w1 := W1) (v := .bool false) (by simp [go_sem]) ?_
                                        refine ⟨HB, ?_⟩
                                        try simp only [Act.put, List.getElem_toArray, List.getElem_cons_succ, List.getElem_cons_zero, List.setIfInBounds_toArray, List.set_cons_succ, List.set_cons_zero]
                                        refine held_one (i := 10) (by kernel_rfl) rfl ?_
                                        refine ev_run rfl (w1 := W1) (v := .bool false) (by simp [go_sem]) ?_
                                        refine ⟨HB, ?_⟩
                                        try simp only [Act.put, List.getElem_toArray, List.getElem_cons_succ, List.getElem_cons_zero, List.setIfInBounds_toArray, List.set_cons_succ, List.set_cons_zero]
                                        refine take_at (i := 11) (v := .int .i64 k) 256 rfl rfl (by kernel_rfl) (by kernel_rfl) (by kernel_rfl) (fun _ _ _ h => h) (.inl ⟨rfl, fun w h => by simp [go_sem]⟩) HB ?_
                                        simp only [Act.put, List.getElem_toArray, List.getElem_cons_succ, List.getElem_cons_zero, List.setIfInBounds_toArray, List.set_cons_succ, List.set_cons_zero]
                                        refine take_at (i := 12) (v := .slice (some ⟨g8, 0, none⟩) 6 c8) 257 rfl rfl (by kernel_rfl) (by kernel_rfl) (by kernel_rfl) (fun _ _ _ h => h) (.inl ⟨rfl, fun w h => by simp [go_sem]⟩) HB ?_
                                        simp only [Act.put, List.getElem_toArray, List.getElem_cons_succ, List.getElem_cons_zero, List.setIfInBounds_toArray, List.set_cons_succ, List.set_cons_zero]
                                        refine take_at (i := 13) (v := .int .i64 i) 258 rfl rfl (by kernel_rfl) (by kernel_rfl) (by kernel_rfl) (fun _ _ _ h => h) (.inl ⟨rfl, fun w h => by simp [go_sem]⟩) HB ?_
                                        simp only [Act.put, List.getElem_toArray, List.getElem_cons_succ, List.getElem_cons_zero, List.setIfInBounds_toArray, List.set_cons_succ, List.set_cons_zero]
                                        refine take_at (i := 14) (v := .pointer (some ⟨g8, i, none⟩)) 259 rfl rfl (by kernel_rfl) (by kernel_rfl) (by kernel_rfl) (fun _ _ _ h => h) (.inl ⟨rfl, fun w h => by simp [go_sem, hi6]⟩) HB ?_
                                        simp only [Act.put, List.getElem_toArray, List.getElem_cons_succ, List.getElem_cons_zero, List.setIfInBounds_toArray, List.set_cons_succ, List.set_cons_zero]
                                        refine take_at (i := 15) (v := .slice (some ⟨gB, 0, none⟩) 2 d) 260 rfl rfl (by kernel_rfl) (by kernel_rfl) (by kernel_rfl) (fun _ _ _ h => h) (.inl ⟨rfl, fun w h => by simp [go_sem, Hc8.out w h]⟩) HB ?_
                                        simp only [Act.put, List.getElem_toArray, List.getElem_cons_succ, List.getElem_cons_zero, List.setIfInBounds_toArray, List.set_cons_succ, List.set_cons_zero]
                                        refine held_one (i := 16) (by kernel_rfl) rfl ?_
                                        refine wpList_ungate (by first | rfl | simp [Region.wanted, yielded]) ?_
                                        refine ev_run rfl (w1 := W1) (v := .int .i64 2) (by simp [go_sem]) ?_
                                        refine ⟨HB, ?_⟩
                                        try simp only [Act.put, List.getElem_toArray, List.getElem_cons_succ, List.getElem_cons_zero, List.setIfInBounds_toArray, List.set_cons_succ, List.set_cons_zero]
                                        refine held_one (i := 17) (by kernel_rfl) rfl ?_
                                        refine wpList_ungate (by first | rfl | simp [Region.wanted, yielded]) ?_
                                        refine ev_run rfl (w1 := W1) (v := .bool true) (by simp [go_sem, p1]) ?_
                                        refine ⟨HB, ?_⟩
                                        try simp only [Act.put, List.getElem_toArray, List.getElem_cons_succ, List.getElem_cons_zero, List.setIfInBounds_toArray, List.set_cons_succ, List.set_cons_zero]
                                        refine held_one (i := 18) (by kernel_rfl) rfl ?_
                                        refine wpList_ungate (by first | rfl | simp [Region.wanted, yielded]) ?_
                                        refine ev_run rfl (w1 := W1) (v := .bool true) (by simp [go_sem]) ?_
                                        refine ⟨HB, ?_⟩
                                        try simp only [Act.put, List.getElem_toArray, List.getElem_cons_succ, List.getElem_cons_zero, List.setIfInBounds_toArray, List.set_cons_succ, List.set_cons_zero]
                                        refine take_at (i := 19) (v := .slice (some ⟨g8, 0, none⟩) 6 c8) 264 rfl rfl (by kernel_rfl) (by kernel_rfl) (by kernel_rfl) (fun _ _ _ h => h) (.inl ⟨rfl, fun w h => by simp [go_sem]⟩) HB ?_
                                        simp only [Act.put, List.getElem_toArray, List.getElem_cons_succ, List.getElem_cons_zero, List.setIfInBounds_toArray, List.set_cons_succ, List.set_cons_zero]
                                        refine take_at (i := 20) (v := .int .i64 i) 265 rfl rfl (by kernel_rfl) (by kernel_rfl) (by kernel_rfl) (fun _ _ _ h => h) (.inl ⟨rfl, fun w h => by simp [go_sem]⟩) HB ?_
                                        simp only [Act.put, List.getElem_toArray, List.getElem_cons_succ, List.getElem_cons_zero, List.setIfInBounds_toArray, List.set_cons_succ, List.set_cons_zero]
                                        refine take_at (i := 21) (v := .pointer (some ⟨g8, i, none⟩)) 266 rfl rfl (by kernel_rfl) (by kernel_rfl) (by kernel_rfl) (fun _ _ _ h => h) (.inl ⟨rfl, fun w h => by simp [go_sem, hi6]⟩) HB ?_
                                        simp only [Act.put, List.getElem_toArray, List.getElem_cons_succ, List.getElem_cons_zero, List.setIfInBounds_toArray, List.set_cons_succ, List.set_cons_zero]
                                        refine take_at (i := 22) (v := .slice (some ⟨gB, 0, none⟩) 2 d) 267 rfl rfl (by kernel_rfl) (by kernel_rfl) (by kernel_rfl) (fun _ _ _ h => h) (.inl ⟨rfl, fun w h => by simp [go_sem, Hc8.out w h]⟩) HB ?_
                                        simp only [Act.put, List.getElem_toArray, List.getElem_cons_succ, List.getElem_cons_zero, List.setIfInBounds_toArray, List.set_cons_succ, List.set_cons_zero]
                                        refine take_at (i := 23) (v := .int .i64 k) 268 rfl rfl (by kernel_rfl) (by kernel_rfl) (by kernel_rfl) (fun _ _ _ h => h) (.inl ⟨rfl, fun w h => by simp [go_sem]⟩) HB ?_
                                        simp only [Act.put, List.getElem_toArray, List.getElem_cons_succ, List.getElem_cons_zero, List.setIfInBounds_toArray, List.set_cons_succ, List.set_cons_zero]
                                        refine take_at (i := 24) (v := .pointer (some ⟨gB, k, none⟩)) 269 rfl rfl (by kernel_rfl) (by kernel_rfl) (by kernel_rfl) (fun _ _ _ h => h) (.inl ⟨rfl, fun w h => by simp [go_sem, hk2']⟩) HB ?_
                                        simp only [Act.put, List.getElem_toArray, List.getElem_cons_succ, List.getElem_cons_zero, List.setIfInBounds_toArray, List.set_cons_succ, List.set_cons_zero]
                                        refine take_at (i := 25) (v := .string (wd i)) 270 rfl rfl (by kernel_rfl) (by kernel_rfl) (by kernel_rfl) (fun _ _ _ h => h) (.inl ⟨rfl, fun w h => by simp [go_sem, HcB2.out w h]⟩) HB ?_
                                        simp only [Act.put, List.getElem_toArray, List.getElem_cons_succ, List.getElem_cons_zero, List.setIfInBounds_toArray, List.set_cons_succ, List.set_cons_zero]
                                        refine take_at (i := 26) (v := .int .i64 i) 271 rfl rfl (by kernel_rfl) (by kernel_rfl) (by kernel_rfl) (fun _ _ _ h => h) (.inl ⟨rfl, fun w h => by simp [go_sem]⟩) HB ?_
                                        simp only [Act.put, List.getElem_toArray, List.getElem_cons_succ, List.getElem_cons_zero, List.setIfInBounds_toArray, List.set_cons_succ, List.set_cons_zero]
                                        refine held_one (i := 27) (by kernel_rfl) rfl ?_
                                        refine wpList_ungate (by first | rfl | simp [Region.wanted, yielded]) ?_
                                        (refine ev_call1 rfl rfl ⟨_, _, Tryd.func26, by kernel_rfl, rfl⟩ rfl ?_; refine Calls.mono (word_calls i hi _) ?_; rintro e W2 ⟨rfl, hb⟩; refine ⟨_, rfl, ?_⟩; have hgr := grown_of_below hb; replace HB := HB.grown hgr (by have := HB.size; omega) (by simp); clear hb hgr)
                                        refine ⟨HB, ?_⟩
                                        try simp only [Act.put, List.getElem_toArray, List.getElem_cons_succ, List.getElem_cons_zero, List.setIfInBounds_toArray, List.set_cons_succ, List.set_cons_zero]
                                        refine held_one (i := 28) (by kernel_rfl) rfl ?_
                                        refine wpList_ungate (by first | rfl | simp [Region.wanted, yielded]) ?_
                                        refine ev_run rfl (w1 := W2) (v := .bool false) (by simp [go_sem]) ?_
                                        refine ⟨HB, ?_⟩
                                        try simp only [Act.put, List.getElem_toArray, List.getElem_cons_succ, List.getElem_cons_zero, List.setIfInBounds_toArray, List.set_cons_succ, List.set_cons_zero]
                                        refine held_one (i := 29) (by kernel_rfl) rfl ?_
                                        refine wpList_ungate (by first | rfl | simp [Region.wanted, yielded]) ?_
                                        refine ev_run rfl (w1 := W2) (v := .bool false) (by simp [go_sem]) ?_
                                        refine ⟨HB, ?_⟩
                                        try simp only [Act.put, List.getElem_toArray, List.getElem_cons_succ, List.getElem_cons_zero, List.setIfInBounds_toArray, List.set_cons_succ, List.set_cons_zero]
                                        refine held_one (i := 30) (by kernel_rfl) rfl ?_
                                        refine ev_run rfl (w1 := W2) (v := .bool false) (by simp [go_sem]) ?_
                                        refine ⟨HB, ?_⟩
                                        try simp only [Act.put, List.getElem_toArray, List.getElem_cons_succ, List.getElem_cons_zero, List.setIfInBounds_toArray, List.set_cons_succ, List.set_cons_zero]
                                        refine wpAnyH_done (by kernel_rfl) ?_ _
                                        go_wp2
                                        go_roundg (gk - 1)
                                        case measure => omega
                                        case rel => exact ⟨k + 1, by omega, by go_num, HB⟩
                                      · have p1 : ((k : Int) < 2) = False := eq_false (by omega)
                                        have hc9 := Hc9.out _ HB1.out
                                        go_wp2
                                        refine held_start (fun w' => Below wx.heap.size wx w') (by kernel_rfl) (fun w9 hbd => ?_)
                                        have HB := below_go HB1.out hbd
                                        clear hbd hc9
                                        refine take_at (i := 0) (v := .slice (some ⟨g9, 0, none⟩) 6 c9) 245 rfl rfl (by kernel_rfl) (by kernel_rfl) (by kernel_rfl) (fun _ _ _ h => h) (.inl ⟨rfl, fun w h => by simp [go_sem]⟩) HB ?_
                                        simp only [Act.put, List.getElem_toArray, List.getElem_cons_succ, List.getElem_cons_zero, List.setIfInBounds_toArray, List.set_cons_succ, List.set_cons_zero]
                                        refine take_at (i := 1) (v := .int .i64 i) 246 rfl rfl (by kernel_rfl) (by kernel_rfl) (by kernel_rfl) (fun _ _ _ h => h) (.inl ⟨rfl, fun w h => by simp [go_sem]⟩) HB ?_
                                        simp only [Act.put, List.getElem_toArray, List.getElem_cons_succ, List.getElem_cons_zero, List.setIfInBounds_toArray, List.set_cons_succ, List.set_cons_zero]
                                        refine take_at (i := 2) (v := .pointer (some ⟨g9, i, none⟩)) 247 rfl rfl (by kernel_rfl) (by kernel_rfl) (by kernel_rfl) (fun _ _ _ h => h) (.inl ⟨rfl, fun w h => by simp [go_sem, hi6]⟩) HB ?_
                                        simp only [Act.put, List.getElem_toArray, List.getElem_cons_succ, List.getElem_cons_zero, List.setIfInBounds_toArray, List.set_cons_succ, List.set_cons_zero]
                                        refine take_at (i := 3) (v := .slice (some ⟨gC, 0, none⟩) 22 e) 248 rfl rfl (by kernel_rfl) (by kernel_rfl) (by kernel_rfl) (fun _ _ _ h => h) (.inl ⟨rfl, fun w h => by simp [go_sem, Hc9.out w h]⟩) HB ?_
                                        simp only [Act.put, List.getElem_toArray, List.getElem_cons_succ, List.getElem_cons_zero, List.setIfInBounds_toArray, List.set_cons_succ, List.set_cons_zero]
                                        refine take_at (i := 4) (v := .int .i64 k) 249 rfl rfl (by kernel_rfl) (by kernel_rfl) (by kernel_rfl) (fun _ _ _ h => h) (.inl ⟨rfl, fun w h => by simp [go_sem]⟩) HB ?_
                                        simp only [Act.put, List.getElem_toArray, List.getElem_cons_succ, List.getElem_cons_zero, List.setIfInBounds_toArray, List.set_cons_succ, List.set_cons_zero]
                                        refine take_at (i := 5) (v := .pointer (some ⟨gC, k, none⟩)) 250 rfl rfl (by kernel_rfl) (by kernel_rfl) (by kernel_rfl) (fun _ _ _ h => h) (.inl ⟨rfl, fun w h => by simp [go_sem, hk22]⟩) HB ?_
                                        simp only [Act.put, List.getElem_toArray, List.getElem_cons_succ, List.getElem_cons_zero, List.setIfInBounds_toArray, List.set_cons_succ, List.set_cons_zero]
                                        refine take_at (i := 6) (v := .string (wd i)) 251 rfl rfl (by kernel_rfl) (by kernel_rfl) (by kernel_rfl) (fun _ _ _ h => h) (.inl ⟨rfl, fun w h => by simp [go_sem, HcC2.out w h]⟩) HB ?_
                                        simp only [Act.put, List.getElem_toArray, List.getElem_cons_succ, List.getElem_cons_zero, List.setIfInBounds_toArray, List.set_cons_succ, List.set_cons_zero]
                                        refine take_at (i := 7) (v := .int .i64 i) 252 rfl rfl (by kernel_rfl) (by kernel_rfl) (by kernel_rfl) (fun _ _ _ h => h) (.inl ⟨rfl, fun w h => by simp [go_sem]⟩) HB ?_
                                        simp only [Act.put, List.getElem_toArray, List.getElem_cons_succ, List.getElem_cons_zero, List.setIfInBounds_toArray, List.set_cons_succ, List.set_cons_zero]
                                        refine held_one (i := 8) (by kernel_rfl) rfl ?_
                                        (refine ev_call1 rfl rfl ⟨_, _, Tryd.func26, by kernel_rfl, rfl⟩ rfl ?_; refine Calls.mono (word_calls i hi _) ?_; rintro e W1 ⟨rfl, hb⟩; refine ⟨_, rfl, ?_⟩; have hgr := grown_of_below hb; replace HB := HB.grown hgr (by have := HB.size; omega) (by simp); clear hb hgr)
                                        refine ⟨HB, ?_⟩
                                        try simp only [Act.put, List.getElem_toArray, List.getElem_cons_succ, List.getElem_cons_zero, List.setIfInBounds_toArray, List.set_cons_succ, List.set_cons_zero]
                                        refine held_one (i := 9) (by kernel_rfl) rfl ?_
                                        refine ev_run rfl (w1 := W1) (v := .bool false) (by simp [go_sem]) ?_
                                        refine ⟨HB, ?_⟩
                                        try simp only [Act.put, List.getElem_toArray, List.getElem_cons_succ, List.getElem_cons_zero, List.setIfInBounds_toArray, List.set_cons_succ, List.set_cons_zero]
                                        refine held_one (i := 10) (by kernel_rfl) rfl ?_
                                        refine ev_run rfl (w1 := W1) (v := .bool false) (by simp [go_sem]) ?_
                                        refine ⟨HB, ?_⟩
                                        try simp only [Act.put, List.getElem_toArray, List.getElem_cons_succ, List.getElem_cons_zero, List.setIfInBounds_toArray, List.set_cons_succ, List.set_cons_zero]
                                        refine take_at (i := 11) (v := .int .i64 k) 256 rfl rfl (by kernel_rfl) (by kernel_rfl) (by kernel_rfl) (fun _ _ _ h => h) (.inl ⟨rfl, fun w h => by simp [go_sem]⟩) HB ?_
                                        simp only [Act.put, List.getElem_toArray, List.getElem_cons_succ, List.getElem_cons_zero, List.setIfInBounds_toArray, List.set_cons_succ, List.set_cons_zero]
                                        refine take_at (i := 12) (v := .slice (some ⟨g8, 0, none⟩) 6 c8) 257 rfl rfl (by kernel_rfl) (by kernel_rfl) (by kernel_rfl) (fun _ _ _ h => h) (.inl ⟨rfl, fun w h => by simp [go_sem]⟩) HB ?_
                                        simp only [Act.put, List.getElem_toArray, List.getElem_cons_succ, List.getElem_cons_zero, List.setIfInBounds_toArray, List.set_cons_succ, List.set_cons_zero]
                                        refine take_at (i := 13) (v := .int .i64 i) 258 rfl rfl (by kernel_rfl) (by kernel_rfl) (by kernel_rfl) (fun _ _ _ h => h) (.inl ⟨rfl, fun w h => by simp [go_sem]⟩) HB ?_
                                        simp only [Act.put, List.getElem_toArray, List.getElem_cons_succ, List.getElem_cons_zero, List.setIfInBounds_toArray, List.set_cons_succ, List.set_cons_zero]
                                        refine take_at (i := 14) (v := .pointer (some ⟨g8, i, none⟩)) 259 rfl rfl (by kernel_rfl) (by kernel_rfl) (by kernel_rfl) (fun _ _ _ h => h) (.inl ⟨rfl, fun w h => by simp [go_sem, hi6]⟩) HB ?_
                                        simp only [Act.put, List.getElem_toArray, List.getElem_cons_succ, List.getElem_cons_zero, List.setIfInBounds_toArray, List.set_cons_succ, List.set_cons_zero]
                                        refine take_at (i := 15) (v := .slice (some ⟨gB, 0, none⟩) 2 d) 260 rfl rfl (by kernel_rfl) (by kernel_rfl) (by kernel_rfl) (fun _ _ _ h => h) (.inl ⟨rfl, fun w h => by simp [go_sem, Hc8.out w h]⟩) HB ?_
                                        simp only [Act.put, List.getElem_toArray, List.getElem_cons_succ, List.getElem_cons_zero, List.setIfInBounds_toArray, List.set_cons_succ, List.set_cons_zero]
                                        refine held_one (i := 16) (by kernel_rfl) rfl ?_
                                        refine wpList_ungate (by first | rfl | simp [Region.wanted, yielded]) ?_
                                        refine ev_run rfl (w1 := W1) (v := .int .i64 2) (by simp [go_sem]) ?_
                                        refine ⟨HB, ?_⟩
                                        try simp only [Act.put, List.getElem_toArray, List.getElem_cons_succ, List.getElem_cons_zero, List.setIfInBounds_toArray, List.set_cons_succ, List.set_cons_zero]
                                        refine held_one (i := 17) (by kernel_rfl) rfl ?_
                                        refine wpList_ungate (by first | rfl | simp [Region.wanted, yielded]) ?_
                                        refine ev_run rfl (w1 := W1) (v := .bool false) (by simp [go_sem, p1]) ?_
                                        refine ⟨HB, ?_⟩
                                        try simp only [Act.put, List.getElem_toArray, List.getElem_cons_succ, List.getElem_cons_zero, List.setIfInBounds_toArray, List.set_cons_succ, List.set_cons_zero]
                                        refine held_one (i := 18) (by kernel_rfl) rfl ?_
                                        refine wpList_ungate (by first | rfl | simp [Region.wanted, yielded]) ?_
                                        refine ev_run rfl (w1 := W1) (v := .bool false) (by simp [go_sem]) ?_
                                        refine ⟨HB, ?_⟩
                                        try simp only [Act.put, List.getElem_toArray, List.getElem_cons_succ, List.getElem_cons_zero, List.setIfInBounds_toArray, List.set_cons_succ, List.set_cons_zero]
                                        refine take_at (i := 19) (v := undef) 264 rfl rfl (by kernel_rfl) (by kernel_rfl) (by kernel_rfl) (fun _ _ _ h => h) (.inr ⟨rfl, rfl⟩) HB ?_
                                        simp only [Act.put, List.getElem_toArray, List.getElem_cons_succ, List.getElem_cons_zero, List.setIfInBounds_toArray, List.set_cons_succ, List.set_cons_zero]
                                        refine take_at (i := 20) (v := undef) 265 rfl rfl (by kernel_rfl) (by kernel_rfl) (by kernel_rfl) (fun _ _ _ h => h) (.inr ⟨rfl, rfl⟩) HB ?_
                                        simp only [Act.put, List.getElem_toArray, List.getElem_cons_succ, List.getElem_cons_zero, List.setIfInBounds_toArray, List.set_cons_succ, List.set_cons_zero]
                                        refine take_at (i := 21) (v := undef) 266 rfl rfl (by kernel_rfl) (by kernel_rfl) (by kernel_rfl) (fun _ _ _ h => h) (.inr ⟨rfl, rfl⟩) HB ?_
                                        simp only [Act.put, List.getElem_toArray, List.getElem_cons_succ, List.getElem_cons_zero, List.setIfInBounds_toArray, List.set_cons_succ, List.set_cons_zero]
                                        refine take_at (i := 22) (v := undef) 267 rfl rfl (by kernel_rfl) (by kernel_rfl) (by kernel_rfl) (fun _ _ _ h => h) (.inr ⟨rfl, rfl⟩) HB ?_
                                        simp only [Act.put, List.getElem_toArray, List.getElem_cons_succ, List.getElem_cons_zero, List.setIfInBounds_toArray, List.set_cons_succ, List.set_cons_zero]
                                        refine take_at (i := 23) (v := undef) 268 rfl rfl (by kernel_rfl) (by kernel_rfl) (by kernel_rfl) (fun _ _ _ h => h) (.inr ⟨rfl, rfl⟩) HB ?_
                                        simp only [Act.put, List.getElem_toArray, List.getElem_cons_succ, List.getElem_cons_zero, List.setIfInBounds_toArray, List.set_cons_succ, List.set_cons_zero]
                                        refine take_at (i := 24) (v := undef) 269 rfl rfl (by kernel_rfl) (by kernel_rfl) (by kernel_rfl) (fun _ _ _ h => h) (.inr ⟨rfl, rfl⟩) HB ?_
                                        simp only [Act.put, List.getElem_toArray, List.getElem_cons_succ, List.getElem_cons_zero, List.setIfInBounds_toArray, List.set_cons_succ, List.set_cons_zero]
                                        refine take_at (i := 25) (v := undef) 270 rfl rfl (by kernel_rfl) (by kernel_rfl) (by kernel_rfl) (fun _ _ _ h => h) (.inr ⟨rfl, rfl⟩) HB ?_
                                        simp only [Act.put, List.getElem_toArray, List.getElem_cons_succ, List.getElem_cons_zero, List.setIfInBounds_toArray, List.set_cons_succ, List.set_cons_zero]
                                        refine take_at (i := 26) (v := undef) 271 rfl rfl (by kernel_rfl) (by kernel_rfl) (by kernel_rfl) (fun _ _ _ h => h) (.inr ⟨rfl, rfl⟩) HB ?_
                                        simp only [Act.put, List.getElem_toArray, List.getElem_cons_succ, List.getElem_cons_zero, List.setIfInBounds_toArray, List.set_cons_succ, List.set_cons_zero]
                                        refine held_one (i := 27) (by kernel_rfl) rfl ?_
                                        refine wpList_skip rfl ?_
                                        refine ⟨HB, ?_⟩
                                        try simp only [Act.put, List.getElem_toArray, List.getElem_cons_succ, List.getElem_cons_zero, List.setIfInBounds_toArray, List.set_cons_succ, List.set_cons_zero]
                                        refine held_one (i := 28) (by kernel_rfl) rfl ?_
                                        refine wpList_skip rfl ?_
                                        refine ⟨HB, ?_⟩
                                        try simp only [Act.put, List.getElem_toArray, List.getElem_cons_succ, List.getElem_cons_zero, List.setIfInBounds_toArray, List.set_cons_succ, List.set_cons_zero]
                                        refine held_one (i := 29) (by kernel_rfl) rfl ?_
                                        refine wpList_ungate (by first | rfl | simp [Region.wanted, yielded]) ?_
                                        refine ev_run rfl (w1 := W1) (v := .bool false) (by simp [go_sem]) ?_
                                        refine ⟨HB, ?_⟩
                                        try simp only [Act.put, List.getElem_toArray, List.getElem_cons_succ, List.getElem_cons_zero, List.setIfInBounds_toArray, List.set_cons_succ, List.set_cons_zero]
                                        refine held_one (i := 30) (by kernel_rfl) rfl ?_
                                        refine ev_run rfl (w1 := W1) (v := .bool false) (by simp [go_sem]) ?_
                                        refine ⟨HB, ?_⟩
                                        try simp only [Act.put, List.getElem_toArray, List.getElem_cons_succ, List.getElem_cons_zero, List.setIfInBounds_toArray, List.set_cons_succ, List.set_cons_zero]
                                        refine wpAnyH_done (by kernel_rfl) ?_ _
                                        go_wp2
                                        go_roundg (gk - 1)
                                        case measure => omega
                                        case rel => exact ⟨k + 1, by omega, by go_num, HB⟩
                                    · obtain rfl : k = 22 := by omega
                                      have q1 : decide (((22 : Nat) : Int) < 22) = false := by decide
                                      have q1' : decide ((22 : Nat) < 22) = false := by decide
                                      go_wp2
                                      clear hc9
                                      go_roundg (gm4 - 1)
                                      case measure => omega
                                      case rel => exact ⟨i + 1, by omega, by go_num, HB⟩
                                · obtain rfl : i = 6 := by omega
                                  have HB0 := Lib.hid HB
                                  clear HB
                                  go_wp2
                                  go_loopg [36] 3 (fun q v36 wr => ∃ i : Nat, q + i = 3 ∧ v36 = .int .i64 i ∧ Aside (Below wx.heap.size wx wr))
                                  case atStart => exact ⟨0, by omega, rfl, HB0.out⟩
                                  case round =>
                                    clear HB0
                                    obtain ⟨gm5, rfl⟩ : ∃ gm5, gm5 = gk := ⟨_, rfl⟩
                                    obtain ⟨i, hq6, rfl, HA⟩ := hrel
                                    have HB := HA.out
                                    clear HA
                                    by_cases hi : i < 3
                                    · have s1 : decide ((i : Int) < 3) = true := by rw [decide_eq_true_eq]; omega
                                      have s1' : decide (i < 3) = true := by rw [decide_eq_true_eq]; exact hi
                                      obtain ⟨x, hx⟩ : ∃ x, ms[i]? = some x := ⟨_, List.getElem?_eq_getElem (by rw [HSt.out.lenR]; exact hi)⟩
                                      have e2 := HSt.out.nR x (List.mem_of_getElem? hx)
                                      obtain ⟨xs, xn, B, d⟩ := x
                                      simp only at e2
                                      replace e2 := e2.symm
                                      subst e2
                                      obtain ⟨C, e, hts⟩ := Hmr.out.at_ i hi
                                      have hts2 : (us.map (·.2))[i]? = some (FV m i, m + 20, C, e) := by rw [List.getElem?_map, hts]; rfl
                                      obtain ⟨g13, hg13, _⟩ := own_at (HSt.out.rowR_at HX1.out.K) (by omega)
                                      obtain ⟨g7', hg7', _⟩ := own_at Ho7.out (by omega)
                                      simp only at hg13 hg7'
                                      subst hg13
                                      subst hg7'
                                      have hmB := Htr.out i m xs B d hx
                                      have oB : ∀ W', Below wx.heap.size wx W' → W'.ownsRow w.heap.size 27 12 (.slice B m d) m (MKV i m) := fun W' u => (HX1.out.next u).fR.all _ (List.mem_append_left _ hmB)
                                      have oC : ∀ W', Below wx.heap.size wx W' → W'.ownsRow w.heap.size 27 12 (.slice C (m + 20) e) (m + 20) (FV m i) := fun W' u => (HX1.out.next u).fR.all _ (List.mem_append_right _ (List.mem_of_getElem? hts))
                                      obtain ⟨gC, hgC, _⟩ := own_at (oC _ HB) (by omega)
                                      subst hgC
                                      have Hc13 := Lib.hid (fun (W' : World) (u : Below wx.heap.size wx W') => cell_ga (HSt.out.rowR_at (HX1.out.next u).K) hx)
                                      have Hc7 := Lib.hid (fun (W' : World) (u : Below wx.heap.size wx W') => cell_ga (own_next Ho7.out u) hts2)
                                      have HoB := Lib.hid oB
                                      have HcC := Lib.hid (fun (k : Nat) (hk : k < m + 20) (W' : World) (u : Below wx.heap.size wx W') => own_cellN (oC W' u) (k * 12) (MKV_get hk))
                                      have HB0 := Lib.hid HB
                                      have hc7 := Hc7.out _ HB
                                      clear hx hts hts2 hmB oB oC HB hc7
                                      go_wp2
                                      go_loopg [37] (m + 20) (fun q v37 wr => ∃ k : Nat, q + k = m + 20 ∧ v37 = .int .i64 k ∧ Aside (Below wx.heap.size wx wr))
                                      case atStart => exact ⟨0, by omega, rfl, HB0.out⟩
                                      case round =>
                                        clear HB0
                                        obtain ⟨k, hq7, rfl, HA⟩ := hrel
                                        have HB := HA.out
                                        clear HA
                                        have hc7 := Hc7.out _ HB
                                        have hc13 := Hc13.out _ HB
                                        by_cases hk : k < m + 20
                                        · have q1 : decide ((k : Int) < (m : Int) + 20) = true := by rw [decide_eq_true_eq]; omega
                                          have q1' : decide (k < m + 20) = true := by rw [decide_eq_true_eq]; exact hk
                                          have hcC := HcC.out k hk _ HB
                                          by_cases hk2 : k < m
                                          · have p1 : decide ((k : Int) < (m : Int)) = true := by rw [decide_eq_true_eq]; omega
                                            have p1' : decide (k < m) = true := by rw [decide_eq_true_eq]; exact hk2
                                            obtain ⟨gB, hgB, _⟩ := own_at (HoB.out _ HB) (by omega)
                                            subst hgB
                                            have hcB := own_cellN (HoB.out _ HB) (k * 12) (MKV_get hk2)
                                            go_wp2
                                            go_roundg (gk - 1)
                                            case measure => omega
                                            case rel => exact ⟨k + 1, by omega, by go_num, HB⟩
                                          · have p1 : decide ((k : Int) < (m : Int)) = false := by rw [decide_eq_false_iff_not]; omega
                                            have p1' : decide (k < m) = false := by rw [decide_eq_false_iff_not]; exact hk2
                                            go_wp2
                                            go_roundg (gk - 1)
                                            case measure => omega
                                            case rel => exact ⟨k + 1, by omega, by go_num, HB⟩
                                        · have q1 : decide ((k : Int) < (m : Int) + 20) = false := by rw [decide_eq_false_iff_not]; omega
                                          have q1' : decide (k < m + 20) = false := by rw [decide_eq_false_iff_not]; exact hk
                                          go_wp2
                                          clear hc7 hc13
                                          go_roundg (gm5 - 1)
                                          case measure => omega
                                          case rel => exact ⟨i + 1, by omega, by go_num, HB⟩
                                    · obtain rfl : i = 3 := by omega
                                      have HBw := HBX _ HB
                                      clear HB
                                      have HB := HBw
                                      clear HBw
                                      go_wp2_with (first
                                        | (go_at_call 28; (with_reducible refine (started_calls _ (HT.out.next HB) (Ht.out.next HB)).mono ?_); rintro e W1 ⟨rfl, hb⟩; have hgr := grown_of_below hb; replace HB := HB.grown hgr (by have := HB.size; omega) (by simp); clear hb hgr))
                                      go_ret
                                      exact ⟨rfl, HB⟩
