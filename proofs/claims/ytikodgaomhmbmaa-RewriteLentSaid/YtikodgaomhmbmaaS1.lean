/-
  rewrite.ended: for each saga the number of its end records.
-/
import Derived.Test.YtikodgaomhmbmaaS0
import Derived.Maps.OwnOps
set_option linter.unusedVariables false
set_option linter.unusedSimpArgs false
namespace Go.Proofs.Ytikodgaomhmbmaa
open Go.RowKit Go.Maps
attribute [local go_sem] Rec.size_ Rec.g0 Rec.g1 Rec.g2 Rec.g3 Rec.g4 Rec.g5 Rec.g6 Rec.g7 Rec.g8 Rec.g9 Rec.g10 Rec.g11 Rec.fold Rec.lit_fold

theorem lawI : Keyed Try.prog 3 := int_keyed Try.underlying3
theorem zeroI (w : World) : (zeroValue 3).run Try.prog w = .ok (.int .i64 0) w := by kernel_rfl
/-- The number of a saga's end records. -/
def endN (R : List Rec) (s : Int) : Nat := R.countP fun r => (r.Kind == 7) && (r.Saga == s)
theorem endN_le (R : List Rec) (s : Int) : endN R s ≤ R.length := List.countP_le_length
theorem endN_snoc (R : List Rec) (r : Rec) (s : Int) : endN (R ++ [r]) s = endN R s + if (r.Kind == 7) && (r.Saga == s) then 1 else 0 := by
  unfold endN
  rw [List.countP_append, List.countP_singleton]
/-- A map of numbers, whole. -/
structure MP (w : World) (b n : Nat) (D : DataW Unit) : Prop where
  owns : w.ownsMap Try.prog 3 (plainElem Try.prog 3) b n D
section
variable {w w' : World} {b n : Nat} {D : DataW Unit}
theorem MP.kept {row : Option Nat} (h : MP w b n D) (hgr : w.grownBy w' row) (hne : some b ≠ row) : MP w' b n D := ⟨h.owns.kept hgr hne⟩
theorem MP.next (h : MP w b n D) (hb : Below w.heap.size w w') : MP w' b n D := h.kept (grown_of_below hb) (by simp)
theorem MP.ne_blk {g : Nat} {t : TypeId} {cs : Array Value} (h : MP w b n D) (hg : Blk w g t cs) (_ : True) : some b ≠ some g := by
  intro e
  injection e with e
  subst e
  obtain ⟨es, clock, hb, _⟩ := h.owns
  unfold Blk at hg
  rw [hg] at hb
  cases hb
theorem MP.ne_own {base size m : Nat} {e : TypeId} {v : Value} {xs : List Value} (h : MP w b n D) (ho : w.ownsRow base e size v m xs) (_ : True) : some b ≠ v.ownBlock := by
  intro he
  obtain ⟨es, clock, hb, _⟩ := h.owns
  rcases ho.2 with ⟨rfl, _⟩ | ⟨g', cap, cur, rfl, _, hg, _⟩
  · cases he
  · have : b = g' := by simpa [Value.ownBlock] using he
    subst this
    rw [hg] at hb
    cases hb
end
/-- The map holds the numbers of R's end records. -/
def CntD (D : DataW Unit) (R : List Rec) : Prop := ∀ s : Int, (Lit.int .i64 s).wf = true → D.atKey (.int .i64 s) (.lit (.int .i64 0)) = .lit (.int .i64 (endN R s : Nat))
theorem CntD.nil : CntD (.map []) [] := fun s _ => rfl
theorem CntD.skip {D : DataW Unit} {R : List Rec} {r : Rec} (h : CntD D R) (hk : (r.Kind == 7) = false) : CntD D (R ++ [r]) := fun s hs => by
  rw [h s hs, endN_snoc, hk]
  simp
theorem isKey (s : Int) : WideAt.IsKeyLit (.int .i64 s) := by first | exact trivial | (unfold WideAt.IsKeyLit; trivial) | (unfold WideAt.IsKeyLit; simp)
theorem CntD.put {D : DataW Unit} {R : List Rec} {r : Rec} (h : CntD D R) (hm : IsMap D) (hk : (r.Kind == 7) = true) {c : Int} (hc : c = (endN R r.Saga + 1 : Nat)) : CntD (D.put (.int .i64 r.Saga) (.lit (.int .i64 c))) (R ++ [r]) := fun s hs => by
  by_cases e : s = r.Saga
  · subst e
    rw [atKey_put_same hm (isKey _), endN_snoc, hk, hc]
    simp
  · rw [atKey_put_other (fun e2 => e (by injection e2)), h s hs, endN_snoc, hk]
    have : (r.Saga == s) = false := by simpa using fun e2 => e e2.symm
    rw [this]
    simp
theorem CntD.at_ {D : DataW Unit} {R : List Rec} (h : CntD D R) {s : Int} (hs : (Lit.int .i64 s).wf = true) {c : Int} (hat : D.atKey (.int .i64 s) (.lit (.int .i64 0)) = .lit (.int .i64 c)) : c = (endN R s : Nat) := by
  rw [h s hs] at hat
  injection hat with hat
  injection hat with _ hat
  exact hat.symm

set_option maxHeartbeats 2000000 in
set_option maxRecDepth 100000 in
theorem ended_calls (l : List RA) (n : Nat) (hn : l.length = n) (A : Option Addr) (c : Nat) (hl : n ≤ 140737488351232) (hwf : ∀ y ∈ l, (Lit.int .i64 y.1.Saga).wf = true) (w : World) (hr : RR w A l) :
    Calls Try.prog 14 #[.slice A n c] w fun e w' => ∃ D, e = .returned (.map (some w.heap.size)) ∧ MP w' w.heap.size n D ∧ Aside (CntD D (l.map (·.1)) ∧ w.heap.size < w'.heap.size) ∧ Below w.heap.size w w' := by
  have HB := Below.refl w.heap.size w
  have hmm := @run_makeMap Try.prog
  have Hr := Lib.hid hr
  have Hn := Lib.hid hn
  have Hwf := Lib.hid hwf
  clear hr hn hwf
  go_enter Try.func14, Try.ntmps14
  go_wp2
  have M0 : MP (w.alloc (.map #[] 0)) w.heap.size 0 (.map []) := ⟨World.ownsMap_made _ _ _ _⟩
  have HB0 : Below w.heap.size w (w.alloc (.map #[] 0)) := (Below.refl _ _).alloc (Nat.le_refl _) _
  go_loopg [9] n (fun m v9 wr => ∃ (k : Nat) (D : DataW Unit), m + k = n ∧ v9 = .int .i64 k ∧ Aside (MP wr w.heap.size k D ∧ CntD D ((l.map (·.1)).take k) ∧ Below w.heap.size w wr))
  case atStart => exact ⟨0, _, by omega, rfl, ⟨M0, CntD.nil, HB0⟩⟩
  case round =>
    clear HB HB0 M0
    obtain ⟨k, D, hm, rfl, HA⟩ := hrel
    obtain ⟨M1, hcd, HB⟩ := HA.out
    clear HA
    have Hcd := Lib.hid hcd
    clear hcd
    by_cases hlt : k < n
    · have s1 : decide ((k : Int) < (n : Int)) = true := by rw [decide_eq_true_eq]; omega
      have s1' : decide (k < n) = true := by rw [decide_eq_true_eq]; exact hlt
      obtain ⟨x, hx⟩ : ∃ x, l[k]? = some x := ⟨_, List.getElem?_eq_getElem (by rw [Hn.out]; exact hlt)⟩
      obtain ⟨r, Ar, cr⟩ := x
      have hxm : (l.map (·.1))[k]? = some r := by rw [List.getElem?_map, hx]; rfl
      have hwfr := Hwf.out _ (List.mem_of_getElem? hx)
      have hkey : keyOf Try.prog 3 (.int .i64 r.Saga) = some (.int .i64 r.Saga) := keyOf_int_mk Try.underlying3 hwfr
      have n3 : (l.map (·.1)).take (k + 1) = (l.map (·.1)).take k ++ [r] := by rw [List.take_add_one, hxm]; rfl
      have N3 := Lib.hid n3
      have hcnt : endN ((l.map (·.1)).take k) r.Saga ≤ n := Nat.le_trans (endN_le _ _) (by rw [List.length_take, List.length_map, Hn.out]; omega)
      have Hcnt := Lib.hid hcnt
      have Hwfr := Lib.hid hwfr
      obtain ⟨ad, had, _, _⟩ := Hr.out.get hx
      have hld := fun (W : World) (hb : Below w.heap.size w W) => (Hr.out.next hb).load hx had
      have Hld := Lib.hid hld
      subst had
      clear hx hld n3 hxm hcnt hwfr
      by_cases hk7 : r.Kind = 7
      · have s2 : (r.Kind == 7) = true := by simp [hk7]
        have s2' : (r.Kind = 7) = True := by simp [hk7]
        have Hk7 := Lib.hid hk7
        clear hk7
        go_wp2_with (first
          | ((with_reducible refine gate_dst (N := 12) rfl ?_); refine ev_load_at rfl rfl rfl (Hld.out _ HB) Try.underlying25 rfl rec_size ?_)
          | ((with_reducible refine gate_dst (N := 5) rfl ?_); refine ev_alloc rfl rfl _ rec_zero ?_; intro g5 W1 hg5 hsz hbn; have hgr := grown_of_below hbn; replace hg5 : Blk W1 g5 _ (Rec.zero.cells none 0) := hg5; have zg5 : w.heap.size ≤ g5 := (by have := HB.size; omega); replace M1 := M1.kept hgr (by simp); replace HB := HB.grown hgr (by have := HB.size; omega) (by simp); have hcg5 := hg5.cell; have hfg5 := hg5.frozen; clear hsz hbn hgr)
          | ((with_reducible refine gate_store (p := 5) rfl ?_); refine ev_store_row (cs := r.cells Ar cr) rfl rfl rfl hg5 rfl rfl rec_size rfl (cells_one _ _ _) ?_; intro W2 hgn hgr; replace M1 := M1.kept hgr (MP.ne_blk M1 hg5 (by decide)); replace HB := HB.grown hgr (by have := HB.size; omega) (by intro k e; injection e with e; omega); replace hg5 := hgn; replace hcg5 := hg5.cell; replace hfg5 := hg5.frozen; clear hgn hgr)
          | (at_lookup; refine wpList_lookup_own_int _ rfl _ _ 47 rfl 3 3 .i64 lawI Try.underlying47 Try.underlying3 (zeroI _) w.heap.size k _ rfl M1.owns _ _ rfl hkey ?_; intro c hat hwc)
          | (at_mapUpdate; refine wpList_mapUpdate_own _ rfl _ _ _ 47 rfl 3 3 lawI Try.underlying47 _ w.heap.size k _ rfl M1.owns (by unfold maxLen; omega) _ _ _ rfl rfl hkey _ [] (plainElem_int Try.underlying3 (wrap64_wf _)) ?_; intro W9 hown1 hgr1))
        have hc := Hcd.out.at_ Hwfr.out hat
        have hw : wrap64 (c + 1) = (endN ((l.map (·.1)).take k) r.Saga + 1 : Nat) := by
          have := Hcnt.out
          rw [hc, IntWalk.wrap64_in _ ⟨by omega, by omega⟩]
          omega
        have HC2 := Hcd.out.put (r := r) M1.owns.isMap (by simp [Hk7.out]) hw
        go_roundg (gk - 1)
        case measure => omega
        case rel => exact ⟨k + 1, _, by omega, by go_num, ⟨⟨hown1⟩, by rw [N3.out]; exact HC2, HB.grown hgr1 HB.size (fun j hj => by cases hj; exact Nat.le_refl _)⟩⟩
      · have s2 : (r.Kind == 7) = false := by simp [hk7]
        have s2' : (r.Kind = 7) = False := by simp [hk7]
        clear hk7
        have Hs2 := Lib.hid s2
        go_wp2_with (first
          | ((with_reducible refine gate_dst (N := 12) rfl ?_); refine ev_load_at rfl rfl rfl (Hld.out _ HB) Try.underlying25 rfl rec_size ?_)
          | ((with_reducible refine gate_dst (N := 5) rfl ?_); refine ev_alloc rfl rfl _ rec_zero ?_; intro g5 W1 hg5 hsz hbn; have hgr := grown_of_below hbn; replace hg5 : Blk W1 g5 _ (Rec.zero.cells none 0) := hg5; have zg5 : w.heap.size ≤ g5 := (by have := HB.size; omega); replace M1 := M1.kept hgr (by simp); replace HB := HB.grown hgr (by have := HB.size; omega) (by simp); have hcg5 := hg5.cell; have hfg5 := hg5.frozen; clear hsz hbn hgr)
          | ((with_reducible refine gate_store (p := 5) rfl ?_); refine ev_store_row (cs := r.cells Ar cr) rfl rfl rfl hg5 rfl rfl rec_size rfl (cells_one _ _ _) ?_; intro W2 hgn hgr; replace M1 := M1.kept hgr (MP.ne_blk M1 hg5 (by decide)); replace HB := HB.grown hgr (by have := HB.size; omega) (by intro k e; injection e with e; omega); replace hg5 := hgn; replace hcg5 := hg5.cell; replace hfg5 := hg5.frozen; clear hgn hgr))
        go_roundg (gk - 1)
        case measure => omega
        case rel => exact ⟨k + 1, _, by omega, by go_num, ⟨⟨M1.owns.mono (by omega)⟩, by rw [N3.out]; exact Hcd.out.skip Hs2.out, HB⟩⟩
    · obtain rfl : k = n := by omega
      have s1 : decide ((k : Int) < (k : Int)) = false := by simp
      have s1' : decide (k < k) = false := by simp
      have n3 : (l.map (·.1)).take k = l.map (·.1) := List.take_of_length_le (by rw [List.length_map, Hn.out]; omega)
      have hcd := Hcd.out
      rw [n3] at hcd
      have Hcd2 := Lib.hid hcd
      clear Hcd hcd n3
      go_wp2
      go_ret
      exact ⟨D, rfl, M1, ⟨Hcd2.out, M1.owns.lt⟩, HB⟩
end Go.Proofs.Ytikodgaomhmbmaa
