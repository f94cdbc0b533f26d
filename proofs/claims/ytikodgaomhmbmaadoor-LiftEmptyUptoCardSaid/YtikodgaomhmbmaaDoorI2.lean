/-
  The walks of annalslaw4.copies (the data being its own) and light.
-/
import Derived.Test.YtikodgaomhmbmaaDoorH3
import Derived.Test.YtikodgaomhmbmaaDoorM2
set_option linter.unusedVariables false
set_option linter.unusedSimpArgs false
namespace Go.Proofs.YtikodgaomhmbmaaDoor
open Go.RowKit
attribute [local go_sem] Rec.size_ Rec.g0 Rec.g1 Rec.g2 Rec.g3 Rec.g4 Rec.g5 Rec.g6 Rec.g7 Rec.g8 Rec.g9 Rec.g10 Rec.g11 Rec.fold Rec.lit_fold

/-- What copies hands out, the data being its own. -/
def CopyOwn (l : List RA) (w : World) (e : Ending) (w' : World) : Prop :=
  ∃ (A' : Option Addr) (c' : Nat) (os : List RA), e = .returned (.slice A' os.length c') ∧ os.map (·.1) = l.map (·.1) ∧ w'.ownsRow w.heap.size 27 12 (.slice A' os.length c') os.length (recCells os) ∧ OBs w' w.heap.size (bs os) ∧ Below w.heap.size w w'
set_option maxHeartbeats 2000000 in
set_option maxRecDepth 100000 in
theorem copies_own (l : List RA) (A : Option Addr) (c : Nat) (hl : l.length * 120 ≤ 140737488351232) (hfit : ∀ y ∈ l, y.1.Fits) (w : World) (hr : RR w A l) :
    Calls Tryd.prog 30 #[.slice A l.length c] w (CopyOwn l w) := by
  have HB := Below.refl w.heap.size w
  have Hr := Lib.hid hr
  have Hfit := Lib.hid hfit
  clear hr hfit
  unfold CopyOwn
  go_enter Tryd.func30, Tryd.ntmps30
  go_wp2
  go_loopg [3, 4] l.length (fun n v3 v4 wr => ∃ (k : Nat) (A' : Option Addr) (c' : Nat) (os : List RA), n + k = l.length ∧ v4 = .int .i64 k ∧ v3 = .slice A' os.length c' ∧
    Aside (os.length = k ∧ os.map (·.1) = (l.map (·.1)).take k ∧ wr.ownsRow w.heap.size 27 12 (.slice A' os.length c') os.length (recCells os) ∧ OBs wr w.heap.size (bs os) ∧ Below w.heap.size w wr))
  case atStart => exact ⟨0, none, 0, [], by omega, rfl, rfl, ⟨rfl, rfl, own_nil _ _ _ _, OBs.nil, HB⟩⟩
  case round =>
    clear HB
    obtain ⟨k, A2, c2, os, hn, rfl, rfl, HA⟩ := hrel
    obtain ⟨hok, hos, o1, Qo, HB⟩ := HA.out
    clear HA
    have Hok := Lib.hid hok
    have Hos := Lib.hid hos
    clear hos hok
    by_cases hlt : k < l.length
    · have s1 : decide ((k : Int) < (l.length : Int)) = true := by rw [decide_eq_true_eq]; omega
      have s1' : decide (k < l.length) = true := by rw [decide_eq_true_eq]; exact hlt
      obtain ⟨x, hx⟩ : ∃ x, l[k]? = some x := ⟨l[k], List.getElem?_eq_getElem hlt⟩
      obtain ⟨r, Ar, cr⟩ := x
      have hxm : (l.map (·.1))[k]? = some r := by rw [List.getElem?_map, hx]; rfl
      have hxf : r.Fits := Hfit.out _ (List.mem_of_getElem? hx)
      have hrl := hxf.data
      have hxd : RB w Ar r.Data := Hr.out.data _ (List.mem_of_getElem? hx)
      obtain ⟨ad, had, hadlt, _⟩ := Hr.out.get hx
      have hld := fun (W : World) (hb : Below w.heap.size w W) => (Hr.out.next hb).load hx had
      have Hld := Lib.hid hld
      subst had
      have n3 : (l.map (·.1)).take (k + 1) = (l.map (·.1)).take k ++ [r] := by rw [List.take_add_one, hxm]; rfl
      have N3 := Lib.hid n3
      clear hx hld n3 hxm
      go_wp2_with (first
        | ((with_reducible refine gate_dst (N := 15) rfl ?_); refine ev_load_at rfl rfl rfl (Hld.out _ HB) Tryd.underlying27 rfl rec_size ?_)
        | (go_at_call 46; (with_reducible refine (refClone_ob r Ar cr _ (hxd.next HB) hrl).mono ?_); rintro e W1 ⟨A5, c5, rfl, B5, hb⟩; have hgr := grown_of_below hb; have dQoB5 := Qo.apart_new B5 (Nat.le_refl _); replace B5 := B5.mono HB.size; replace Qo := Qo.kept hgr (by simp); replace o1 := o1.kept hgr (by cases Value.ownBlock _ <;> simp); replace HB := HB.grown hgr (by have := HB.size; omega) (by simp); clear hb hgr)
        | ((with_reducible refine gate_dst (N := 17) rfl ?_); refine ev_lit rfl rfl (r.cells A5 c5) 27 1 (by first | (go_simp; done) | (go_simp; rfl)) ?_; intro g5 W2 hg5 hsz hbn; have hgr := grown_of_below hbn; have zg5 : w.heap.size ≤ g5 := (by have := HB.size; omega); replace B5 := B5.kept hgr (by simp); replace Qo := Qo.kept hgr (by simp); replace o1 := o1.kept hgr (by cases Value.ownBlock _ <;> simp); replace HB := HB.grown hgr (by have := HB.size; omega) (by simp); have hcg5 := hg5.cell; have hfg5 := hg5.frozen; clear hsz hbn hgr)
        | ((with_reducible refine gate_dst (N := 18) rfl ?_); refine ev_append rfl rfl Tryd.underlying22 info_rec rfl (by omega) rfl o1 rfl (hg5.reads (size := 12) (n := 1) rfl) (recCells_1 (l := [(r, A5, c5)])) (by have := Hok.out; omega) (by omega) (by have := HB.size; omega) ?_; intro A6 c6 W3 on hgr hat; replace B5 := B5.kept hgr (OB.ne_own B5 o1 (by decide)); replace Qo := Qo.kept hgr (OBs.ne_own Qo o1 (by decide)); replace HB := HB.grown hgr (by have := HB.size; omega) (own_base o1); replace o1 := on; clear on hgr hat))
      go_roundg (gk - 1)
      case measure => omega
      case rel => exact ⟨k + 1, A6, c6, os ++ [(r, A5, c5)], by omega, by go_num, by simp, ⟨by simp [Hok.out], by rw [List.map_append, Hos.out, N3.out]; rfl, by rw [recCells_append, recCells_one]; simpa [RA.cs] using o1, by rw [bs_snoc]; exact Qo.snoc B5 dQoB5, HB⟩⟩
    · have s1 : decide ((k : Int) < (l.length : Int)) = false := by rw [decide_eq_false_iff_not]; omega
      have s1' : decide (k < l.length) = false := by rw [decide_eq_false_iff_not]; exact hlt
      obtain rfl : k = l.length := by omega
      have n3 : os.map (·.1) = l.map (·.1) := by rw [Hos.out, List.take_of_length_le (by simp)]
      go_wp2
      go_ret
      exact ⟨A2, c2, os, rfl, n3, o1, Qo, HB⟩

theorem copies_on (l : List RA) (n : Nat) (hn : l.length = n) (A : Option Addr) (c : Nat) (hl : n * 120 ≤ 140737488351232) (hfit : ∀ y ∈ l, y.1.Fits) (w : World) (hr : RR w A l) :
    Calls Tryd.prog 30 #[.slice A n c] w fun e w' => ∃ (A' : Option Addr) (c' : Nat) (os : List RA), e = .returned (.slice A' n c') ∧ Aside (os.map (·.1) = l.map (·.1)) ∧ w'.ownsRow w.heap.size 27 12 (.slice A' n c') n (recCells os) ∧ OBs w' w.heap.size (bs os) ∧ Below w.heap.size w w' := by
  subst hn
  refine (copies_own l A c hl hfit w hr).mono fun e w' ⟨A', c', os, he, hos, ho, hS, hb⟩ => ?_
  rw [map_len hos] at he ho
  exact ⟨A', c', os, he, hos, ho, hS, hb⟩

theorem RR.take {w : World} {A : Option Addr} {l : List RA} (h : RR w A l) (k : Nat) : RR w A (l.take k) := by
  have := List.take_append_drop k l
  rw [← this] at h
  exact h.prefix
set_option maxHeartbeats 2000000 in
set_option maxRecDepth 100000 in
/-- light: the first ones, at most 5000. -/
theorem light_calls (l : List RA) (n : Nat) (hn : l.length = n) (A : Option Addr) (c : Nat) (hnc : n ≤ c) (hl : n * 120 ≤ 140737488351232) (hfit : ∀ y ∈ l, y.1.Fits) (w : World) (hr : RR w A l) :
    Calls Tryd.prog 29 #[.slice A n c] w fun e w' => ∃ k : Nat, e = .returned (.slice A k c) ∧ k ≤ n ∧ k ≤ 5000 ∧ Below w.heap.size w w' := by
  have HB := Below.refl w.heap.size w
  have Hr := Lib.hid hr
  have Hfit := Lib.hid hfit
  have Hn := Lib.hid hn
  clear hr hfit hn
  go_enter Tryd.func29, Tryd.ntmps29
  go_wp2
  go_loopg [3, 4] n (fun m v3 v4 wr => ∃ (k s : Nat), m + k = n ∧ v4 = .int .i64 k ∧ v3 = .int .i64 s ∧ Aside (k ≤ 5000 ∧ s ≤ 4194304 ∧ Below w.heap.size w wr))
  case atStart => exact ⟨0, 0, by omega, rfl, rfl, ⟨by omega, by omega, HB⟩⟩
  case round =>
    clear HB
    obtain ⟨k, s, hm, rfl, rfl, HA⟩ := hrel
    obtain ⟨hk5, hs4, HB⟩ := HA.out
    clear HA
    by_cases hlt : k < n
    · have s1 : decide ((k : Int) < (n : Int)) = true := by rw [decide_eq_true_eq]; omega
      have s1' : decide (k < n) = true := by rw [decide_eq_true_eq]; exact hlt
      obtain ⟨x, hx⟩ : ∃ x, l[k]? = some x := ⟨_, List.getElem?_eq_getElem (by rw [Hn.out]; exact hlt)⟩
      obtain ⟨r, Ar, cr⟩ := x
      have hxf : r.Fits := Hfit.out _ (List.mem_of_getElem? hx)
      have hrl := hxf.data
      obtain ⟨ad, had, hadlt, _⟩ := Hr.out.get hx
      have hld := (Hr.out.next HB).load hx had
      have h11 : wr.cell? { block := (ad.add (k * 12)).block, off := (ad.add (k * 12)).off + 11 } = some (.slice Ar r.Data.length cr) := hld 11 _ rfl
      subst had
      clear hx hld hxf
      generalize r.Data.length = dl at h11 hrl
      obtain ⟨t, ht⟩ : ∃ t, t = s + dl := ⟨_, rfl⟩
      by_cases h5 : k < 5000
      · have s2 : decide ((5000 : Int) ≤ (k : Int)) = false := by rw [decide_eq_false_iff_not]; omega
        have s2' : decide (5000 ≤ k) = false := by rw [decide_eq_false_iff_not]; omega
        by_cases h4 : s + dl ≤ 4194304
        · have s3 : decide ((4194304 : Int) < (s : Int) + (dl : Int)) = false := by rw [decide_eq_false_iff_not]; omega
          have s3' : decide (4194304 < s + dl) = false := by rw [decide_eq_false_iff_not]; omega
          go_wp2
          go_roundg (gk - 1)
          case measure => omega
          case rel => exact ⟨k + 1, s + dl, by omega, by go_num, by simp, ⟨by omega, h4, HB⟩⟩
        · have s3 : decide ((4194304 : Int) < (s : Int) + (dl : Int)) = true := by rw [decide_eq_true_eq]; omega
          have s3' : decide (4194304 < s + dl) = true := by rw [decide_eq_true_eq]; omega
          have hkc : k ≤ c := by omega
          go_wp2
          go_ret
          exact ⟨k, rfl, by omega, by omega, HB⟩
      · have s2 : decide ((5000 : Int) ≤ (k : Int)) = true := by rw [decide_eq_true_eq]; omega
        have s2' : decide (5000 ≤ k) = true := by rw [decide_eq_true_eq]; omega
        have hkc : k ≤ c := by omega
        go_wp2
        go_ret
        exact ⟨k, rfl, by omega, by omega, HB⟩
    · have s1 : decide ((k : Int) < (n : Int)) = false := by rw [decide_eq_false_iff_not]; omega
      have s1' : decide (k < n) = false := by rw [decide_eq_false_iff_not]; exact hlt
      obtain rfl : k = n := by omega
      go_wp2
      go_ret
      exact ⟨k, rfl, by omega, by omega, HB⟩
end Go.Proofs.YtikodgaomhmbmaaDoor
