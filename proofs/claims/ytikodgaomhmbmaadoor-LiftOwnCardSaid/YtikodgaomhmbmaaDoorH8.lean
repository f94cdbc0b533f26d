/-
  The walk of annalslaw4.filled: all lists are written full, and lengthened three times.
-/
import Derived.Test.YtikodgaomhmbmaaDoorH7
set_option linter.unusedVariables false
set_option linter.unusedSimpArgs false
namespace Go.Proofs.YtikodgaomhmbmaaDoor
open Go.RowKit

/-- The rows, each full of its mark. -/
def marks (l : List BA) : List BA := l.mapIdx fun i x => (MK i x.1.length, x.2)
theorem marks_len (l : List BA) : (marks l).length = l.length := by simp [marks]
theorem marks_get (l : List BA) (i : Nat) : (marks l)[i]? = l[i]?.map fun x => (MK i x.1.length, x.2) := by unfold marks; rw [List.getElem?_mapIdx]
/-- What may stand in a row and behind it. -/
def F4 (l : List BA) (i : Nat) : List UInt8 := MK i (((l[i]?).map fun x => x.1.length).getD 0) ++ TL i 70
theorem F4_at {l : List BA} {i : Nat} {x : BA} (h : l[i]? = some x) : F4 l i = MK i x.1.length ++ TL i 70 := by simp [F4, h]
theorem F4_pre {l : List BA} {i : Nat} {x : BA} (h : l[i]? = some x) {j : Nat} (hj : j ≤ 70) : MK i x.1.length ++ TL i j <+: F4 l i := by
  rw [F4_at h]
  refine ⟨TL i (70 - j), ?_⟩
  rw [List.append_assoc, TL_add, show j + (70 - j) = 70 by omega]
theorem F4_pre0 {l : List BA} {i : Nat} {x : BA} (h : l[i]? = some x) : MK i x.1.length <+: F4 l i := by
  rw [F4_at h]
  exact List.prefix_append _ _
/-- What filled hands out for the rows l. -/
structure More (l : List BA) (k : Nat) (ms : List (Nat × BA)) : Prop where
  len : ms.length = 3 * k
  at_ : ∀ i x, i < k → l[i]? = some x → ∃ y1 y2 y3 : Nat × BA, ms[3 * i]? = some y1 ∧ ms[3 * i + 1]? = some y2 ∧ ms[3 * i + 2]? = some y3 ∧ y1.2.1 = MK i x.1.length ++ TL i 1 ∧ y2.2.1 = MK i x.1.length ++ TL i 2 ∧ y3.2.1 = MK i x.1.length ++ TL i 70
theorem More.nil {l : List BA} : More l 0 [] := ⟨rfl, fun i x h => by omega⟩
theorem More.snoc {l : List BA} {k : Nat} {ms : List (Nat × BA)} (h : More l k ms) {x : BA} (hx : l[k]? = some x) {y1 y2 y3 : Nat × BA} (h1 : y1.2.1 = MK k x.1.length ++ TL k 1) (h2 : y2.2.1 = MK k x.1.length ++ TL k 2) (h3 : y3.2.1 = MK k x.1.length ++ TL k 70) : More l (k + 1) (ms ++ [y1, y2, y3]) := by
  refine ⟨by simp [h.len]; omega, fun i z hi hz => ?_⟩
  rcases Nat.lt_or_ge i k with hik | hik
  · obtain ⟨a, b, c, ha, hb, hc, r⟩ := h.at_ i z hik hz
    refine ⟨a, b, c, ?_, ?_, ?_, r⟩
    · rw [List.getElem?_append_left (by rw [h.len]; omega)]; exact ha
    · rw [List.getElem?_append_left (by rw [h.len]; omega)]; exact hb
    · rw [List.getElem?_append_left (by rw [h.len]; omega)]; exact hc
  · obtain rfl : i = k := by omega
    rw [hx] at hz
    injection hz with hz
    subst hz
    refine ⟨y1, y2, y3, ?_, ?_, ?_, h1, h2, h3⟩
    · rw [List.getElem?_append_right (by rw [h.len]; omega), h.len, Nat.sub_self]; rfl
    · rw [List.getElem?_append_right (by rw [h.len]; omega), h.len, show 3 * i + 1 - 3 * i = 1 by omega]; rfl
    · rw [List.getElem?_append_right (by rw [h.len]; omega), h.len, show 3 * i + 2 - 3 * i = 2 by omega]; rfl

/-- Rows that are being filled: the first i are, of the next one the first j bytes. -/
structure Filling (w0 : World) (l : List BA) (base : Nat) (w : World) (i j : Nat) (cur : List BA) : Prop where
  rows : OBs w base cur
  len : cur.length = l.length
  at_ : ∀ k x, l[k]? = some x → ∃ b', cur[k]? = some (b', x.2) ∧ b'.length = x.1.length ∧ (k < i → b' = MK k x.1.length) ∧ (k = i → b'.take j = MK k j)
  sp : Spared w0 w l
theorem Filling.start {l : List BA} {base : Nat} {w : World} (h : OBs w base l) : Filling w l base w 0 0 l := ⟨h, rfl, fun k x hx => ⟨x.1, hx, rfl, fun h => by omega, fun _ => by simp [MK]⟩, Spared.refl⟩
theorem Filling.next_row {w0 w : World} {l : List BA} {base i j : Nat} {cur : List BA} (h : Filling w0 l base w i j cur) {x : BA} (hx : l[i]? = some x) (hj : j = x.1.length) : Filling w0 l base w (i + 1) 0 cur := by
  refine ⟨h.rows, h.len, fun k y hy => ?_, h.sp⟩
  obtain ⟨b', h1, h2, h3, h4⟩ := h.at_ k y hy
  refine ⟨b', h1, h2, fun hk => ?_, fun _ => by simp [MK]⟩
  rcases Nat.lt_or_ge k i with hki | hki
  · exact h3 hki
  · obtain rfl : k = i := by omega
    rw [hx] at hy
    injection hy with hy
    subst hy
    have := h4 rfl
    rw [hj, List.take_of_length_le (by omega)] at this
    exact this
theorem Filling.done {w0 w : World} {l : List BA} {base j : Nat} {cur : List BA} (h : Filling w0 l base w l.length j cur) : cur = marks l := by
  apply List.ext_getElem?
  intro k
  rw [marks_get]
  cases hx : l[k]? with
  | none => rw [List.getElem?_eq_none (by rw [h.len]; exact List.getElem?_eq_none_iff.1 hx)]; rfl
  | some x =>
    obtain ⟨b', h1, h2, h3, h4⟩ := h.at_ k x hx
    rw [h1, h3 (List.getElem?_eq_some_iff.1 hx).1]
    rfl
/-- One byte more. -/
theorem Filling.byte {w0 w w' : World} {l : List BA} {base i j g c : Nat} {cur : List BA} (h : Filling w0 l base w i j cur) {b b' : List UInt8} (hx : l[i]? = some (b, some ⟨g, 0, none⟩, c)) (hb : cur[i]? = some (b', some ⟨g, 0, none⟩, c)) (hj : j < b.length)
    (hy : OB w' base (some ⟨g, 0, none⟩) c (b'.set j (UInt8.ofNat (1 + i % 250)))) (hgr : w.grownBy w' (some g)) : Filling w0 l base w' i (j + 1) (cur.set i (b'.set j (UInt8.ofNat (1 + i % 250)), some ⟨g, 0, none⟩, c)) := by
  refine ⟨h.rows.set_ hb hy hgr, by rw [List.length_set]; exact h.len, fun k y hyk => ?_, h.sp.step (A := some ⟨g, 0, none⟩) hgr (fun ad e => .inr ⟨_, List.mem_of_getElem? hx, rfl⟩)⟩
  obtain ⟨b2, h1, h2, h3, h4⟩ := h.at_ k y hyk
  by_cases hk : k = i
  · subst hk
    rw [hx] at hyk
    injection hyk with hyk
    subst hyk
    rw [hb] at h1
    injection h1 with h1
    injection h1 with h1 _
    subst h1
    refine ⟨b'.set j (UInt8.ofNat (1 + k % 250)), by rw [List.getElem?_set_self (List.getElem?_eq_some_iff.1 hb).1], by simpa using h2, fun h => by omega, fun _ => ?_⟩
    have h4 := h4 rfl
    have hjl : j < b'.length := by simpa [h2] using hj
    rw [List.take_add_one, List.take_set_of_le (Nat.le_refl _), h4, List.getElem?_set_self hjl]
    show MK k j ++ [UInt8.ofNat (1 + k % 250)] = _
    unfold MK
    rw [List.replicate_succ']
  · exact ⟨b2, by rw [List.getElem?_set_ne (fun e => hk e.symm)]; exact h1, h2, h3, fun e => absurd e hk⟩
theorem Filling.get {w0 w : World} {l : List BA} {base i j : Nat} {cur : List BA} (h : Filling w0 l base w i j cur) {k : Nat} {b : List UInt8} {A : Option Addr} {c : Nat} (hx : l[k]? = some (b, A, c)) : ∃ b', cur[k]? = some (b', A, c) ∧ b'.length = b.length := by
  obtain ⟨b', h1, h2, _⟩ := h.at_ k _ hx
  exact ⟨b', h1, h2⟩

theorem fill_start {w wr : World} {l : List BA} {base i j : Nat} (hQ : OBs w base l) (h : Filling w l base wr i j (marks l)) (hbase : base ≤ w.heap.size) : Fill (F4 l) w l base wr (tagged (marks l)) := by
  refine Fill.start h.rows h.sp (fun x hx => ?_) (fun k x hx => ?_) hbase
  · obtain ⟨k, hk⟩ := List.mem_iff_getElem?.1 hx
    rw [marks_get] at hk
    obtain ⟨y, hy, rfl⟩ := Option.map_eq_some_iff.1 hk
    exact ⟨y, List.mem_of_getElem? hy, rfl⟩
  · rw [marks_get] at hx
    obtain ⟨y, hy, rfl⟩ := Option.map_eq_some_iff.1 hx
    exact F4_pre0 hy
/-- What filled says. -/
def FillSaid (l : List BA) (n base : Nat) (w : World) (e : Ending) (w' : World) : Prop :=
  ∃ (A' : Option Addr) (c' : Nat) (ts : List (Nat × BA)), e = .returned (.slice A' (3 * n) c') ∧ More l n ts ∧ w'.ownsRow w.heap.size 25 1 (.slice A' (3 * n) c') (3 * n) (baCells (ts.map (·.2))) ∧ Fill (F4 l) w l base w' (tagged (marks l) ++ ts)

set_option maxHeartbeats 4000000 in
set_option maxRecDepth 100000 in
theorem filled4_calls (l : List BA) (n : Nat) (hn : l.length = n) (A : Option Addr) (c b0 base : Nat) (hl : n ≤ 1048576) (hs : ∀ x ∈ l, x.1.length ≤ 140737488351232) (w : World) (hbase : base ≤ w.heap.size) (hQ : OBs w base l) (ho : w.ownsRow b0 25 1 (.slice A n c) n (baCells l)) :
    Calls Tryd.prog 33 #[.slice A n c] w (FillSaid l n base w) := by
  have Hn := Lib.hid hn
  have Hs := Lib.hid hs
  have Hf := Lib.hid (Filling.start hQ)
  have HQ := Lib.hid hQ
  have Ho := Lib.hid ho
  clear hn hs hQ ho
  go_enter Tryd.func33, Tryd.ntmps33
  go_wp2
  go_loopg [3] n (fun m v3 wr => ∃ i : Nat, m + i = n ∧ v3 = .int .i64 i ∧ Aside (∃ cur, Filling w l base wr i 0 cur))
  case atStart => exact ⟨0, by omega, rfl, ⟨_, Hf.out⟩⟩
  case round =>
    clear Hf
    obtain ⟨gm, rfl⟩ : ∃ gm, gm = gk := ⟨_, rfl⟩
    obtain ⟨i, hm, rfl, HA⟩ := hrel
    obtain ⟨cur, HF⟩ := HA.out
    clear HA
    by_cases hlt : i < n
    · have s1 : decide ((i : Int) < (n : Int)) = true := by rw [decide_eq_true_eq]; omega
      have s1' : decide (i < n) = true := by rw [decide_eq_true_eq]; exact hlt
      obtain ⟨gB, rfl, _⟩ := own_at Ho.out (by omega)
      obtain ⟨x, hx⟩ : ∃ x, l[i]? = some x := ⟨_, List.getElem?_eq_getElem (by rw [Hn.out]; exact hlt)⟩
      obtain ⟨b, Ai, ci⟩ := x
      have Hx := Lib.hid hx
      have hcell : ∀ (W : World), Spared w W l → W.cell? ⟨gB, i, none⟩ = some (.slice Ai b.length ci) := fun W h => own_cellN (own_spared Ho.out h HQ.out (by decide)) i (baCells_get Hx.out)
      have Hcell := Lib.hid hcell
      have tm : (i : Int).tmod 250 = (i : Int) % 250 := by rw [Int.tmod_eq_emod_of_nonneg (by omega)]
      have tw : IntKind.u8.wrap ((1 : Int) + (i : Int) % 250) = ((UInt8.ofNat (1 + i % 250)).toNat : Int) := by rw [mk_num, IntKind.wrap_u8]; omega
      obtain ⟨nb, hnb⟩ : ∃ nb, b.length = nb := ⟨_, rfl⟩
      rw [hnb] at Hcell
      have hnbl : nb ≤ 140737488351232 := by have := Hs.out _ (List.mem_of_getElem? hx); simp only at this; omega
      have Hnb := Lib.hid hnb
      clear hx hcell hnb
      go_wp2
      go_loopg [4] nb (fun m v4 wr => ∃ (j : Nat), m + j = nb ∧ v4 = .int .i64 j ∧ Aside (∃ cur, Filling w l base wr i j cur))
      case atStart => exact ⟨0, by omega, rfl, ⟨_, HF⟩⟩
      case round =>
        clear HF
        obtain ⟨j, hm2, rfl, HA⟩ := hrel
        obtain ⟨cur, HF⟩ := HA.out
        clear HA
        have hcw := Hcell.out _ HF.sp
        by_cases hj : j < nb
        · have r1 : decide ((j : Int) < (nb : Int)) = true := by rw [decide_eq_true_eq]; omega
          have r1' : decide (j < nb) = true := by rw [decide_eq_true_eq]; exact hj
          obtain ⟨b', hb', hbl⟩ := HF.get Hx.out
          have hB := HF.rows.all _ (List.mem_of_getElem? hb')
          have hjb : j < b.length := by rw [Hnb.out]; exact hj
          obtain ⟨gi, hgi, _⟩ := hB.at_ (by simp only [hbl]; omega)
          simp only at hgi
          subst hgi
          have hjb' : j < b'.length := by omega
          have Hb' := Lib.hid hb'
          have HFF := Lib.hid HF
          clear hb' HF hbl
          go_wp2_with (first
            | ((with_reducible refine gate_store (p := 35) rfl ?_); refine ev_store_ob (b := UInt8.ofNat (1 + i % 250)) rfl rfl rfl hB (k := j) hjb' rfl rfl (by kernel_rfl) ?_; intro W2 B9 hgr))
          go_roundg (gk - 1)
          case measure => omega
          case rel => exact ⟨j + 1, by omega, by go_num, ⟨_, HFF.out.byte Hx.out Hb'.out hjb B9 hgr⟩⟩
        · have r1 : decide ((j : Int) < (nb : Int)) = false := by rw [decide_eq_false_iff_not]; omega
          have r1' : decide (j < nb) = false := by rw [decide_eq_false_iff_not]; exact hj
          obtain rfl : j = nb := by omega
          go_wp2
          go_roundg (gm - 1)
          case measure => omega
          case rel => exact ⟨i + 1, by omega, by go_num, ⟨cur, HF.next_row Hx.out Hnb.out.symm⟩⟩
    · have hin : l.length = i := by rw [Hn.out]; omega
      have s1 : decide ((i : Int) < (n : Int)) = false := by rw [decide_eq_false_iff_not]; omega
      have s1' : decide (i < n) = false := by rw [decide_eq_false_iff_not]; exact hlt
      rw [← hin] at HF
      have hcur := HF.done
      subst hcur
      have X0 := fill_start HQ.out HF hbase
      have HX0 := Lib.hid X0
      clear HF hin X0
      go_wp2
      go_loopg [5, 6] n (fun m v5 v6 wr => ∃ (k : Nat) (A5 : Option Addr) (c5 : Nat) (ts : List (Nat × BA)), m + k = n ∧ v6 = .int .i64 k ∧ v5 = .slice A5 (3 * k) c5 ∧ Aside (More l k ts ∧ wr.ownsRow w.heap.size 25 1 (.slice A5 (3 * k) c5) (3 * k) (baCells (ts.map (·.2))) ∧ Fill (F4 l) w l base wr (tagged (marks l) ++ ts)))
      case atStart => exact ⟨0, none, 0, [], by omega, rfl, rfl, ⟨More.nil, own_nil _ _ _ _, by simpa using HX0.out⟩⟩
      case round =>
        clear HX0
        obtain ⟨gm2, rfl⟩ : ∃ gm2, gm2 = gk := ⟨_, rfl⟩
        obtain ⟨k, A5, c5, ts, hm2, rfl, rfl, HA⟩ := hrel
        obtain ⟨hmore, o5, X1⟩ := HA.out
        clear HA
        have Hmore := Lib.hid hmore
        clear hmore
        by_cases hk : k < n
        · have r1 : decide ((k : Int) < (n : Int)) = true := by rw [decide_eq_true_eq]; omega
          have r1' : decide (k < n) = true := by rw [decide_eq_true_eq]; exact hk
          obtain ⟨gB, rfl, _⟩ := own_at Ho.out (by omega)
          obtain ⟨x, hx⟩ : ∃ x, l[k]? = some x := ⟨_, List.getElem?_eq_getElem (by rw [Hn.out]; exact hk)⟩
          obtain ⟨b, Ai, ci⟩ := x
          have Hx := Lib.hid hx
          have hcell : ∀ (W : World), Spared w W l → W.cell? ⟨gB, k, none⟩ = some (.slice Ai b.length ci) := fun W h => own_cellN (own_spared Ho.out h HQ.out (by decide)) k (baCells_get Hx.out)
          have Hcell := Lib.hid hcell
          have hmem : (k, MK k b.length, Ai, ci) ∈ tagged (marks l) ++ ts := List.mem_append_left _ (tagged_mem.2 (by rw [marks_get, Hx.out]; rfl))
          have hp1 : MK k b.length ++ TL k 1 <+: F4 l k := F4_pre Hx.out (by omega)
          have hp2 : MK k b.length ++ TL k 2 <+: F4 l k := F4_pre Hx.out (by omega)
          have hpj : ∀ j, j < 70 → (MK k b.length ++ TL k j) ++ TL k 1 <+: F4 l k := fun j hj => by
            rw [List.append_assoc, TL_add]
            exact F4_pre Hx.out (by omega)
          obtain ⟨nb, hnb⟩ : ∃ nb, b.length = nb := ⟨_, rfl⟩
          have hnbl : nb ≤ 140737488351232 := by have := Hs.out _ (List.mem_of_getElem? hx); simp only at this; omega
          rw [hnb] at Hcell hmem hp1 hp2 hpj
          have Hnb := Lib.hid hnb
          have Hmem := Lib.hid hmem
          have Hp1 := Lib.hid hp1
          have Hp2 := Lib.hid hp2
          have Hpj := Lib.hid hpj
          clear hx hcell hnb hmem hp1 hp2 hpj
          go_wp2
          refine held_start (fun w' => Spared w w' l) (by kernel_rfl) (fun wd hbd => ?_)
          replace o5 := own_next o5 hbd
          replace X1 := X1.next hbd
          refine take_at (i := 0) (v := .slice (some ⟨gB, 0, none⟩) n c) 42 rfl rfl (by kernel_rfl) (by kernel_rfl) (by kernel_rfl) (fun _ _ _ h => h) (.inl ⟨rfl, fun w h => by simp [go_sem]⟩) X1.sp ?_
          simp only [Act.put, List.getElem_toArray, List.getElem_cons_succ, List.getElem_cons_zero, List.setIfInBounds_toArray, List.set_cons_succ, List.set_cons_zero]
          refine take_at (i := 1) (v := .int .i64 k) 43 rfl rfl (by kernel_rfl) (by kernel_rfl) (by kernel_rfl) (fun _ _ _ h => h) (.inl ⟨rfl, fun w h => by simp [go_sem]⟩) X1.sp ?_
          simp only [Act.put, List.getElem_toArray, List.getElem_cons_succ, List.getElem_cons_zero, List.setIfInBounds_toArray, List.set_cons_succ, List.set_cons_zero]
          refine take_at (i := 2) (v := .pointer (some ⟨gB, k, none⟩)) 44 rfl rfl (by kernel_rfl) (by kernel_rfl) (by kernel_rfl) (fun _ _ _ h => h) (.inl ⟨rfl, fun w h => by simp [go_sem, hk]⟩) X1.sp ?_
          simp only [Act.put, List.getElem_toArray, List.getElem_cons_succ, List.getElem_cons_zero, List.setIfInBounds_toArray, List.set_cons_succ, List.set_cons_zero]
          refine take_at (i := 3) (v := .slice Ai nb ci) 45 rfl rfl (by kernel_rfl) (by kernel_rfl) (by kernel_rfl) (fun _ _ _ h => h) (.inl ⟨rfl, fun w h => by simp [go_sem, Hcell.out w h]⟩) X1.sp ?_
          simp only [Act.put, List.getElem_toArray, List.getElem_cons_succ, List.getElem_cons_zero, List.setIfInBounds_toArray, List.set_cons_succ, List.set_cons_zero]
          refine take_at (i := 4) (v := .int .i64 k) 46 rfl rfl (by kernel_rfl) (by kernel_rfl) (by kernel_rfl) (fun _ _ _ h => h) (.inl ⟨rfl, fun w h => by simp [go_sem]⟩) X1.sp ?_
          simp only [Act.put, List.getElem_toArray, List.getElem_cons_succ, List.getElem_cons_zero, List.setIfInBounds_toArray, List.set_cons_succ, List.set_cons_zero]
          refine held_one (i := 5) (by kernel_rfl) rfl ?_
          (refine ev_call2 rfl rfl ⟨_, _, Tryd.func63, by kernel_rfl, rfl⟩ rfl rfl ?_; refine Calls.mono (tail_calls k 1 (by omega) (by omega) _) ?_; rintro e W1 ⟨g8, c8, rfl, h8, hb⟩; refine ⟨_, rfl, ?_⟩; have hgr := grown_of_below hb; replace o5 := o5.kept hgr (by cases Value.ownBlock _ <;> simp); replace X1 := X1.grown hgr; clear hb hgr)
          refine ⟨X1.sp, ?_⟩
          try simp only [Act.put, List.getElem_toArray, List.getElem_cons_succ, List.getElem_cons_zero, List.setIfInBounds_toArray, List.set_cons_succ, List.set_cons_zero]
          refine held_one (i := 6) (by kernel_rfl) rfl ?_
          ((with_reducible refine gate_dst (N := 48) rfl ?_); refine ev_append_ob rfl rfl rfl (MK_len k nb) (X1.fam.all _ Hmem.out) (by have := X1.ok; have := X1.size; omega) rfl (TL_len k 1) h8 (by omega) ?_; intro A1 c1 W2 hG; replace o5 := own_fam o5 X1.fam Hmem.out hG.grown (by decide); replace X1 := X1.append Hmem.out Hp1.out hG; clear hG)
          refine ⟨X1.sp, ?_⟩
          try simp only [Act.put, List.getElem_toArray, List.getElem_cons_succ, List.getElem_cons_zero, List.setIfInBounds_toArray, List.set_cons_succ, List.set_cons_zero]
          refine held_one (i := 7) (by kernel_rfl) rfl ?_
          refine ev_run rfl (w1 := W2) (v := .slice A1 (nb + 1) c1) (by simp [go_sem]) ?_
          refine ⟨X1.sp, ?_⟩
          try simp only [Act.put, List.getElem_toArray, List.getElem_cons_succ, List.getElem_cons_zero, List.setIfInBounds_toArray, List.set_cons_succ, List.set_cons_zero]
          refine wpAnyH_done (by kernel_rfl) ?_ _
          clear h8
          go_wp2
          refine held_start (fun w' => Spared w w' l) (by kernel_rfl) (fun wd2 hbd2 => ?_)
          replace o5 := own_next o5 hbd2
          replace X1 := X1.next hbd2
          refine take_at (i := 0) (v := .slice (some ⟨gB, 0, none⟩) n c) 49 rfl rfl (by kernel_rfl) (by kernel_rfl) (by kernel_rfl) (fun _ _ _ h => h) (.inl ⟨rfl, fun w h => by simp [go_sem]⟩) X1.sp ?_
          simp only [Act.put, List.getElem_toArray, List.getElem_cons_succ, List.getElem_cons_zero, List.setIfInBounds_toArray, List.set_cons_succ, List.set_cons_zero]
          refine take_at (i := 1) (v := .int .i64 k) 50 rfl rfl (by kernel_rfl) (by kernel_rfl) (by kernel_rfl) (fun _ _ _ h => h) (.inl ⟨rfl, fun w h => by simp [go_sem]⟩) X1.sp ?_
          simp only [Act.put, List.getElem_toArray, List.getElem_cons_succ, List.getElem_cons_zero, List.setIfInBounds_toArray, List.set_cons_succ, List.set_cons_zero]
          refine take_at (i := 2) (v := .pointer (some ⟨gB, k, none⟩)) 51 rfl rfl (by kernel_rfl) (by kernel_rfl) (by kernel_rfl) (fun _ _ _ h => h) (.inl ⟨rfl, fun w h => by simp [go_sem, hk]⟩) X1.sp ?_
          simp only [Act.put, List.getElem_toArray, List.getElem_cons_succ, List.getElem_cons_zero, List.setIfInBounds_toArray, List.set_cons_succ, List.set_cons_zero]
          refine take_at (i := 3) (v := .slice Ai nb ci) 52 rfl rfl (by kernel_rfl) (by kernel_rfl) (by kernel_rfl) (fun _ _ _ h => h) (.inl ⟨rfl, fun w h => by simp [go_sem, Hcell.out w h]⟩) X1.sp ?_
          simp only [Act.put, List.getElem_toArray, List.getElem_cons_succ, List.getElem_cons_zero, List.setIfInBounds_toArray, List.set_cons_succ, List.set_cons_zero]
          refine take_at (i := 4) (v := .int .i64 k) 53 rfl rfl (by kernel_rfl) (by kernel_rfl) (by kernel_rfl) (fun _ _ _ h => h) (.inl ⟨rfl, fun w h => by simp [go_sem]⟩) X1.sp ?_
          simp only [Act.put, List.getElem_toArray, List.getElem_cons_succ, List.getElem_cons_zero, List.setIfInBounds_toArray, List.set_cons_succ, List.set_cons_zero]
          refine held_one (i := 5) (by kernel_rfl) rfl ?_
          (refine ev_call2 rfl rfl ⟨_, _, Tryd.func63, by kernel_rfl, rfl⟩ rfl rfl ?_; refine Calls.mono (tail_calls k 2 (by omega) (by omega) _) ?_; rintro e W1 ⟨g8, c8, rfl, h8, hb⟩; refine ⟨_, rfl, ?_⟩; have hgr := grown_of_below hb; replace o5 := o5.kept hgr (by cases Value.ownBlock _ <;> simp); replace X1 := X1.grown hgr; clear hb hgr)
          refine ⟨X1.sp, ?_⟩
          try simp only [Act.put, List.getElem_toArray, List.getElem_cons_succ, List.getElem_cons_zero, List.setIfInBounds_toArray, List.set_cons_succ, List.set_cons_zero]
          refine held_one (i := 6) (by kernel_rfl) rfl ?_
          ((with_reducible refine gate_dst (N := 55) rfl ?_); refine ev_append_ob rfl rfl rfl (MK_len k nb) (X1.fam.all _ (List.mem_cons_of_mem _ Hmem.out)) (by have := X1.ok; have := X1.size; omega) rfl (TL_len k 2) h8 (by omega) ?_; intro A2 c2 W2 hG; replace o5 := own_fam o5 X1.fam (List.mem_cons_of_mem _ Hmem.out) hG.grown (by decide); replace X1 := X1.append (List.mem_cons_of_mem _ Hmem.out) Hp2.out hG; clear hG)
          refine ⟨X1.sp, ?_⟩
          try simp only [Act.put, List.getElem_toArray, List.getElem_cons_succ, List.getElem_cons_zero, List.setIfInBounds_toArray, List.set_cons_succ, List.set_cons_zero]
          refine held_one (i := 7) (by kernel_rfl) rfl ?_
          refine ev_run rfl (w1 := W2) (v := .slice A2 (nb + 2) c2) (by simp [go_sem]) ?_
          refine ⟨X1.sp, ?_⟩
          try simp only [Act.put, List.getElem_toArray, List.getElem_cons_succ, List.getElem_cons_zero, List.setIfInBounds_toArray, List.set_cons_succ, List.set_cons_zero]
          refine wpAnyH_done (by kernel_rfl) ?_ _
          clear h8
          have hcw := Hcell.out _ X1.sp
          have X2 := X1.sub (qs := (k, MK k nb ++ TL k 0, Ai, ci) :: (k, MK k nb ++ TL k 2, A2, c2) :: (k, MK k nb ++ TL k 1, A1, c1) :: (tagged (marks l) ++ ts)) (fun x hx => by
            rcases List.mem_cons.1 hx with rfl | hx
            · have := Hmem.out
              rw [show MK k nb ++ TL k 0 = MK k nb by simp [TL]]
              exact List.mem_cons_of_mem _ (List.mem_cons_of_mem _ this)
            · exact hx)
          clear X1
          have HX2 := Lib.hid X2
          clear X2
          go_wp2
          go_loopg [9, 10] 70 (fun m v9 v10 wr => ∃ (j : Nat) (A3 : Option Addr) (c3 : Nat), m + j = 70 ∧ v10 = .int .i64 j ∧ v9 = .slice A3 (nb + j) c3 ∧ Aside (wr.ownsRow w.heap.size 25 1 (.slice A5 (3 * k) c5) (3 * k) (baCells (ts.map (·.2))) ∧ Fill (F4 l) w l base wr ((k, MK k nb ++ TL k j, A3, c3) :: (k, MK k nb ++ TL k 2, A2, c2) :: (k, MK k nb ++ TL k 1, A1, c1) :: (tagged (marks l) ++ ts))))
          case atStart => exact ⟨0, Ai, ci, by omega, rfl, rfl, ⟨o5, HX2.out⟩⟩
          case round =>
            clear o5 HX2 hcw
            obtain ⟨j, A3, c3, hm3, rfl, rfl, HA⟩ := hrel
            obtain ⟨o5, X1⟩ := HA.out
            clear HA
            by_cases hj : j < 70
            · have q1 : decide ((j : Int) < 70) = true := by rw [decide_eq_true_eq]; omega
              have q1' : decide (j < 70) = true := by rw [decide_eq_true_eq]; exact hj
              have hl3 : (MK k nb ++ TL k j).length = nb + j := by rw [List.length_append, MK_len, TL_len]
              have Hl3 := Lib.hid hl3
              have Hpp := Lib.hid (Hpj.out j hj)
              clear hl3
              go_wp2_with (first
                | (go_at_call 63; (with_reducible refine (tail1_calls k _).mono ?_); rintro e W1 ⟨g8, c8, rfl, h8, hb⟩; have hgr := grown_of_below hb; replace o5 := o5.kept hgr (by cases Value.ownBlock _ <;> simp); replace X1 := X1.grown hgr; clear hb hgr)
                | ((with_reducible refine gate_dst (N := 67) rfl ?_); refine ev_append_ob rfl rfl rfl Hl3.out (X1.fam.all _ List.mem_cons_self) (by have := X1.ok; have := X1.size; omega) rfl (TL_len k 1) h8 (by omega) ?_; intro A4 c4 W2 hG; replace o5 := own_fam o5 X1.fam List.mem_cons_self hG.grown (by decide); replace X1 := X1.append List.mem_cons_self Hpp.out hG; clear hG))
              have X3 := X1.sub (qs := (k, MK k nb ++ TL k (j + 1), A4, c4) :: (k, MK k nb ++ TL k 2, A2, c2) :: (k, MK k nb ++ TL k 1, A1, c1) :: (tagged (marks l) ++ ts)) (fun x hx => by
                rcases List.mem_cons.1 hx with rfl | hx
                · rw [← TL_add, ← List.append_assoc]
                  exact List.mem_cons_self
                · exact List.mem_cons_of_mem _ (List.mem_cons_of_mem _ hx))
              go_roundg (gk - 1)
              case measure => omega
              case rel => exact ⟨j + 1, A4, c4, by omega, by go_num, rfl, ⟨o5, X3⟩⟩
            · obtain rfl : j = 70 := by omega
              have X3 := X1.sub (qs := tagged (marks l) ++ (ts ++ [(k, MK k nb ++ TL k 1, A1, c1), (k, MK k nb ++ TL k 2, A2, c2), (k, MK k nb ++ TL k 70, A3, c3)])) (fun x hx => by
                simp only [List.mem_append, List.mem_cons, List.not_mem_nil, or_false] at hx ⊢
                rcases hx with h | h | h | h | h <;> simp [h])
              have Hm2 := Lib.hid (Hmore.out.snoc Hx.out (y1 := (k, MK k nb ++ TL k 1, A1, c1)) (y2 := (k, MK k nb ++ TL k 2, A2, c2)) (y3 := (k, MK k nb ++ TL k 70, A3, c3)) (by simp only [Hnb.out]) (by simp only [Hnb.out]) (by simp only [Hnb.out]))
              clear X1
              go_wp2_with (first
                | ((with_reducible refine gate_dst (N := 72) rfl ?_); refine ev_lit rfl rfl (#[.slice A1 (nb + 1) c1, .slice A2 (nb + 2) c2, .slice A3 (nb + 70) c3]) 25 3 (by first | (go_simp; done) | (go_simp; rfl)) ?_; intro g5 W1 hg5 hsz hbn; have hgr := grown_of_below hbn; have zg5 : w.heap.size ≤ g5 := (by have := X3.size; omega); replace o5 := o5.kept hgr (by cases Value.ownBlock _ <;> simp); replace X3 := X3.grown hgr; have hcg5 := hg5.cell; have hfg5 := hg5.frozen; clear hsz hbn hgr)
                | ((with_reducible refine gate_dst (N := 73) rfl ?_); refine ev_append rfl rfl Tryd.underlying24 info_bytes rfl (by omega) rfl o5 rfl (hg5.reads (size := 1) (n := 3) rfl) (fun u hu => by simp at hu; rcases hu with rfl | rfl | rfl <;> rfl) (by omega) (by omega) (by have := X3.size; omega) ?_; intro A6 c6 W2 on hgr hat; replace X3 := X3.kept hgr (X3.ne_own o5 (by decide)); replace o5 := on; clear on hgr hat))
              go_roundg (gm2 - 1)
              case measure => omega
              case rel => exact ⟨k + 1, A6, c6, _, by omega, by go_num, rfl, ⟨Hm2.out, by rw [List.map_append, baCells_append]; rw [show 3 * (k + 1) = 3 * k + 3 by omega]; simpa [baCells, MK_len, TL_len] using o5, X3⟩⟩
        · obtain rfl : k = n := by omega
          have r1 : decide ((k : Int) < (k : Int)) = false := by simp
          have r1' : decide (k < k) = false := by simp
          go_wp2
          go_ret
          exact ⟨A5, c5, ts, rfl, Hmore.out, o5, X1⟩
/-- The same, the number of what is handed out named; what lies behind is one family. -/
theorem filled4_n (l : List BA) (n n3 : Nat) (hn : l.length = n) (hn3 : n3 = 3 * n) (A : Option Addr) (c b0 base : Nat) (hl : n ≤ 1048576) (hs : ∀ x ∈ l, x.1.length ≤ 140737488351232) (w : World) (hbase : base ≤ w.heap.size) (hQ : OBs w base l) (ho : w.ownsRow b0 25 1 (.slice A n c) n (baCells l)) :
    Calls Tryd.prog 33 #[.slice A n c] w fun e w' => ∃ (A' : Option Addr) (c' : Nat) (ts : List (Nat × BA)), e = .returned (.slice A' n3 c') ∧ Aside (More l n ts) ∧ w'.ownsRow w.heap.size 25 1 (.slice A' n3 c') n3 (baCells (ts.map (·.2))) ∧ Fill (F4 l) w l base w' (tagged (marks l) ++ ts) := by
  subst hn3
  exact (filled4_calls l n hn A c b0 base hl hs w hbase hQ ho).mono fun e w' ⟨A', c', ts, he, hm, ho, hX⟩ => ⟨A', c', ts, he, hm, ho, hX⟩
theorem baCells_marks (l : List BA) : baCells (marks l) = baCells l := by
  apply List.ext_getElem?
  intro k
  unfold baCells
  rw [List.getElem?_map, List.getElem?_map, marks_get]
  cases l[k]? with
  | none => rfl
  | some x => simp [MK_len]
end Go.Proofs.YtikodgaomhmbmaaDoor
