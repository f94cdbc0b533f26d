/-
  The walks of annalsref3.stands and annalsref3.Check.
-/
import Derived.Test.YtikodgaomhmbmaaDoorG1
import Derived.Test.YtikodgaomhmbmaaDoorL3
set_option linter.unusedVariables false
set_option linter.unusedSimpArgs false
namespace Go.Proofs.YtikodgaomhmbmaaDoor
open Go.RowKit
attribute [local go_sem] Rec.size_ Rec.g0 Rec.g1 Rec.g2 Rec.g3 Rec.g4 Rec.g5 Rec.g6 Rec.g7 Rec.g8 Rec.g9 Rec.g10 Rec.g11

set_option maxHeartbeats 1000000 in
set_option maxRecDepth 100000 in
theorem refStandsIn_calls (v k : Int) (t : Nat) (b : Bool) (l : List Nat) (hl : fieldsOf v k = l) (hb : decide (t ∈ l) = b) (w : World) (ht : Tab w 2 rowsL) :
    Calls Tryd.prog 80 #[.int .i64 v, .int .i64 k, .int .i64 t] w fun e w' => e = .returned (.bool b) ∧ Below w.heap.size w w' := by
  have HB := Below.refl w.heap.size w
  have h11 : l.length ≤ 11 := hl ▸ fieldsOf_len v k
  have Ht := Lib.hid ht
  have Hb := Lib.hid hb
  have Hl := Lib.hid hl
  clear ht hb hl
  go_enter Tryd.func80, Tryd.ntmps80
  go_wp2_with (first
    | (go_at_call 93; (with_reducible refine (refFields_all Hl.out rfl _ (Ht.out.next HB)).mono ?_); rintro e W1 ⟨A5, c5, rfl, o5, hb⟩; have hgr := grown_of_below hb; replace o5 := own_mono o5 HB.size; replace HB := HB.grown hgr (by have := HB.size; omega) (by simp); clear hb hgr))
  go_loopg [8] l.length (fun n v8 wr => ∃ i : Nat, n + i = l.length ∧ v8 = .int .i64 i ∧ Aside ((∀ j x, j < i → l[j]? = some x → x ≠ t) ∧ wr.ownsRow w.heap.size 3 1 (.slice A5 l.length c5) l.length (nats l) ∧ Below w.heap.size w wr))
  case atStart => exact ⟨0, by omega, rfl, ⟨fun j x h => by omega, o5, HB⟩⟩
  case round =>
    clear o5 HB
    obtain ⟨i, hn, rfl, HA⟩ := hrel
    obtain ⟨hall, o5, HB⟩ := HA.out
    clear HA
    have Hall := Lib.hid hall
    clear hall
    by_cases hlt : i < l.length
    · obtain ⟨x, hx⟩ : ∃ x, l[i]? = some x := ⟨l[i], List.getElem?_eq_getElem hlt⟩
      obtain ⟨g5, rfl, z5⟩ := own_at o5 (by omega)
      have x0 : wr.cell? ⟨g5, i, none⟩ = some (.int .i64 (x : Int)) := own_cells o5 hlt (by simp [nats, hx])
      by_cases hxt : x = t
      · have t1 : ((x : Int) == (t : Int)) = true := by simp [hxt]
        have hbt : b = true := by rw [← Hb.out]; simp; exact hxt ▸ List.mem_of_getElem? hx
        subst hbt
        clear hxt hx
        go_wp2
        go_ret
        exact ⟨rfl, HB⟩
      · have t1 : ((x : Int) == (t : Int)) = false := int_beq_false (by omega)
        have hall2 : ∀ j y, j < i + 1 → l[j]? = some y → y ≠ t := by
          intro j y hj hy
          rcases Nat.lt_or_ge j i with h1 | h1
          · exact Hall.out j y h1 hy
          · obtain rfl : j = i := by omega
            rw [hx] at hy
            injection hy with hy
            subst hy
            exact hxt
        have Hall2 := Lib.hid hall2
        clear hxt hx hall2
        go_wp2
        go_roundg (gk - 1)
        case measure => omega
        case rel => exact ⟨i + 1, by omega, by go_num, ⟨Hall2.out, o5, HB⟩⟩
    · obtain rfl : i = l.length := by omega
      have hbf : b = false := by
        rw [← Hb.out]
        simp
        intro hm
        obtain ⟨j, hj, he⟩ := List.mem_iff_getElem.1 hm
        exact Hall.out j t hj (by rw [List.getElem?_eq_getElem hj, he]) rfl
      subst hbf
      go_wp2
      go_ret
      exact ⟨rfl, HB⟩
theorem mem_tags (m t : Nat) (h1 : 1 ≤ t) (h11 : t ≤ 11) : decide (t ∈ tagsTo m 12) = m.testBit t := by
  unfold tagsTo
  cases h : m.testBit t <;> simp [h] <;> omega
theorem refStands_calls (p q t : Nat) (hp : p < 3) (hq : q < 7) (h3 : 3 ≤ t) (h11 : t ≤ 11) (w : World) (ht : Tab w 2 rowsL) :
    Calls Tryd.prog 80 #[.int .i64 ((p : Int) + 1), .int .i64 ((q : Int) + 1), .int .i64 t] w fun e w' => e = .returned (.bool ((mayAt p q).testBit t)) ∧ Below w.heap.size w w' := by
  have e : fieldsOf ((p : Int) + 1) ((q : Int) + 1) = tagsTo (mayAt p q) 12 := by
    unfold fieldsOf
    rw [if_pos (by omega)]
    congr 2 <;> omega
  exact refStandsIn_calls _ _ t _ _ e (mem_tags _ t (by omega) h11) w ht

/-- The tables that annalsref3.Check reads. -/
structure RTabs (w : World) : Prop where
  rows : Tab w 2 rowsL
  letters : Tab w 4 (letCells .i64)
theorem RTabs.next {w w' : World} (h : RTabs w) (hb : Below w.heap.size w w') : RTabs w' := ⟨h.rows.next hb, h.letters.next hb⟩

set_option maxHeartbeats 1000000 in
set_option maxRecDepth 100000 in
theorem refCheckIn_calls (r : Rec) (A : Option Addr) (c p q : Nat) (hp : p < 3) (hq : q < 7) (hv : r.V = (p : Int) + 1) (hk : r.Kind = (q : Int) + 1) (hs : 1 ≤ r.Saga) (hz : r.Name.size ≤ 1099511627776) (w : World) (ht : RTabs w) (hd : RB w A r.Data) :
    Calls Tryd.prog 55 #[.agg (r.cells A c)] w fun e w' => e = .returned (.int .i64 (r.fromE (mayAt p q) 9 3)) ∧ Below w.heap.size w w' := by
  have HB := Below.refl w.heap.size w
  have h1 : decide ((p : Int) + 1 < 1) = false := by simp; omega
  have h2 : decide (3 < (p : Int) + 1) = false := by simp; omega
  have h3 : decide ((q : Int) + 1 < 1) = false := by simp; omega
  have h4 : decide (7 < (q : Int) + 1) = false := by simp; omega
  have h5 : decide (r.Saga < 1) = false := by simp; omega
  have cst := fun (t : Nat) (h3 : 3 ≤ t) (h11 : t ≤ 11) (w : World) => refStands_calls p q t hp hq h3 h11 w
  generalize hm : mayAt p q = m at cst ⊢
  have Cst := Lib.hid cst
  have Ht := Lib.hid ht
  clear ht hs hm cst
  go_enter Tryd.func55, Tryd.ntmps55
  go_wp2_with (first
    | ((with_reducible refine gate_dst (N := 1) rfl ?_); refine ev_box rfl rfl (r.cells A c) rfl ?_; intro g1 W1 hg1 hsz hbn; have hgr := grown_of_below hbn; have zg1 : w.heap.size ≤ g1 := (by have := HB.size; omega); replace HB := HB.grown hgr (by have := HB.size; omega) (by simp); have hcg1 := hg1.cell; have hfg1 := hg1.frozen; clear hsz hbn hgr))
  go_loopg [3] 9 (fun n v3 wr => ∃ t : Nat, n + t = 12 ∧ 3 ≤ t ∧ v3 = .int .i64 t ∧ Aside (r.fromE m 9 3 = r.fromE m n t ∧ Blk wr g1 _ (r.cells A c) ∧ Below w.heap.size w wr))
  case atStart => exact ⟨3, by omega, by omega, rfl, ⟨rfl, hg1, HB⟩⟩
  case round =>
    clear hg1 hcg1 hfg1 HB
    obtain ⟨t, hn, h3t, rfl, HA⟩ := hrel
    obtain ⟨hfrom, hg1, HB⟩ := HA.out
    clear HA
    have hcg1 := hg1.cell
    have hfg1 := hg1.frozen
    have Hfrom := Lib.hid hfrom
    clear hfrom
    by_cases hle : t ≤ 11
    · have hstep : r.fromE m gk t = if r.tagE m t = 0 then r.fromE m (gk - 1) (t + 1) else r.tagE m t := by
        obtain ⟨j, rfl⟩ : ∃ j, gk = j + 1 := ⟨gk - 1, by omega⟩
        rfl
      have Hstep := Lib.hid hstep
      have cst := Cst.out t h3t hle
      clear hstep
      cases hz1 : r.zeroAt t <;> cases hb : m.testBit t
      · rw [hb] at cst
        have Cs := Lib.hid cst
        clear cst
        have cz := refZero_calls r A c t h3t hle
        rw [hz1] at cz
        have Cz := Lib.hid cz
        clear cz
        have hnext : r.fromE m 9 3 = 33 := by rw [Hfrom.out, Hstep.out]; unfold Rec.tagE; rw [hb, hz1]; rfl
        have Hnext := Lib.hid hnext
        clear hnext Hstep Hfrom hb hz1
        go_wp2_with (first
          | (go_at_call 80; (with_reducible refine (Cs.out _ (Ht.out.next HB).rows).mono ?_); rintro e W1 ⟨rfl, hb⟩; have hgr := grown_of_below hb; replace hg1 := hg1.grown hgr (by simp); replace HB := HB.grown hgr (by have := HB.size; omega) (by simp); replace hcg1 := hg1.cell; replace hfg1 := hg1.frozen; clear hb hgr)
          | ((with_reducible refine gate_dst (N := 36) rfl ?_); refine wpList_load_row rfl _ _ rfl g1 rfl _ _ (0, 0) _ hg1 Tryd.underlying27 rfl rec_size ?_)
          | (go_at_call 76; (with_reducible refine (Cz.out _).mono ?_); rintro e W2 ⟨rfl, hb⟩; have hgr := grown_of_below hb; replace hg1 := hg1.grown hgr (by simp); replace HB := HB.grown hgr (by have := HB.size; omega) (by simp); replace hcg1 := hg1.cell; replace hfg1 := hg1.frozen; clear hb hgr))
        go_ret
        exact ⟨ret_int Hnext.out.symm, HB⟩
      · rw [hb] at cst
        have Cs := Lib.hid cst
        clear cst
        have cz := refZero_calls r A c t h3t hle
        rw [hz1] at cz
        have Cz := Lib.hid cz
        clear cz
        have htag : r.tagE m t = r.bound t := by unfold Rec.tagE; rw [hb]; rfl
        by_cases he : r.bound t = 0
        · have t2 := int_bne_false he
          have hnext : r.fromE m 9 3 = r.fromE m (gk - 1) (t + 1) := by rw [Hfrom.out, Hstep.out, htag, if_pos he]
          have Hnext := Lib.hid hnext
          clear hnext he htag Hstep Hfrom hb hz1
          go_wp2_with (first
            | (go_at_call 80; (with_reducible refine (Cs.out _ (Ht.out.next HB).rows).mono ?_); rintro e W1 ⟨rfl, hb⟩; have hgr := grown_of_below hb; replace hg1 := hg1.grown hgr (by simp); replace HB := HB.grown hgr (by have := HB.size; omega) (by simp); replace hcg1 := hg1.cell; replace hfg1 := hg1.frozen; clear hb hgr)
            | ((with_reducible refine gate_dst (N := 36) rfl ?_); refine wpList_load_row rfl _ _ rfl g1 rfl _ _ (0, 0) _ hg1 Tryd.underlying27 rfl rec_size ?_)
            | (go_at_call 76; (with_reducible refine (Cz.out _).mono ?_); rintro e W2 ⟨rfl, hb⟩; have hgr := grown_of_below hb; replace hg1 := hg1.grown hgr (by simp); replace HB := HB.grown hgr (by have := HB.size; omega) (by simp); replace hcg1 := hg1.cell; replace hfg1 := hg1.frozen; clear hb hgr)
            | ((with_reducible refine gate_dst (N := 46) rfl ?_); refine wpList_load_row rfl _ _ rfl g1 rfl _ _ (0, 0) _ hg1 Tryd.underlying27 rfl rec_size ?_)
            | (go_at_call 81; (with_reducible refine (refBounds_calls r A c t h3t hle hz _ (Ht.out.next HB).letters (hd.next HB)).mono ?_); rintro e W3 ⟨rfl, hb⟩; have hgr := grown_of_below hb; replace hg1 := hg1.grown hgr (by simp); replace HB := HB.grown hgr (by have := HB.size; omega) (by simp); replace hcg1 := hg1.cell; replace hfg1 := hg1.frozen; clear hb hgr))
          go_roundg (gk - 1)
          case measure => omega
          case rel => exact ⟨t + 1, by omega, by omega, by go_num, ⟨Hnext.out, hg1, HB⟩⟩
        · have t2 := int_bne_true he
          have hnext : r.fromE m 9 3 = r.bound t := by rw [Hfrom.out, Hstep.out, htag, if_neg he]
          have Hnext := Lib.hid hnext
          clear hnext he htag Hstep Hfrom hb hz1
          go_wp2_with (first
            | (go_at_call 80; (with_reducible refine (Cs.out _ (Ht.out.next HB).rows).mono ?_); rintro e W1 ⟨rfl, hb⟩; have hgr := grown_of_below hb; replace hg1 := hg1.grown hgr (by simp); replace HB := HB.grown hgr (by have := HB.size; omega) (by simp); replace hcg1 := hg1.cell; replace hfg1 := hg1.frozen; clear hb hgr)
            | ((with_reducible refine gate_dst (N := 36) rfl ?_); refine wpList_load_row rfl _ _ rfl g1 rfl _ _ (0, 0) _ hg1 Tryd.underlying27 rfl rec_size ?_)
            | (go_at_call 76; (with_reducible refine (Cz.out _).mono ?_); rintro e W2 ⟨rfl, hb⟩; have hgr := grown_of_below hb; replace hg1 := hg1.grown hgr (by simp); replace HB := HB.grown hgr (by have := HB.size; omega) (by simp); replace hcg1 := hg1.cell; replace hfg1 := hg1.frozen; clear hb hgr)
            | ((with_reducible refine gate_dst (N := 46) rfl ?_); refine wpList_load_row rfl _ _ rfl g1 rfl _ _ (0, 0) _ hg1 Tryd.underlying27 rfl rec_size ?_)
            | (go_at_call 81; (with_reducible refine (refBounds_calls r A c t h3t hle hz _ (Ht.out.next HB).letters (hd.next HB)).mono ?_); rintro e W3 ⟨rfl, hb⟩; have hgr := grown_of_below hb; replace hg1 := hg1.grown hgr (by simp); replace HB := HB.grown hgr (by have := HB.size; omega) (by simp); replace hcg1 := hg1.cell; replace hfg1 := hg1.frozen; clear hb hgr))
          go_ret
          exact ⟨ret_int Hnext.out.symm, HB⟩
      · rw [hb] at cst
        have Cs := Lib.hid cst
        clear cst
        have cz := refZero_calls r A c t h3t hle
        rw [hz1] at cz
        have Cz := Lib.hid cz
        clear cz
        have hnext : r.fromE m 9 3 = r.fromE m (gk - 1) (t + 1) := by rw [Hfrom.out, Hstep.out]; unfold Rec.tagE; rw [hb, hz1]; rfl
        have Hnext := Lib.hid hnext
        clear hnext Hstep Hfrom hb hz1
        go_wp2_with (first
          | (go_at_call 80; (with_reducible refine (Cs.out _ (Ht.out.next HB).rows).mono ?_); rintro e W1 ⟨rfl, hb⟩; have hgr := grown_of_below hb; replace hg1 := hg1.grown hgr (by simp); replace HB := HB.grown hgr (by have := HB.size; omega) (by simp); replace hcg1 := hg1.cell; replace hfg1 := hg1.frozen; clear hb hgr)
          | ((with_reducible refine gate_dst (N := 36) rfl ?_); refine wpList_load_row rfl _ _ rfl g1 rfl _ _ (0, 0) _ hg1 Tryd.underlying27 rfl rec_size ?_)
          | (go_at_call 76; (with_reducible refine (Cz.out _).mono ?_); rintro e W2 ⟨rfl, hb⟩; have hgr := grown_of_below hb; replace hg1 := hg1.grown hgr (by simp); replace HB := HB.grown hgr (by have := HB.size; omega) (by simp); replace hcg1 := hg1.cell; replace hfg1 := hg1.frozen; clear hb hgr))
        go_roundg (gk - 1)
        case measure => omega
        case rel => exact ⟨t + 1, by omega, by omega, by go_num, ⟨Hnext.out, hg1, HB⟩⟩
      · rw [hb] at cst
        have Cs := Lib.hid cst
        clear cst
        have cz := refZero_calls r A c t h3t hle
        rw [hz1] at cz
        have Cz := Lib.hid cz
        clear cz
        have htag : r.tagE m t = r.bound t := by unfold Rec.tagE; rw [hb]; rfl
        by_cases he : r.bound t = 0
        · have t2 := int_bne_false he
          have hnext : r.fromE m 9 3 = r.fromE m (gk - 1) (t + 1) := by rw [Hfrom.out, Hstep.out, htag, if_pos he]
          have Hnext := Lib.hid hnext
          clear hnext he htag Hstep Hfrom hb hz1
          go_wp2_with (first
            | (go_at_call 80; (with_reducible refine (Cs.out _ (Ht.out.next HB).rows).mono ?_); rintro e W1 ⟨rfl, hb⟩; have hgr := grown_of_below hb; replace hg1 := hg1.grown hgr (by simp); replace HB := HB.grown hgr (by have := HB.size; omega) (by simp); replace hcg1 := hg1.cell; replace hfg1 := hg1.frozen; clear hb hgr)
            | ((with_reducible refine gate_dst (N := 36) rfl ?_); refine wpList_load_row rfl _ _ rfl g1 rfl _ _ (0, 0) _ hg1 Tryd.underlying27 rfl rec_size ?_)
            | (go_at_call 76; (with_reducible refine (Cz.out _).mono ?_); rintro e W2 ⟨rfl, hb⟩; have hgr := grown_of_below hb; replace hg1 := hg1.grown hgr (by simp); replace HB := HB.grown hgr (by have := HB.size; omega) (by simp); replace hcg1 := hg1.cell; replace hfg1 := hg1.frozen; clear hb hgr)
            | ((with_reducible refine gate_dst (N := 46) rfl ?_); refine wpList_load_row rfl _ _ rfl g1 rfl _ _ (0, 0) _ hg1 Tryd.underlying27 rfl rec_size ?_)
            | (go_at_call 81; (with_reducible refine (refBounds_calls r A c t h3t hle hz _ (Ht.out.next HB).letters (hd.next HB)).mono ?_); rintro e W3 ⟨rfl, hb⟩; have hgr := grown_of_below hb; replace hg1 := hg1.grown hgr (by simp); replace HB := HB.grown hgr (by have := HB.size; omega) (by simp); replace hcg1 := hg1.cell; replace hfg1 := hg1.frozen; clear hb hgr))
          go_roundg (gk - 1)
          case measure => omega
          case rel => exact ⟨t + 1, by omega, by omega, by go_num, ⟨Hnext.out, hg1, HB⟩⟩
        · have t2 := int_bne_true he
          have hnext : r.fromE m 9 3 = r.bound t := by rw [Hfrom.out, Hstep.out, htag, if_neg he]
          have Hnext := Lib.hid hnext
          clear hnext he htag Hstep Hfrom hb hz1
          go_wp2_with (first
            | (go_at_call 80; (with_reducible refine (Cs.out _ (Ht.out.next HB).rows).mono ?_); rintro e W1 ⟨rfl, hb⟩; have hgr := grown_of_below hb; replace hg1 := hg1.grown hgr (by simp); replace HB := HB.grown hgr (by have := HB.size; omega) (by simp); replace hcg1 := hg1.cell; replace hfg1 := hg1.frozen; clear hb hgr)
            | ((with_reducible refine gate_dst (N := 36) rfl ?_); refine wpList_load_row rfl _ _ rfl g1 rfl _ _ (0, 0) _ hg1 Tryd.underlying27 rfl rec_size ?_)
            | (go_at_call 76; (with_reducible refine (Cz.out _).mono ?_); rintro e W2 ⟨rfl, hb⟩; have hgr := grown_of_below hb; replace hg1 := hg1.grown hgr (by simp); replace HB := HB.grown hgr (by have := HB.size; omega) (by simp); replace hcg1 := hg1.cell; replace hfg1 := hg1.frozen; clear hb hgr)
            | ((with_reducible refine gate_dst (N := 46) rfl ?_); refine wpList_load_row rfl _ _ rfl g1 rfl _ _ (0, 0) _ hg1 Tryd.underlying27 rfl rec_size ?_)
            | (go_at_call 81; (with_reducible refine (refBounds_calls r A c t h3t hle hz _ (Ht.out.next HB).letters (hd.next HB)).mono ?_); rintro e W3 ⟨rfl, hb⟩; have hgr := grown_of_below hb; replace hg1 := hg1.grown hgr (by simp); replace HB := HB.grown hgr (by have := HB.size; omega) (by simp); replace hcg1 := hg1.cell; replace hfg1 := hg1.frozen; clear hb hgr))
          go_ret
          exact ⟨ret_int Hnext.out.symm, HB⟩
    · obtain rfl : t = 12 := by omega
      obtain rfl : gk = 0 := by omega
      go_wp2
      go_ret
      exact ⟨ret_int Hfrom.out.symm, HB⟩

set_option maxRecDepth 100000 in
theorem refCheck_calls (r : Rec) (A : Option Addr) (c : Nat) (hz : r.Name.size ≤ 1099511627776) (w : World) (ht : RTabs w) (hd : RB w A r.Data) :
    Calls Tryd.prog 55 #[.agg (r.cells A c)] w fun e w' => e = .returned (.int .i64 r.chk) ∧ Below w.heap.size w w' := by
  have HB := Below.refl w.heap.size w
  by_cases h1 : r.V < 1
  · have e : r.chk = 3 := if_pos (.inl h1)
    rw [e]
    have t1 : decide (r.V < 1) = true := by simp [h1]
    clear h1 e
    clear ht
    go_enter Tryd.func55, Tryd.ntmps55
    go_wp2_with (first
      | ((with_reducible refine gate_dst (N := 1) rfl ?_); refine ev_box rfl rfl (r.cells A c) rfl ?_; intro g1 W1 hg1 hsz hbn; have hgr := grown_of_below hbn; have zg1 : w.heap.size ≤ g1 := (by have := HB.size; omega); replace HB := HB.grown hgr (by have := HB.size; omega) (by simp); have hcg1 := hg1.cell; have hfg1 := hg1.frozen; clear hsz hbn hgr))
    go_ret
    exact ⟨rfl, HB⟩
  by_cases h2 : 3 < r.V
  · have e : r.chk = 3 := if_pos (.inr h2)
    rw [e]
    have t1 : decide (r.V < 1) = false := by simp; omega
    have t2 : decide (3 < r.V) = true := by simp [h2]
    clear h1 h2 e
    clear ht
    go_enter Tryd.func55, Tryd.ntmps55
    go_wp2_with (first
      | ((with_reducible refine gate_dst (N := 1) rfl ?_); refine ev_box rfl rfl (r.cells A c) rfl ?_; intro g1 W1 hg1 hsz hbn; have hgr := grown_of_below hbn; have zg1 : w.heap.size ≤ g1 := (by have := HB.size; omega); replace HB := HB.grown hgr (by have := HB.size; omega) (by simp); have hcg1 := hg1.cell; have hfg1 := hg1.frozen; clear hsz hbn hgr))
    go_ret
    exact ⟨rfl, HB⟩
  have h12 : ¬ (r.V < 1 ∨ 3 < r.V) := by omega
  by_cases h3 : r.Kind < 1
  · have e : r.chk = 31 := by unfold Rec.chk; rw [if_neg h12, if_pos (.inl h3)]
    rw [e]
    have t1 : decide (r.V < 1) = false := by simp; omega
    have t2 : decide (3 < r.V) = false := by simp; omega
    have t3 : decide (r.Kind < 1) = true := by simp [h3]
    clear h1 h2 h12 h3 e
    clear ht
    go_enter Tryd.func55, Tryd.ntmps55
    go_wp2_with (first
      | ((with_reducible refine gate_dst (N := 1) rfl ?_); refine ev_box rfl rfl (r.cells A c) rfl ?_; intro g1 W1 hg1 hsz hbn; have hgr := grown_of_below hbn; have zg1 : w.heap.size ≤ g1 := (by have := HB.size; omega); replace HB := HB.grown hgr (by have := HB.size; omega) (by simp); have hcg1 := hg1.cell; have hfg1 := hg1.frozen; clear hsz hbn hgr))
    go_ret
    exact ⟨rfl, HB⟩
  by_cases h4 : 7 < r.Kind
  · have e : r.chk = 31 := by unfold Rec.chk; rw [if_neg h12, if_pos (.inr h4)]
    rw [e]
    have t1 : decide (r.V < 1) = false := by simp; omega
    have t2 : decide (3 < r.V) = false := by simp; omega
    have t3 : decide (r.Kind < 1) = false := by simp; omega
    have t4 : decide (7 < r.Kind) = true := by simp [h4]
    clear h1 h2 h12 h3 h4 e
    clear ht
    go_enter Tryd.func55, Tryd.ntmps55
    go_wp2_with (first
      | ((with_reducible refine gate_dst (N := 1) rfl ?_); refine ev_box rfl rfl (r.cells A c) rfl ?_; intro g1 W1 hg1 hsz hbn; have hgr := grown_of_below hbn; have zg1 : w.heap.size ≤ g1 := (by have := HB.size; omega); replace HB := HB.grown hgr (by have := HB.size; omega) (by simp); have hcg1 := hg1.cell; have hfg1 := hg1.frozen; clear hsz hbn hgr))
    go_ret
    exact ⟨rfl, HB⟩
  have h34 : ¬ (r.Kind < 1 ∨ 7 < r.Kind) := by omega
  by_cases h5 : r.Saga < 1
  · have e : r.chk = 32 := by unfold Rec.chk; rw [if_neg h12, if_neg h34, if_pos h5]
    rw [e]
    have t1 : decide (r.V < 1) = false := by simp; omega
    have t2 : decide (3 < r.V) = false := by simp; omega
    have t3 : decide (r.Kind < 1) = false := by simp; omega
    have t4 : decide (7 < r.Kind) = false := by simp; omega
    have t5 : decide (r.Saga < 1) = true := by simp [h5]
    clear h1 h2 h12 h3 h4 h34 h5 e
    clear ht
    go_enter Tryd.func55, Tryd.ntmps55
    go_wp2_with (first
      | ((with_reducible refine gate_dst (N := 1) rfl ?_); refine ev_box rfl rfl (r.cells A c) rfl ?_; intro g1 W1 hg1 hsz hbn; have hgr := grown_of_below hbn; have zg1 : w.heap.size ≤ g1 := (by have := HB.size; omega); replace HB := HB.grown hgr (by have := HB.size; omega) (by simp); have hcg1 := hg1.cell; have hfg1 := hg1.frozen; clear hsz hbn hgr))
    go_ret
    exact ⟨rfl, HB⟩
  have e : r.chk = r.fromE (mayAt (r.V - 1).toNat (r.Kind - 1).toNat) 9 3 := by unfold Rec.chk Rec.tagsOf; rw [if_neg h12, if_neg h34, if_neg h5]
  rw [e]
  exact refCheckIn_calls r A c _ _ (by omega) (by omega) (by omega) (by omega) (by omega) hz w ht hd
end Go.Proofs.YtikodgaomhmbmaaDoor
