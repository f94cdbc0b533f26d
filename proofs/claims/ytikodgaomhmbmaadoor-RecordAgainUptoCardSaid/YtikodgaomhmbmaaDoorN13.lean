/-
  The walk of annalsref2.Name.
-/
import Derived.Test.YtikodgaomhmbmaaDoorN12
set_option linter.unusedVariables false
set_option linter.unusedSimpArgs false
namespace Go.Proofs.YtikodgaomhmbmaaDoor
open Go.RowKit

theorem names_agree (s : ByteArray) : isName s = (decide (1 ≤ (pieces_ s s.size 0).length) && decide ((pieces_ s s.size 0).length ≤ 48) && ((pieces_ s s.size 0).map fun p => nameRune p.1).all id && (((pieces_ s s.size 0).map fun p => isLetter p.1).head?).getD false) := by
  obtain ⟨h1, h2, h3⟩ := runes_of_pieces s s.size 0
  unfold isName nameL
  rw [h1, h2, h3]
  congr 1
  · congr 1
    simp [List.all_map]
  · cases runes s s.size 0 <;> rfl
theorem name_pos {r : Int} (h : nameRune r = true) : 0 ≤ r := by
  have hl : ∀ p ∈ lets, 0 ≤ p.1 := by decide
  simp only [nameRune, Bool.or_eq_true, beq_iff_eq, isLetter, List.any_eq_true] at h
  rcases h with (((⟨p, hp, hr⟩ | h) | h) | h) | h
  · have := hl p hp
    simp only [inRange, Bool.and_eq_true, decide_eq_true_eq] at hr
    omega
  · simp only [inRange, Bool.and_eq_true, decide_eq_true_eq] at h
    omega
  · omega
  · omega
  · omega
theorem name_bad {ps : List (Int × Nat × Nat)} {k : Nat} {p : Int × Nat × Nat} (hp : ps[k]? = some p) (h : nameRune p.1 = false) : (ps.map fun p => nameRune p.1).all id = false := by
  rw [List.all_eq_false]
  exact ⟨nameRune p.1, List.mem_map.2 ⟨p, List.mem_of_getElem? hp, rfl⟩, by rw [h]; decide⟩
theorem name_head {ps : List (Int × Nat × Nat)} {p : Int × Nat × Nat} (hp : ps[0]? = some p) (h : isLetter p.1 = false) : (((ps.map fun p => isLetter p.1).head?).getD false) = false := by
  rw [List.head?_map, List.head?_eq_getElem?, hp]
  exact h
theorem all_next {ps : List (Int × Nat × Nat)} {k : Nat} {p : Int × Nat × Nat} (hp : ps[k]? = some p) (h : nameRune p.1 = true) (ha : ∀ j p, j < k → ps[j]? = some p → nameRune p.1 = true) : ∀ j p, j < k + 1 → ps[j]? = some p → nameRune p.1 = true := by
  intro j q hj hq
  rcases Nat.lt_or_ge j k with h1 | h1
  · exact ha j q h1 hq
  · obtain rfl : j = k := by omega
    rw [hp] at hq
    injection hq with hq
    subst hq
    exact h
set_option maxHeartbeats 4000000 in
set_option maxRecDepth 100000 in
theorem refName_calls (s : ByteArray) (hs : s.size ≤ 1099511627776) (w : World) (ht : Tab w 4 (letCells .i64)) :
    Calls Tryd.prog 104 #[.string s] w fun e w' => ∃ c p : Int, e = .returned (.tuple #[.int .i64 c, .int .i64 p]) ∧ (c == 0) = isName s ∧ Below w.heap.size w w' := by
  have HB := Below.refl w.heap.size w
  have Ht := Lib.hid ht
  clear ht
  have cp := pieces_calls s hs
  have ha := names_agree s
  generalize hps : pieces_ s s.size 0 = ps at cp ha
  have Cp := Lib.hid cp
  have Ha := Lib.hid ha
  clear cp ha hps
  by_cases hn : ps.length = 0
  · have t1 : ((ps.length : Int) == 0) = true := by simp [hn]
    have hf : isName s = false := by rw [Ha.out, hn]; rfl
    have Hf := Lib.hid hf
    clear hn hf
    go_enter Tryd.func104, Tryd.ntmps104
    go_wp2_with (first
      | (go_at_call 108; (with_reducible refine (Cp.out _).mono ?_); rintro e W1 ⟨A1, c1, rfl, o1, hb⟩; have hgr := grown_of_below hb; replace o1 := own_mono o1 HB.size; replace HB := HB.grown hgr (by have := HB.size; omega) (by simp); clear hb hgr))
    go_ret2
    exact ⟨_, _, rfl, Hf.out.symm, HB⟩
  · have t1 : ((ps.length : Int) == 0) = false := int_beq_false (by omega)
    go_enter Tryd.func104, Tryd.ntmps104
    go_wp2_with (first
      | (go_at_call 108; (with_reducible refine (Cp.out _).mono ?_); rintro e W1 ⟨A1, c1, rfl, o1, hb⟩; have hgr := grown_of_below hb; replace o1 := own_mono o1 HB.size; replace HB := HB.grown hgr (by have := HB.size; omega) (by simp); clear hb hgr))
    obtain ⟨g0, rfl, z0⟩ := own_at o1 (by omega)
    go_loopg [5] ps.length (fun n v5 wr => ∃ k : Nat, n + k = ps.length ∧ v5 = .int .i64 k ∧ Aside (k ≤ 48 ∧ (∀ j p, j < k → ps[j]? = some p → nameRune p.1 = true) ∧ (0 < k → ∃ p, ps[0]? = some p ∧ isLetter p.1 = true) ∧
      wr.ownsRow w.heap.size 149 3 (.slice (some ⟨g0, 0, none⟩) ps.length c1) ps.length (pcells ps) ∧ Below w.heap.size w wr))
    case atStart => exact ⟨0, by omega, rfl, ⟨by omega, fun j p h => by omega, fun h => by omega, o1, HB⟩⟩
    case round =>
      clear o1 HB
      obtain ⟨k, hk, rfl, HA⟩ := hrel
      obtain ⟨h48, hall, hfst, o1, HB⟩ := HA.out
      have Hall := Lib.hid hall
      have Hfst := Lib.hid hfst
      clear HA hall hfst
      by_cases hlt : k < ps.length
      · obtain ⟨p, hp⟩ : ∃ p, ps[k]? = some p := ⟨ps[k], List.getElem?_eq_getElem hlt⟩
        have Hp := Lib.hid hp
        clear hp
        have hlt' := hlt
        by_cases h48' : k = 48
        · have t2 : decide ((48 : Int) ≤ (k : Int)) = true := by simp; omega
          have hf : isName s = false := by rw [Ha.out, show decide (ps.length ≤ 48) = false by simp; omega]; simp
          have Hf := Lib.hid hf
          clear hf h48'
          go_wp2_with (first
            | ((with_reducible refine gate_dst (N := 21) rfl ?_); refine wpList_load_mid rfl _ _ rfl g0 (k * 3) rfl [.int .i64 p.1, .int .i64 (p.2.1 : Int), .int .i64 (p.2.2 : Int)] _ (own_piece o1 Hp.out) Tryd.underlying149 rfl piece_size ?_)
            | ((with_reducible refine gate_dst (N := 6) rfl ?_); refine ev_alloc rfl rfl _ piece_zero ?_; intro g1 W1 hg1 hsz hbn; have hgr := grown_of_below hbn; have no1g1 := own_new o1 hsz; replace hg1 : Blk W1 g1 _ (#[.int .i64 0, .int .i64 0, .int .i64 0]) := hg1; have zg1 : w.heap.size ≤ g1 := (by have := HB.size; omega); replace o1 := o1.kept hgr (by cases Value.ownBlock _ <;> simp); replace HB := HB.grown hgr (by have := HB.size; omega) (by simp); have hcg1 := hg1.cell; have hfg1 := hg1.frozen; clear hsz hbn hgr)
            | ((with_reducible refine gate_store (p := 6) rfl ?_); refine ev_store_row (cs := #[.int .i64 p.1, .int .i64 (p.2.1 : Int), .int .i64 (p.2.2 : Int)]) rfl rfl rfl hg1 rfl rfl piece_size rfl (by simp [Value.oneCell']) ?_; intro W2 hgn hgr; replace o1 := o1.kept hgr (.inr no1g1); replace HB := HB.grown hgr (by have := HB.size; omega) (by intro k e; injection e with e; omega); replace hg1 := hgn; replace hcg1 := hg1.cell; replace hfg1 := hg1.frozen; clear hgn hgr))
          go_quiet (fail)
          go_wp2
          go_ret2
          exact ⟨_, _, rfl, Hf.out.symm, below_drewN HB _⟩
        have t2 : decide ((48 : Int) ≤ (k : Int)) = false := by simp; omega
        by_cases hneg : p.1 < 0
        · have t3 : decide (p.1 < 0) = true := by simp [hneg]
          have hb : nameRune p.1 = false := by
            cases hr : nameRune p.1 with
            | false => rfl
            | true => have := name_pos hr; omega
          have hf : isName s = false := by rw [Ha.out, name_bad Hp.out hb]; simp
          have Hf := Lib.hid hf
          clear hf hb hneg
          go_wp2_with (first
            | ((with_reducible refine gate_dst (N := 21) rfl ?_); refine wpList_load_mid rfl _ _ rfl g0 (k * 3) rfl [.int .i64 p.1, .int .i64 (p.2.1 : Int), .int .i64 (p.2.2 : Int)] _ (own_piece o1 Hp.out) Tryd.underlying149 rfl piece_size ?_)
            | ((with_reducible refine gate_dst (N := 6) rfl ?_); refine ev_alloc rfl rfl _ piece_zero ?_; intro g1 W1 hg1 hsz hbn; have hgr := grown_of_below hbn; have no1g1 := own_new o1 hsz; replace hg1 : Blk W1 g1 _ (#[.int .i64 0, .int .i64 0, .int .i64 0]) := hg1; have zg1 : w.heap.size ≤ g1 := (by have := HB.size; omega); replace o1 := o1.kept hgr (by cases Value.ownBlock _ <;> simp); replace HB := HB.grown hgr (by have := HB.size; omega) (by simp); have hcg1 := hg1.cell; have hfg1 := hg1.frozen; clear hsz hbn hgr)
            | ((with_reducible refine gate_store (p := 6) rfl ?_); refine ev_store_row (cs := #[.int .i64 p.1, .int .i64 (p.2.1 : Int), .int .i64 (p.2.2 : Int)]) rfl rfl rfl hg1 rfl rfl piece_size rfl (by simp [Value.oneCell']) ?_; intro W2 hgn hgr; replace o1 := o1.kept hgr (.inr no1g1); replace HB := HB.grown hgr (by have := HB.size; omega) (by intro k e; injection e with e; omega); replace hg1 := hgn; replace hcg1 := hg1.cell; replace hfg1 := hg1.frozen; clear hgn hgr))
          go_quiet (fail)
          go_wp2
          go_ret2
          exact ⟨_, _, rfl, Hf.out.symm, below_drewN HB _⟩
        have t3 : decide (p.1 < 0) = false := by simp; omega
        clear hneg
        have cl := refLetter_calls p.1
        have cn := refNameRune_calls p.1
        by_cases hk0 : k = 0
        · have t4 : ((k : Int) == 0) = true := by simp [hk0]
          cases hl : isLetter p.1
          · rw [hl] at cl
            have hf : isName s = false := by rw [Ha.out, name_head (hk0 ▸ Hp.out) hl]; simp
            have Hf := Lib.hid hf
            have Cl := Lib.hid cl
            clear hf cl cn hl hk0
            go_wp2_with (first
              | ((with_reducible refine gate_dst (N := 21) rfl ?_); refine wpList_load_mid rfl _ _ rfl g0 (k * 3) rfl [.int .i64 p.1, .int .i64 (p.2.1 : Int), .int .i64 (p.2.2 : Int)] _ (own_piece o1 Hp.out) Tryd.underlying149 rfl piece_size ?_)
              | ((with_reducible refine gate_dst (N := 6) rfl ?_); refine ev_alloc rfl rfl _ piece_zero ?_; intro g1 W1 hg1 hsz hbn; have hgr := grown_of_below hbn; have no1g1 := own_new o1 hsz; replace hg1 : Blk W1 g1 _ (#[.int .i64 0, .int .i64 0, .int .i64 0]) := hg1; have zg1 : w.heap.size ≤ g1 := (by have := HB.size; omega); replace o1 := o1.kept hgr (by cases Value.ownBlock _ <;> simp); replace HB := HB.grown hgr (by have := HB.size; omega) (by simp); have hcg1 := hg1.cell; have hfg1 := hg1.frozen; clear hsz hbn hgr)
              | ((with_reducible refine gate_store (p := 6) rfl ?_); refine ev_store_row (cs := #[.int .i64 p.1, .int .i64 (p.2.1 : Int), .int .i64 (p.2.2 : Int)]) rfl rfl rfl hg1 rfl rfl piece_size rfl (by simp [Value.oneCell']) ?_; intro W2 hgn hgr; replace o1 := o1.kept hgr (.inr no1g1); replace HB := HB.grown hgr (by have := HB.size; omega) (by intro k e; injection e with e; omega); replace hg1 := hgn; replace hcg1 := hg1.cell; replace hfg1 := hg1.frozen; clear hgn hgr)
              | (go_at_call 109; (with_reducible refine (Cl.out _ (Ht.out.next HB)).mono ?_); rintro e W3 ⟨rfl, hb⟩; have hgr := grown_of_below hb; replace hg1 := hg1.grown hgr (by simp); replace o1 := o1.kept hgr (by cases Value.ownBlock _ <;> simp); replace HB := HB.grown hgr (by have := HB.size; omega) (by simp); replace hcg1 := hg1.cell; replace hfg1 := hg1.frozen; clear hb hgr))
            go_quiet (fail)
            go_wp2
            go_ret2
            exact ⟨_, _, rfl, Hf.out.symm, below_drewN HB _⟩
          · rw [hl] at cl
            have hn : nameRune p.1 = true := by unfold nameRune; rw [hl]; simp
            rw [hn] at cn
            have Hall2 := Lib.hid (all_next Hp.out hn Hall.out)
            have Hfst2 := Lib.hid (show 0 < k + 1 → ∃ p, ps[0]? = some p ∧ isLetter p.1 = true from fun _ => ⟨p, hk0 ▸ Hp.out, hl⟩)
            have Cl := Lib.hid cl
            have Cn := Lib.hid cn
            clear cl cn hl hn hk0
            go_wp2_with (first
              | ((with_reducible refine gate_dst (N := 21) rfl ?_); refine wpList_load_mid rfl _ _ rfl g0 (k * 3) rfl [.int .i64 p.1, .int .i64 (p.2.1 : Int), .int .i64 (p.2.2 : Int)] _ (own_piece o1 Hp.out) Tryd.underlying149 rfl piece_size ?_)
              | ((with_reducible refine gate_dst (N := 6) rfl ?_); refine ev_alloc rfl rfl _ piece_zero ?_; intro g1 W1 hg1 hsz hbn; have hgr := grown_of_below hbn; have no1g1 := own_new o1 hsz; replace hg1 : Blk W1 g1 _ (#[.int .i64 0, .int .i64 0, .int .i64 0]) := hg1; have zg1 : w.heap.size ≤ g1 := (by have := HB.size; omega); replace o1 := o1.kept hgr (by cases Value.ownBlock _ <;> simp); replace HB := HB.grown hgr (by have := HB.size; omega) (by simp); have hcg1 := hg1.cell; have hfg1 := hg1.frozen; clear hsz hbn hgr)
              | ((with_reducible refine gate_store (p := 6) rfl ?_); refine ev_store_row (cs := #[.int .i64 p.1, .int .i64 (p.2.1 : Int), .int .i64 (p.2.2 : Int)]) rfl rfl rfl hg1 rfl rfl piece_size rfl (by simp [Value.oneCell']) ?_; intro W2 hgn hgr; replace o1 := o1.kept hgr (.inr no1g1); replace HB := HB.grown hgr (by have := HB.size; omega) (by intro k e; injection e with e; omega); replace hg1 := hgn; replace hcg1 := hg1.cell; replace hfg1 := hg1.frozen; clear hgn hgr)
              | (go_at_call 109; (with_reducible refine (Cl.out _ (Ht.out.next HB)).mono ?_); rintro e W3 ⟨rfl, hb⟩; have hgr := grown_of_below hb; replace hg1 := hg1.grown hgr (by simp); replace o1 := o1.kept hgr (by cases Value.ownBlock _ <;> simp); replace HB := HB.grown hgr (by have := HB.size; omega) (by simp); replace hcg1 := hg1.cell; replace hfg1 := hg1.frozen; clear hb hgr)
              | (go_at_call 110; (with_reducible refine (Cn.out _ (Ht.out.next HB)).mono ?_); rintro e W4 ⟨rfl, hb⟩; have hgr := grown_of_below hb; replace hg1 := hg1.grown hgr (by simp); replace o1 := o1.kept hgr (by cases Value.ownBlock _ <;> simp); replace HB := HB.grown hgr (by have := HB.size; omega) (by simp); replace hcg1 := hg1.cell; replace hfg1 := hg1.frozen; clear hb hgr))
            go_roundg (gk - 1)
            case measure => omega
            case rel => exact ⟨k + 1, by omega, by go_num, ⟨by omega, Hall2.out, Hfst2.out, o1, HB⟩⟩
        · have t4 : ((k : Int) == 0) = false := int_beq_false (by omega)
          cases hn : nameRune p.1
          · rw [hn] at cn
            have hf : isName s = false := by rw [Ha.out, name_bad Hp.out hn]; simp
            have Hf := Lib.hid hf
            have Cn := Lib.hid cn
            clear hf cl cn hn
            go_wp2_with (first
              | ((with_reducible refine gate_dst (N := 21) rfl ?_); refine wpList_load_mid rfl _ _ rfl g0 (k * 3) rfl [.int .i64 p.1, .int .i64 (p.2.1 : Int), .int .i64 (p.2.2 : Int)] _ (own_piece o1 Hp.out) Tryd.underlying149 rfl piece_size ?_)
              | ((with_reducible refine gate_dst (N := 6) rfl ?_); refine ev_alloc rfl rfl _ piece_zero ?_; intro g1 W1 hg1 hsz hbn; have hgr := grown_of_below hbn; have no1g1 := own_new o1 hsz; replace hg1 : Blk W1 g1 _ (#[.int .i64 0, .int .i64 0, .int .i64 0]) := hg1; have zg1 : w.heap.size ≤ g1 := (by have := HB.size; omega); replace o1 := o1.kept hgr (by cases Value.ownBlock _ <;> simp); replace HB := HB.grown hgr (by have := HB.size; omega) (by simp); have hcg1 := hg1.cell; have hfg1 := hg1.frozen; clear hsz hbn hgr)
              | ((with_reducible refine gate_store (p := 6) rfl ?_); refine ev_store_row (cs := #[.int .i64 p.1, .int .i64 (p.2.1 : Int), .int .i64 (p.2.2 : Int)]) rfl rfl rfl hg1 rfl rfl piece_size rfl (by simp [Value.oneCell']) ?_; intro W2 hgn hgr; replace o1 := o1.kept hgr (.inr no1g1); replace HB := HB.grown hgr (by have := HB.size; omega) (by intro k e; injection e with e; omega); replace hg1 := hgn; replace hcg1 := hg1.cell; replace hfg1 := hg1.frozen; clear hgn hgr)
              | (go_at_call 110; (with_reducible refine (Cn.out _ (Ht.out.next HB)).mono ?_); rintro e W3 ⟨rfl, hb⟩; have hgr := grown_of_below hb; replace hg1 := hg1.grown hgr (by simp); replace o1 := o1.kept hgr (by cases Value.ownBlock _ <;> simp); replace HB := HB.grown hgr (by have := HB.size; omega) (by simp); replace hcg1 := hg1.cell; replace hfg1 := hg1.frozen; clear hb hgr))
            go_quiet (fail)
            go_wp2
            go_ret2
            exact ⟨_, _, rfl, Hf.out.symm, below_drewN HB _⟩
          · rw [hn] at cn
            have Hall2 := Lib.hid (all_next Hp.out hn Hall.out)
            have Hfst2 := Lib.hid (show 0 < k + 1 → ∃ p, ps[0]? = some p ∧ isLetter p.1 = true from fun _ => Hfst.out (by omega))
            have Cn := Lib.hid cn
            clear cl cn hn
            go_wp2_with (first
              | ((with_reducible refine gate_dst (N := 21) rfl ?_); refine wpList_load_mid rfl _ _ rfl g0 (k * 3) rfl [.int .i64 p.1, .int .i64 (p.2.1 : Int), .int .i64 (p.2.2 : Int)] _ (own_piece o1 Hp.out) Tryd.underlying149 rfl piece_size ?_)
              | ((with_reducible refine gate_dst (N := 6) rfl ?_); refine ev_alloc rfl rfl _ piece_zero ?_; intro g1 W1 hg1 hsz hbn; have hgr := grown_of_below hbn; have no1g1 := own_new o1 hsz; replace hg1 : Blk W1 g1 _ (#[.int .i64 0, .int .i64 0, .int .i64 0]) := hg1; have zg1 : w.heap.size ≤ g1 := (by have := HB.size; omega); replace o1 := o1.kept hgr (by cases Value.ownBlock _ <;> simp); replace HB := HB.grown hgr (by have := HB.size; omega) (by simp); have hcg1 := hg1.cell; have hfg1 := hg1.frozen; clear hsz hbn hgr)
              | ((with_reducible refine gate_store (p := 6) rfl ?_); refine ev_store_row (cs := #[.int .i64 p.1, .int .i64 (p.2.1 : Int), .int .i64 (p.2.2 : Int)]) rfl rfl rfl hg1 rfl rfl piece_size rfl (by simp [Value.oneCell']) ?_; intro W2 hgn hgr; replace o1 := o1.kept hgr (.inr no1g1); replace HB := HB.grown hgr (by have := HB.size; omega) (by intro k e; injection e with e; omega); replace hg1 := hgn; replace hcg1 := hg1.cell; replace hfg1 := hg1.frozen; clear hgn hgr)
              | (go_at_call 110; (with_reducible refine (Cn.out _ (Ht.out.next HB)).mono ?_); rintro e W3 ⟨rfl, hb⟩; have hgr := grown_of_below hb; replace hg1 := hg1.grown hgr (by simp); replace o1 := o1.kept hgr (by cases Value.ownBlock _ <;> simp); replace HB := HB.grown hgr (by have := HB.size; omega) (by simp); replace hcg1 := hg1.cell; replace hfg1 := hg1.frozen; clear hb hgr))
            go_roundg (gk - 1)
            case measure => omega
            case rel => exact ⟨k + 1, by omega, by go_num, ⟨by omega, Hall2.out, Hfst2.out, o1, HB⟩⟩
      · obtain rfl : k = ps.length := by omega
        go_wp2
        go_ret2
        refine ⟨_, _, rfl, ?_, HB⟩
        have e1 : (ps.map fun p => nameRune p.1).all id = true := by
          rw [List.all_eq_true]
          intro b hb
          obtain ⟨p, hp, rfl⟩ := List.mem_map.1 hb
          obtain ⟨j, hj, he⟩ := List.mem_iff_getElem.1 hp
          exact Hall.out j p hj (by rw [List.getElem?_eq_getElem hj, he])
        obtain ⟨p, hp, hl⟩ := Hfst.out (by omega)
        have e2 : ((ps.map fun p => isLetter p.1).head?).getD false = true := by
          rw [List.head?_map, List.head?_eq_getElem?, hp]
          exact hl
        rw [Ha.out, e1, e2]
        simp
        omega
end Go.Proofs.YtikodgaomhmbmaaDoor
