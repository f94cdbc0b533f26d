/-
  The walk of record.Decode, for all bytes.
-/
import Derived.Test.YtjhiohjpkdjkoaaDoorZ1
set_option linter.unusedVariables false
set_option linter.unusedSimpArgs false
namespace Go.Proofs.YtjhiohjpkdjkoaaDoor
open Go.RowKit
attribute [local go_sem] Rec.size_ Rec.g0 Rec.g1 Rec.g2 Rec.g3 Rec.g4 Rec.g5 Rec.g6 Rec.g7 Rec.g8 Rec.g9 Rec.g10 Rec.g11 Rec.fold

theorem readB_len (max : Nat) (s : List UInt8) : (readB max s).1.length ≤ max := by
  unfold readB
  split
  · simp
  · split
    · simp
    · split
      · simp
      · simp only [List.length_take]
        omega
theorem val_len {r : Rec} {t : Nat} {s : List UInt8} (h : (valR r t s).2.2 = 0) : (valR r t s).2.1 ≤ s.length := by
  have hb : ∀ m, (readB m s).2.2 = 0 → (readB m s).2.1 ≤ s.length := fun m hm => by
    obtain ⟨e1, e2, _⟩ := readB_0 hm
    have := congrArg List.length e1
    rw [List.length_append] at this
    omega
  have hl : (readL 0 0 s).2.2 = 0 → (readL 0 0 s).2.1 ≤ s.length := fun hm => by have := readL_took s 0 0 hm; omega
  unfold valR at h ⊢
  by_cases h7 : t = 7
  · rw [if_pos h7] at h ⊢
    exact hl h
  by_cases h10 : t = 10
  · rw [if_neg h7, if_pos h10] at h ⊢
    exact hb _ h
  by_cases h11 : t = 11
  · rw [if_neg h7, if_neg h10, if_pos h11] at h ⊢
    exact hb _ h
  rw [if_neg h7, if_neg h10, if_neg h11] at h ⊢
  by_cases h0 : (readL 0 0 s).2.2 = 0
  · rw [if_neg (by simp [h0])] at h ⊢
    by_cases hm : 9223372036854775807 < (readL 0 0 s).1
    · rw [if_pos hm]
      exact Nat.zero_le _
    · rw [if_neg hm]
      exact hl h0
  · rw [if_pos h0]
    exact Nat.zero_le _
theorem val_fits {r : Rec} (hf : r.Fits) (t : Nat) (s : List UInt8) : (valR r t s).1.Fits := by
  have hp : ∀ t x, (r.put t x).Fits := fun t x => by
    refine ⟨?_, by rw [put_data]; exact hf.data⟩
    have : (r.put t x).Name = r.Name := by unfold Rec.put; split <;> rfl
    rw [this]
    exact hf.name
  have h1 := readB_len 192 s
  have h2 := readB_len 16384 s
  unfold valR
  repeat' split
  · exact hp 7 _
  · exact hp 7 _
  · refine ⟨?_, hf.data⟩
    show (readB 192 s).1.toArray.size ≤ _
    simp
    omega
  · refine ⟨hf.name, ?_⟩
    show (readB 16384 s).1.length ≤ _
    omega
  · exact hf
  · exact hf
  · exact hp t _
theorem dec_bad {v : Int} {l : List UInt8} (h : v < 1 ∨ 3 < v) : decE v l = 3 ∧ decR v l = Rec.zero := by
  have e : decE v l = 3 := if_pos h
  exact ⟨e, if_neg (by rw [e]; decide)⟩
theorem dec_err {v : Int} {l : List UInt8} {r : Rec} {e : Int} (hv : ¬ (v < 1 ∨ 3 < v)) (h : decN 12 (startR v) 0 l = (r, e)) (he : e ≠ 0) : decE v l = e ∧ decR v l = Rec.zero := by
  have e1 : decE v l = e := by unfold decE; rw [if_neg hv, h]; exact if_pos he
  exact ⟨e1, if_neg (by rw [e1]; exact he)⟩
theorem dec_end {v : Int} {l : List UInt8} {r : Rec} (hv : ¬ (v < 1 ∨ 3 < v)) (h : decN 12 (startR v) 0 l = (r, 0)) : decE v l = r.chk ∧ decR v l = if r.chk = 0 then r else Rec.zero := by
  have e1 : decE v l = r.chk := by unfold decE; rw [if_neg hv, h]; rfl
  refine ⟨e1, ?_⟩
  unfold decR
  rw [e1, h]
theorem decN_end {n : Nat} {r : Rec} {last : Nat} {s : List UInt8} (hs : s = []) : decN n r last s = (r, 0) := by
  cases n with
  | zero => rfl
  | succ n => simp [decN, hs]
theorem decN_err {n : Nat} {r : Rec} {last : Nat} {s : List UInt8} {e : Int} (hn : 0 < n) (hs : s ≠ []) (h : (fieldR r last s).2.2.2 = e) (he : e ≠ 0) : decN n r last s = (r, e) := by
  obtain ⟨m, rfl⟩ : ∃ m, n = m + 1 := ⟨n - 1, by omega⟩
  simp only [decN]
  rw [if_neg hs, h, if_pos he]
theorem decN_next {n : Nat} {r r' : Rec} {last g k : Nat} {s : List UInt8} (hn : 0 < n) (hs : s ≠ []) (h : fieldR r last s = (r', g, k, 0)) : decN n r last s = decN (n - 1) r' g (s.drop k) := by
  obtain ⟨m, rfl⟩ : ∃ m, n = m + 1 := ⟨n - 1, by omega⟩
  simp only [decN]
  rw [if_neg hs, h, if_neg (by simp)]
  rfl

/-- What Decode answers, in the words of its post. -/
def DecSaid (P : Program) (r' : Rec) (er v : Int) (L : Option Addr) (len cl : Nat) (w : World) : Prop :=
  Calls P 52 #[.int .i64 v, .slice L len cl] w fun e w' => ∃ A' c', e = .returned (.tuple #[.agg (r'.cells A' c'), .int .i64 er])
    ∧ w'.ownsRow w.heap.size 5 1 (.slice A' r'.Data.length c') r'.Data.length (u8s r'.Data) ∧ Below w.heap.size w w'

set_option maxHeartbeats 4000000 in
set_option maxRecDepth 100000 in
theorem decode_calls (v : Int) (l : List UInt8) (L : Option Addr) (cl : Nat) (hcl : l.length ≤ cl) (hl : l.length ≤ 140737488351232) (w : World) (hT : Tabs w) (hd : RB w L l) :
    DecSaid Tryd.prog (decR v l) (decE v l) v L l.length cl w := by
  have HB := Below.refl w.heap.size w
  have HT := Lib.hid hT
  clear hT
  unfold DecSaid
  by_cases hbad : v < 1 ∨ 3 < v
  · rw [(dec_bad hbad).1, (dec_bad hbad).2]
    by_cases hv1 : v < 1
    · have t1 : decide (v < 1) = true := decide_eq_true hv1
      clear hbad
      go_enter Tryd.func52, Tryd.ntmps52
      go_wp2_with (first
        | ((with_reducible refine gate_dst (N := 4) rfl ?_); refine ev_alloc rfl rfl _ rec_zero ?_; intro g4 W1 hg4 hsz hbn; have hgr := grown_of_below hbn; replace hg4 : Blk W1 g4 _ (Rec.zero.cells none 0) := hg4; have zg4 : w.heap.size ≤ g4 := (by have := HB.size; omega); replace HB := HB.grown hgr (by have := HB.size; omega) (by simp); have hcg4 := hg4.cell; have hfg4 := hg4.frozen; clear hsz hbn hgr)
        | ((with_reducible refine gate_store (p := 4) rfl ?_); refine ev_store_row (cs := Rec.zero.cells none 0) rfl rfl rfl hg4 rfl rfl rec_size rfl (cells_one _ _ _) ?_; intro W2 hgn hgr; replace HB := HB.grown hgr (by have := HB.size; omega) (by intro k e; injection e with e; omega); replace hg4 := hgn; replace hcg4 := hg4.cell; replace hfg4 := hg4.frozen; clear hgn hgr))
      refine ret_row rfl hg4 rfl Tryd.underlying35 rfl rec_size rfl ?_
      exact ⟨none, 0, rfl, own_nil _ _ _ _, HB⟩
    · have t1 : decide (v < 1) = false := decide_eq_false hv1
      have t2 : decide (3 < v) = true := decide_eq_true (by omega)
      clear hbad
      go_enter Tryd.func52, Tryd.ntmps52
      go_wp2_with (first
        | ((with_reducible refine gate_dst (N := 4) rfl ?_); refine ev_alloc rfl rfl _ rec_zero ?_; intro g4 W1 hg4 hsz hbn; have hgr := grown_of_below hbn; replace hg4 : Blk W1 g4 _ (Rec.zero.cells none 0) := hg4; have zg4 : w.heap.size ≤ g4 := (by have := HB.size; omega); replace HB := HB.grown hgr (by have := HB.size; omega) (by simp); have hcg4 := hg4.cell; have hfg4 := hg4.frozen; clear hsz hbn hgr)
        | ((with_reducible refine gate_store (p := 4) rfl ?_); refine ev_store_row (cs := Rec.zero.cells none 0) rfl rfl rfl hg4 rfl rfl rec_size rfl (cells_one _ _ _) ?_; intro W2 hgn hgr; replace HB := HB.grown hgr (by have := HB.size; omega) (by intro k e; injection e with e; omega); replace hg4 := hgn; replace hcg4 := hg4.cell; replace hfg4 := hg4.frozen; clear hgn hgr))
      refine ret_row rfl hg4 rfl Tryd.underlying35 rfl rec_size rfl ?_
      exact ⟨none, 0, rfl, own_nil _ _ _ _, HB⟩
  have hv := hbad
  have t1 : decide (v < 1) = false := decide_eq_false (by omega)
  have t2 : decide (3 < v) = false := decide_eq_false (by omega)
  clear hbad
  go_enter Tryd.func52, Tryd.ntmps52
  go_wp2_with (first
    | ((with_reducible refine gate_dst (N := 4) rfl ?_); refine ev_alloc rfl rfl _ rec_zero ?_; intro g4 W1 hg4 hsz hbn; have hgr := grown_of_below hbn; replace hg4 : Blk W1 g4 _ (Rec.zero.cells none 0) := hg4; have zg4 : w.heap.size ≤ g4 := (by have := HB.size; omega); replace HB := HB.grown hgr (by have := HB.size; omega) (by simp); have hcg4 := hg4.cell; have hfg4 := hg4.frozen; clear hsz hbn hgr)
    | ((with_reducible refine gate_dst (N := 6) rfl ?_); refine ev_alloc rfl rfl _ rec_zero ?_; intro g6 W2 hg6 hsz hbn; have hgr := grown_of_below hbn; have ng4g6 : g4 ≠ g6 := (by have := hg4.lt; omega); replace hg6 : Blk W2 g6 _ (Rec.zero.cells none 0) := hg6; have zg6 : w.heap.size ≤ g6 := (by have := HB.size; omega); replace hg4 := hg4.grown hgr (by simp); replace HB := HB.grown hgr (by have := HB.size; omega) (by simp); have hcg6 := hg6.cell; have hfg6 := hg6.frozen; replace hcg4 := hg4.cell; replace hfg4 := hg4.frozen; clear hsz hbn hgr)
    | ((with_reducible refine gate_store (p := 6) rfl ?_); refine ev_store_row (cs := (startR v).cells none 0) rfl rfl rfl hg6 rfl rfl rec_size rfl (cells_one _ _ _) ?_; intro W3 hgn hgr; replace hg4 := hg4.grown hgr (by intro e; injection e with e; omega); replace HB := HB.grown hgr (by have := HB.size; omega) (by intro k e; injection e with e; omega); replace hg6 := hgn; replace hcg4 := hg4.cell; replace hfg4 := hg4.frozen; replace hcg6 := hg6.cell; replace hfg6 := hg6.frozen; clear hgn hgr))
  go_loopg [7, 8] 12 (fun n v7 v8 wr => ∃ (r : Rec) (A6 : Option Addr) (c6 last p : Nat), 12 ≤ n + last ∧ last ≤ 11 ∧ v7 = .int .i64 last ∧ v8 = .int .i64 p ∧ Aside (p ≤ l.length ∧ decN 12 (startR v) 0 l = decN n r last (l.drop p) ∧ r.Fits
    ∧ Blk wr g4 _ (Rec.zero.cells none 0) ∧ Blk wr g6 _ (r.cells A6 c6) ∧ wr.ownsRow w.heap.size 5 1 (.slice A6 r.Data.length c6) r.Data.length (u8s r.Data) ∧ Below w.heap.size w wr))
  case atStart => exact ⟨startR v, none, 0, 0, 0, by omega, by omega, rfl, rfl, ⟨by omega, rfl, ⟨Rec.Fits.zero.name, Rec.Fits.zero.data⟩, hg4, hg6, own_nil _ _ _ _, HB⟩⟩
  case round =>
    clear hg4 hcg4 hfg4 hg6 hcg6 hfg6 HB
    obtain ⟨r, A6, c6, last, p, hn, hlast, rfl, rfl, HA⟩ := hrel
    obtain ⟨hp, hdec, hf, hg4, hg6, oA, HB⟩ := HA.out
    clear HA
    have hcg4 := hg4.cell
    have hfg4 := hg4.frozen
    have hcg6 := hg6.cell
    have hfg6 := hg6.frozen
    have hn0 : 0 < gk := by omega
    by_cases hlt : p < l.length
    · have t3 : decide ((p : Int) < (l.length : Int)) = true := by rw [decide_eq_true_eq]; omega
      have t3' : decide (p < l.length) = true := by rw [decide_eq_true_eq]; exact hlt
      have hne : l.drop p ≠ [] := by
        intro e
        have := congrArg List.length e
        rw [List.length_drop, List.length_nil] at this
        omega
      have cu := fun w hd => readUint_calls l L cl p (Nat.le_of_lt hlt) hl w hd
      have hu := readL_lt (l.drop p) 0 0 (by omega) (by simp)
      have ht := readL_took (l.drop p) 0 0
      have hfr : fieldR r last (l.drop p) = _ := rfl
      conv at hfr => rhs; unfold fieldR
      rw [List.drop_drop] at hfr
      rw [List.length_drop] at ht
      generalize hs : l.drop p = s at hfr hdec hne cu hu ht
      generalize readL 0 0 s = x at cu hu ht hfr
      obtain ⟨u, k, er⟩ := x
      simp only at hu ht hfr
      by_cases h0 : er = 0
      · subst h0
        have q : readEnd p (u, k, 0) = ((p + k : Nat) : Int) := rfl
        rw [if_neg (by simp)] at hfr
        obtain ⟨k1, k2, k3⟩ := ht rfl
        have hq : p + k ≤ l.length := by omega
        rw [q] at cu
        have z1 : ((0 : Int) != 0) = false := rfl
        have Cu := Lib.hid cu
        by_cases hb : u = 0 ∨ 11 < u ∨ u ≤ last
        · rw [if_pos hb] at hfr
          have hd2 := hdec.trans (decN_err (e := 37) hn0 hne (by rw [hfr]) (by decide))
          have Hd := Lib.hid hd2
          have He := Lib.hid (show (37 : Int) ≠ 0 by decide)
          by_cases b1 : u = 0
          · have b1' : ((u : Int) == 0) = true := by simp [b1]
            clear hfr hdec hne cu hu ht q hb hd2 hs k1 k2 k3 hq b1
            go_wp2_with (first
              | (go_at_call 95; (with_reducible refine (Cu.out _ (hd.next HB)).mono ?_); rintro e w1 ⟨rfl, rfl⟩)
              | ((with_reducible refine gate_store (p := 4) rfl ?_); refine ev_store_row (cs := Rec.zero.cells none 0) rfl rfl rfl hg4 rfl rfl rec_size rfl (cells_one _ _ _) ?_; intro W1 hgn hgr; replace hg6 := hg6.grown hgr (by intro e; injection e with e; omega); replace oA := oA.kept hgr (.inr (own_blk_ne oA hg4 (by decide))); replace HB := HB.grown hgr (by have := HB.size; omega) (by intro k e; injection e with e; omega); replace hg4 := hgn; replace hcg4 := hg4.cell; replace hfg4 := hg4.frozen; replace hcg6 := hg6.cell; replace hfg6 := hg6.frozen; clear hgn hgr))
            refine ret_row rfl hg4 rfl Tryd.underlying35 rfl rec_size rfl ?_
            rw [(dec_err hv Hd.out He.out).1, (dec_err hv Hd.out He.out).2]
            exact ⟨none, 0, rfl, own_nil _ _ _ _, HB⟩
          · have b1' : ((u : Int) == 0) = false := int_beq_false (by omega)
            by_cases b2 : 11 < u
            · have b2' : decide ((11 : Int) < (u : Int)) = true := by rw [decide_eq_true_eq]; omega
              have b2'' : decide (11 < u) = true := by rw [decide_eq_true_eq]; exact b2
              clear hfr hdec hne cu hu ht q hb hd2 hs k1 k2 k3 hq b1 b2
              go_wp2_with (first
                | (go_at_call 95; (with_reducible refine (Cu.out _ (hd.next HB)).mono ?_); rintro e w1 ⟨rfl, rfl⟩)
                | ((with_reducible refine gate_store (p := 4) rfl ?_); refine ev_store_row (cs := Rec.zero.cells none 0) rfl rfl rfl hg4 rfl rfl rec_size rfl (cells_one _ _ _) ?_; intro W1 hgn hgr; replace hg6 := hg6.grown hgr (by intro e; injection e with e; omega); replace oA := oA.kept hgr (.inr (own_blk_ne oA hg4 (by decide))); replace HB := HB.grown hgr (by have := HB.size; omega) (by intro k e; injection e with e; omega); replace hg4 := hgn; replace hcg4 := hg4.cell; replace hfg4 := hg4.frozen; replace hcg6 := hg6.cell; replace hfg6 := hg6.frozen; clear hgn hgr))
              refine ret_row rfl hg4 rfl Tryd.underlying35 rfl rec_size rfl ?_
              rw [(dec_err hv Hd.out He.out).1, (dec_err hv Hd.out He.out).2]
              exact ⟨none, 0, rfl, own_nil _ _ _ _, HB⟩
            · have b2' : decide ((11 : Int) < (u : Int)) = false := by rw [decide_eq_false_iff_not]; omega
              have b2'' : decide (11 < u) = false := by rw [decide_eq_false_iff_not]; exact b2
              have b3 := wrap_i64_nat u (by omega)
              have b3' : decide ((u : Int) ≤ (last : Int)) = true := by rw [decide_eq_true_eq]; omega
              have b3'' : decide (u ≤ last) = true := by rw [decide_eq_true_eq]; omega
              clear hfr hdec hne cu hu ht q hb hd2 hs k1 k2 k3 hq b1 b2
              go_wp2_with (first
                | (go_at_call 95; (with_reducible refine (Cu.out _ (hd.next HB)).mono ?_); rintro e w1 ⟨rfl, rfl⟩)
                | ((with_reducible refine gate_store (p := 4) rfl ?_); refine ev_store_row (cs := Rec.zero.cells none 0) rfl rfl rfl hg4 rfl rfl rec_size rfl (cells_one _ _ _) ?_; intro W1 hgn hgr; replace hg6 := hg6.grown hgr (by intro e; injection e with e; omega); replace oA := oA.kept hgr (.inr (own_blk_ne oA hg4 (by decide))); replace HB := HB.grown hgr (by have := HB.size; omega) (by intro k e; injection e with e; omega); replace hg4 := hgn; replace hcg4 := hg4.cell; replace hfg4 := hg4.frozen; replace hcg6 := hg6.cell; replace hfg6 := hg6.frozen; clear hgn hgr))
              refine ret_row rfl hg4 rfl Tryd.underlying35 rfl rec_size rfl ?_
              rw [(dec_err hv Hd.out He.out).1, (dec_err hv Hd.out He.out).2]
              exact ⟨none, 0, rfl, own_nil _ _ _ _, HB⟩
        · rw [if_neg hb] at hfr
          have b1' : ((u : Int) == 0) = false := int_beq_false (by omega)
          have b2' : decide ((11 : Int) < (u : Int)) = false := by rw [decide_eq_false_iff_not]; omega
          have b2'' : decide (11 < u) = false := by rw [decide_eq_false_iff_not]; omega
          have b3 := wrap_i64_nat u (by omega)
          have b3' : decide ((u : Int) ≤ (last : Int)) = false := by rw [decide_eq_false_iff_not]; omega
          have b3'' : decide (u ≤ last) = false := by rw [decide_eq_false_iff_not]; omega
          have hu1 : 1 ≤ u := by omega
          have hlu : last < u := by omega
          have hu11 : u ≤ 11 := by omega
          have cv := fun (w' : World) hd hg (hz : w.heap.size ≤ w'.heap.size) ho => value_calls r A6 c6 g6 l L cl (p + k) w.heap.size u hu1 hu11 hq hcl hl w' hd hg hz ho
          have vl := val_len (r := r) (t := u) (s := l.drop (p + k))
          have vf := val_fits hf u (l.drop (p + k))
          rw [List.length_drop] at vl
          generalize hx : valR r u (l.drop (p + k)) = y at hfr cv vl vf
          obtain ⟨r', k', er'⟩ := y
          simp only at hfr cv vl vf
          by_cases h1 : er' = 0
          · subst h1
            rw [if_neg (by simp)] at hfr
            have q2 : readAt (p + k) k' 0 = ((p + k + k' : Nat) : Int) := rfl
            unfold ValSaid at cv
            rw [q2] at cv
            simp only [Int.natCast_add] at cv
            have vl2 := vl rfl
            have Cv := Lib.hid cv
            cases hz : r'.zeroAt u with
            | true =>
              rw [hz, if_pos rfl] at hfr
              have hd2 := hdec.trans (decN_err (e := 38) hn0 hne (by rw [hfr]) (by decide))
              have Hd := Lib.hid hd2
              have He := Lib.hid (show (38 : Int) ≠ 0 by decide)
              clear hfr hdec hne cu hu ht q hb hd2 hs k1 k2 k3 hx cv vl vl2 vf q2
              go_wp2_with (first
                | (go_at_call 95; (with_reducible refine (Cu.out _ (hd.next HB)).mono ?_); rintro e w1 ⟨rfl, rfl⟩)
                | (go_at_call 96; (with_reducible refine (Cv.out _ (hd.next HB) hg6 HB.size oA).mono ?_); rintro e WV ⟨A5, c5, rfl, hgn, on, hgr⟩; replace hg4 := hg4.grown hgr (by intro e; injection e with e; omega); replace HB := HB.grown hgr (by have := HB.size; omega) (by intro k e; injection e with e; omega); replace hg6 := hgn; replace oA := on; replace hcg4 := hg4.cell; replace hfg4 := hg4.frozen; replace hcg6 := hg6.cell; replace hfg6 := hg6.frozen; clear hgn hgr on)
                | (go_at_call 97; (with_reducible refine (zeroAny_calls r' A5 c5 g6 u hu1 hu11 _ hg6).mono ?_); rintro e w1 ⟨rfl, rfl⟩; rw [hz])
                | ((with_reducible refine gate_store (p := 4) rfl ?_); refine ev_store_row (cs := Rec.zero.cells none 0) rfl rfl rfl hg4 rfl rfl rec_size rfl (cells_one _ _ _) ?_; intro W1 hgn hgr; replace hg6 := hg6.grown hgr (by intro e; injection e with e; omega); replace oA := oA.kept hgr (.inr (own_blk_ne oA hg4 (by decide))); replace HB := HB.grown hgr (by have := HB.size; omega) (by intro k e; injection e with e; omega); replace hg4 := hgn; replace hcg4 := hg4.cell; replace hfg4 := hg4.frozen; replace hcg6 := hg6.cell; replace hfg6 := hg6.frozen; clear hgn hgr))
              refine ret_row rfl hg4 rfl Tryd.underlying35 rfl rec_size rfl ?_
              rw [(dec_err hv Hd.out He.out).1, (dec_err hv Hd.out He.out).2]
              exact ⟨none, 0, rfl, own_nil _ _ _ _, HB⟩
            | false =>
              rw [hz, if_neg (by simp)] at hfr
              have hd2 := hdec.trans (decN_next hn0 hne hfr)
              rw [← hs, List.drop_drop] at hd2
              have hd3 : decN 12 (startR v) 0 l = decN (gk - 1) r' u (l.drop (p + k + k')) := by rw [hd2, Nat.add_assoc]
              have Hd := Lib.hid hd3
              have hp2 : p + k + k' ≤ l.length := by omega
              clear hfr hdec hne cu hu ht q hb hd2 hd3 hs k1 k2 k3 hx cv vl vl2 q2
              go_wp2_with (first
                | (go_at_call 95; (with_reducible refine (Cu.out _ (hd.next HB)).mono ?_); rintro e w1 ⟨rfl, rfl⟩)
                | (go_at_call 96; (with_reducible refine (Cv.out _ (hd.next HB) hg6 HB.size oA).mono ?_); rintro e WV ⟨A5, c5, rfl, hgn, on, hgr⟩; replace hg4 := hg4.grown hgr (by intro e; injection e with e; omega); replace HB := HB.grown hgr (by have := HB.size; omega) (by intro k e; injection e with e; omega); replace hg6 := hgn; replace oA := on; replace hcg4 := hg4.cell; replace hfg4 := hg4.frozen; replace hcg6 := hg6.cell; replace hfg6 := hg6.frozen; clear hgn hgr on)
                | (go_at_call 97; (with_reducible refine (zeroAny_calls r' A5 c5 g6 u hu1 hu11 _ hg6).mono ?_); rintro e w1 ⟨rfl, rfl⟩; rw [hz]))
              go_roundg (gk - 1)
              case measure => omega
              case rel => exact ⟨r', A5, c5, u, p + k + k', by omega, by omega, by go_num, by go_num, ⟨hp2, Hd.out, vf, hg4, hg6, oA, HB⟩⟩
          · rw [if_pos h1] at hfr
            have z2 := int_bne_true h1
            have hd2 := hdec.trans (decN_err hn0 hne (by rw [hfr]) h1)
            have Hd := Lib.hid hd2
            have He := Lib.hid h1
            unfold ValSaid at cv
            simp only [Int.natCast_add] at cv
            have Cv := Lib.hid cv
            clear hfr hdec hne cu hu ht q hb hd2 hs k1 k2 k3 hx cv vl vf h1
            go_wp2_with (first
              | (go_at_call 95; (with_reducible refine (Cu.out _ (hd.next HB)).mono ?_); rintro e w1 ⟨rfl, rfl⟩)
              | (go_at_call 96; (with_reducible refine (Cv.out _ (hd.next HB) hg6 HB.size oA).mono ?_); rintro e WV ⟨A5, c5, rfl, hgn, on, hgr⟩; replace hg4 := hg4.grown hgr (by intro e; injection e with e; omega); replace HB := HB.grown hgr (by have := HB.size; omega) (by intro k e; injection e with e; omega); replace hg6 := hgn; replace oA := on; replace hcg4 := hg4.cell; replace hfg4 := hg4.frozen; replace hcg6 := hg6.cell; replace hfg6 := hg6.frozen; clear hgn hgr on)
              | ((with_reducible refine gate_store (p := 4) rfl ?_); refine ev_store_row (cs := Rec.zero.cells none 0) rfl rfl rfl hg4 rfl rfl rec_size rfl (cells_one _ _ _) ?_; intro W1 hgn hgr; replace hg6 := hg6.grown hgr (by intro e; injection e with e; omega); replace oA := oA.kept hgr (.inr (own_blk_ne oA hg4 (by decide))); replace HB := HB.grown hgr (by have := HB.size; omega) (by intro k e; injection e with e; omega); replace hg4 := hgn; replace hcg4 := hg4.cell; replace hfg4 := hg4.frozen; replace hcg6 := hg6.cell; replace hfg6 := hg6.frozen; clear hgn hgr))
            refine ret_row rfl hg4 rfl Tryd.underlying35 rfl rec_size rfl ?_
            rw [(dec_err hv Hd.out He.out).1, (dec_err hv Hd.out He.out).2]
            exact ⟨none, 0, rfl, own_nil _ _ _ _, HB⟩
      · rw [if_pos h0] at hfr
        have z1 := int_bne_true h0
        have hd2 := hdec.trans (decN_err hn0 hne (by rw [hfr]) h0)
        have q : readEnd p (u, k, er) = 0 := if_neg h0
        rw [q] at cu
        have Cu := Lib.hid cu
        have Hd := Lib.hid hd2
        have He := Lib.hid h0
        clear hfr hdec hne cu hu ht q hd2 hs h0
        go_wp2_with (first
          | (go_at_call 95; (with_reducible refine (Cu.out _ (hd.next HB)).mono ?_); rintro e w1 ⟨rfl, rfl⟩)
          | ((with_reducible refine gate_store (p := 4) rfl ?_); refine ev_store_row (cs := Rec.zero.cells none 0) rfl rfl rfl hg4 rfl rfl rec_size rfl (cells_one _ _ _) ?_; intro W1 hgn hgr; replace hg6 := hg6.grown hgr (by intro e; injection e with e; omega); replace oA := oA.kept hgr (.inr (own_blk_ne oA hg4 (by decide))); replace HB := HB.grown hgr (by have := HB.size; omega) (by intro k e; injection e with e; omega); replace hg4 := hgn; replace hcg4 := hg4.cell; replace hfg4 := hg4.frozen; replace hcg6 := hg6.cell; replace hfg6 := hg6.frozen; clear hgn hgr))
        refine ret_row rfl hg4 rfl Tryd.underlying35 rfl rec_size rfl ?_
        rw [(dec_err hv Hd.out He.out).1, (dec_err hv Hd.out He.out).2]
        exact ⟨none, 0, rfl, own_nil _ _ _ _, HB⟩
    · have t3 : decide ((p : Int) < (l.length : Int)) = false := by rw [decide_eq_false_iff_not]; omega
      have t3' : decide (p < l.length) = false := by rw [decide_eq_false_iff_not]; exact hlt
      have hd2 := dec_end hv (hdec.trans (decN_end (List.drop_eq_nil_of_le (by omega))))
      have cc := fun w => check_calls r A6 c6 hf w
      clear hdec
      by_cases h0 : r.chk = 0
      · rw [if_pos h0, h0] at hd2
        rw [h0] at cc
        have Hd := Lib.hid hd2
        have Cc := Lib.hid cc
        clear cc h0 hd2
        go_wp2_with (first
          | ((with_reducible refine gate_dst (N := 66) rfl ?_); refine wpList_load_row rfl _ _ rfl g6 rfl _ _ (0, 0) _ hg6 Tryd.underlying35 rfl rec_size ?_)
          | (go_at_call 75; (with_reducible refine (Cc.out _ (HT.out.next HB) (own_rb oA)).mono ?_); rintro e W1 ⟨rfl, hb⟩; have hgr := grown_of_below hb; replace hg4 := hg4.grown hgr (by simp); replace hg6 := hg6.grown hgr (by simp); replace oA := oA.kept hgr (by cases Value.ownBlock _ <;> simp); replace HB := HB.grown hgr (by have := HB.size; omega) (by simp); replace hcg4 := hg4.cell; replace hfg4 := hg4.frozen; replace hcg6 := hg6.cell; replace hfg6 := hg6.frozen; clear hb hgr)
          | ((with_reducible refine gate_dst (N := 72) rfl ?_); refine wpList_load_row rfl _ _ rfl g6 rfl _ _ (0, 0) _ hg6 Tryd.underlying35 rfl rec_size ?_)
          | ((with_reducible refine gate_store (p := 4) rfl ?_); refine ev_store_row (cs := r.cells A6 c6) rfl rfl rfl hg4 rfl rfl rec_size rfl (cells_one _ _ _) ?_; intro W2 hgn hgr; replace hg6 := hg6.grown hgr (by intro e; injection e with e; omega); replace oA := oA.kept hgr (.inr (own_blk_ne oA hg4 (by decide))); replace HB := HB.grown hgr (by have := HB.size; omega) (by intro k e; injection e with e; omega); replace hg4 := hgn; replace hcg4 := hg4.cell; replace hfg4 := hg4.frozen; replace hcg6 := hg6.cell; replace hfg6 := hg6.frozen; clear hgn hgr))
        refine ret_row rfl hg4 rfl Tryd.underlying35 rfl rec_size rfl ?_
        rw [Hd.out.1, Hd.out.2]
        exact ⟨A6, c6, rfl, oA, HB⟩
      · rw [if_neg h0] at hd2
        have z1 := int_bne_true h0
        generalize r.chk = er at cc z1 hd2
        have Hd := Lib.hid hd2
        have Cc := Lib.hid cc
        clear cc h0 hd2
        go_wp2_with (first
          | ((with_reducible refine gate_dst (N := 66) rfl ?_); refine wpList_load_row rfl _ _ rfl g6 rfl _ _ (0, 0) _ hg6 Tryd.underlying35 rfl rec_size ?_)
          | (go_at_call 75; (with_reducible refine (Cc.out _ (HT.out.next HB) (own_rb oA)).mono ?_); rintro e W1 ⟨rfl, hb⟩; have hgr := grown_of_below hb; replace hg4 := hg4.grown hgr (by simp); replace hg6 := hg6.grown hgr (by simp); replace oA := oA.kept hgr (by cases Value.ownBlock _ <;> simp); replace HB := HB.grown hgr (by have := HB.size; omega) (by simp); replace hcg4 := hg4.cell; replace hfg4 := hg4.frozen; replace hcg6 := hg6.cell; replace hfg6 := hg6.frozen; clear hb hgr)
          | ((with_reducible refine gate_store (p := 4) rfl ?_); refine ev_store_row (cs := Rec.zero.cells none 0) rfl rfl rfl hg4 rfl rfl rec_size rfl (cells_one _ _ _) ?_; intro W2 hgn hgr; replace hg6 := hg6.grown hgr (by intro e; injection e with e; omega); replace oA := oA.kept hgr (.inr (own_blk_ne oA hg4 (by decide))); replace HB := HB.grown hgr (by have := HB.size; omega) (by intro k e; injection e with e; omega); replace hg4 := hgn; replace hcg4 := hg4.cell; replace hfg4 := hg4.frozen; replace hcg6 := hg6.cell; replace hfg6 := hg6.frozen; clear hgn hgr))
        refine ret_row rfl hg4 rfl Tryd.underlying35 rfl rec_size rfl ?_
        rw [Hd.out.1, Hd.out.2]
        exact ⟨none, 0, rfl, own_nil _ _ _ _, HB⟩
end Go.Proofs.YtjhiohjpkdjkoaaDoor
