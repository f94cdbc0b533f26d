/-
  The walk of the law RecordGrow.
-/
import Derived.Test.YtjhiohjpkdjkoaaDoorW7
import Derived.Test.YtjhiohjpkdjkoaaDoorW5s
import Derived.Test.YtjhiohjpkdjkoaaDoorL3
set_option linter.unusedVariables false
set_option linter.unusedSimpArgs false
namespace Go.Proofs.YtjhiohjpkdjkoaaDoor
open Go.RowKit
attribute [local go_sem] Rec.size_ Rec.g0 Rec.g1 Rec.g2 Rec.g3 Rec.g4 Rec.g5 Rec.g6 Rec.g7 Rec.g8 Rec.g9 Rec.g10 Rec.g11 Rec.fold

/-! ### The plain law -/
def Rec.withData (r : Rec) (d : List UInt8) : Rec := { r with Data := d }
theorem tag_same (r : Rec) (d : List UInt8) (t : Nat) (h : t ≠ 11) : (r.withData d).tagB t = r.tagB t := by
  unfold Rec.tagB
  have e1 : (r.withData d).zeroAt t = r.zeroAt t := by
    unfold Rec.zeroAt
    split
    · rfl
    · exact absurd rfl h
    · rfl
  have e2 : (r.withData d).valB t = r.valB t := by
    unfold Rec.valB
    rw [if_neg h, if_neg h]
    rfl
  rw [e1, e2]
theorem enc_same (r : Rec) (d : List UInt8) : ∀ n, n ≤ 10 → (r.withData d).encTo n = r.encTo n
  | 0, _ => rfl
  | n + 1, h => by
    simp only [Rec.encTo]
    rw [enc_same r d n (by omega), tag_same r d (n + 1) (by omega)]
theorem enc_data (r : Rec) (d : List UInt8) : (r.withData d).enc = r.encTo 10 ++ if d = [] then [] else uintL 11 ++ bytesL d := by
  show (r.withData d).encTo 10 ++ (r.withData d).tagB 11 = _
  rw [enc_same r d 10 (by omega)]
  congr 1
  unfold Rec.tagB
  by_cases h : d = []
  · subst h
    rfl
  · have hz : (r.withData d).zeroAt 11 = false := by
      show decide (d.length = 0) = false
      simp [h]
    rw [hz, if_neg h]
    rfl
theorem enc_grow (r : Rec) (d : List UInt8) : ∃ Y, (r.withData d).enc = (r.withData []).enc ++ Y ∧ d.length ≤ Y.length ∧ Y.drop (Y.length - d.length) = d ∧ (0 < d.length ↔ 0 < Y.length) := by
  rw [enc_data, enc_data, if_pos rfl, List.append_nil]
  refine ⟨_, rfl, ?_⟩
  by_cases h : d = []
  · subst h
    simp
  · rw [if_neg h]
    have hd : 0 < d.length := List.length_pos_iff.2 h
    refine ⟨by simp [bytesL]; omega, ?_, by simp [bytesL]; omega⟩
    unfold bytesL
    rw [← List.append_assoc, List.length_append, Nat.add_sub_cancel, List.drop_left]
theorem enc_pos {r : Rec} (h : r.chk = 0) : 0 < r.enc.length := by
  have hk := ((chk_ok r).1 h).2.1
  have hz : r.zeroAt 1 = false := by
    show (r.Kind == 0) = false
    exact int_beq_false (by omega)
  have h1 : 0 < (r.encTo 1).length := by
    show 0 < (r.encTo 0 ++ r.tagB 1).length
    have := uintL_len 1
    unfold Rec.tagB
    rw [hz, if_neg (by decide)]
    simp only [List.length_append]
    omega
  have mono : ∀ n, (r.encTo n).length ≤ (r.encTo (n + 1)).length := fun n => by simp [Rec.encTo]
  have all : ∀ n, (r.encTo 1).length ≤ (r.encTo (n + 1)).length := by
    intro n
    induction n with
    | zero => exact Nat.le_refl _
    | succ n ih => exact Nat.le_trans ih (mono (n + 1))
  exact Nat.lt_of_lt_of_le h1 (all 10)
/-- Data may be any within its bound, where the kind has it. -/
theorem grow_valid {r : Rec} {v k : Nat} (hv : r.V = v) (hk : r.Kind = k) (h1 : 1 ≤ v ∧ v ≤ 3) (h2 : 1 ≤ k ∧ k ≤ 7) (hs : 1 ≤ r.Saga) (h : Valid v k r) (hm : may v k 11 = true) (ho : ¬ (v = 1 ∧ k = 1)) {d : List UInt8} (hd : d.length ≤ 16384) : (r.withData d).chk = 0 := by
  refine chk_of (r := r.withData d) (v := v) (k := k) hv hk h1 h2 hs fun t a b => ?_
  by_cases ht : t = 11
  · subst ht
    rw [if_pos hm, b11]
    exact ⟨hd, fun ⟨x, y⟩ => absurd ⟨by have : r.V = 1 := x; omega, by have : r.Kind = 1 := y; omega⟩ ho⟩
  · have := h t a b
    have e1 : (r.withData d).bound t = r.bound t := by
      unfold Rec.bound
      split <;> first | rfl | exact absurd rfl ht
    have e2 : (r.withData d).zeroAt t = r.zeroAt t := by
      unfold Rec.zeroAt
      split
      · rfl
      · exact absurd rfl ht
      · rfl
    rw [e1, e2]
    exact this
theorem tags_last : ∀ p < 3, ∀ q < 7, 2 ≤ (tagsTo (mayAt p q) 12).length ∧ (tagsTo (mayAt p q) 12).length ≤ 11 ∧ ∃ x, (tagsTo (mayAt p q) 12)[(tagsTo (mayAt p q) 12).length - 1]? = some x ∧ decide (x = 11) = (mayAt p q).testBit 11 := by
  intro p hp q hq
  obtain rfl | rfl | rfl : p = 0 ∨ p = 1 ∨ p = 2 := by omega
  all_goals obtain rfl | rfl | rfl | rfl | rfl | rfl | rfl : q = 0 ∨ q = 1 ∨ q = 2 ∨ q = 3 ∨ q = 4 ∨ q = 5 ∨ q = 6 := by omega
  all_goals exact ⟨by decide, by decide, _, rfl, by decide⟩

/-- What an encoding answers, its block named. -/
theorem encode_at (r : Rec) (A : Option Addr) (c : Nat) (hf : r.Fits) (w : World) (hT : Tabs w) (hd : RB w A r.Data) (hc : r.chk = 0) :
    Calls Tryd.prog 76 #[.agg (r.cells A c)] w fun e w' => ∃ g c', e = .returned (.tuple #[.slice (some ⟨g, 0, none⟩) r.enc.length c', .int .i64 0]) ∧ w'.ownsRow w.heap.size 5 1 (.slice (some ⟨g, 0, none⟩) r.enc.length c') r.enc.length (u8s r.enc) ∧ Below w.heap.size w w' :=
  (encode_calls r A c hf w hT hd hc).mono fun e w' ⟨A', c', he, ho, hb⟩ => by
    obtain ⟨g, rfl, _⟩ := own_at ho (enc_pos hc)
    exact ⟨g, c', he, ho, hb⟩
set_option maxHeartbeats 4000000 in
set_option maxRecDepth 100000 in
theorem grow_bad (r : Rec) (A B : Option Addr) (c d : Nat) (data : List UInt8) (hf : r.Fits) (w : World) (hT : Tabs w) (hd : RB w A r.Data) (hc : r.chk ≠ 0) :
    Calls Tryd.prog 25 #[.agg (r.cells A c), .slice B data.length d] w fun e w' => e = .returned (.bool true) ∧ Below w.heap.size w w' := by
  have HB := Below.refl w.heap.size w
  have HT := Lib.hid hT
  have t1 := int_bne_true hc
  have cc := fun w => check_calls r A c hf w
  generalize r.chk = k at cc t1
  have Cc := Lib.hid cc
  clear hT cc hc
  go_enter Tryd.func25, Tryd.ntmps25
  go_wp2_with (first
    | ((with_reducible refine gate_dst (N := 2) rfl ?_); refine ev_box rfl rfl (r.cells A c) rfl ?_; intro g1 W1 hg1 hsz hbn; have hgr := grown_of_below hbn; have zg1 : w.heap.size ≤ g1 := (by have := HB.size; omega); replace HB := HB.grown hgr (by have := HB.size; omega) (by simp); have hcg1 := hg1.cell; have hfg1 := hg1.frozen; clear hsz hbn hgr)
    | (go_at_call 36; (with_reducible refine (started3_calls _ (HT.out.next HB)).mono ?_); rintro e W2 ⟨rfl, hb⟩; have hgr := grown_of_below hb; replace hg1 := hg1.grown hgr (by simp); replace HB := HB.grown hgr (by have := HB.size; omega) (by simp); replace hcg1 := hg1.cell; replace hfg1 := hg1.frozen; clear hb hgr)
    | ((with_reducible refine gate_dst (N := 15) rfl ?_); refine wpList_load_row rfl _ _ rfl g1 rfl _ _ (0, 0) _ hg1 Tryd.underlying35 rfl rec_size ?_)
    | (go_at_call 75; (with_reducible refine (Cc.out _ (HT.out.next HB) (hd.next HB)).mono ?_); rintro e W3 ⟨rfl, hb⟩; have hgr := grown_of_below hb; replace hg1 := hg1.grown hgr (by simp); replace HB := HB.grown hgr (by have := HB.size; omega) (by simp); replace hcg1 := hg1.cell; replace hfg1 := hg1.frozen; clear hb hgr)
    | (go_at_call 53; (with_reducible refine (num3_calls _ _).mono ?_); rintro e w1 ⟨rfl, rfl⟩))
  go_ret
  exact ⟨rfl, HB⟩

theorem fields_at {v k : Int} {l : List Nat} {m : Nat} (hl : fieldsOf v k = l) (hn : l.length = m + 1) (w : World) (ht : Tab w 0 maysL) :
    Calls Tryd.prog 27 #[.int .i64 v, .int .i64 k] w fun e w' => ∃ g c, e = .returned (.slice (some ⟨g, 0, none⟩) (m + 1) c) ∧ w'.ownsRow w.heap.size 3 1 (.slice (some ⟨g, 0, none⟩) (m + 1) c) (m + 1) (nats l) ∧ Below w.heap.size w w' :=
  (fields_all hl hn w ht).mono fun e w' ⟨A', c', he, ho, hb⟩ => by
    obtain ⟨g, rfl, _⟩ := own_at ho (by omega)
    exact ⟨g, c', he, ho, hb⟩
theorem fcell {w : World} {base g n c m : Nat} {e : TypeId} {l : List Nat} {x : Nat} (h : w.ownsRow base e 1 (.slice (some ⟨g, 0, none⟩) n c) n (nats l)) (hn : m < n) (hx : l[m]? = some x) : w.cell? ⟨g, m, none⟩ = some (.int .i64 (x : Int)) := own_cells h hn (by simp [nats, hx])
theorem own_prefix {w : World} {base g c : Nat} {l m n : List UInt8} (h : w.ownsRow base 5 1 (.slice (some ⟨g, 0, none⟩) l.length c) l.length (u8s l)) (he : l = m ++ n) : RB w (some ⟨g, 0, none⟩) m := by
  have hr := own_rb h
  by_cases hm : m = []
  · subst hm; exact RB.nil
  · have hml : 0 < m.length := List.length_pos_iff.2 hm
    obtain ⟨ad, e, hb, hc⟩ := hr.2 (by rw [he, List.length_append]; omega)
    refine ⟨by simp [u8s], fun _ => ⟨ad, e, hb, fun j u hu => hc j u ?_⟩⟩
    have hj : j < (u8s m).length := (List.getElem?_eq_some_iff.1 hu).1
    rw [he, u8s_append, List.getElem?_append_left hj]
    exact hu
theorem own_tail {w : World} {base g c : Nat} {l m : List UInt8} (h : w.ownsRow base 5 1 (.slice (some ⟨g, 0, none⟩) l.length c) l.length (u8s l)) (he : l.drop (l.length - m.length) = m) (hl : m.length ≤ l.length) : RB w (some ⟨g, l.length - m.length, none⟩) m := by
  refine ⟨by simp [u8s], fun hn => ⟨_, rfl, ?_, fun j u hu => ?_⟩⟩
  · obtain ⟨ad, e, hb, _⟩ := (own_rb h).2 (by omega)
    injection e with e
    subst e
    exact hb
  · have hj : j < m.length := by have := (List.getElem?_eq_some_iff.1 hu).1; rwa [u8s_length] at this
    have hc := h.cells (g := g) rfl (l.length - m.length + j) u (by
      rw [← hu]
      conv => rhs; rw [← he]
      unfold u8s
      rw [List.map_drop, List.getElem?_drop])
    rw [Addr.add_mid, Nat.zero_add] at hc
    rw [Addr.add_mid]
    exact hc
theorem rb_zero {w : World} {A : Option Addr} {l : List UInt8} (h : l.length = 0) : RB w A l := by
  obtain rfl := List.eq_nil_of_length_eq_zero h
  exact RB.nil
theorem alike_eq (l : List UInt8) (n : Nat) (hn : n = l.length) (A B : Option Addr) (c d : Nat) (w : World) (ha : RB w A l) (hb : RB w B l) (hl : l.length ≤ 140737488351232) :
    Calls Tryd.prog 83 #[.slice A n c, .slice B l.length d] w fun e w' => e = .returned (.bool true) ∧ Below w.heap.size w w' := by
  subst hn
  have := alike_calls l l A B c d w ha hb hl hl
  simpa using this
theorem alike_true (l : List UInt8) (A B : Option Addr) (c d : Nat) (w : World) (ha : RB w A l) (hb : RB w B l) (hl : l.length ≤ 140737488351232) :
    Calls Tryd.prog 83 #[.slice A l.length c, .slice B l.length d] w fun e w' => e = .returned (.bool true) ∧ Below w.heap.size w w' := by
  have := alike_calls l l A B c d w ha hb hl hl
  simpa using this
theorem own_cap {w : World} {base g n c size : Nat} {e : TypeId} {xs : List Value} (h : w.ownsRow base e size (.slice (some ⟨g, 0, none⟩) n c) n xs) : n ≤ c := by
  rcases h.2 with ⟨hv, _⟩ | ⟨g', cap, cur, hv, _, _, h1, h2, _⟩
  · cases hv
  · injection hv with _ _ hc
    omega
set_option maxHeartbeats 4000000 in
set_option maxRecDepth 100000 in
theorem grow_good (r : Rec) (A B : Option Addr) (c d : Nat) (data : List UInt8) (hf : r.Fits) (hdl : data.length ≤ 140737488351232) (w : World) (hT : Tabs w) (hd : RB w A r.Data) (he : RB w B data) (hc : r.chk = 0) :
    Calls Tryd.prog 25 #[.agg (r.cells A c), .slice B data.length d] w fun e w' => e = .returned (.bool true) ∧ Below w.heap.size w w' := by
  have HB := Below.refl w.heap.size w
  have HT := Lib.hid hT
  have cc := fun w => check_calls r A c hf w
  rw [hc] at cc
  have Cc := Lib.hid cc
  obtain ⟨v, k, hv, hk, h1, h2, hs, hval⟩ := (chk_valid r).1 hc
  obtain ⟨f1, f2, x, f3, f4⟩ := tags_last (v - 1) (by omega) (k - 1) (by omega)
  have hfl : fieldsOf r.V r.Kind = tagsTo (mayAt (v - 1) (k - 1)) 12 := by
    unfold fieldsOf
    rw [if_pos (by omega), hv, hk]
    congr 2 <;> omega
  have hmay : may v k 11 = decide (x = 11) := f4.symm
  obtain ⟨m, hm⟩ : ∃ m, (tagsTo (mayAt (v - 1) (k - 1)) 12).length = m + 1 := ⟨_, (Nat.succ_pred_eq_of_pos (by omega)).symm⟩
  have cf := fun w => fields_at hfl hm w
  rw [hm] at f1 f2 f3
  rw [Nat.add_sub_cancel] at f3
  generalize tagsTo (mayAt (v - 1) (k - 1)) 12 = l at f3 cf hm
  have Cf := Lib.hid cf
  have F3 := Lib.hid f3
  have s1 : decide (0 < (m : Int) + 1) = true := by rw [decide_eq_true_eq]; omega
  have s2 : decide ((2 : Int) ≤ (m : Int) + 1) = true := by rw [decide_eq_true_eq]; omega
  have hm1 : 1 ≤ m := by omega
  have bx := (rfl : ((x : Int) == 11) = ((x : Int) == 11))
  by_cases hbad : ((x : Int) == 11) = false ∨ ((r.V == 1) = true ∧ (r.Kind == 1) = true) ∨ decide (16384 < (data.length : Int)) = true
  · clear hT cc hval hfl hmay f4 cf hc f3 hv hk hs h1 h2 hm bx
    have key : ∀ b1 b2 b3 b4 : Bool, ((x : Int) == 11) = b1 → (r.V == 1) = b2 → (r.Kind == 1) = b3 → decide (16384 < (data.length : Int)) = b4 → (b1 = false ∨ (b2 = true ∧ b3 = true) ∨ b4 = true) → Calls Tryd.prog 25 #[.agg (r.cells A c), .slice B data.length d] w fun e w' => e = .returned (.bool true) ∧ Below w.heap.size w w' := by
      intro b1 b2 b3 b4 e1 e2 e3 e4 hb
      clear hbad
      cases b1 <;> cases b2 <;> cases b3 <;> cases b4
      all_goals first
        | (exfalso; revert hb; decide)
        | skip
      all_goals
        clear hb
        go_enter Tryd.func25, Tryd.ntmps25
        go_wp2_with (first
          | ((with_reducible refine gate_dst (N := 2) rfl ?_); refine ev_box rfl rfl (r.cells A c) rfl ?_; intro g1 W1 hg1 hsz hbn; have hgr := grown_of_below hbn; have zg1 : w.heap.size ≤ g1 := (by have := HB.size; omega); replace HB := HB.grown hgr (by have := HB.size; omega) (by simp); have hcg1 := hg1.cell; have hfg1 := hg1.frozen; clear hsz hbn hgr)
          | (go_at_call 36; (with_reducible refine (started3_calls _ (HT.out.next HB)).mono ?_); rintro e W2 ⟨rfl, hb⟩; have hgr := grown_of_below hb; replace hg1 := hg1.grown hgr (by simp); replace HB := HB.grown hgr (by have := HB.size; omega) (by simp); replace hcg1 := hg1.cell; replace hfg1 := hg1.frozen; clear hb hgr)
          | ((with_reducible refine gate_dst (N := 15) rfl ?_); refine wpList_load_row rfl _ _ rfl g1 rfl _ _ (0, 0) _ hg1 Tryd.underlying35 rfl rec_size ?_)
          | (go_at_call 75; (with_reducible refine (Cc.out _ (HT.out.next HB) (hd.next HB)).mono ?_); rintro e W3 ⟨rfl, hb⟩; have hgr := grown_of_below hb; replace hg1 := hg1.grown hgr (by simp); replace HB := HB.grown hgr (by have := HB.size; omega) (by simp); replace hcg1 := hg1.cell; replace hfg1 := hg1.frozen; clear hb hgr)
          | (go_at_call 53; (with_reducible refine (num3_calls _ _).mono ?_); rintro e w1 ⟨rfl, rfl⟩)
          | (go_at_call 27; (with_reducible refine (Cf.out _ (HT.out.next HB).may).mono ?_); rintro e W4 ⟨g7, c7, rfl, o7, hb⟩; have hgr := grown_of_below hb; replace o7 := own_mono o7 HB.size; replace hg1 := hg1.grown hgr (by simp); replace HB := HB.grown hgr (by have := HB.size; omega) (by simp); replace hcg1 := hg1.cell; replace hfg1 := hg1.frozen; clear hb hgr; have xc := fcell o7 (by omega) F3.out))
        go_ret
        exact ⟨rfl, HB⟩
    exact key _ _ _ _ rfl rfl rfl rfl hbad
  · have q1 : ((x : Int) == 11) = true := by
      cases h : ((x : Int) == 11) with
      | true => rfl
      | false => exact absurd (.inl h) hbad
    have q4 : decide (16384 < (data.length : Int)) = false := by
      cases h : decide (16384 < (data.length : Int)) with
      | false => rfl
      | true => exact absurd (.inr (.inr h)) hbad
    have q23 : ¬ ((r.V == 1) = true ∧ (r.Kind == 1) = true) := fun h => hbad (.inr (.inl h))
    have hx11 : x = 11 := by simp at q1; omega
    have hd16 : data.length ≤ 16384 := by simp at q4; omega
    have ho : ¬ (v = 1 ∧ k = 1) := fun ⟨a, b⟩ => q23 ⟨by rw [hv, a]; rfl, by rw [hk, b]; rfl⟩
    have hm11 : may v k 11 = true := by rw [hmay, hx11]; rfl
    have w0 := grow_valid hv hk h1 h2 hs hval hm11 ho (d := []) (by simp)
    have w1 := grow_valid hv hk h1 h2 hs hval hm11 ho (d := data) hd16
    obtain ⟨Y, y1, y2, y3, y4⟩ := enc_grow r data
    have ce1 := fun w h => encode_at (r.withData []) none 0 ⟨hf.name, by simp [Rec.withData]⟩ w h RB.nil w0
    have ce2 := fun (w : World) h (hd : RB w B data) => encode_at (r.withData data) B d ⟨hf.name, hdl⟩ w h hd w1
    have hb1 : (r.withData []).enc.length ≤ 182600 := encTo_short (valid_small w0) 11 (by omega)
    have hb2 : (r.withData data).enc.length ≤ 182600 := encTo_short (valid_small w1) 11 (by omega)
    generalize (r.withData []).enc = bare at ce1 y1 hb1
    generalize (r.withData data).enc = full at ce2 y1 hb2
    have hlen : full.length = bare.length + Y.length := by rw [y1, List.length_append]
    have hdrop : full.drop (full.length - data.length) = data := by
      rw [hlen, y1, show bare.length + Y.length - data.length = bare.length + (Y.length - data.length) by omega, List.drop_append, List.drop_eq_nil_of_le (by omega), List.nil_append, Nat.add_sub_cancel_left]
      exact y3
    have Hdrop := Lib.hid hdrop
    obtain ⟨bz, z2⟩ : ∃ bz, decide (0 < data.length) = bz := ⟨_, rfl⟩
    have z1 : decide ((0 : Int) < (data.length : Int)) = bz := by rw [← z2]; simp
    have z4 : decide (bare.length < full.length) = bz := by rw [← z2, decide_eq_decide]; omega
    have z3 : decide ((bare.length : Int) < (full.length : Int)) = bz := by rw [← z4]; simp
    have Ce1 := Lib.hid ce1
    have Ce2 := Lib.hid ce2
    have Y1 := Lib.hid y1
    have Y3 := Lib.hid y3
    have Y4 := Lib.hid y4
    have Hlen := Lib.hid hlen
    have p1 : decide ((full.length : Int) < (bare.length : Int) + (data.length : Int)) = false := by rw [decide_eq_false_iff_not]; omega
    have p2 : bare.length ≤ full.length := by omega
    have p3 : data.length ≤ full.length := by omega
    have m1 : True := trivial
    have m2 : True := trivial
    clear hT cc hval hfl hmay f4 cf hc f3 hv hk hs h1 h2 hm bx hbad hx11 ho hm11 w0 w1 ce1 ce2 y1 y3 y4 hlen hdrop
    have key : ∀ b2 b3 : Bool, (r.V == 1) = b2 → (r.Kind == 1) = b3 → ¬ (b2 = true ∧ b3 = true) → Calls Tryd.prog 25 #[.agg (r.cells A c), .slice B data.length d] w fun e w' => e = .returned (.bool true) ∧ Below w.heap.size w w' := by
      intro b2 b3 e2 e3 hb
      clear q23
      cases b2 <;> cases b3
      all_goals first
        | (exact absurd ⟨rfl, rfl⟩ hb)
        | skip
      all_goals
        clear hb
        go_enter Tryd.func25, Tryd.ntmps25
        go_wp2_with (first
          | ((with_reducible refine gate_dst (N := 2) rfl ?_); refine ev_box rfl rfl (r.cells A c) rfl ?_; intro g1 W1 hg1 hsz hbn; have hgr := grown_of_below hbn; have zg1 : w.heap.size ≤ g1 := (by have := HB.size; omega); replace HB := HB.grown hgr (by have := HB.size; omega) (by simp); have hcg1 := hg1.cell; have hfg1 := hg1.frozen; clear hsz hbn hgr)
          | (go_at_call 36; (with_reducible refine (started3_calls _ (HT.out.next HB)).mono ?_); rintro e W2 ⟨rfl, hb⟩; have hgr := grown_of_below hb; replace hg1 := hg1.grown hgr (by simp); replace HB := HB.grown hgr (by have := HB.size; omega) (by simp); replace hcg1 := hg1.cell; replace hfg1 := hg1.frozen; clear hb hgr)
          | ((with_reducible refine gate_dst (N := 15) rfl ?_); refine wpList_load_row rfl _ _ rfl g1 rfl _ _ (0, 0) _ hg1 Tryd.underlying35 rfl rec_size ?_)
          | (go_at_call 75; (with_reducible refine (Cc.out _ (HT.out.next HB) (hd.next HB)).mono ?_); rintro e W3 ⟨rfl, hb⟩; have hgr := grown_of_below hb; replace hg1 := hg1.grown hgr (by simp); replace HB := HB.grown hgr (by have := HB.size; omega) (by simp); replace hcg1 := hg1.cell; replace hfg1 := hg1.frozen; clear hb hgr)
          | (go_at_call 53; (with_reducible refine (num3_calls _ _).mono ?_); rintro e w1 ⟨rfl, rfl⟩)
          | (go_at_call 27; (with_reducible refine (Cf.out _ (HT.out.next HB).may).mono ?_); rintro e W4 ⟨g7, c7, rfl, o7, hb⟩; have hgr := grown_of_below hb; replace o7 := own_mono o7 HB.size; replace hg1 := hg1.grown hgr (by simp); replace HB := HB.grown hgr (by have := HB.size; omega) (by simp); replace hcg1 := hg1.cell; replace hfg1 := hg1.frozen; clear hb hgr; have xc := fcell o7 (by omega) F3.out)
          | ((with_reducible refine gate_dst (N := 62) rfl ?_); refine wpList_load_row rfl _ _ rfl g1 rfl _ _ (0, 0) _ hg1 Tryd.underlying35 rfl rec_size ?_)
          | ((with_reducible refine gate_dst (N := 9) rfl ?_); refine ev_alloc rfl rfl _ rec_zero ?_; intro g9 W5 hg9 hsz hbn; have hgr := grown_of_below hbn; have ng1g9 : g1 ≠ g9 := (by have := hg1.lt; omega); replace hg9 : Blk W5 g9 _ (Rec.zero.cells none 0) := hg9; have zg9 : w.heap.size ≤ g9 := (by have := HB.size; omega); replace hg1 := hg1.grown hgr (by simp); replace o7 := o7.kept hgr (by cases Value.ownBlock _ <;> simp); replace HB := HB.grown hgr (by have := HB.size; omega) (by simp); have hcg9 := hg9.cell; have hfg9 := hg9.frozen; replace hcg1 := hg1.cell; replace hfg1 := hg1.frozen; clear hsz hbn hgr)
          | ((with_reducible refine gate_store (p := 9) rfl ?_); refine ev_store_row (cs := r.cells A c) rfl rfl rfl hg9 rfl rfl rec_size rfl (cells_one _ _ _) ?_; intro W6 hgn hgr; replace hg1 := hg1.grown hgr (by intro e; injection e with e; omega); replace o7 := o7.kept hgr (.inr (own_blk_ne o7 hg9 (by decide))); replace HB := HB.grown hgr (by have := HB.size; omega) (by intro k e; injection e with e; omega); replace hg9 := hgn; replace hcg1 := hg1.cell; replace hfg1 := hg1.frozen; replace hcg9 := hg9.cell; replace hfg9 := hg9.frozen; clear hgn hgr)
          | ((with_reducible refine gate_store (p := 63) rfl ?_); refine ev_store_cell rfl rfl rfl hg9 rfl (i := 11) (v := .slice none 0 0) rfl rfl (by kernel_rfl) (show (11 : Nat) < 12 by decide) ?_; intro W7 hgn hgr; replace hgn : Blk W7 g9 _ ((r.withData []).cells none 0) := hgn; replace hg1 := hg1.grown hgr (by intro e; injection e with e; omega); replace o7 := o7.kept hgr (.inr (own_blk_ne o7 hg9 (by decide))); replace HB := HB.grown hgr (by have := HB.size; omega) (by intro k e; injection e with e; omega); replace hg9 := hgn; replace hcg1 := hg1.cell; replace hfg1 := hg1.frozen; replace hcg9 := hg9.cell; replace hfg9 := hg9.frozen; clear hgn hgr)
          | ((with_reducible refine gate_dst (N := 65) rfl ?_); refine wpList_load_row rfl _ _ rfl g9 rfl _ _ (0, 0) _ hg9 Tryd.underlying35 rfl rec_size ?_)
          | (go_at_call 76; clear m1; (with_reducible refine (Ce1.out _ (HT.out.next HB)).mono ?_); rintro e W8 ⟨gA, cA, rfl, oA, hb⟩; have hgr := grown_of_below hb; have do7oA := own_apart o7 oA (Nat.le_refl _); replace oA := own_mono oA HB.size; replace hg1 := hg1.grown hgr (by simp); replace hg9 := hg9.grown hgr (by simp); replace o7 := o7.kept hgr (by cases Value.ownBlock _ <;> simp); replace HB := HB.grown hgr (by have := HB.size; omega) (by simp); replace hcg1 := hg1.cell; replace hfg1 := hg1.frozen; replace hcg9 := hg9.cell; replace hfg9 := hg9.frozen; clear hb hgr)
          | ((with_reducible refine gate_store (p := 70) rfl ?_); refine ev_store_cell rfl rfl rfl hg9 rfl (i := 11) (v := .slice B data.length d) rfl rfl (by kernel_rfl) (show (11 : Nat) < 12 by decide) ?_; intro W9 hgn hgr; replace hgn : Blk W9 g9 _ ((r.withData data).cells B d) := hgn; replace hg1 := hg1.grown hgr (by intro e; injection e with e; omega); replace o7 := o7.kept hgr (.inr (own_blk_ne o7 hg9 (by decide))); replace oA := oA.kept hgr (.inr (own_blk_ne oA hg9 (by decide))); replace HB := HB.grown hgr (by have := HB.size; omega) (by intro k e; injection e with e; omega); replace hg9 := hgn; replace hcg1 := hg1.cell; replace hfg1 := hg1.frozen; replace hcg9 := hg9.cell; replace hfg9 := hg9.frozen; clear hgn hgr)
          | ((with_reducible refine gate_dst (N := 72) rfl ?_); refine wpList_load_row rfl _ _ rfl g9 rfl _ _ (0, 0) _ hg9 Tryd.underlying35 rfl rec_size ?_)
          | (go_at_call 76; (with_reducible refine (Ce2.out _ (HT.out.next HB) (he.next HB)).mono ?_); rintro e W10 ⟨gB, cB, rfl, oB, hb⟩; have hgr := grown_of_below hb; have do7oB := own_apart o7 oB (Nat.le_refl _); have doAoB := own_apart oA oB (Nat.le_refl _); replace oB := own_mono oB HB.size; replace hg1 := hg1.grown hgr (by simp); replace hg9 := hg9.grown hgr (by simp); replace o7 := o7.kept hgr (by cases Value.ownBlock _ <;> simp); replace oA := oA.kept hgr (by cases Value.ownBlock _ <;> simp); replace HB := HB.grown hgr (by have := HB.size; omega) (by simp); replace hcg1 := hg1.cell; replace hfg1 := hg1.frozen; replace hcg9 := hg9.cell; replace hfg9 := hg9.frozen; clear hb hgr; have pc := own_cap oB; have pd : bare.length ≤ cB := by omega)
          | (go_at_call 53; (with_reducible refine (num3_calls _ _).mono ?_); rintro e w1 ⟨rfl, rfl⟩)
          | (go_at_call 83; clear m2; (with_reducible refine (alike_true bare _ _ _ _ _ (own_prefix oB Y1.out) (own_rb oA) (by omega)).mono ?_); rintro e W11 ⟨rfl, hb⟩; have hgr := grown_of_below hb; replace hg1 := hg1.grown hgr (by simp); replace hg9 := hg9.grown hgr (by simp); replace o7 := o7.kept hgr (by cases Value.ownBlock _ <;> simp); replace oA := oA.kept hgr (by cases Value.ownBlock _ <;> simp); replace oB := oB.kept hgr (by cases Value.ownBlock _ <;> simp); replace HB := HB.grown hgr (by have := HB.size; omega) (by simp); replace hcg1 := hg1.cell; replace hfg1 := hg1.frozen; replace hcg9 := hg9.cell; replace hfg9 := hg9.frozen; clear hb hgr)
          | (go_at_call 83; (with_reducible refine (alike_eq data _ (by omega) _ _ _ _ _ (own_tail oB Hdrop.out p3) (he.next HB) hdl).mono ?_); rintro e WE ⟨rfl, hb⟩; replace HB := below_go HB hb; clear hb)
          | (go_at_call 83; (with_reducible refine (alike_eq data _ (by omega) _ _ _ _ _ (rb_zero (by omega)) (he.next HB) hdl).mono ?_); rintro e WE ⟨rfl, hb⟩; replace HB := below_go HB hb; clear hb))
        all_goals
          go_ret
          exact ⟨rfl, HB⟩
    exact key _ _ rfl rfl q23

theorem recordGrow_calls (r : Rec) (A B : Option Addr) (c d : Nat) (data : List UInt8) (hf : r.Fits) (hdl : data.length ≤ 140737488351232) (w : World) (hT : Tabs w) (hd : RB w A r.Data) (he : RB w B data) :
    Calls Tryd.prog 25 #[.agg (r.cells A c), .slice B data.length d] w fun e w' => e = .returned (.bool true) ∧ Below w.heap.size w w' := by
  by_cases hc : r.chk = 0
  · exact grow_good r A B c d data hf hdl w hT hd he hc
  · exact grow_bad r A B c d data hf w hT hd hc
end Go.Proofs.YtjhiohjpkdjkoaaDoor
