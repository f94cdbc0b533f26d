/-
  The walks of annalsref3.value and annalsref3.Encode, for every valid record.
-/
import Derived.Test.YtjhiohjpkdjkoaaDoorV1
import Derived.Test.YtjhiohjpkdjkoaaDoorW7
import Derived.Test.YtjhiohjpkdjkoaaDoorG3
set_option linter.unusedVariables false
set_option linter.unusedSimpArgs false
namespace Go.Proofs.YtjhiohjpkdjkoaaDoor
open Go.RowKit
attribute [local go_sem] Rec.size_ Rec.g0 Rec.g1 Rec.g2 Rec.g3 Rec.g4 Rec.g5 Rec.g6 Rec.g7 Rec.g8 Rec.g9 Rec.g10 Rec.g11 Rec.fold

set_option maxHeartbeats 2000000 in
set_option maxRecDepth 100000 in
theorem refValue_calls (r : Rec) (A : Option Addr) (c t : Nat) (h1t : 1 ≤ t) (hle : t ≤ 11) (hf : r.Fits) (hcd : -9223372036854775808 ≤ r.Code ∧ r.Code ≤ 9223372036854775807) (w : World) (hd : RB w A r.Data) :
    Calls Tryd.prog 106 #[.agg (r.cells A c), .int .i64 t] w fun e w' => ∃ A' c', e = .returned (.slice A' (r.valB t).length c') ∧ w'.ownsRow w.heap.size 5 1 (.slice A' (r.valB t).length c') (r.valB t).length (u8s (r.valB t)) ∧ Below w.heap.size w w' := by
  have HB := Below.refl w.heap.size w
  by_cases e7 : t = 7
  · have e1 : r.valB t = intL r.Code := by unfold Rec.valB; rw [if_pos e7]
    rw [e1]
    have t7 : ((t : Int) == 7) = true := by simp [e7]
    have cu := refInt_calls r.Code hcd.1 hcd.2
    generalize intL r.Code = vb at cu
    have Cu := Lib.hid cu
    clear cu e1 e7
    go_enter Tryd.func106, Tryd.ntmps106
    go_wp2_with (first
      | ((with_reducible refine gate_dst (N := 2) rfl ?_); refine ev_box rfl rfl (r.cells A c) rfl ?_; intro g1 W1 hg1 hsz hbn; have hgr := grown_of_below hbn; have zg1 : w.heap.size ≤ g1 := (by have := HB.size; omega); replace HB := HB.grown hgr (by have := HB.size; omega) (by simp); have hcg1 := hg1.cell; have hfg1 := hg1.frozen; clear hsz hbn hgr)
      | (go_at_call 120; (with_reducible refine (Cu.out _).mono ?_); rintro e W2 ⟨A8, c8, rfl, o8, hb⟩; have hgr := grown_of_below hb; replace o8 := own_mono o8 HB.size; replace hg1 := hg1.grown hgr (by simp); replace HB := HB.grown hgr (by have := HB.size; omega) (by simp); replace hcg1 := hg1.cell; replace hfg1 := hg1.frozen; clear hb hgr))
    go_ret
    exact ⟨A8, c8, rfl, o8, HB⟩
  have t7 : ((t : Int) == 7) = false := int_beq_false (by omega)
  by_cases e10 : t = 10
  · have e1 : r.valB t = bytesL r.Name.data.toList := by unfold Rec.valB; rw [if_neg e7, if_pos e10]
    rw [e1]
    have t10 : ((t : Int) == 10) = true := by simp [e10]
    have hnl : r.Name.data.toList.length ≤ 140737488351232 := hf.name
    have cu : ∀ (A : Option Addr) (c : Nat) (w : World), RB w A r.Name.data.toList → Calls Tryd.prog 121 #[.slice A r.Name.size c] w fun e w' => ∃ A' c', e = .returned (.slice A' (bytesL r.Name.data.toList).length c') ∧ w'.ownsRow w.heap.size 5 1 (.slice A' (bytesL r.Name.data.toList).length c') (bytesL r.Name.data.toList).length (u8s (bytesL r.Name.data.toList)) ∧ Below w.heap.size w w' := fun A c w h => refBytes_calls r.Name.data.toList A c hnl w h
    generalize bytesL r.Name.data.toList = vb at cu
    have Cu := Lib.hid cu
    clear cu e1 e7 e10
    go_enter Tryd.func106, Tryd.ntmps106
    go_wp2_with (first
      | ((with_reducible refine gate_dst (N := 2) rfl ?_); refine ev_box rfl rfl (r.cells A c) rfl ?_; intro g1 W1 hg1 hsz hbn; have hgr := grown_of_below hbn; have zg1 : w.heap.size ≤ g1 := (by have := HB.size; omega); replace HB := HB.grown hgr (by have := HB.size; omega) (by simp); have hcg1 := hg1.cell; have hfg1 := hg1.frozen; clear hsz hbn hgr)
      | ((with_reducible refine gate_dst (N := 16) rfl ?_); refine ev_bytes rfl rfl Tryd.underlying9 Tryd.underlying33 Tryd.underlying5 rfl ?_; intro AB cB W2 hd7 hb; have hgr := grown_of_below hb; replace hg1 := hg1.grown hgr (by simp); replace HB := HB.grown hgr (by have := HB.size; omega) (by simp); replace hcg1 := hg1.cell; replace hfg1 := hg1.frozen; clear hb hgr)
      | (go_at_call 121; (with_reducible refine (Cu.out _ _ _ hd7.rb).mono ?_); rintro e W3 ⟨A8, c8, rfl, o8, hb⟩; have hgr := grown_of_below hb; replace o8 := own_mono o8 HB.size; replace hd7 := hd7.kept hgr (by simp); replace hg1 := hg1.grown hgr (by simp); replace HB := HB.grown hgr (by have := HB.size; omega) (by simp); replace hcg1 := hg1.cell; replace hfg1 := hg1.frozen; clear hb hgr))
    go_ret
    exact ⟨A8, c8, rfl, o8, HB⟩
  have t10 : ((t : Int) == 10) = false := int_beq_false (by omega)
  by_cases e11 : t = 11
  · have e1 : r.valB t = bytesL r.Data := by unfold Rec.valB; rw [if_neg e7, if_neg e10, if_pos e11]
    rw [e1]
    have t11 : ((t : Int) == 11) = true := by simp [e11]
    have cu := fun w h => refBytes_calls r.Data A c hf.data w h
    generalize bytesL r.Data = vb at cu
    have Cu := Lib.hid cu
    clear cu e1 e7 e10 e11
    go_enter Tryd.func106, Tryd.ntmps106
    go_wp2_with (first
      | ((with_reducible refine gate_dst (N := 2) rfl ?_); refine ev_box rfl rfl (r.cells A c) rfl ?_; intro g1 W1 hg1 hsz hbn; have hgr := grown_of_below hbn; have zg1 : w.heap.size ≤ g1 := (by have := HB.size; omega); replace HB := HB.grown hgr (by have := HB.size; omega) (by simp); have hcg1 := hg1.cell; have hfg1 := hg1.frozen; clear hsz hbn hgr)
      | (go_at_call 121; (with_reducible refine (Cu.out _ (hd.next HB)).mono ?_); rintro e W2 ⟨A8, c8, rfl, o8, hb⟩; have hgr := grown_of_below hb; replace o8 := own_mono o8 HB.size; replace hg1 := hg1.grown hgr (by simp); replace HB := HB.grown hgr (by have := HB.size; omega) (by simp); replace hcg1 := hg1.cell; replace hfg1 := hg1.frozen; clear hb hgr))
    go_ret
    exact ⟨A8, c8, rfl, o8, HB⟩
  have t11 : ((t : Int) == 11) = false := int_beq_false (by omega)
  have e1 : r.valB t = uintL (IntKind.u64.wrap (r.num t)).toNat := by unfold Rec.valB; rw [if_neg e7, if_neg e10, if_neg e11]
  rw [e1]
  obtain ⟨w1, w2⟩ := wrap_range (r.num t)
  have cu := fun w => refUint_calls (IntKind.u64.wrap (r.num t)).toNat (by omega) w
  rw [Int.toNat_of_nonneg w1] at cu
  generalize uintL (IntKind.u64.wrap (r.num t)).toNat = vb at cu
  have Cu := Lib.hid cu
  have h9 : t ≤ 9 := by omega
  clear cu e1 e7 e10 e11
  go_enter Tryd.func106, Tryd.ntmps106
  go_wp2_with (first
    | ((with_reducible refine gate_dst (N := 2) rfl ?_); refine ev_box rfl rfl (r.cells A c) rfl ?_; intro g1 W1 hg1 hsz hbn; have hgr := grown_of_below hbn; have zg1 : w.heap.size ≤ g1 := (by have := HB.size; omega); replace HB := HB.grown hgr (by have := HB.size; omega) (by simp); have hcg1 := hg1.cell; have hfg1 := hg1.frozen; clear hsz hbn hgr)
    | ((with_reducible refine gate_dst (N := 23) rfl ?_); refine wpList_load_row rfl _ _ rfl g1 rfl _ _ (0, 0) _ hg1 Tryd.underlying35 rfl rec_size ?_)
    | (go_at_call 89; (with_reducible refine (refNumber_calls r A c t h1t h9 _).mono ?_); rintro e W2 ⟨rfl, hb⟩; have hgr := grown_of_below hb; replace hg1 := hg1.grown hgr (by simp); replace HB := HB.grown hgr (by have := HB.size; omega) (by simp); replace hcg1 := hg1.cell; replace hfg1 := hg1.frozen; clear hb hgr)
    | (go_at_call 122; (with_reducible refine (Cu.out _).mono ?_); rintro e W3 ⟨A8, c8, rfl, o8, hb⟩; have hgr := grown_of_below hb; replace o8 := own_mono o8 HB.size; replace hg1 := hg1.grown hgr (by simp); replace HB := HB.grown hgr (by have := HB.size; omega) (by simp); replace hcg1 := hg1.cell; replace hfg1 := hg1.frozen; clear hb hgr))
  go_ret
  exact ⟨A8, c8, rfl, o8, HB⟩

theorem refZeroAny_calls (r : Rec) (A : Option Addr) (c t : Nat) (h1 : 1 ≤ t) (h11 : t ≤ 11) (w : World) :
    Calls Tryd.prog 92 #[.agg (r.cells A c), .int .i64 t] w fun e w' => e = .returned (.bool (r.zeroAt t)) ∧ Below w.heap.size w w' := by
  by_cases h3 : 3 ≤ t
  · exact refZero_calls r A c t h3 h11 w
  obtain rfl | rfl : t = 1 ∨ t = 2 := by omega
  · have HB := Below.refl w.heap.size w
    have cn : ∀ w, Calls Tryd.prog 89 #[.agg (r.cells A c), .int .i64 1] w fun e w' => e = .returned (.int .i64 (r.num 1)) ∧ Below w.heap.size w w' := fun w => refNumber_calls r A c 1 (by omega) (by omega) w
    go_enter Tryd.func92, Tryd.ntmps92
    go_wp2_with (first
      | ((with_reducible refine gate_dst (N := 2) rfl ?_); refine ev_box rfl rfl (r.cells A c) rfl ?_; intro g1 W1 hg1 hsz hbn; have hgr := grown_of_below hbn; have zg1 : w.heap.size ≤ g1 := (by have := HB.size; omega); replace HB := HB.grown hgr (by have := HB.size; omega) (by simp); have hcg1 := hg1.cell; have hfg1 := hg1.frozen; clear hsz hbn hgr)
      | ((with_reducible refine gate_dst (N := 18) rfl ?_); refine wpList_load_row rfl _ _ rfl g1 rfl _ _ (0, 0) _ hg1 Tryd.underlying35 rfl rec_size ?_)
      | (go_at_call 89; (with_reducible refine (cn _).mono ?_); rintro e W2 ⟨rfl, hb⟩; have hgr := grown_of_below hb; replace hg1 := hg1.grown hgr (by simp); replace HB := HB.grown hgr (by have := HB.size; omega) (by simp); replace hcg1 := hg1.cell; replace hfg1 := hg1.frozen; clear hb hgr))
    go_ret
    exact ⟨rfl, HB⟩
  · have HB := Below.refl w.heap.size w
    have cn : ∀ w, Calls Tryd.prog 89 #[.agg (r.cells A c), .int .i64 2] w fun e w' => e = .returned (.int .i64 (r.num 2)) ∧ Below w.heap.size w w' := fun w => refNumber_calls r A c 2 (by omega) (by omega) w
    go_enter Tryd.func92, Tryd.ntmps92
    go_wp2_with (first
      | ((with_reducible refine gate_dst (N := 2) rfl ?_); refine ev_box rfl rfl (r.cells A c) rfl ?_; intro g1 W1 hg1 hsz hbn; have hgr := grown_of_below hbn; have zg1 : w.heap.size ≤ g1 := (by have := HB.size; omega); replace HB := HB.grown hgr (by have := HB.size; omega) (by simp); have hcg1 := hg1.cell; have hfg1 := hg1.frozen; clear hsz hbn hgr)
      | ((with_reducible refine gate_dst (N := 18) rfl ?_); refine wpList_load_row rfl _ _ rfl g1 rfl _ _ (0, 0) _ hg1 Tryd.underlying35 rfl rec_size ?_)
      | (go_at_call 89; (with_reducible refine (cn _).mono ?_); rintro e W2 ⟨rfl, hb⟩; have hgr := grown_of_below hb; replace hg1 := hg1.grown hgr (by simp); replace HB := HB.grown hgr (by have := HB.size; omega) (by simp); replace hcg1 := hg1.cell; replace hfg1 := hg1.frozen; clear hb hgr))
    go_ret
    exact ⟨rfl, HB⟩

set_option maxHeartbeats 4000000 in
set_option maxRecDepth 100000 in
theorem refEncode_calls (r : Rec) (A : Option Addr) (c : Nat) (hf : r.Fits) (hcd : -9223372036854775808 ≤ r.Code ∧ r.Code ≤ 9223372036854775807) (w : World) (hT : RTabs w) (hd : RB w A r.Data) (hc : r.chk = 0) :
    Calls Tryd.prog 78 #[.agg (r.cells A c)] w fun e w' => ∃ A' c', e = .returned (.tuple #[.slice A' r.enc.length c', .int .i64 0]) ∧ w'.ownsRow w.heap.size 5 1 (.slice A' r.enc.length c') r.enc.length (u8s r.enc) ∧ Below w.heap.size w w' := by
  have HB := Below.refl w.heap.size w
  have HT := Lib.hid hT
  have hsm := valid_small hc
  have cc := fun w => ref_check_of r 0 hc A c (valid_name hc) w
  have Cc := Lib.hid cc
  have Hsm := Lib.hid hsm
  clear hT cc hsm hc
  go_enter Tryd.func78, Tryd.ntmps78
  go_wp2_with (first
    | ((with_reducible refine gate_dst (N := 1) rfl ?_); refine ev_box rfl rfl (r.cells A c) rfl ?_; intro g1 W1 hg1 hsz hbn; have hgr := grown_of_below hbn; have zg1 : w.heap.size ≤ g1 := (by have := HB.size; omega); replace HB := HB.grown hgr (by have := HB.size; omega) (by simp); have hcg1 := hg1.cell; have hfg1 := hg1.frozen; clear hsz hbn hgr)
    | ((with_reducible refine gate_dst (N := 9) rfl ?_); refine wpList_load_row rfl _ _ rfl g1 rfl _ _ (0, 0) _ hg1 Tryd.underlying35 rfl rec_size ?_)
    | (go_at_call 49; (with_reducible refine (Cc.out _ (HT.out.next HB) (hd.next HB)).mono ?_); rintro e W2 ⟨rfl, hb⟩; have hgr := grown_of_below hb; replace hg1 := hg1.grown hgr (by simp); replace HB := HB.grown hgr (by have := HB.size; omega) (by simp); replace hcg1 := hg1.cell; replace hfg1 := hg1.frozen; clear hb hgr))
  go_loopg [5, 6] 11 (fun n v5 v6 wr => ∃ (t : Nat) (A5 : Option Addr) (c5 : Nat) (acc : List UInt8), n + t = 12 ∧ 1 ≤ t ∧ v6 = .int .i64 t ∧ v5 = .slice A5 acc.length c5 ∧ Aside (acc = r.encTo (t - 1) ∧ Blk wr g1 _ (r.cells A c) ∧ wr.ownsRow w.heap.size 5 1 (.slice A5 acc.length c5) acc.length (u8s acc) ∧ Below w.heap.size w wr))
  case atStart => exact ⟨1, none, 0, [], by omega, by omega, rfl, rfl, ⟨rfl, hg1, own_nil _ _ _ _, HB⟩⟩
  case round =>
    clear hg1 hcg1 hfg1 HB
    obtain ⟨t, A5, c5, acc, hn, h1t, rfl, rfl, HA⟩ := hrel
    obtain ⟨hacc, hg1, oA, HB⟩ := HA.out
    clear HA
    have hcg1 := hg1.cell
    have hfg1 := hg1.frozen
    by_cases hle : t ≤ 11
    · have hlen : acc.length ≤ 182600 := by rw [hacc]; have := encTo_short Hsm.out (t - 1) (by omega); omega
      have hbl := tagB_short Hsm.out t hle
      have hnext : r.encTo t = acc ++ r.tagB t := by
        obtain ⟨j, rfl⟩ : ∃ j, t = j + 1 := ⟨t - 1, by omega⟩
        rw [hacc]
        rfl
      have cz := refZeroAny_calls r A c t h1t hle
      clear hacc
      cases hz : r.zeroAt t
      · have e0 : r.tagB t = uintL t ++ r.valB t := by unfold Rec.tagB; rw [hz]; rfl
        rw [e0, uintL_last (by omega)] at hnext hbl
        rw [List.length_append] at hbl
        rw [hz] at cz
        have cv := fun w => refValue_calls r A c t h1t hle hf hcd w
        have tw : (t : Int) % 256 = t := by omega
        generalize r.valB t = vb at hnext hbl cv
        have Hnext := Lib.hid hnext
        have Cz := Lib.hid cz
        have Cv := Lib.hid cv
        have hbl2 : vb.length ≤ 16600 := by omega
        clear hnext cz cv e0 hbl
        go_wp2_with (first
          | ((with_reducible refine gate_dst (N := 18) rfl ?_); refine wpList_load_row rfl _ _ rfl g1 rfl _ _ (0, 0) _ hg1 Tryd.underlying35 rfl rec_size ?_)
          | (go_at_call 92; (with_reducible refine (Cz.out _).mono ?_); rintro e W1 ⟨rfl, hb⟩; have hgr := grown_of_below hb; replace hg1 := hg1.grown hgr (by simp); replace oA := oA.kept hgr (by cases Value.ownBlock _ <;> simp); replace HB := HB.grown hgr (by have := HB.size; omega) (by simp); replace hcg1 := hg1.cell; replace hfg1 := hg1.frozen; clear hb hgr)
          | ((with_reducible refine gate_dst (N := 26) rfl ?_); refine ev_lit rfl rfl (#[.int .u8 t]) 5 1 (by first | (go_simp; done) | (go_simp; rfl)) ?_; intro g2 W2 hg2 hsz hbn; have hgr := grown_of_below hbn; have ng1g2 : g1 ≠ g2 := (by have := hg1.lt; omega); have zg2 : w.heap.size ≤ g2 := (by have := HB.size; omega); replace hg1 := hg1.grown hgr (by simp); replace oA := oA.kept hgr (by cases Value.ownBlock _ <;> simp); replace HB := HB.grown hgr (by have := HB.size; omega) (by simp); have hcg2 := hg2.cell; have hfg2 := hg2.frozen; replace hcg1 := hg1.cell; replace hfg1 := hg1.frozen; clear hsz hbn hgr)
          | ((with_reducible refine gate_dst (N := 27) rfl ?_); refine ev_append rfl rfl Tryd.underlying33 info_u8 rfl (by omega) rfl oA rfl (hg2.reads (size := 1) (n := 1) rfl) (fun u hu => by simp at hu; subst hu; rfl) (by omega) (by omega) (by have := HB.size; omega) ?_; intro A7 c7 W3 on hgr hat; replace hg1 := hg1.grown hgr (fun e => own_blk_ne oA hg1 (by decide) e.symm); replace HB := HB.grown hgr (by have := HB.size; omega) (own_base oA); replace oA := on; replace hcg1 := hg1.cell; replace hfg1 := hg1.frozen; clear on hgr hat)
          | ((with_reducible refine gate_dst (N := 28) rfl ?_); refine wpList_load_row rfl _ _ rfl g1 rfl _ _ (0, 0) _ hg1 Tryd.underlying35 rfl rec_size ?_)
          | (go_at_call 106; (with_reducible refine (Cv.out _ (hd.next HB)).mono ?_); rintro e W4 ⟨A8, c8, rfl, o8, hb⟩; have hgr := grown_of_below hb; have doAo8 := own_apart oA o8 (Nat.le_refl _); replace o8 := own_mono o8 HB.size; replace hg1 := hg1.grown hgr (by simp); replace oA := oA.kept hgr (by cases Value.ownBlock _ <;> simp); replace HB := HB.grown hgr (by have := HB.size; omega) (by simp); replace hcg1 := hg1.cell; replace hfg1 := hg1.frozen; clear hb hgr)
          | ((with_reducible refine gate_dst (N := 33) rfl ?_); refine ev_append rfl rfl Tryd.underlying33 info_u8 rfl (by omega) rfl oA rfl (Reads.of_own o8) u8s_one (by omega) (by omega) (by have := HB.size; omega) ?_; intro A9 c9 W5 on hgr hat; replace hg1 := hg1.grown hgr (fun e => own_blk_ne oA hg1 (by decide) e.symm); replace HB := HB.grown hgr (by have := HB.size; omega) (own_base oA); replace oA := on; replace hcg1 := hg1.cell; replace hfg1 := hg1.frozen; clear on hgr hat))
        go_roundg (gk - 1)
        case measure => omega
        case rel =>
          have hl2 : (r.encTo t).length = acc.length + 1 + vb.length := by rw [Hnext.out]; simp; omega
          have hu2 : u8s (r.encTo t) = u8s acc ++ [.int .u8 (t : Int)] ++ u8s vb := by rw [Hnext.out, u8s_append, u8s_append, u8_one t (by omega), List.append_assoc]
          exact ⟨t + 1, A9, c9, r.encTo t, by omega, by omega, by go_num, by rw [hl2], ⟨rfl, hg1, by rw [hl2, hu2]; exact oA, HB⟩⟩
      · have e0 : r.tagB t = [] := by unfold Rec.tagB; rw [hz]; rfl
        rw [e0, List.append_nil] at hnext
        rw [hz] at cz
        have Hnext := Lib.hid hnext
        have Cz := Lib.hid cz
        clear hnext e0 cz
        go_wp2_with (first
          | ((with_reducible refine gate_dst (N := 18) rfl ?_); refine wpList_load_row rfl _ _ rfl g1 rfl _ _ (0, 0) _ hg1 Tryd.underlying35 rfl rec_size ?_)
          | (go_at_call 92; (with_reducible refine (Cz.out _).mono ?_); rintro e W1 ⟨rfl, hb⟩; have hgr := grown_of_below hb; replace hg1 := hg1.grown hgr (by simp); replace oA := oA.kept hgr (by cases Value.ownBlock _ <;> simp); replace HB := HB.grown hgr (by have := HB.size; omega) (by simp); replace hcg1 := hg1.cell; replace hfg1 := hg1.frozen; clear hb hgr))
        go_roundg (gk - 1)
        case measure => omega
        case rel => exact ⟨t + 1, A5, c5, acc, by omega, by omega, by go_num, rfl, ⟨Hnext.out.symm, hg1, oA, HB⟩⟩
    · obtain rfl : t = 12 := by omega
      obtain rfl : acc = r.enc := hacc
      go_wp2
      go_ret2
      exact ⟨A5, c5, rfl, oA, HB⟩
end Go.Proofs.YtjhiohjpkdjkoaaDoor
