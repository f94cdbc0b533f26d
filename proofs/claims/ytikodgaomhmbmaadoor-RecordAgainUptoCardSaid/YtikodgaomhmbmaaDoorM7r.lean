/-
  annalsref3's Encode and Decode, walked.
-/
import Derived.Test.YtikodgaomhmbmaaDoorM5r
import Derived.Test.YtikodgaomhmbmaaDoorMWbr
import Derived.Test.YtikodgaomhmbmaaDoorG3
import Derived.Test.YtikodgaomhmbmaaDoorM6r
set_option linter.unusedVariables false
set_option linter.unusedSimpArgs false
namespace Go.Proofs.YtikodgaomhmbmaaDoor
open Go.RowKit
attribute [local go_sem] Rec.size_ Rec.g0 Rec.g1 Rec.g2 Rec.g3 Rec.g4 Rec.g5 Rec.g6 Rec.g7 Rec.g8 Rec.g9 Rec.g10 Rec.g11 Rec.fold

set_option maxHeartbeats 2000000 in
set_option maxRecDepth 100000 in
theorem refValue_calls (r : Rec) (A : Option Addr) (c t : Nat) (h1t : 1 ≤ t) (hle : t ≤ 11) (hf : r.Fits) (hcd : -9223372036854775808 ≤ r.Code ∧ r.Code ≤ 9223372036854775807) (w : World) (hd : RB w A r.Data) :
    Calls Tryd.prog 77 #[.agg (r.cells A c), .int .i64 t] w fun e w' => ∃ A' c', e = .returned (.slice A' (r.valB t).length c') ∧ w'.ownsRow w.heap.size 5 1 (.slice A' (r.valB t).length c') (r.valB t).length (u8s (r.valB t)) ∧ Below w.heap.size w w' := by
  have HB := Below.refl w.heap.size w
  by_cases e7 : t = 7
  · have e1 : r.valB t = intL r.Code := by unfold Rec.valB; rw [if_pos e7]
    rw [e1]
    have t7 : ((t : Int) == 7) = true := by simp [e7]
    have cu := refInt_calls r.Code hcd.1 hcd.2
    generalize intL r.Code = vb at cu
    have Cu := Lib.hid cu
    clear cu e1 e7
    go_enter Tryd.func77, Tryd.ntmps77
    go_wp2_with (first
      | ((with_reducible refine gate_dst (N := 2) rfl ?_); refine ev_box rfl rfl (r.cells A c) rfl ?_; intro g1 W1 hg1 hsz hbn; have hgr := grown_of_below hbn; have zg1 : w.heap.size ≤ g1 := (by have := HB.size; omega); replace HB := HB.grown hgr (by have := HB.size; omega) (by simp); have hcg1 := hg1.cell; have hfg1 := hg1.frozen; clear hsz hbn hgr)
      | (go_at_call 88; (with_reducible refine (Cu.out _).mono ?_); rintro e W2 ⟨A8, c8, rfl, o8, hb⟩; have hgr := grown_of_below hb; replace o8 := own_mono o8 HB.size; replace hg1 := hg1.grown hgr (by simp); replace HB := HB.grown hgr (by have := HB.size; omega) (by simp); replace hcg1 := hg1.cell; replace hfg1 := hg1.frozen; clear hb hgr))
    go_ret
    exact ⟨A8, c8, rfl, o8, HB⟩
  have t7 : ((t : Int) == 7) = false := int_beq_false (by omega)
  by_cases e10 : t = 10
  · have e1 : r.valB t = bytesL r.Name.data.toList := by unfold Rec.valB; rw [if_neg e7, if_pos e10]
    rw [e1]
    have t10 : ((t : Int) == 10) = true := by simp [e10]
    have hnl : r.Name.data.toList.length ≤ 140737488351232 := hf.name
    have cu : ∀ (A : Option Addr) (c : Nat) (w : World), RB w A r.Name.data.toList → Calls Tryd.prog 89 #[.slice A r.Name.size c] w fun e w' => ∃ A' c', e = .returned (.slice A' (bytesL r.Name.data.toList).length c') ∧ w'.ownsRow w.heap.size 5 1 (.slice A' (bytesL r.Name.data.toList).length c') (bytesL r.Name.data.toList).length (u8s (bytesL r.Name.data.toList)) ∧ Below w.heap.size w w' := fun A c w h => refBytes_calls r.Name.data.toList A c hnl w h
    generalize bytesL r.Name.data.toList = vb at cu
    have Cu := Lib.hid cu
    clear cu e1 e7 e10
    go_enter Tryd.func77, Tryd.ntmps77
    go_wp2_with (first
      | ((with_reducible refine gate_dst (N := 2) rfl ?_); refine ev_box rfl rfl (r.cells A c) rfl ?_; intro g1 W1 hg1 hsz hbn; have hgr := grown_of_below hbn; have zg1 : w.heap.size ≤ g1 := (by have := HB.size; omega); replace HB := HB.grown hgr (by have := HB.size; omega) (by simp); have hcg1 := hg1.cell; have hfg1 := hg1.frozen; clear hsz hbn hgr)
      | ((with_reducible refine gate_dst (N := 16) rfl ?_); refine ev_bytes rfl rfl Tryd.underlying9 Tryd.underlying25 Tryd.underlying5 rfl ?_; intro AB cB W2 hd7 hb; have hgr := grown_of_below hb; replace hg1 := hg1.grown hgr (by simp); replace HB := HB.grown hgr (by have := HB.size; omega) (by simp); replace hcg1 := hg1.cell; replace hfg1 := hg1.frozen; clear hb hgr)
      | (go_at_call 89; (with_reducible refine (Cu.out _ _ _ hd7.rb).mono ?_); rintro e W3 ⟨A8, c8, rfl, o8, hb⟩; have hgr := grown_of_below hb; replace o8 := own_mono o8 HB.size; replace hd7 := hd7.kept hgr (by simp); replace hg1 := hg1.grown hgr (by simp); replace HB := HB.grown hgr (by have := HB.size; omega) (by simp); replace hcg1 := hg1.cell; replace hfg1 := hg1.frozen; clear hb hgr))
    go_ret
    exact ⟨A8, c8, rfl, o8, HB⟩
  have t10 : ((t : Int) == 10) = false := int_beq_false (by omega)
  by_cases e11 : t = 11
  · have e1 : r.valB t = bytesL r.Data := by unfold Rec.valB; rw [if_neg e7, if_neg e10, if_pos e11]
    rw [e1]
    have t11 : ((t : Int) == 11) = true := by simp [e11]
    have cu := fun w h => refBytes_calls r.Data A c hf.data w h
    generalize bytesL r.Data = vb at cu
    have Cu := Lib.hid cu
    clear cu e1 e7 e10 e11
    go_enter Tryd.func77, Tryd.ntmps77
    go_wp2_with (first
      | ((with_reducible refine gate_dst (N := 2) rfl ?_); refine ev_box rfl rfl (r.cells A c) rfl ?_; intro g1 W1 hg1 hsz hbn; have hgr := grown_of_below hbn; have zg1 : w.heap.size ≤ g1 := (by have := HB.size; omega); replace HB := HB.grown hgr (by have := HB.size; omega) (by simp); have hcg1 := hg1.cell; have hfg1 := hg1.frozen; clear hsz hbn hgr)
      | (go_at_call 89; (with_reducible refine (Cu.out _ (hd.next HB)).mono ?_); rintro e W2 ⟨A8, c8, rfl, o8, hb⟩; have hgr := grown_of_below hb; replace o8 := own_mono o8 HB.size; replace hg1 := hg1.grown hgr (by simp); replace HB := HB.grown hgr (by have := HB.size; omega) (by simp); replace hcg1 := hg1.cell; replace hfg1 := hg1.frozen; clear hb hgr))
    go_ret
    exact ⟨A8, c8, rfl, o8, HB⟩
  have t11 : ((t : Int) == 11) = false := int_beq_false (by omega)
  have e1 : r.valB t = uintL (IntKind.u64.wrap (r.num t)).toNat := by unfold Rec.valB; rw [if_neg e7, if_neg e10, if_neg e11]
  rw [e1]
  obtain ⟨w1, w2⟩ := wrap_range (r.num t)
  have cu := fun w => refUint_calls (IntKind.u64.wrap (r.num t)).toNat (by omega) w
  rw [Int.toNat_of_nonneg w1] at cu
  generalize uintL (IntKind.u64.wrap (r.num t)).toNat = vb at cu
  have Cu := Lib.hid cu
  have h9 : t ≤ 9 := by omega
  clear cu e1 e7 e10 e11
  go_enter Tryd.func77, Tryd.ntmps77
  go_wp2_with (first
    | ((with_reducible refine gate_dst (N := 2) rfl ?_); refine ev_box rfl rfl (r.cells A c) rfl ?_; intro g1 W1 hg1 hsz hbn; have hgr := grown_of_below hbn; have zg1 : w.heap.size ≤ g1 := (by have := HB.size; omega); replace HB := HB.grown hgr (by have := HB.size; omega) (by simp); have hcg1 := hg1.cell; have hfg1 := hg1.frozen; clear hsz hbn hgr)
    | ((with_reducible refine gate_dst (N := 23) rfl ?_); refine wpList_load_row rfl _ _ rfl g1 rfl _ _ (0, 0) _ hg1 Tryd.underlying27 rfl rec_size ?_)
    | (go_at_call 67; (with_reducible refine (refNumber_calls r A c t h1t h9 _).mono ?_); rintro e W2 ⟨rfl, hb⟩; have hgr := grown_of_below hb; replace hg1 := hg1.grown hgr (by simp); replace HB := HB.grown hgr (by have := HB.size; omega) (by simp); replace hcg1 := hg1.cell; replace hfg1 := hg1.frozen; clear hb hgr)
    | (go_at_call 90; (with_reducible refine (Cu.out _).mono ?_); rintro e W3 ⟨A8, c8, rfl, o8, hb⟩; have hgr := grown_of_below hb; replace o8 := own_mono o8 HB.size; replace hg1 := hg1.grown hgr (by simp); replace HB := HB.grown hgr (by have := HB.size; omega) (by simp); replace hcg1 := hg1.cell; replace hfg1 := hg1.frozen; clear hb hgr))
  go_ret
  exact ⟨A8, c8, rfl, o8, HB⟩

theorem refZeroAny_calls (r : Rec) (A : Option Addr) (c t : Nat) (h1 : 1 ≤ t) (h11 : t ≤ 11) (w : World) :
    Calls Tryd.prog 76 #[.agg (r.cells A c), .int .i64 t] w fun e w' => e = .returned (.bool (r.zeroAt t)) ∧ Below w.heap.size w w' := by
  by_cases h3 : 3 ≤ t
  · exact refZero_calls r A c t h3 h11 w
  obtain rfl | rfl : t = 1 ∨ t = 2 := by omega
  · have HB := Below.refl w.heap.size w
    have cn : ∀ w, Calls Tryd.prog 67 #[.agg (r.cells A c), .int .i64 1] w fun e w' => e = .returned (.int .i64 (r.num 1)) ∧ Below w.heap.size w w' := fun w => refNumber_calls r A c 1 (by omega) (by omega) w
    go_enter Tryd.func76, Tryd.ntmps76
    go_wp2_with (first
      | ((with_reducible refine gate_dst (N := 2) rfl ?_); refine ev_box rfl rfl (r.cells A c) rfl ?_; intro g1 W1 hg1 hsz hbn; have hgr := grown_of_below hbn; have zg1 : w.heap.size ≤ g1 := (by have := HB.size; omega); replace HB := HB.grown hgr (by have := HB.size; omega) (by simp); have hcg1 := hg1.cell; have hfg1 := hg1.frozen; clear hsz hbn hgr)
      | ((with_reducible refine gate_dst (N := 18) rfl ?_); refine wpList_load_row rfl _ _ rfl g1 rfl _ _ (0, 0) _ hg1 Tryd.underlying27 rfl rec_size ?_)
      | (go_at_call 67; (with_reducible refine (cn _).mono ?_); rintro e W2 ⟨rfl, hb⟩; have hgr := grown_of_below hb; replace hg1 := hg1.grown hgr (by simp); replace HB := HB.grown hgr (by have := HB.size; omega) (by simp); replace hcg1 := hg1.cell; replace hfg1 := hg1.frozen; clear hb hgr))
    go_ret
    exact ⟨rfl, HB⟩
  · have HB := Below.refl w.heap.size w
    have cn : ∀ w, Calls Tryd.prog 67 #[.agg (r.cells A c), .int .i64 2] w fun e w' => e = .returned (.int .i64 (r.num 2)) ∧ Below w.heap.size w w' := fun w => refNumber_calls r A c 2 (by omega) (by omega) w
    go_enter Tryd.func76, Tryd.ntmps76
    go_wp2_with (first
      | ((with_reducible refine gate_dst (N := 2) rfl ?_); refine ev_box rfl rfl (r.cells A c) rfl ?_; intro g1 W1 hg1 hsz hbn; have hgr := grown_of_below hbn; have zg1 : w.heap.size ≤ g1 := (by have := HB.size; omega); replace HB := HB.grown hgr (by have := HB.size; omega) (by simp); have hcg1 := hg1.cell; have hfg1 := hg1.frozen; clear hsz hbn hgr)
      | ((with_reducible refine gate_dst (N := 18) rfl ?_); refine wpList_load_row rfl _ _ rfl g1 rfl _ _ (0, 0) _ hg1 Tryd.underlying27 rfl rec_size ?_)
      | (go_at_call 67; (with_reducible refine (cn _).mono ?_); rintro e W2 ⟨rfl, hb⟩; have hgr := grown_of_below hb; replace hg1 := hg1.grown hgr (by simp); replace HB := HB.grown hgr (by have := HB.size; omega) (by simp); replace hcg1 := hg1.cell; replace hfg1 := hg1.frozen; clear hb hgr))
    go_ret
    exact ⟨rfl, HB⟩

set_option maxHeartbeats 4000000 in
set_option maxRecDepth 100000 in
theorem refEncode_calls (r : Rec) (A : Option Addr) (c : Nat) (hf : r.Fits) (hcd : -9223372036854775808 ≤ r.Code ∧ r.Code ≤ 9223372036854775807) (w : World) (hT : RTabs w) (hd : RB w A r.Data) (hc : r.chk = 0) :
    Calls Tryd.prog 50 #[.agg (r.cells A c)] w fun e w' => ∃ A' c', e = .returned (.tuple #[.slice A' r.enc.length c', .int .i64 0]) ∧ w'.ownsRow w.heap.size 5 1 (.slice A' r.enc.length c') r.enc.length (u8s r.enc) ∧ Below w.heap.size w w' := by
  have HB := Below.refl w.heap.size w
  have HT := Lib.hid hT
  have hsm := valid_small hc
  have cc := fun w => ref_check_of r 0 hc A c (valid_name hc) w
  have Cc := Lib.hid cc
  have Hsm := Lib.hid hsm
  clear hT cc hsm hc
  go_enter Tryd.func50, Tryd.ntmps50
  go_wp2_with (first
    | ((with_reducible refine gate_dst (N := 1) rfl ?_); refine ev_box rfl rfl (r.cells A c) rfl ?_; intro g1 W1 hg1 hsz hbn; have hgr := grown_of_below hbn; have zg1 : w.heap.size ≤ g1 := (by have := HB.size; omega); replace HB := HB.grown hgr (by have := HB.size; omega) (by simp); have hcg1 := hg1.cell; have hfg1 := hg1.frozen; clear hsz hbn hgr)
    | ((with_reducible refine gate_dst (N := 9) rfl ?_); refine wpList_load_row rfl _ _ rfl g1 rfl _ _ (0, 0) _ hg1 Tryd.underlying27 rfl rec_size ?_)
    | (go_at_call 55; (with_reducible refine (Cc.out _ (HT.out.next HB) (hd.next HB)).mono ?_); rintro e W2 ⟨rfl, hb⟩; have hgr := grown_of_below hb; replace hg1 := hg1.grown hgr (by simp); replace HB := HB.grown hgr (by have := HB.size; omega) (by simp); replace hcg1 := hg1.cell; replace hfg1 := hg1.frozen; clear hb hgr))
  go_loopg [5, 6] 11 (fun n v5 v6 wr => ∃ (t : Nat) (A5 : Option Addr) (c5 : Nat) (acc : List UInt8), n + t = 12 ∧ 1 ≤ t ∧ v6 = .int .i64 t ∧ v5 = .slice A5 acc.length c5 ∧ Aside (acc = r.encTo (t - 1) ∧ Blk wr g1 _ (r.cells A c) ∧ wr.ownsRow w.heap.size 5 1 (.slice A5 acc.length c5) acc.length (u8s acc) ∧ Below w.heap.size w wr))
  case atStart => exact ⟨1, none, 0, [], by omega, by omega, rfl, rfl, ⟨rfl, hg1, own_nil _ _ _ _, HB⟩⟩
  case round =>
    clear hg1 hcg1 hfg1 HB
    obtain ⟨t, A5, c5, acc, hn, h1t, rfl, rfl, HA⟩ := hrel
    obtain ⟨hacc, hg1, oA, HB⟩ := HA.out
    clear HA
    have hcg1 := hg1.cell
    have hfg1 := hg1.frozen
    by_cases hle : t ≤ 11
    · have hlen : acc.length ≤ 182600 := by rw [hacc]; have := encTo_short Hsm.out (t - 1) (by omega); omega
      have hbl := tagB_short Hsm.out t hle
      have hnext : r.encTo t = acc ++ r.tagB t := by
        obtain ⟨j, rfl⟩ : ∃ j, t = j + 1 := ⟨t - 1, by omega⟩
        rw [hacc]
        rfl
      have cz := refZeroAny_calls r A c t h1t hle
      clear hacc
      cases hz : r.zeroAt t
      · have e0 : r.tagB t = uintL t ++ r.valB t := by unfold Rec.tagB; rw [hz]; rfl
        rw [e0, uintL_last (by omega)] at hnext hbl
        rw [List.length_append] at hbl
        rw [hz] at cz
        have cv := fun w => refValue_calls r A c t h1t hle hf hcd w
        have tw : (t : Int) % 256 = t := by omega
        generalize r.valB t = vb at hnext hbl cv
        have Hnext := Lib.hid hnext
        have Cz := Lib.hid cz
        have Cv := Lib.hid cv
        have hbl2 : vb.length ≤ 16600 := by omega
        clear hnext cz cv e0 hbl
        go_wp2_with (first
          | ((with_reducible refine gate_dst (N := 18) rfl ?_); refine wpList_load_row rfl _ _ rfl g1 rfl _ _ (0, 0) _ hg1 Tryd.underlying27 rfl rec_size ?_)
          | (go_at_call 76; (with_reducible refine (Cz.out _).mono ?_); rintro e W1 ⟨rfl, hb⟩; have hgr := grown_of_below hb; replace hg1 := hg1.grown hgr (by simp); replace oA := oA.kept hgr (by cases Value.ownBlock _ <;> simp); replace HB := HB.grown hgr (by have := HB.size; omega) (by simp); replace hcg1 := hg1.cell; replace hfg1 := hg1.frozen; clear hb hgr)
          | ((with_reducible refine gate_dst (N := 26) rfl ?_); refine ev_lit rfl rfl (#[.int .u8 t]) 5 1 (by first | (go_simp; done) | (go_simp; rfl)) ?_; intro g2 W2 hg2 hsz hbn; have hgr := grown_of_below hbn; have ng1g2 : g1 ≠ g2 := (by have := hg1.lt; omega); have zg2 : w.heap.size ≤ g2 := (by have := HB.size; omega); replace hg1 := hg1.grown hgr (by simp); replace oA := oA.kept hgr (by cases Value.ownBlock _ <;> simp); replace HB := HB.grown hgr (by have := HB.size; omega) (by simp); have hcg2 := hg2.cell; have hfg2 := hg2.frozen; replace hcg1 := hg1.cell; replace hfg1 := hg1.frozen; clear hsz hbn hgr)
          | ((with_reducible refine gate_dst (N := 27) rfl ?_); refine ev_append rfl rfl Tryd.underlying25 info_u8 rfl (by omega) rfl oA rfl (hg2.reads (size := 1) (n := 1) rfl) (fun u hu => by simp at hu; subst hu; rfl) (by omega) (by omega) (by have := HB.size; omega) ?_; intro A7 c7 W3 on hgr hat; replace hg1 := hg1.grown hgr (fun e => own_blk_ne oA hg1 (by decide) e.symm); replace HB := HB.grown hgr (by have := HB.size; omega) (own_base oA); replace oA := on; replace hcg1 := hg1.cell; replace hfg1 := hg1.frozen; clear on hgr hat)
          | ((with_reducible refine gate_dst (N := 28) rfl ?_); refine wpList_load_row rfl _ _ rfl g1 rfl _ _ (0, 0) _ hg1 Tryd.underlying27 rfl rec_size ?_)
          | (go_at_call 77; (with_reducible refine (Cv.out _ (hd.next HB)).mono ?_); rintro e W4 ⟨A8, c8, rfl, o8, hb⟩; have hgr := grown_of_below hb; have doAo8 := own_apart oA o8 (Nat.le_refl _); replace o8 := own_mono o8 HB.size; replace hg1 := hg1.grown hgr (by simp); replace oA := oA.kept hgr (by cases Value.ownBlock _ <;> simp); replace HB := HB.grown hgr (by have := HB.size; omega) (by simp); replace hcg1 := hg1.cell; replace hfg1 := hg1.frozen; clear hb hgr)
          | ((with_reducible refine gate_dst (N := 33) rfl ?_); refine ev_append rfl rfl Tryd.underlying25 info_u8 rfl (by omega) rfl oA rfl (Reads.of_own o8) u8s_one (by omega) (by omega) (by have := HB.size; omega) ?_; intro A9 c9 W5 on hgr hat; replace hg1 := hg1.grown hgr (fun e => own_blk_ne oA hg1 (by decide) e.symm); replace HB := HB.grown hgr (by have := HB.size; omega) (own_base oA); replace oA := on; replace hcg1 := hg1.cell; replace hfg1 := hg1.frozen; clear on hgr hat))
        go_roundg (gk - 1)
        case measure => omega
        case rel =>
          have hl2 : (r.encTo t).length = acc.length + 1 + vb.length := by rw [Hnext.out]; simp; omega
          have hu2 : u8s (r.encTo t) = u8s acc ++ [.int .u8 (t : Int)] ++ u8s vb := by rw [Hnext.out, u8s_append, u8s_append, u8_one t (by omega), List.append_assoc]
          exact ⟨t + 1, A9, c9, r.encTo t, by omega, by omega, by go_num, by rw [hl2], ⟨rfl, hg1, by rw [hl2, hu2]; exact oA, HB⟩⟩
      · have e0 : r.tagB t = [] := by unfold Rec.tagB; rw [hz]; rfl
        rw [e0, List.append_nil] at hnext
        rw [hz] at cz
        have Hnext := Lib.hid hnext
        have Cz := Lib.hid cz
        clear hnext e0 cz
        go_wp2_with (first
          | ((with_reducible refine gate_dst (N := 18) rfl ?_); refine wpList_load_row rfl _ _ rfl g1 rfl _ _ (0, 0) _ hg1 Tryd.underlying27 rfl rec_size ?_)
          | (go_at_call 76; (with_reducible refine (Cz.out _).mono ?_); rintro e W1 ⟨rfl, hb⟩; have hgr := grown_of_below hb; replace hg1 := hg1.grown hgr (by simp); replace oA := oA.kept hgr (by cases Value.ownBlock _ <;> simp); replace HB := HB.grown hgr (by have := HB.size; omega) (by simp); replace hcg1 := hg1.cell; replace hfg1 := hg1.frozen; clear hb hgr))
        go_roundg (gk - 1)
        case measure => omega
        case rel => exact ⟨t + 1, A5, c5, acc, by omega, by omega, by go_num, rfl, ⟨Hnext.out.symm, hg1, oA, HB⟩⟩
    · obtain rfl : t = 12 := by omega
      obtain rfl : acc = r.enc := hacc
      go_wp2
      go_ret2
      exact ⟨A5, c5, rfl, oA, HB⟩
end Go.Proofs.YtikodgaomhmbmaaDoor
namespace Go.Proofs.YtikodgaomhmbmaaDoor
open Go.RowKit

/-- How many bytes from the first on go on, n at most. -/
def cnt : Nat → List UInt8 → Nat
  | 0, _ => 0
  | _ + 1, [] => 0
  | f + 1, b :: r => if 128 ≤ b.toNat then cnt f r + 1 else 0
/-- The number of the first n bytes. -/
def hval : Nat → List UInt8 → Nat
  | 0, _ => 0
  | _ + 1, [] => 0
  | n + 1, b :: r => b.toNat % 128 + 128 * hval n r
theorem readL_cnt : ∀ (f i v : Nat) (s : List UInt8), i + f = 9 → readL i v s = if cnt f s = s.length then (0, 0, 10) else if i + cnt f s = 9 ∧ 1 < (s.getD (cnt f s) 0).toNat then (0, 0, 12)
    else if (s.getD (cnt f s) 0).toNat = 0 ∧ 0 < i + cnt f s then (0, 0, 11) else (v + hval (cnt f s + 1) s * 2 ^ (7 * i), i + cnt f s + 1, 0)
  | f, i, v, [], _ => by
    have e : cnt f ([] : List UInt8) = 0 := by cases f <;> rfl
    rw [e]
    rfl
  | 0, i, v, b :: r, hi => by
    have hi9 : i = 9 := by omega
    have hb := b.toNat_lt
    have e : cnt 0 (b :: r) = 0 := rfl
    have eh : hval (0 + 1) (b :: r) = b.toNat % 128 := rfl
    have eg : (b :: r).getD 0 0 = b := rfl
    rw [e, eh, eg, if_neg (by simp), Nat.add_zero]
    by_cases h1 : i = 9 ∧ 1 < b.toNat
    · rw [if_pos h1]
      unfold readL
      rw [if_pos h1]
    · rw [if_neg h1]
      unfold readL
      rw [if_neg h1, if_neg (by omega)]
  | f + 1, i, v, b :: r, hi => by
    have hb := b.toNat_lt
    by_cases h128 : 128 ≤ b.toNat
    · have e : cnt (f + 1) (b :: r) = cnt f r + 1 := if_pos h128
      have hx : readL i v (b :: r) = readL (i + 1) (v + b.toNat % 128 * 2 ^ (7 * i)) r := by
        simp only [readL]
        rw [if_neg (by omega), if_pos h128]
      rw [hx, readL_cnt f (i + 1) _ r (by omega), e]
      simp only [List.length_cons, Nat.add_right_cancel_iff, List.getD_cons_succ]
      have e2 : i + 1 + cnt f r = i + (cnt f r + 1) := by omega
      rw [e2]
      have e3 : v + b.toNat % 128 * 2 ^ (7 * i) + hval (cnt f r + 1) r * 2 ^ (7 * (i + 1)) = v + hval (cnt f r + 1 + 1) (b :: r) * 2 ^ (7 * i) := by
        rw [pow_next, three_parts]
        rfl
      rw [e3]
    · have e : cnt (f + 1) (b :: r) = 0 := if_neg h128
      rw [e, if_neg (by simp)]
      have eh : hval (0 + 1) (b :: r) = b.toNat % 128 := rfl
      have eg : (b :: r).getD 0 0 = b := rfl
      have hA : ¬ (i = 9 ∧ 1 < b.toNat) := by omega
      rw [eh, eg, Nat.add_zero, if_neg hA]
      unfold readL
      rw [if_neg hA, if_neg h128]
theorem cnt_le : ∀ (f : Nat) (s : List UInt8), cnt f s ≤ f ∧ cnt f s ≤ s.length
  | 0, s => ⟨Nat.le_refl _, Nat.zero_le _⟩
  | f + 1, [] => ⟨Nat.zero_le _, Nat.le_refl _⟩
  | f + 1, b :: r => by
    have := cnt_le f r
    simp only [cnt]
    split
    · simp only [List.length_cons]
      omega
    · simp
theorem hval_step {n j : Nat} {s : List UInt8} {b : UInt8} (hb : s[j]? = some b) (hj : j ≤ n) : hval (n + 1 - j) (s.drop j) = b.toNat % 128 + 128 * hval (n - j) (s.drop (j + 1)) := by
  obtain ⟨hl, e⟩ := List.getElem?_eq_some_iff.1 hb
  rw [List.drop_eq_getElem_cons hl, e, show n + 1 - j = (n - j) + 1 by omega]
  rfl
theorem hval_mono : ∀ (j n : Nat) (s : List UInt8), hval (n - j) (s.drop j) ≤ hval n s
  | 0, n, s => by simp
  | j + 1, 0, s => by simp [hval]
  | j + 1, n + 1, [] => by
    have e : ∀ m, hval m ([] : List UInt8) = 0 := fun m => by cases m <;> rfl
    rw [List.drop_nil, e]
    exact Nat.zero_le _
  | j + 1, n + 1, b :: r => by
    have := hval_mono j n r
    simp only [hval, List.drop_succ_cons]
    rw [show n + 1 - (j + 1) = n - j by omega]
    omega
end Go.Proofs.YtikodgaomhmbmaaDoor
namespace Go.Proofs.YtikodgaomhmbmaaDoor
open Go.RowKit

theorem cnt_all : ∀ (f : Nat) (s : List UInt8) (n : Nat), n < cnt f s → ∃ b, s[n]? = some b ∧ 128 ≤ b.toNat
  | 0, s, n, h => by simp [cnt] at h
  | f + 1, [], n, h => by simp [cnt] at h
  | f + 1, b :: r, n, h => by
    simp only [cnt] at h
    split at h
    · rename_i hb
      cases n with
      | zero => exact ⟨b, rfl, hb⟩
      | succ n => exact cnt_all f r n (by omega)
    · omega
theorem cnt_end : ∀ (f : Nat) (s : List UInt8) (b : UInt8), cnt f s < f → s[cnt f s]? = some b → b.toNat < 128
  | 0, s, b, h, _ => by omega
  | f + 1, [], b, _, h => by simp at h
  | f + 1, c :: r, b, h, hb => by
    simp only [cnt] at h hb
    split at h
    · rename_i hc
      rw [if_pos hc] at hb
      exact cnt_end f r b (by omega) (by simpa using hb)
    · rename_i hc
      rw [if_neg hc] at hb
      have : c = b := by simpa using hb
      subst this
      omega
/-- A byte further on. -/
theorem RB.far {w : World} {A : Option Addr} {l : List UInt8} (h : RB w A l) {p n : Nat} {b : UInt8} (hb : (l.drop p)[n]? = some b) : ∃ ad, A = some ad ∧ w.cell? (ad.add (p + n)) = some (.int .u8 b.toNat) := by
  rw [List.getElem?_drop] at hb
  obtain ⟨hl, e⟩ := List.getElem?_eq_some_iff.1 hb
  obtain ⟨ad, hA, hc⟩ := h.get hl
  exact ⟨ad, hA, by rw [hc, e]⟩

set_option maxHeartbeats 4000000 in
set_option maxRecDepth 100000 in
theorem refReadUint_calls (l : List UInt8) (A : Option Addr) (c : Nat) (p : Nat) (hp : p ≤ l.length) (hl : l.length ≤ 140737488351232) (w : World) (hd : RB w A l) :
    Calls Tryd.prog 86 #[.slice A l.length c, .int .i64 p] w fun e w' => e = .returned (.tuple #[.int .u64 (readL 0 0 (l.drop p)).1, .int .i64 (readEnd p (readL 0 0 (l.drop p))), .int .i64 (readL 0 0 (l.drop p)).2.2]) ∧ w = w' := by
  have t1 : decide ((p : Int) < 0) = false := by simp
  have t2 : decide ((l.length : Int) < (p : Int)) = false := by simp; omega
  have hsl : (l.drop p).length = l.length - p := List.length_drop ..
  have hr := readL_cnt 9 0 0 (l.drop p) rfl
  obtain ⟨cl1, cl2⟩ := cnt_le 9 (l.drop p)
  have Hall := Lib.hid (cnt_all 9 (l.drop p))
  have Hend := Lib.hid (cnt_end 9 (l.drop p))
  have hlt := readL_lt (l.drop p) 0 0 (by omega) (by simp)
  generalize hs : l.drop p = s at hsl hr cl1 cl2 Hall Hend hlt
  generalize cnt 9 s = cn at hr cl1 cl2 Hall Hend
  rw [Nat.zero_add] at hr
  have Hsl := Lib.hid hsl
  by_cases e1 : cn = s.length
  · rw [if_pos e1] at hr
    have Hr := Lib.hid hr
    clear hr hlt
    have u1 : ((cn : Int) == (l.length : Int) - (p : Int)) = true := int_beq_true (by omega)
    have u2 : decide ((cn : Int) < (l.length : Int) - (p : Int)) = false := by rw [decide_eq_false_iff_not]; omega
    clear e1 hsl cl2
    cases u3 : decide ((cn : Int) < 9)
    all_goals
      go_enter Tryd.func86, Tryd.ntmps86
      go_wp2
      go_loopg [7] 10 (fun m v7 wr => ∃ n : Nat, m + n = 10 ∧ v7 = .int .i64 n ∧ Aside (n ≤ cn ∧ w = wr))
      case atStart => exact ⟨0, by omega, rfl, ⟨Nat.zero_le _, rfl⟩⟩
      case round =>
        obtain ⟨n, hm, rfl, HA⟩ := hrel
        obtain ⟨hnN, rfl⟩ := HA.out
        clear HA
        by_cases hlt : n < cn
        · obtain ⟨b, hb, hb1⟩ := Hall.out n hlt
          obtain ⟨ad, hA, hc⟩ := hd.far (p := p) (by rw [hs]; exact hb)
          have hnl : n < s.length := (List.getElem?_eq_some_iff.1 hb).1
          have hsl := Hsl.out
          have v1 : decide ((n : Int) < 9) = true := by rw [decide_eq_true_eq]; omega
          have v1' : decide (n < 9) = true := by rw [decide_eq_true_eq]; omega
          have v2 : decide ((n : Int) < (l.length : Int) - (p : Int)) = true := by rw [decide_eq_true_eq]; omega
          have v3 : decide ((128 : Int) ≤ (b.toNat : Int)) = true := by rw [decide_eq_true_eq]; omega
          have v3' : decide (128 ≤ b.toNat) = true := by rw [decide_eq_true_eq]; exact hb1
          have v4 : p + n < l.length := by omega
          first
            | subst hA
            | (injection hA with hA; subst hA)
          clear hb hb1 hsl hnl
          go_wp2
          go_roundg (gk - 1)
          case measure => omega
          case rel => exact ⟨n + 1, by omega, by go_num, ⟨by omega, rfl⟩⟩
        · obtain rfl : cn = n := by omega
          clear hlt hnN
          go_wp2
          go_ret3
          exact ⟨by rw [Hr.out]; rfl, rfl⟩
  rw [if_neg e1] at hr
  have u1 : ((cn : Int) == (l.length : Int) - (p : Int)) = false := int_beq_false (by omega)
  have u2 : decide ((cn : Int) < (l.length : Int) - (p : Int)) = true := by rw [decide_eq_true_eq]; omega
  obtain ⟨b, hb⟩ : ∃ b, s[cn]? = some b := ⟨s[cn], List.getElem?_eq_getElem (by omega)⟩
  have hg : s.getD cn 0 = b := by rw [List.getD_eq_getElem?_getD, hb]; rfl
  rw [hg] at hr
  obtain ⟨ad, hA, hc⟩ := hd.far (p := p) (by rw [hs]; exact hb)
  have hb8 := b.toNat_lt
  have u00 : p + cn < l.length := by omega
  have hb128 := fun h => Hend.out b h hb
  subst hA
  clear hg
  by_cases e2 : cn = 9 ∧ 1 < b.toNat
  · rw [if_pos e2] at hr
    have Hr := Lib.hid hr
    have u3 : decide ((cn : Int) < 9) = false := by rw [decide_eq_false_iff_not]; omega
    have u4 : ((cn : Int) == 9) = true := by simp [e2.1]
    have u5 : decide ((1 : Int) < (b.toNat : Int)) = true := by rw [decide_eq_true_eq]; omega
    have u5' : decide (1 < b.toNat) = true := by rw [decide_eq_true_eq]; omega
    clear hr hlt hb128 e2 hb hsl cl2 e1
    go_enter Tryd.func86, Tryd.ntmps86
    go_wp2
    go_loopg [7] 10 (fun m v7 wr => ∃ n : Nat, m + n = 10 ∧ v7 = .int .i64 n ∧ Aside (n ≤ cn ∧ w = wr))
    case atStart => exact ⟨0, by omega, rfl, ⟨Nat.zero_le _, rfl⟩⟩
    case round =>
      obtain ⟨n, hm, rfl, HA⟩ := hrel
      obtain ⟨hnN, rfl⟩ := HA.out
      clear HA
      by_cases hlt : n < cn
      · obtain ⟨b, hb, hb1⟩ := Hall.out n hlt
        obtain ⟨ad, hA, hc⟩ := hd.far (p := p) (by rw [hs]; exact hb)
        have hnl : n < s.length := (List.getElem?_eq_some_iff.1 hb).1
        have hsl := Hsl.out
        have v1 : decide ((n : Int) < 9) = true := by rw [decide_eq_true_eq]; omega
        have v1' : decide (n < 9) = true := by rw [decide_eq_true_eq]; omega
        have v2 : decide ((n : Int) < (l.length : Int) - (p : Int)) = true := by rw [decide_eq_true_eq]; omega
        have v3 : decide ((128 : Int) ≤ (b.toNat : Int)) = true := by rw [decide_eq_true_eq]; omega
        have v3' : decide (128 ≤ b.toNat) = true := by rw [decide_eq_true_eq]; exact hb1
        have v4 : p + n < l.length := by omega
        first
          | subst hA
          | (injection hA with hA; subst hA)
        clear hb hb1 hsl hnl
        go_wp2
        go_roundg (gk - 1)
        case measure => omega
        case rel => exact ⟨n + 1, by omega, by go_num, ⟨by omega, rfl⟩⟩
      · obtain rfl : cn = n := by omega
        clear hlt hnN
        go_wp2
        go_ret3
        exact ⟨by rw [Hr.out]; rfl, rfl⟩
  rw [if_neg e2] at hr
  by_cases e3 : b.toNat = 0 ∧ 0 < cn
  · rw [if_pos e3] at hr
    have Hr := Lib.hid hr
    have u6 : decide ((0 : Int) < (cn : Int)) = true := by rw [decide_eq_true_eq]; omega
    have u6' : decide (0 < cn) = true := by rw [decide_eq_true_eq]; omega
    have u7 : ((b.toNat : Int) == 0) = true := by simp [e3.1]
    have u5 : decide ((1 : Int) < (b.toNat : Int)) = false := by rw [decide_eq_false_iff_not]; omega
    have u5' : decide (1 < b.toNat) = false := by rw [decide_eq_false_iff_not]; omega
    have u8 : decide ((128 : Int) ≤ (b.toNat : Int)) = false := by rw [decide_eq_false_iff_not]; omega
    have u8' : decide (128 ≤ b.toNat) = false := by rw [decide_eq_false_iff_not]; omega
    clear hr hlt hb128 e2 e3 hb hsl cl2 e1
    cases u3 : decide ((cn : Int) < 9)
    case' true => have u4 : ((cn : Int) == 9) = false := int_beq_false (by have := of_decide_eq_true u3; omega)
    case' false => have u4 : ((cn : Int) == 9) = true := int_beq_true (by have := of_decide_eq_false u3; omega)
    all_goals
      go_enter Tryd.func86, Tryd.ntmps86
      go_wp2
      go_loopg [7] 10 (fun m v7 wr => ∃ n : Nat, m + n = 10 ∧ v7 = .int .i64 n ∧ Aside (n ≤ cn ∧ w = wr))
      case atStart => exact ⟨0, by omega, rfl, ⟨Nat.zero_le _, rfl⟩⟩
      case round =>
        obtain ⟨n, hm, rfl, HA⟩ := hrel
        obtain ⟨hnN, rfl⟩ := HA.out
        clear HA
        by_cases hlt : n < cn
        · obtain ⟨b, hb, hb1⟩ := Hall.out n hlt
          obtain ⟨ad, hA, hc⟩ := hd.far (p := p) (by rw [hs]; exact hb)
          have hnl : n < s.length := (List.getElem?_eq_some_iff.1 hb).1
          have hsl := Hsl.out
          have v1 : decide ((n : Int) < 9) = true := by rw [decide_eq_true_eq]; omega
          have v1' : decide (n < 9) = true := by rw [decide_eq_true_eq]; omega
          have v2 : decide ((n : Int) < (l.length : Int) - (p : Int)) = true := by rw [decide_eq_true_eq]; omega
          have v3 : decide ((128 : Int) ≤ (b.toNat : Int)) = true := by rw [decide_eq_true_eq]; omega
          have v3' : decide (128 ≤ b.toNat) = true := by rw [decide_eq_true_eq]; exact hb1
          have v4 : p + n < l.length := by omega
          first
            | subst hA
            | (injection hA with hA; subst hA)
          clear hb hb1 hsl hnl
          go_wp2
          go_roundg (gk - 1)
          case measure => omega
          case rel => exact ⟨n + 1, by omega, by go_num, ⟨by omega, rfl⟩⟩
        · obtain rfl : cn = n := by omega
          clear hlt hnN
          go_wp2
          go_ret3
          exact ⟨by rw [Hr.out]; rfl, rfl⟩
  rw [if_neg e3] at hr
  have hx : hval (cn + 1) s < 18446744073709551616 := by
    rw [hr] at hlt
    simpa using hlt
  rw [Nat.zero_add, show 2 ^ (7 * 0) = 1 from rfl, Nat.mul_one] at hr
  have Hr := Lib.hid hr
  have Hx := Lib.hid hx
  have Hsl2 := Lib.hid (show cn < s.length by omega)
  have Hd := Lib.hid hd
  clear hr hlt
  clear hsl cl2 e1
  have key : ∀ k3 k4 k5 k6 k7 : Bool, decide ((cn : Int) < 9) = k3 → ((cn : Int) == 9) = k4 → decide ((1 : Int) < (b.toNat : Int)) = k5 → decide ((0 : Int) < (cn : Int)) = k6 → ((b.toNat : Int) == 0) = k7 →
      k4 = !k3 → (k4 && k5) = false → (k6 && k7) = false → decide (1 < b.toNat) = k5 → decide (0 < cn) = k6 → (k3 = true → decide ((128 : Int) ≤ (b.toNat : Int)) = false ∧ decide (128 ≤ b.toNat) = false) →
      Calls Tryd.prog 86 #[.slice (some ad) l.length c, .int .i64 p] w fun e w' => e = .returned (.tuple #[.int .u64 (readL 0 0 s).1, .int .i64 (readEnd p (readL 0 0 s)), .int .i64 (readL 0 0 s).2.2]) ∧ w = w' := by
    intro k3 k4 k5 k6 k7 u3 u4 u5 u6 u7 h1 h2 h3 u5' u6' h8
    clear e2 e3 hb128
    cases k3 <;> cases k4 <;> cases k6 <;> cases k7 <;> cases k5
    all_goals first
      | (exfalso; revert h1 h2 h3; decide)
      | skip
    all_goals
      first
        | obtain ⟨u8, u8'⟩ := h8 rfl
        | skip
      clear h1 h2 h3 h8
      go_enter Tryd.func86, Tryd.ntmps86
      go_wp2
      go_loopg [7] 10 (fun m v7 wr => ∃ n : Nat, m + n = 10 ∧ v7 = .int .i64 n ∧ Aside (n ≤ cn ∧ w = wr))
      case atStart => exact ⟨0, by omega, rfl, ⟨Nat.zero_le _, rfl⟩⟩
      case round =>
        obtain ⟨n, hm, rfl, HA⟩ := hrel
        obtain ⟨hnN, rfl⟩ := HA.out
        clear HA
        by_cases hlt : n < cn
        · obtain ⟨b, hb, hb1⟩ := Hall.out n hlt
          obtain ⟨ad, hA, hc⟩ := hd.far (p := p) (by rw [hs]; exact hb)
          have hnl : n < s.length := (List.getElem?_eq_some_iff.1 hb).1
          have hsl := Hsl.out
          have v1 : decide ((n : Int) < 9) = true := by rw [decide_eq_true_eq]; omega
          have v1' : decide (n < 9) = true := by rw [decide_eq_true_eq]; omega
          have v2 : decide ((n : Int) < (l.length : Int) - (p : Int)) = true := by rw [decide_eq_true_eq]; omega
          have v3 : decide ((128 : Int) ≤ (b.toNat : Int)) = true := by rw [decide_eq_true_eq]; omega
          have v3' : decide (128 ≤ b.toNat) = true := by rw [decide_eq_true_eq]; exact hb1
          have v4 : p + n < l.length := by omega
          first
            | subst hA
            | (injection hA with hA; subst hA)
          clear hb hb1 hsl hnl
          go_wp2
          go_roundg (gk - 1)
          case measure => omega
          case rel => exact ⟨n + 1, by omega, by go_num, ⟨by omega, rfl⟩⟩
        · obtain rfl : cn = n := by omega
          clear hlt hnN
          go_wp2
          go_loopg [9, 10] (cn + 1) (fun m v9 v10 wr => ∃ (j V : Nat) (z : Int), m = j ∧ v10 = .int .i64 z ∧ v9 = .int .u64 V ∧ Aside (j ≤ cn + 1 ∧ z = (j : Int) - 1 ∧ V = hval (cn + 1 - j) (s.drop j) ∧ w = wr))
          case atStart => exact ⟨cn + 1, 0, cn, rfl, rfl, rfl, ⟨Nat.le_refl _, by omega, by rw [Nat.sub_self]; rfl, rfl⟩⟩
          case round =>
            obtain ⟨j, V, z, hm, rfl, rfl, HA⟩ := hrel
            obtain ⟨hj, hz, hV, rfl⟩ := HA.out
            clear HA
            by_cases hj0 : 0 < j
            · obtain ⟨i, rfl⟩ : ∃ i, j = i + 1 := ⟨j - 1, by omega⟩
              obtain rfl : z = (i : Int) := by omega
              clear hz
              have hil : i < s.length := by have := Hsl2.out; omega
              obtain ⟨d, hd1⟩ : ∃ d, s[i]? = some d := ⟨s[i], List.getElem?_eq_getElem hil⟩
              obtain ⟨ad', hA, hc2⟩ := Hd.out.far (p := p) (by rw [hs]; exact hd1)
              injection hA with hA
              subst hA
              have hst := hval_step hd1 (show i ≤ cn by omega)
              rw [show cn - i = cn + 1 - (i + 1) by omega, ← hV] at hst
              have hmo := hval_mono i (cn + 1) s
              rw [hst] at hmo
              have hVb := Hx.out
              have hd8 := d.toNat_lt
              have f0 : decide ((0 : Int) ≤ (i : Int)) = true := by simp
              obtain ⟨X, hX⟩ : ∃ X, X = 128 * V := ⟨_, rfl⟩
              obtain ⟨Y, hY⟩ : ∃ Y, Y = d.toNat % 128 + X := ⟨_, rfl⟩
              have f1 : IntKind.u64.wrap ((V : Int) * 128) = (X : Int) := by rw [IntKind.wrap_u64]; omega
              have f2 : IntKind.u64.wrap ((X : Int) + (d.toNat : Int) % 128) = (Y : Int) := by rw [IntKind.wrap_u64]; omega
              rw [← hX, ← hY] at hst
              have f3 : p + i < l.length := by have := Hsl.out; omega
              have Hst := Lib.hid hst
              clear hV hst hmo hVb hd1 hil hj0
              clear hX hY
              go_wp2
              go_roundg i
              case measure => omega
              case rel => exact ⟨i, Y, (i : Int) - 1, rfl, by go_num, by go_num, ⟨by omega, rfl, Hst.out.symm, rfl⟩⟩
            · obtain rfl : j = 0 := by omega
              obtain rfl : z = -1 := by omega
              clear hz
              have hV2 : V = hval (cn + 1) s := by simpa using hV
              subst hV2
              have f0 : decide ((0 : Int) ≤ -1) = false := rfl
              clear hV hj0
              go_wp2
              go_ret3
              exact ⟨by rw [Hr.out]; simp [readEnd, Int.add_assoc], rfl⟩
  refine key _ _ _ _ _ rfl rfl rfl rfl rfl ?_ ?_ ?_ (by rw [decide_eq_decide]; omega) (by rw [decide_eq_decide]; omega) ?_
  · by_cases h : cn = 9
    · simp [h]
    · have h9 : cn < 9 := by omega
      have a1 : decide ((cn : Int) < 9) = true := by rw [decide_eq_true_eq]; omega
      have a2 : ((cn : Int) == 9) = false := int_beq_false (by omega)
      rw [a1, a2]
      rfl
  · cases h1 : ((cn : Int) == 9) with
    | false => rfl
    | true =>
      have h9 : cn = 9 := by simp at h1; omega
      have : ¬ 1 < b.toNat := fun h => e2 ⟨h9, h⟩
      simp only [Bool.true_and, decide_eq_false_iff_not]
      omega
  · cases h1 : ((b.toNat : Int) == 0) with
    | false => simp
    | true =>
      have h0 : b.toNat = 0 := by simp at h1; omega
      have : ¬ 0 < cn := fun h => e3 ⟨h0, h⟩
      simp only [Bool.and_true, decide_eq_false_iff_not]
      omega
  · intro h
    have h9 : cn < 9 := by have := of_decide_eq_true h; omega
    have := hb128 h9
    constructor <;> (rw [decide_eq_false_iff_not]; omega)
end Go.Proofs.YtikodgaomhmbmaaDoor
namespace Go.Proofs.YtikodgaomhmbmaaDoor
open Go.RowKit
attribute [local go_sem] Rec.size_ Rec.g0 Rec.g1 Rec.g2 Rec.g3 Rec.g4 Rec.g5 Rec.g6 Rec.g7 Rec.g8 Rec.g9 Rec.g10 Rec.g11 Rec.fold

/-- A number halved. -/
structure Half (u h : Nat) : Prop where
  n1 : wrap64 (wrap64 (-(h : Int)) - 1) = -(h : Int) - 1
  n2 : wrap64 (-(h : Int)) = -(h : Int)
  n3 : wrap64 (-(h : Int) - 1) = -(h : Int) - 1
  w1 : IntKind.i64.wrap (h : Int) = h
  w2 : wrap64 (h : Int) = h
  w3 : IntKind.u64.wrap (h : Int) = h
  d1 : (u : Int) / 2 = (h : Int)
  d2 : (u : Int).tdiv 2 = (h : Int)
theorem half_of {u h : Nat} (hu : u < 18446744073709551616) (hh : h = u / 2) : Half u h := by
  have hle : h ≤ 9223372036854775807 := by omega
  refine ⟨by unfold wrap64; omega, by unfold wrap64; omega, by unfold wrap64; omega, wrap_i64_nat h hle, wrap64_nat h hle, by rw [IntKind.wrap_u64]; omega, by omega, by rw [Int.tdiv_eq_ediv_of_nonneg (by omega)]; omega⟩
theorem half_odd {u : Nat} (h : u % 2 = 1) : (u : Int) % 2 = 1 ∧ (u : Int).tmod 2 = 1 := ⟨by omega, by rw [Int.tmod_eq_emod_of_nonneg (by omega)]; omega⟩
theorem half_even {u : Nat} (h : ¬ u % 2 = 1) : (u : Int) % 2 = 0 ∧ (u : Int).tmod 2 = 0 := ⟨by omega, by rw [Int.tmod_eq_emod_of_nonneg (by omega)]; omega⟩
theorem zag_odd {u h : Nat} (hu : u < 18446744073709551616) (hh : h = u / 2) (ho : u % 2 = 1) : zag u = -(h : Int) - 1 := by rw [zag_eq hu, if_neg (by omega), hh]
theorem zag_even {u h : Nat} (hu : u < 18446744073709551616) (hh : h = u / 2) (ho : ¬ u % 2 = 1) : zag u = (h : Int) := by rw [zag_eq hu, if_pos (by omega), hh]
theorem wrap_u64_nat (n : Nat) (h : n < 18446744073709551616) : IntKind.u64.wrap (n : Int) = n := by rw [IntKind.wrap_u64]; omega
theorem wrap_u64_sub (n q : Nat) (h : q ≤ n) (hn : n ≤ 140737488351232) : IntKind.u64.wrap ((n : Int) - (q : Int)) = (n : Int) - (q : Int) := by rw [IntKind.wrap_u64]; omega
theorem wrap64_add (q n : Nat) (hq : q ≤ 140737488351232) (hn : n ≤ 1000000) : wrap64 ((q : Int) + (n : Int)) = (q : Int) + (n : Int) := by unfold wrap64; omega
set_option maxHeartbeats 1000000 in
set_option maxRecDepth 100000 in
theorem refReadInt_calls (l : List UInt8) (A : Option Addr) (c : Nat) (p : Nat) (hp : p ≤ l.length) (hl : l.length ≤ 140737488351232) (w : World) (hd : RB w A l) :
    Calls Tryd.prog 100 #[.slice A l.length c, .int .i64 p] w fun e w' => e = .returned (.tuple #[.int .i64 (if (readL 0 0 (l.drop p)).2.2 = 0 then zag (readL 0 0 (l.drop p)).1 else 0), .int .i64 (readEnd p (readL 0 0 (l.drop p))), .int .i64 (readL 0 0 (l.drop p)).2.2]) ∧ w = w' := by
  have cu := refReadUint_calls l A c p hp hl w hd
  have hu := readL_lt (l.drop p) 0 0 (by omega) (by simp)
  generalize readL 0 0 (l.drop p) = x at cu hu
  obtain ⟨u, k, e⟩ := x
  have hu' : u < 18446744073709551616 := hu
  by_cases h0 : e = 0
  · subst h0
    have q : readEnd p (u, k, 0) = ((p + k : Nat) : Int) := rfl
    have g : (if (u, k, (0 : Int)).2.2 = 0 then zag (u, k, (0 : Int)).1 else 0) = zag u := if_pos rfl
    rw [q] at cu ⊢
    rw [g]
    have z1 : ((0 : Int) != 0) = false := rfl
    have Cu := Lib.hid cu
    obtain ⟨h, hh⟩ : ∃ h, h = u / 2 := ⟨_, rfl⟩
    obtain ⟨n1, n2, n3, w1, w2, w3, d1, d2⟩ := half_of hu' hh
    by_cases ho : u % 2 = 1
    · obtain ⟨o1, o2⟩ := half_odd ho
      have Z := Lib.hid (zag_odd hu' hh ho)
      have N3 := Lib.hid n3
      clear cu hu hu' q hd g ho hh
      go_enter Tryd.func100, Tryd.ntmps100
      go_wp2_with (first
        | (go_at_call 86; (with_reducible refine Cu.out.mono ?_); rintro e w1 ⟨rfl, rfl⟩))
      go_ret3
      exact ⟨by rw [Z.out]; refine Eq.trans ?_ (congrArg (fun z => Ending.returned (.tuple #[.int .i64 z, .int .i64 ((p + k : Nat) : Int), .int .i64 0])) N3.out); rfl, rfl⟩
    · obtain ⟨o1, o2⟩ := half_even ho
      have Z := Lib.hid (zag_even hu' hh ho)
      clear cu hu hu' q hd g ho hh
      go_enter Tryd.func100, Tryd.ntmps100
      go_wp2_with (first
        | (go_at_call 86; (with_reducible refine Cu.out.mono ?_); rintro e w1 ⟨rfl, rfl⟩))
      go_ret3
      exact ⟨by rw [Z.out]; rfl, rfl⟩
  · have t1 := int_bne_true h0
    have q : readEnd p (u, k, e) = 0 := if_neg h0
    have g : (if (u, k, e).2.2 = 0 then zag (u, k, e).1 else 0) = 0 := if_neg h0
    rw [q] at cu ⊢
    rw [g]
    have Cu := Lib.hid cu
    clear cu hu hu' q hd g h0
    go_enter Tryd.func100, Tryd.ntmps100
    go_wp2_with (first
      | (go_at_call 86; (with_reducible refine Cu.out.mono ?_); rintro e w1 ⟨rfl, rfl⟩))
    go_ret3
    exact ⟨rfl, rfl⟩

set_option maxHeartbeats 1000000 in
set_option maxRecDepth 100000 in
theorem refReadBytes_calls (l : List UInt8) (A : Option Addr) (c p max : Nat) (hp : p ≤ l.length) (hl : l.length ≤ 140737488351232) (hmax : max ≤ 1000000) (w : World) (hd : RB w A l) :
    Calls Tryd.prog 102 #[.slice A l.length c, .int .i64 p, .int .i64 max] w fun e w' => ∃ A' c', e = .returned (.tuple #[.slice A' (readB max (l.drop p)).1.length c', .int .i64 (readAt p (readB max (l.drop p)).2.1 (readB max (l.drop p)).2.2), .int .i64 (readB max (l.drop p)).2.2])
      ∧ w'.ownsRow w.heap.size 5 1 (.slice A' (readB max (l.drop p)).1.length c') (readB max (l.drop p)).1.length (u8s (readB max (l.drop p)).1) ∧ Below w.heap.size w w' := by
  have HB := Below.refl w.heap.size w
  have cu := refReadUint_calls l A c p hp hl w hd
  have hu := readL_lt (l.drop p) 0 0 (by omega) (by simp)
  have ht := readL_took (l.drop p) 0 0
  have hx : readB max (l.drop p) = _ := rfl
  conv at hx => rhs; unfold readB
  rw [List.length_drop] at hx ht
  rw [List.drop_drop] at hx
  have t1 : decide ((p : Int) < 0) = false := by simp
  have t2 : decide ((l.length : Int) < (p : Int)) = false := by simp; omega
  have t3 : decide ((max : Int) < 0) = false := by simp
  generalize readL 0 0 (l.drop p) = x at cu hu ht hx
  obtain ⟨n, k, e⟩ := x
  simp only at hu ht hx
  by_cases h0 : e = 0
  · subst h0
    have q : readEnd p (n, k, 0) = ((p + k : Nat) : Int) := rfl
    rw [q] at cu
    rw [if_neg (by simp)] at hx
    obtain ⟨k1, k2, k3⟩ := ht rfl
    have hk0 : 0 < p + k := by omega
    clear ht q
    have hk : l.length - p - k = l.length - (p + k) := by omega
    have hkl : p + k ≤ l.length := by omega
    have hko : p + (k + n) = p + k + n := by omega
    have hra : readAt p (k + n) 0 = ((p + k + n : Nat) : Int) := by rw [← hko]; exact if_pos rfl
    rw [hk] at hx
    clear hk hko k1 k2 k3
    generalize p + k = q at cu hx hkl hra hk0
    have Cu := Lib.hid cu
    have Hra := Lib.hid hra
    clear hra
    by_cases hn : max < n
    · rw [if_pos hn] at hx
      have t5 : decide ((max : Int) < (n : Int)) = true := by simp [hn]
      have t5' : decide (max < n) = true := by simp [hn]
      have Hx := Lib.hid hx
      clear hx cu hu hn
      have t4 := wrap_u64_nat max (Nat.lt_of_le_of_lt hmax (by decide))
      have t6 := wrap_u64_sub l.length q hkl hl
      go_enter Tryd.func102, Tryd.ntmps102
      go_wp2_with (first
        | (go_at_call 86; (with_reducible refine Cu.out.mono ?_); rintro e w1 ⟨rfl, rfl⟩))
      go_ret3
      exact ⟨none, 0, by rw [Hx.out]; rfl, by rw [Hx.out]; exact own_nil _ _ _ _, HB⟩
    · rw [if_neg hn] at hx
      have t5 : decide ((max : Int) < (n : Int)) = false := by rw [decide_eq_false_iff_not]; omega
      have t5' : decide (max < n) = false := by rw [decide_eq_false_iff_not]; omega
      by_cases hs : l.length - q < n
      · rw [if_pos hs] at hx
        have t7 : decide ((l.length : Int) - (q : Int) < (n : Int)) = true := by rw [decide_eq_true_eq]; omega
        have Hx := Lib.hid hx
        clear hx cu hu hn hs
        have t4 := wrap_u64_nat max (Nat.lt_of_le_of_lt hmax (by decide))
        have t6 := wrap_u64_sub l.length q hkl hl
        go_enter Tryd.func102, Tryd.ntmps102
        go_wp2_with (first
          | (go_at_call 86; (with_reducible refine Cu.out.mono ?_); rintro e w1 ⟨rfl, rfl⟩))
        go_ret3
        exact ⟨none, 0, by rw [Hx.out]; rfl, by rw [Hx.out]; exact own_nil _ _ _ _, HB⟩
      · rw [if_neg hs] at hx
        have t7 : decide ((l.length : Int) - (q : Int) < (n : Int)) = false := by rw [decide_eq_false_iff_not]; omega
        have hlim : q + n ≤ l.length := by omega
        have t8 := wrap64_nat n (by omega)
        have t8' := wrap_i64_nat n (by omega)
        have t9 := wrap64_add q n (by omega) (by omega)
        have cp := part_calls l A c q ((q : Int) + (n : Int)) w hd hl (by omega) (by omega) (by omega)
        have e1 : ((q : Int) + (n : Int) - (q : Int)).toNat = n := by omega
        have e2 : ((q : Int)).toNat = q := by simp
        rw [e1, e2] at cp
        have hlen : ((l.drop q).take n).length = n := by rw [List.length_take, List.length_drop]; omega
        generalize (l.drop q).take n = y at hx hlen cp
        have Hx := Lib.hid hx
        have Cp := Lib.hid cp
        clear hx cu hu hn hs cp e1 e2
        have t4 := wrap_u64_nat max (Nat.lt_of_le_of_lt hmax (by decide))
        have t6 := wrap_u64_sub l.length q hkl hl
        go_enter Tryd.func102, Tryd.ntmps102
        go_wp2_with (first
          | (go_at_call 86; (with_reducible refine Cu.out.mono ?_); rintro e w1 ⟨rfl, rfl⟩)
          | (go_at_call 68; (with_reducible refine Cp.out.mono ?_); rintro e w1 ⟨A', c', rfl, oA, hb⟩))
        go_ret3
        exact ⟨A', c', by rw [Hx.out, Hra.out]; simp [hlen], by rw [Hx.out]; simpa [hlen] using oA, hb⟩
  · have t1 := int_bne_true h0
    have q : readEnd p (n, k, e) = 0 := if_neg h0
    rw [q] at cu
    rw [if_pos h0] at hx
    have Cu := Lib.hid cu
    have Hx := Lib.hid hx
    have H0 := Lib.hid h0
    clear cu hu q h0 hx ht
    go_enter Tryd.func102, Tryd.ntmps102
    go_wp2_with (first
      | (go_at_call 86; (with_reducible refine Cu.out.mono ?_); rintro e w1 ⟨rfl, rfl⟩))
    go_ret3
    exact ⟨none, 0, by rw [Hx.out]; unfold readAt; rw [if_neg H0.out]; rfl, by rw [Hx.out]; exact own_nil _ _ _ _, HB⟩

theorem put1_calls (r : Rec) (A : Option Addr) (c : Nat) (x : Int) (w : World) :
    Calls Tryd.prog 101 #[.agg (r.cells A c), .int .i64 1, .int .i64 x] w fun e w' => e = .returned (.agg ((r.put 1 x).cells A c)) ∧ Below w.heap.size w w' := by
  have HB := Below.refl w.heap.size w
  go_enter Tryd.func101, Tryd.ntmps101
  go_wp2_with (first
    | ((with_reducible refine gate_dst (N := 3) rfl ?_); refine ev_box rfl rfl (r.cells A c) rfl ?_; intro g3 W1 hg3 hsz hbn; have hgr := grown_of_below hbn; have zg3 : w.heap.size ≤ g3 := (by have := HB.size; omega); replace HB := HB.grown hgr (by have := HB.size; omega) (by simp); have hcg3 := hg3.cell; have hfg3 := hg3.frozen; clear hsz hbn hgr)
    | ((with_reducible refine gate_dst (N := 6) rfl ?_); refine ev_alloc rfl rfl _ rec_zero ?_; intro g6 W2 hg6 hsz hbn; have hgr := grown_of_below hbn; have ng3g6 : g3 ≠ g6 := (by have := hg3.lt; omega); replace hg6 : Blk W2 g6 _ (Rec.zero.cells none 0) := hg6; have zg6 : w.heap.size ≤ g6 := (by have := HB.size; omega); replace hg3 := hg3.grown hgr (by simp); replace HB := HB.grown hgr (by have := HB.size; omega) (by simp); have hcg6 := hg6.cell; have hfg6 := hg6.frozen; replace hcg3 := hg3.cell; replace hfg3 := hg3.frozen; clear hsz hbn hgr)
    | ((with_reducible refine gate_store (p := 11) rfl ?_); refine ev_store_cell rfl rfl rfl hg3 rfl (i := 1) (v := .int .i64 x) rfl rfl (by kernel_rfl) (by first | exact (show (1 : Nat) < 12 by decide) | exact (show (1 : Nat) < 16 by decide) | exact (show (1 : Nat) < 6 by decide)) ?_; intro W3 hgn hgr; replace hgn : Blk W3 g3 _ ((r.put 1 x).cells A c) := hgn; replace hg6 := hg6.grown hgr (by intro e; injection e with e; omega); replace HB := HB.grown hgr (by have := HB.size; omega) (by intro k e; injection e with e; omega); replace hg3 := hgn; replace hcg3 := hg3.cell; replace hfg3 := hg3.frozen; replace hcg6 := hg6.cell; replace hfg6 := hg6.frozen; clear hgn hgr)
    | ((with_reducible refine gate_dst (N := 44) rfl ?_); refine wpList_load_row rfl _ _ rfl g3 rfl _ _ (0, 0) _ hg3 Tryd.underlying27 rfl rec_size ?_)
    | ((with_reducible refine gate_store (p := 6) rfl ?_); refine ev_store_row (cs := (r.put 1 x).cells A c) rfl rfl rfl hg6 rfl rfl rec_size rfl (cells_one _ _ _) ?_; intro W4 hgn hgr; replace hg3 := hg3.grown hgr (by intro e; injection e with e; omega); replace HB := HB.grown hgr (by have := HB.size; omega) (by intro k e; injection e with e; omega); replace hg6 := hgn; replace hcg3 := hg3.cell; replace hfg3 := hg3.frozen; replace hcg6 := hg6.cell; replace hfg6 := hg6.frozen; clear hgn hgr))
  refine bodyPost_ret (results_cell_row rfl _ _ g6 _ _ (0, 0) _ rfl hg6 Tryd.underlying27 rfl rec_size) rfl ?_
  exact ⟨rfl, HB⟩
theorem put2_calls (r : Rec) (A : Option Addr) (c : Nat) (x : Int) (w : World) :
    Calls Tryd.prog 101 #[.agg (r.cells A c), .int .i64 2, .int .i64 x] w fun e w' => e = .returned (.agg ((r.put 2 x).cells A c)) ∧ Below w.heap.size w w' := by
  have HB := Below.refl w.heap.size w
  go_enter Tryd.func101, Tryd.ntmps101
  go_wp2_with (first
    | ((with_reducible refine gate_dst (N := 3) rfl ?_); refine ev_box rfl rfl (r.cells A c) rfl ?_; intro g3 W1 hg3 hsz hbn; have hgr := grown_of_below hbn; have zg3 : w.heap.size ≤ g3 := (by have := HB.size; omega); replace HB := HB.grown hgr (by have := HB.size; omega) (by simp); have hcg3 := hg3.cell; have hfg3 := hg3.frozen; clear hsz hbn hgr)
    | ((with_reducible refine gate_dst (N := 6) rfl ?_); refine ev_alloc rfl rfl _ rec_zero ?_; intro g6 W2 hg6 hsz hbn; have hgr := grown_of_below hbn; have ng3g6 : g3 ≠ g6 := (by have := hg3.lt; omega); replace hg6 : Blk W2 g6 _ (Rec.zero.cells none 0) := hg6; have zg6 : w.heap.size ≤ g6 := (by have := HB.size; omega); replace hg3 := hg3.grown hgr (by simp); replace HB := HB.grown hgr (by have := HB.size; omega) (by simp); have hcg6 := hg6.cell; have hfg6 := hg6.frozen; replace hcg3 := hg3.cell; replace hfg3 := hg3.frozen; clear hsz hbn hgr)
    | ((with_reducible refine gate_store (p := 15) rfl ?_); refine ev_store_cell rfl rfl rfl hg3 rfl (i := 2) (v := .int .i64 x) rfl rfl (by kernel_rfl) (by first | exact (show (2 : Nat) < 12 by decide) | exact (show (2 : Nat) < 16 by decide) | exact (show (2 : Nat) < 6 by decide)) ?_; intro W3 hgn hgr; replace hgn : Blk W3 g3 _ ((r.put 2 x).cells A c) := hgn; replace hg6 := hg6.grown hgr (by intro e; injection e with e; omega); replace HB := HB.grown hgr (by have := HB.size; omega) (by intro k e; injection e with e; omega); replace hg3 := hgn; replace hcg3 := hg3.cell; replace hfg3 := hg3.frozen; replace hcg6 := hg6.cell; replace hfg6 := hg6.frozen; clear hgn hgr)
    | ((with_reducible refine gate_dst (N := 44) rfl ?_); refine wpList_load_row rfl _ _ rfl g3 rfl _ _ (0, 0) _ hg3 Tryd.underlying27 rfl rec_size ?_)
    | ((with_reducible refine gate_store (p := 6) rfl ?_); refine ev_store_row (cs := (r.put 2 x).cells A c) rfl rfl rfl hg6 rfl rfl rec_size rfl (cells_one _ _ _) ?_; intro W4 hgn hgr; replace hg3 := hg3.grown hgr (by intro e; injection e with e; omega); replace HB := HB.grown hgr (by have := HB.size; omega) (by intro k e; injection e with e; omega); replace hg6 := hgn; replace hcg3 := hg3.cell; replace hfg3 := hg3.frozen; replace hcg6 := hg6.cell; replace hfg6 := hg6.frozen; clear hgn hgr))
  refine bodyPost_ret (results_cell_row rfl _ _ g6 _ _ (0, 0) _ rfl hg6 Tryd.underlying27 rfl rec_size) rfl ?_
  exact ⟨rfl, HB⟩
theorem put3_calls (r : Rec) (A : Option Addr) (c : Nat) (x : Int) (w : World) :
    Calls Tryd.prog 101 #[.agg (r.cells A c), .int .i64 3, .int .i64 x] w fun e w' => e = .returned (.agg ((r.put 3 x).cells A c)) ∧ Below w.heap.size w w' := by
  have HB := Below.refl w.heap.size w
  go_enter Tryd.func101, Tryd.ntmps101
  go_wp2_with (first
    | ((with_reducible refine gate_dst (N := 3) rfl ?_); refine ev_box rfl rfl (r.cells A c) rfl ?_; intro g3 W1 hg3 hsz hbn; have hgr := grown_of_below hbn; have zg3 : w.heap.size ≤ g3 := (by have := HB.size; omega); replace HB := HB.grown hgr (by have := HB.size; omega) (by simp); have hcg3 := hg3.cell; have hfg3 := hg3.frozen; clear hsz hbn hgr)
    | ((with_reducible refine gate_dst (N := 6) rfl ?_); refine ev_alloc rfl rfl _ rec_zero ?_; intro g6 W2 hg6 hsz hbn; have hgr := grown_of_below hbn; have ng3g6 : g3 ≠ g6 := (by have := hg3.lt; omega); replace hg6 : Blk W2 g6 _ (Rec.zero.cells none 0) := hg6; have zg6 : w.heap.size ≤ g6 := (by have := HB.size; omega); replace hg3 := hg3.grown hgr (by simp); replace HB := HB.grown hgr (by have := HB.size; omega) (by simp); have hcg6 := hg6.cell; have hfg6 := hg6.frozen; replace hcg3 := hg3.cell; replace hfg3 := hg3.frozen; clear hsz hbn hgr)
    | ((with_reducible refine gate_store (p := 19) rfl ?_); refine ev_store_cell rfl rfl rfl hg3 rfl (i := 3) (v := .int .i64 x) rfl rfl (by kernel_rfl) (by first | exact (show (3 : Nat) < 12 by decide) | exact (show (3 : Nat) < 16 by decide) | exact (show (3 : Nat) < 6 by decide)) ?_; intro W3 hgn hgr; replace hgn : Blk W3 g3 _ ((r.put 3 x).cells A c) := hgn; replace hg6 := hg6.grown hgr (by intro e; injection e with e; omega); replace HB := HB.grown hgr (by have := HB.size; omega) (by intro k e; injection e with e; omega); replace hg3 := hgn; replace hcg3 := hg3.cell; replace hfg3 := hg3.frozen; replace hcg6 := hg6.cell; replace hfg6 := hg6.frozen; clear hgn hgr)
    | ((with_reducible refine gate_dst (N := 44) rfl ?_); refine wpList_load_row rfl _ _ rfl g3 rfl _ _ (0, 0) _ hg3 Tryd.underlying27 rfl rec_size ?_)
    | ((with_reducible refine gate_store (p := 6) rfl ?_); refine ev_store_row (cs := (r.put 3 x).cells A c) rfl rfl rfl hg6 rfl rfl rec_size rfl (cells_one _ _ _) ?_; intro W4 hgn hgr; replace hg3 := hg3.grown hgr (by intro e; injection e with e; omega); replace HB := HB.grown hgr (by have := HB.size; omega) (by intro k e; injection e with e; omega); replace hg6 := hgn; replace hcg3 := hg3.cell; replace hfg3 := hg3.frozen; replace hcg6 := hg6.cell; replace hfg6 := hg6.frozen; clear hgn hgr))
  refine bodyPost_ret (results_cell_row rfl _ _ g6 _ _ (0, 0) _ rfl hg6 Tryd.underlying27 rfl rec_size) rfl ?_
  exact ⟨rfl, HB⟩
theorem put4_calls (r : Rec) (A : Option Addr) (c : Nat) (x : Int) (w : World) :
    Calls Tryd.prog 101 #[.agg (r.cells A c), .int .i64 4, .int .i64 x] w fun e w' => e = .returned (.agg ((r.put 4 x).cells A c)) ∧ Below w.heap.size w w' := by
  have HB := Below.refl w.heap.size w
  go_enter Tryd.func101, Tryd.ntmps101
  go_wp2_with (first
    | ((with_reducible refine gate_dst (N := 3) rfl ?_); refine ev_box rfl rfl (r.cells A c) rfl ?_; intro g3 W1 hg3 hsz hbn; have hgr := grown_of_below hbn; have zg3 : w.heap.size ≤ g3 := (by have := HB.size; omega); replace HB := HB.grown hgr (by have := HB.size; omega) (by simp); have hcg3 := hg3.cell; have hfg3 := hg3.frozen; clear hsz hbn hgr)
    | ((with_reducible refine gate_dst (N := 6) rfl ?_); refine ev_alloc rfl rfl _ rec_zero ?_; intro g6 W2 hg6 hsz hbn; have hgr := grown_of_below hbn; have ng3g6 : g3 ≠ g6 := (by have := hg3.lt; omega); replace hg6 : Blk W2 g6 _ (Rec.zero.cells none 0) := hg6; have zg6 : w.heap.size ≤ g6 := (by have := HB.size; omega); replace hg3 := hg3.grown hgr (by simp); replace HB := HB.grown hgr (by have := HB.size; omega) (by simp); have hcg6 := hg6.cell; have hfg6 := hg6.frozen; replace hcg3 := hg3.cell; replace hfg3 := hg3.frozen; clear hsz hbn hgr)
    | ((with_reducible refine gate_store (p := 23) rfl ?_); refine ev_store_cell rfl rfl rfl hg3 rfl (i := 4) (v := .int .i64 x) rfl rfl (by kernel_rfl) (by first | exact (show (4 : Nat) < 12 by decide) | exact (show (4 : Nat) < 16 by decide) | exact (show (4 : Nat) < 6 by decide)) ?_; intro W3 hgn hgr; replace hgn : Blk W3 g3 _ ((r.put 4 x).cells A c) := hgn; replace hg6 := hg6.grown hgr (by intro e; injection e with e; omega); replace HB := HB.grown hgr (by have := HB.size; omega) (by intro k e; injection e with e; omega); replace hg3 := hgn; replace hcg3 := hg3.cell; replace hfg3 := hg3.frozen; replace hcg6 := hg6.cell; replace hfg6 := hg6.frozen; clear hgn hgr)
    | ((with_reducible refine gate_dst (N := 44) rfl ?_); refine wpList_load_row rfl _ _ rfl g3 rfl _ _ (0, 0) _ hg3 Tryd.underlying27 rfl rec_size ?_)
    | ((with_reducible refine gate_store (p := 6) rfl ?_); refine ev_store_row (cs := (r.put 4 x).cells A c) rfl rfl rfl hg6 rfl rfl rec_size rfl (cells_one _ _ _) ?_; intro W4 hgn hgr; replace hg3 := hg3.grown hgr (by intro e; injection e with e; omega); replace HB := HB.grown hgr (by have := HB.size; omega) (by intro k e; injection e with e; omega); replace hg6 := hgn; replace hcg3 := hg3.cell; replace hfg3 := hg3.frozen; replace hcg6 := hg6.cell; replace hfg6 := hg6.frozen; clear hgn hgr))
  refine bodyPost_ret (results_cell_row rfl _ _ g6 _ _ (0, 0) _ rfl hg6 Tryd.underlying27 rfl rec_size) rfl ?_
  exact ⟨rfl, HB⟩
theorem put5_calls (r : Rec) (A : Option Addr) (c : Nat) (x : Int) (w : World) :
    Calls Tryd.prog 101 #[.agg (r.cells A c), .int .i64 5, .int .i64 x] w fun e w' => e = .returned (.agg ((r.put 5 x).cells A c)) ∧ Below w.heap.size w w' := by
  have HB := Below.refl w.heap.size w
  go_enter Tryd.func101, Tryd.ntmps101
  go_wp2_with (first
    | ((with_reducible refine gate_dst (N := 3) rfl ?_); refine ev_box rfl rfl (r.cells A c) rfl ?_; intro g3 W1 hg3 hsz hbn; have hgr := grown_of_below hbn; have zg3 : w.heap.size ≤ g3 := (by have := HB.size; omega); replace HB := HB.grown hgr (by have := HB.size; omega) (by simp); have hcg3 := hg3.cell; have hfg3 := hg3.frozen; clear hsz hbn hgr)
    | ((with_reducible refine gate_dst (N := 6) rfl ?_); refine ev_alloc rfl rfl _ rec_zero ?_; intro g6 W2 hg6 hsz hbn; have hgr := grown_of_below hbn; have ng3g6 : g3 ≠ g6 := (by have := hg3.lt; omega); replace hg6 : Blk W2 g6 _ (Rec.zero.cells none 0) := hg6; have zg6 : w.heap.size ≤ g6 := (by have := HB.size; omega); replace hg3 := hg3.grown hgr (by simp); replace HB := HB.grown hgr (by have := HB.size; omega) (by simp); have hcg6 := hg6.cell; have hfg6 := hg6.frozen; replace hcg3 := hg3.cell; replace hfg3 := hg3.frozen; clear hsz hbn hgr)
    | ((with_reducible refine gate_store (p := 27) rfl ?_); refine ev_store_cell rfl rfl rfl hg3 rfl (i := 5) (v := .int .i64 x) rfl rfl (by kernel_rfl) (by first | exact (show (5 : Nat) < 12 by decide) | exact (show (5 : Nat) < 16 by decide) | exact (show (5 : Nat) < 6 by decide)) ?_; intro W3 hgn hgr; replace hgn : Blk W3 g3 _ ((r.put 5 x).cells A c) := hgn; replace hg6 := hg6.grown hgr (by intro e; injection e with e; omega); replace HB := HB.grown hgr (by have := HB.size; omega) (by intro k e; injection e with e; omega); replace hg3 := hgn; replace hcg3 := hg3.cell; replace hfg3 := hg3.frozen; replace hcg6 := hg6.cell; replace hfg6 := hg6.frozen; clear hgn hgr)
    | ((with_reducible refine gate_dst (N := 44) rfl ?_); refine wpList_load_row rfl _ _ rfl g3 rfl _ _ (0, 0) _ hg3 Tryd.underlying27 rfl rec_size ?_)
    | ((with_reducible refine gate_store (p := 6) rfl ?_); refine ev_store_row (cs := (r.put 5 x).cells A c) rfl rfl rfl hg6 rfl rfl rec_size rfl (cells_one _ _ _) ?_; intro W4 hgn hgr; replace hg3 := hg3.grown hgr (by intro e; injection e with e; omega); replace HB := HB.grown hgr (by have := HB.size; omega) (by intro k e; injection e with e; omega); replace hg6 := hgn; replace hcg3 := hg3.cell; replace hfg3 := hg3.frozen; replace hcg6 := hg6.cell; replace hfg6 := hg6.frozen; clear hgn hgr))
  refine bodyPost_ret (results_cell_row rfl _ _ g6 _ _ (0, 0) _ rfl hg6 Tryd.underlying27 rfl rec_size) rfl ?_
  exact ⟨rfl, HB⟩
theorem put6_calls (r : Rec) (A : Option Addr) (c : Nat) (x : Int) (w : World) :
    Calls Tryd.prog 101 #[.agg (r.cells A c), .int .i64 6, .int .i64 x] w fun e w' => e = .returned (.agg ((r.put 6 x).cells A c)) ∧ Below w.heap.size w w' := by
  have HB := Below.refl w.heap.size w
  go_enter Tryd.func101, Tryd.ntmps101
  go_wp2_with (first
    | ((with_reducible refine gate_dst (N := 3) rfl ?_); refine ev_box rfl rfl (r.cells A c) rfl ?_; intro g3 W1 hg3 hsz hbn; have hgr := grown_of_below hbn; have zg3 : w.heap.size ≤ g3 := (by have := HB.size; omega); replace HB := HB.grown hgr (by have := HB.size; omega) (by simp); have hcg3 := hg3.cell; have hfg3 := hg3.frozen; clear hsz hbn hgr)
    | ((with_reducible refine gate_dst (N := 6) rfl ?_); refine ev_alloc rfl rfl _ rec_zero ?_; intro g6 W2 hg6 hsz hbn; have hgr := grown_of_below hbn; have ng3g6 : g3 ≠ g6 := (by have := hg3.lt; omega); replace hg6 : Blk W2 g6 _ (Rec.zero.cells none 0) := hg6; have zg6 : w.heap.size ≤ g6 := (by have := HB.size; omega); replace hg3 := hg3.grown hgr (by simp); replace HB := HB.grown hgr (by have := HB.size; omega) (by simp); have hcg6 := hg6.cell; have hfg6 := hg6.frozen; replace hcg3 := hg3.cell; replace hfg3 := hg3.frozen; clear hsz hbn hgr)
    | ((with_reducible refine gate_store (p := 31) rfl ?_); refine ev_store_cell rfl rfl rfl hg3 rfl (i := 6) (v := .int .i64 x) rfl rfl (by kernel_rfl) (by first | exact (show (6 : Nat) < 12 by decide) | exact (show (6 : Nat) < 16 by decide) | exact (show (6 : Nat) < 6 by decide)) ?_; intro W3 hgn hgr; replace hgn : Blk W3 g3 _ ((r.put 6 x).cells A c) := hgn; replace hg6 := hg6.grown hgr (by intro e; injection e with e; omega); replace HB := HB.grown hgr (by have := HB.size; omega) (by intro k e; injection e with e; omega); replace hg3 := hgn; replace hcg3 := hg3.cell; replace hfg3 := hg3.frozen; replace hcg6 := hg6.cell; replace hfg6 := hg6.frozen; clear hgn hgr)
    | ((with_reducible refine gate_dst (N := 44) rfl ?_); refine wpList_load_row rfl _ _ rfl g3 rfl _ _ (0, 0) _ hg3 Tryd.underlying27 rfl rec_size ?_)
    | ((with_reducible refine gate_store (p := 6) rfl ?_); refine ev_store_row (cs := (r.put 6 x).cells A c) rfl rfl rfl hg6 rfl rfl rec_size rfl (cells_one _ _ _) ?_; intro W4 hgn hgr; replace hg3 := hg3.grown hgr (by intro e; injection e with e; omega); replace HB := HB.grown hgr (by have := HB.size; omega) (by intro k e; injection e with e; omega); replace hg6 := hgn; replace hcg3 := hg3.cell; replace hfg3 := hg3.frozen; replace hcg6 := hg6.cell; replace hfg6 := hg6.frozen; clear hgn hgr))
  refine bodyPost_ret (results_cell_row rfl _ _ g6 _ _ (0, 0) _ rfl hg6 Tryd.underlying27 rfl rec_size) rfl ?_
  exact ⟨rfl, HB⟩
theorem put7_calls (r : Rec) (A : Option Addr) (c : Nat) (x : Int) (w : World) :
    Calls Tryd.prog 101 #[.agg (r.cells A c), .int .i64 7, .int .i64 x] w fun e w' => e = .returned (.agg ((r.put 7 x).cells A c)) ∧ Below w.heap.size w w' := by
  have HB := Below.refl w.heap.size w
  go_enter Tryd.func101, Tryd.ntmps101
  go_wp2_with (first
    | ((with_reducible refine gate_dst (N := 3) rfl ?_); refine ev_box rfl rfl (r.cells A c) rfl ?_; intro g3 W1 hg3 hsz hbn; have hgr := grown_of_below hbn; have zg3 : w.heap.size ≤ g3 := (by have := HB.size; omega); replace HB := HB.grown hgr (by have := HB.size; omega) (by simp); have hcg3 := hg3.cell; have hfg3 := hg3.frozen; clear hsz hbn hgr)
    | ((with_reducible refine gate_dst (N := 6) rfl ?_); refine ev_alloc rfl rfl _ rec_zero ?_; intro g6 W2 hg6 hsz hbn; have hgr := grown_of_below hbn; have ng3g6 : g3 ≠ g6 := (by have := hg3.lt; omega); replace hg6 : Blk W2 g6 _ (Rec.zero.cells none 0) := hg6; have zg6 : w.heap.size ≤ g6 := (by have := HB.size; omega); replace hg3 := hg3.grown hgr (by simp); replace HB := HB.grown hgr (by have := HB.size; omega) (by simp); have hcg6 := hg6.cell; have hfg6 := hg6.frozen; replace hcg3 := hg3.cell; replace hfg3 := hg3.frozen; clear hsz hbn hgr)
    | ((with_reducible refine gate_store (p := 35) rfl ?_); refine ev_store_cell rfl rfl rfl hg3 rfl (i := 7) (v := .int .i64 x) rfl rfl (by kernel_rfl) (by first | exact (show (7 : Nat) < 12 by decide) | exact (show (7 : Nat) < 16 by decide) | exact (show (7 : Nat) < 6 by decide)) ?_; intro W3 hgn hgr; replace hgn : Blk W3 g3 _ ((r.put 7 x).cells A c) := hgn; replace hg6 := hg6.grown hgr (by intro e; injection e with e; omega); replace HB := HB.grown hgr (by have := HB.size; omega) (by intro k e; injection e with e; omega); replace hg3 := hgn; replace hcg3 := hg3.cell; replace hfg3 := hg3.frozen; replace hcg6 := hg6.cell; replace hfg6 := hg6.frozen; clear hgn hgr)
    | ((with_reducible refine gate_dst (N := 44) rfl ?_); refine wpList_load_row rfl _ _ rfl g3 rfl _ _ (0, 0) _ hg3 Tryd.underlying27 rfl rec_size ?_)
    | ((with_reducible refine gate_store (p := 6) rfl ?_); refine ev_store_row (cs := (r.put 7 x).cells A c) rfl rfl rfl hg6 rfl rfl rec_size rfl (cells_one _ _ _) ?_; intro W4 hgn hgr; replace hg3 := hg3.grown hgr (by intro e; injection e with e; omega); replace HB := HB.grown hgr (by have := HB.size; omega) (by intro k e; injection e with e; omega); replace hg6 := hgn; replace hcg3 := hg3.cell; replace hfg3 := hg3.frozen; replace hcg6 := hg6.cell; replace hfg6 := hg6.frozen; clear hgn hgr))
  refine bodyPost_ret (results_cell_row rfl _ _ g6 _ _ (0, 0) _ rfl hg6 Tryd.underlying27 rfl rec_size) rfl ?_
  exact ⟨rfl, HB⟩
theorem put8_calls (r : Rec) (A : Option Addr) (c : Nat) (x : Int) (w : World) :
    Calls Tryd.prog 101 #[.agg (r.cells A c), .int .i64 8, .int .i64 x] w fun e w' => e = .returned (.agg ((r.put 8 x).cells A c)) ∧ Below w.heap.size w w' := by
  have HB := Below.refl w.heap.size w
  go_enter Tryd.func101, Tryd.ntmps101
  go_wp2_with (first
    | ((with_reducible refine gate_dst (N := 3) rfl ?_); refine ev_box rfl rfl (r.cells A c) rfl ?_; intro g3 W1 hg3 hsz hbn; have hgr := grown_of_below hbn; have zg3 : w.heap.size ≤ g3 := (by have := HB.size; omega); replace HB := HB.grown hgr (by have := HB.size; omega) (by simp); have hcg3 := hg3.cell; have hfg3 := hg3.frozen; clear hsz hbn hgr)
    | ((with_reducible refine gate_dst (N := 6) rfl ?_); refine ev_alloc rfl rfl _ rec_zero ?_; intro g6 W2 hg6 hsz hbn; have hgr := grown_of_below hbn; have ng3g6 : g3 ≠ g6 := (by have := hg3.lt; omega); replace hg6 : Blk W2 g6 _ (Rec.zero.cells none 0) := hg6; have zg6 : w.heap.size ≤ g6 := (by have := HB.size; omega); replace hg3 := hg3.grown hgr (by simp); replace HB := HB.grown hgr (by have := HB.size; omega) (by simp); have hcg6 := hg6.cell; have hfg6 := hg6.frozen; replace hcg3 := hg3.cell; replace hfg3 := hg3.frozen; clear hsz hbn hgr)
    | ((with_reducible refine gate_store (p := 39) rfl ?_); refine ev_store_cell rfl rfl rfl hg3 rfl (i := 8) (v := .int .i64 x) rfl rfl (by kernel_rfl) (by first | exact (show (8 : Nat) < 12 by decide) | exact (show (8 : Nat) < 16 by decide) | exact (show (8 : Nat) < 6 by decide)) ?_; intro W3 hgn hgr; replace hgn : Blk W3 g3 _ ((r.put 8 x).cells A c) := hgn; replace hg6 := hg6.grown hgr (by intro e; injection e with e; omega); replace HB := HB.grown hgr (by have := HB.size; omega) (by intro k e; injection e with e; omega); replace hg3 := hgn; replace hcg3 := hg3.cell; replace hfg3 := hg3.frozen; replace hcg6 := hg6.cell; replace hfg6 := hg6.frozen; clear hgn hgr)
    | ((with_reducible refine gate_dst (N := 44) rfl ?_); refine wpList_load_row rfl _ _ rfl g3 rfl _ _ (0, 0) _ hg3 Tryd.underlying27 rfl rec_size ?_)
    | ((with_reducible refine gate_store (p := 6) rfl ?_); refine ev_store_row (cs := (r.put 8 x).cells A c) rfl rfl rfl hg6 rfl rfl rec_size rfl (cells_one _ _ _) ?_; intro W4 hgn hgr; replace hg3 := hg3.grown hgr (by intro e; injection e with e; omega); replace HB := HB.grown hgr (by have := HB.size; omega) (by intro k e; injection e with e; omega); replace hg6 := hgn; replace hcg3 := hg3.cell; replace hfg3 := hg3.frozen; replace hcg6 := hg6.cell; replace hfg6 := hg6.frozen; clear hgn hgr))
  refine bodyPost_ret (results_cell_row rfl _ _ g6 _ _ (0, 0) _ rfl hg6 Tryd.underlying27 rfl rec_size) rfl ?_
  exact ⟨rfl, HB⟩
theorem put9_calls (r : Rec) (A : Option Addr) (c : Nat) (x : Int) (w : World) :
    Calls Tryd.prog 101 #[.agg (r.cells A c), .int .i64 9, .int .i64 x] w fun e w' => e = .returned (.agg ((r.put 9 x).cells A c)) ∧ Below w.heap.size w w' := by
  have HB := Below.refl w.heap.size w
  go_enter Tryd.func101, Tryd.ntmps101
  go_wp2_with (first
    | ((with_reducible refine gate_dst (N := 3) rfl ?_); refine ev_box rfl rfl (r.cells A c) rfl ?_; intro g3 W1 hg3 hsz hbn; have hgr := grown_of_below hbn; have zg3 : w.heap.size ≤ g3 := (by have := HB.size; omega); replace HB := HB.grown hgr (by have := HB.size; omega) (by simp); have hcg3 := hg3.cell; have hfg3 := hg3.frozen; clear hsz hbn hgr)
    | ((with_reducible refine gate_dst (N := 6) rfl ?_); refine ev_alloc rfl rfl _ rec_zero ?_; intro g6 W2 hg6 hsz hbn; have hgr := grown_of_below hbn; have ng3g6 : g3 ≠ g6 := (by have := hg3.lt; omega); replace hg6 : Blk W2 g6 _ (Rec.zero.cells none 0) := hg6; have zg6 : w.heap.size ≤ g6 := (by have := HB.size; omega); replace hg3 := hg3.grown hgr (by simp); replace HB := HB.grown hgr (by have := HB.size; omega) (by simp); have hcg6 := hg6.cell; have hfg6 := hg6.frozen; replace hcg3 := hg3.cell; replace hfg3 := hg3.frozen; clear hsz hbn hgr)
    | ((with_reducible refine gate_store (p := 43) rfl ?_); refine ev_store_cell rfl rfl rfl hg3 rfl (i := 9) (v := .int .i64 x) rfl rfl (by kernel_rfl) (by first | exact (show (9 : Nat) < 12 by decide) | exact (show (9 : Nat) < 16 by decide) | exact (show (9 : Nat) < 6 by decide)) ?_; intro W3 hgn hgr; replace hgn : Blk W3 g3 _ ((r.put 9 x).cells A c) := hgn; replace hg6 := hg6.grown hgr (by intro e; injection e with e; omega); replace HB := HB.grown hgr (by have := HB.size; omega) (by intro k e; injection e with e; omega); replace hg3 := hgn; replace hcg3 := hg3.cell; replace hfg3 := hg3.frozen; replace hcg6 := hg6.cell; replace hfg6 := hg6.frozen; clear hgn hgr)
    | ((with_reducible refine gate_dst (N := 44) rfl ?_); refine wpList_load_row rfl _ _ rfl g3 rfl _ _ (0, 0) _ hg3 Tryd.underlying27 rfl rec_size ?_)
    | ((with_reducible refine gate_store (p := 6) rfl ?_); refine ev_store_row (cs := (r.put 9 x).cells A c) rfl rfl rfl hg6 rfl rfl rec_size rfl (cells_one _ _ _) ?_; intro W4 hgn hgr; replace hg3 := hg3.grown hgr (by intro e; injection e with e; omega); replace HB := HB.grown hgr (by have := HB.size; omega) (by intro k e; injection e with e; omega); replace hg6 := hgn; replace hcg3 := hg3.cell; replace hfg3 := hg3.frozen; replace hcg6 := hg6.cell; replace hfg6 := hg6.frozen; clear hgn hgr))
  refine bodyPost_ret (results_cell_row rfl _ _ g6 _ _ (0, 0) _ rfl hg6 Tryd.underlying27 rfl rec_size) rfl ?_
  exact ⟨rfl, HB⟩
theorem put_calls (r : Rec) (A : Option Addr) (c t : Nat) (h1 : 1 ≤ t) (h9 : t ≤ 9) (x : Int) (w : World) :
    Calls Tryd.prog 101 #[.agg (r.cells A c), .int .i64 t, .int .i64 x] w fun e w' => e = .returned (.agg ((r.put t x).cells A c)) ∧ Below w.heap.size w w' := by
  rcases tag_cases h1 (by omega) with rfl | rfl | rfl | rfl | rfl | rfl | rfl | rfl | rfl | rfl | rfl
  case inr.inr.inr.inr.inr.inr.inr.inr.inr.inl => omega
  case inr.inr.inr.inr.inr.inr.inr.inr.inr.inr => omega
  · exact put1_calls r A c x w
  · exact put2_calls r A c x w
  · exact put3_calls r A c x w
  · exact put4_calls r A c x w
  · exact put5_calls r A c x w
  · exact put6_calls r A c x w
  · exact put7_calls r A c x w
  · exact put8_calls r A c x w
  · exact put9_calls r A c x w
end Go.Proofs.YtikodgaomhmbmaaDoor
namespace Go.Proofs.YtikodgaomhmbmaaDoor
open Go.RowKit
attribute [local go_sem] Rec.size_ Rec.g0 Rec.g1 Rec.g2 Rec.g3 Rec.g4 Rec.g5 Rec.g6 Rec.g7 Rec.g8 Rec.g9 Rec.g10 Rec.g11 Rec.fold

/-- A struct and two numbers, from a cell and two slots. -/
theorem results_row_tmp2 {P : Program} {fn : Func} {p u v : Tmp} {ty : TypeId} (h : fn.results = #[.cell p ty, .tmp u, .tmp v]) (tmps : Array Value) (w : World) (g : Nat) (t : TypeId) (cs : Array Value) (fr : Nat × Nat) (d : TypeDesc)
    (hp : tmps.getD p undef = .pointer (some ⟨g, 0, none⟩)) (hg : w.heap[g]? = some (.cells cs t fr))
    (hu : P.underlying ty = some d) (hd : (match d with | .struct _ | .array _ _ => true | _ => false) = true) (hi : (P.info? ty).map (·.size) = some cs.size) :
    (results fn tmps).run P w = .ok (.tuple #[.agg cs, tmps.getD u undef, tmps.getD v undef]) w := by
  have e : (results fn tmps).run P w = ((asAddr (tmps.getD p undef)).run P w).andThen fun a w₁ => ((loadVar ty a).run P w₁).andThen fun x w₂ => .ok (.tuple #[x, tmps.getD u undef, tmps.getD v undef]) w₂ := by
    simp only [results, h]
    simp [Sem.run_bind, Result.andThen]
  rw [e, hp]
  simp [asAddr, Result.andThen, run_loadVar_row w g t ty cs fr d hg hu hd hi]
theorem ret_row2 {P : Program} {fn : Func} {R : Ending → World → Prop} {a : Act} {w : World} {p u v : Tmp} {ty : TypeId} {g : Nat} {t : TypeId} {cs : Array Value} {d : TypeDesc} (h : fn.results = #[.cell p ty, .tmp u, .tmp v])
    (hg : Blk w g t cs) (hp : a.tmps.getD p undef = .pointer (some ⟨g, 0, none⟩))
    (hu : P.underlying ty = some d) (hd : (match d with | .struct _ | .array _ _ => true | _ => false) = true) (hi : (P.info? ty).map (·.size) = some cs.size) (hdf : a.defers = [])
    (hR : R (.returned (.tuple #[.agg cs, a.tmps.getD u undef, a.tmps.getD v undef])) w) : bodyPost P fn R .ret a w :=
  bodyPost_ret (results_row_tmp2 h _ _ g _ _ (0, 0) _ hp hg hu hd hi) hdf hR
/-- What annalsref3.read answers. -/
def ReadSaid (P : Program) (y : Rec × Nat × Int) (r : Rec) (A : Option Addr) (c : Nat) (L : Option Addr) (len cl p t : Nat) (w : World) : Prop :=
  Calls P 87 #[.agg (r.cells A c), .int .i64 t, .slice L len cl, .int .i64 p] w fun e w' => ∃ A' c', e = .returned (.tuple #[.agg (y.1.cells A' c'), .int .i64 (readAt p y.2.1 y.2.2), .int .i64 y.2.2])
    ∧ RU w' A' y.1.Data ∧ Below w.heap.size w w'
set_option maxHeartbeats 1000000 in
set_option maxRecDepth 100000 in
theorem read7_calls (r : Rec) (A : Option Addr) (c : Nat) (l : List UInt8) (L : Option Addr) (cl p : Nat) (hp : p ≤ l.length) (hl : l.length ≤ 140737488351232) (w : World) (hd : RB w L l) (hr : RU w A r.Data) :
    ReadSaid Tryd.prog (valR r 7 (l.drop p)) r A c L l.length cl p 7 w := by
  have HB := Below.refl w.heap.size w
  have cu := refReadInt_calls l L cl p hp hl
  have hv : valR r 7 (l.drop p) = (r.put 7 (if (readL 0 0 (l.drop p)).2.2 = 0 then zag (readL 0 0 (l.drop p)).1 else 0), (readL 0 0 (l.drop p)).2.1, (readL 0 0 (l.drop p)).2.2) := if_pos rfl
  rw [hv]
  have hq : readEnd p (readL 0 0 (l.drop p)) = readAt p (readL 0 0 (l.drop p)).2.1 (readL 0 0 (l.drop p)).2.2 := rfl
  rw [hq] at cu
  unfold ReadSaid
  simp only
  generalize (if (readL 0 0 (l.drop p)).2.2 = 0 then zag (readL 0 0 (l.drop p)).1 else 0) = z at cu
  generalize readAt p (readL 0 0 (l.drop p)).2.1 (readL 0 0 (l.drop p)).2.2 = q at cu
  generalize (readL 0 0 (l.drop p)).2.2 = er at cu
  have hpd := put_data r 7 z
  have Cu := Lib.hid cu
  have Hpd := Lib.hid hpd
  clear cu hv hq hpd
  go_enter Tryd.func87, Tryd.ntmps87
  go_wp2_with (first
    | ((with_reducible refine gate_dst (N := 4) rfl ?_); refine ev_box rfl rfl (r.cells A c) rfl ?_; intro g4 W1 hg4 hsz hbn; have hgr := grown_of_below hbn; have zg4 : w.heap.size ≤ g4 := (by have := HB.size; omega); replace HB := HB.grown hgr (by have := HB.size; omega) (by simp); have hcg4 := hg4.cell; have hfg4 := hg4.frozen; clear hsz hbn hgr)
    | ((with_reducible refine gate_dst (N := 8) rfl ?_); refine ev_alloc rfl rfl _ rec_zero ?_; intro g8 W2 hg8 hsz hbn; have hgr := grown_of_below hbn; have ng4g8 : g4 ≠ g8 := (by have := hg4.lt; omega); replace hg8 : Blk W2 g8 _ (Rec.zero.cells none 0) := hg8; have zg8 : w.heap.size ≤ g8 := (by have := HB.size; omega); replace hg4 := hg4.grown hgr (by simp); replace HB := HB.grown hgr (by have := HB.size; omega) (by simp); have hcg8 := hg8.cell; have hfg8 := hg8.frozen; replace hcg4 := hg4.cell; replace hfg4 := hg4.frozen; clear hsz hbn hgr)
    | (go_at_call 100; (with_reducible refine (Cu.out _ (hd.next HB)).mono ?_); rintro e w1 ⟨rfl, rfl⟩)
    | ((with_reducible refine gate_dst (N := 33) rfl ?_); refine wpList_load_row rfl _ _ rfl g4 rfl _ _ (0, 0) _ hg4 Tryd.underlying27 rfl rec_size ?_)
    | (go_at_call 101; (with_reducible refine (put7_calls r A c z _).mono ?_); rintro e W3 ⟨rfl, hb⟩; have hgr := grown_of_below hb; replace hg4 := hg4.grown hgr (by simp); replace hg8 := hg8.grown hgr (by simp); replace HB := HB.grown hgr (by have := HB.size; omega) (by simp); replace hcg4 := hg4.cell; replace hfg4 := hg4.frozen; replace hcg8 := hg8.cell; replace hfg8 := hg8.frozen; clear hb hgr)
    | ((with_reducible refine gate_store (p := 8) rfl ?_); refine ev_store_row (cs := (r.put 7 z).cells A c) rfl rfl rfl hg8 rfl rfl rec_size rfl (cells_one _ _ _) ?_; intro W4 hgn hgr; replace hg4 := hg4.grown hgr (by intro e; injection e with e; omega); replace HB := HB.grown hgr (by have := HB.size; omega) (by intro k e; injection e with e; omega); replace hg8 := hgn; replace hcg4 := hg4.cell; replace hfg4 := hg4.frozen; replace hcg8 := hg8.cell; replace hfg8 := hg8.frozen; clear hgn hgr))
  refine ret_row2 rfl hg8 rfl Tryd.underlying27 rfl rec_size rfl ?_
  exact ⟨A, c, rfl, by rw [Hpd.out]; exact hr.next HB, HB⟩
set_option maxHeartbeats 1000000 in
set_option maxRecDepth 100000 in
theorem read10_calls (r : Rec) (A : Option Addr) (c : Nat) (l : List UInt8) (L : Option Addr) (cl p : Nat) (hp : p ≤ l.length) (hl : l.length ≤ 140737488351232) (w : World) (hd : RB w L l) (hr : RU w A r.Data) :
    ReadSaid Tryd.prog (valR r 10 (l.drop p)) r A c L l.length cl p 10 w := by
  have HB := Below.refl w.heap.size w
  have cu := refReadBytes_calls l L cl p 192 hp hl (by omega)
  rw [show ((192 : Nat) : Int) = 192 from rfl] at cu
  have hv : valR r 10 (l.drop p) = ({ r with Name := ⟨(readB 192 (l.drop p)).1.toArray⟩ }, (readB 192 (l.drop p)).2.1, (readB 192 (l.drop p)).2.2) := by unfold valR; rw [if_neg (by omega), if_pos rfl]
  rw [hv]
  unfold ReadSaid
  simp only
  generalize readAt p (readB 192 (l.drop p)).2.1 (readB 192 (l.drop p)).2.2 = q at cu
  generalize (readB 192 (l.drop p)).2.2 = er at cu
  generalize (readB 192 (l.drop p)).1 = x at cu
  have Cu := Lib.hid cu
  clear cu hv
  go_enter Tryd.func87, Tryd.ntmps87
  go_wp2_with (first
    | ((with_reducible refine gate_dst (N := 4) rfl ?_); refine ev_box rfl rfl (r.cells A c) rfl ?_; intro g4 W1 hg4 hsz hbn; have hgr := grown_of_below hbn; have zg4 : w.heap.size ≤ g4 := (by have := HB.size; omega); replace HB := HB.grown hgr (by have := HB.size; omega) (by simp); have hcg4 := hg4.cell; have hfg4 := hg4.frozen; clear hsz hbn hgr)
    | ((with_reducible refine gate_dst (N := 8) rfl ?_); refine ev_alloc rfl rfl _ rec_zero ?_; intro g8 W2 hg8 hsz hbn; have hgr := grown_of_below hbn; have ng4g8 : g4 ≠ g8 := (by have := hg4.lt; omega); replace hg8 : Blk W2 g8 _ (Rec.zero.cells none 0) := hg8; have zg8 : w.heap.size ≤ g8 := (by have := HB.size; omega); replace hg4 := hg4.grown hgr (by simp); replace HB := HB.grown hgr (by have := HB.size; omega) (by simp); have hcg8 := hg8.cell; have hfg8 := hg8.frozen; replace hcg4 := hg4.cell; replace hfg4 := hg4.frozen; clear hsz hbn hgr)
    | (go_at_call 102; (with_reducible refine (Cu.out _ (hd.next HB)).mono ?_); rintro e W3 ⟨A5, c5, rfl, o5, hb⟩; have hgr := grown_of_below hb; replace hg4 := hg4.grown hgr (by simp); replace hg8 := hg8.grown hgr (by simp); replace HB := HB.grown hgr (by have := HB.size; omega) (by simp); replace hcg4 := hg4.cell; replace hfg4 := hg4.frozen; replace hcg8 := hg8.cell; replace hfg8 := hg8.frozen; clear hb hgr; have cv := conv_bytes (own_rb o5) c5)
    | ((with_reducible refine gate_store (p := 49) rfl ?_); refine ev_store_cell rfl rfl rfl hg4 rfl (i := 10) (v := .string ⟨x.toArray⟩) rfl rfl (by kernel_rfl) (by first | exact (show (10 : Nat) < 12 by decide) | exact (show (10 : Nat) < 16 by decide) | exact (show (10 : Nat) < 6 by decide)) ?_; intro W4 hgn hgr; replace hgn : Blk W4 g4 _ (({ r with Name := ⟨x.toArray⟩ } : Rec).cells A c) := hgn; replace hg8 := hg8.grown hgr (by intro e; injection e with e; omega); replace HB := HB.grown hgr (by have := HB.size; omega) (by intro k e; injection e with e; omega); replace hg4 := hgn; replace hcg4 := hg4.cell; replace hfg4 := hg4.frozen; replace hcg8 := hg8.cell; replace hfg8 := hg8.frozen; clear hgn hgr)
    | ((with_reducible refine gate_dst (N := 50) rfl ?_); refine wpList_load_row rfl _ _ rfl g4 rfl _ _ (0, 0) _ hg4 Tryd.underlying27 rfl rec_size ?_)
    | ((with_reducible refine gate_store (p := 8) rfl ?_); refine ev_store_row (cs := ({ r with Name := ⟨x.toArray⟩ } : Rec).cells A c) rfl rfl rfl hg8 rfl rfl rec_size rfl (cells_one _ _ _) ?_; intro W5 hgn hgr; replace hg4 := hg4.grown hgr (by intro e; injection e with e; omega); replace HB := HB.grown hgr (by have := HB.size; omega) (by intro k e; injection e with e; omega); replace hg8 := hgn; replace hcg4 := hg4.cell; replace hfg4 := hg4.frozen; replace hcg8 := hg8.cell; replace hfg8 := hg8.frozen; clear hgn hgr))
  refine ret_row2 rfl hg8 rfl Tryd.underlying27 rfl rec_size rfl ?_
  exact ⟨A, c, rfl, hr.next HB, HB⟩
set_option maxHeartbeats 1000000 in
set_option maxRecDepth 100000 in
theorem read11_calls (r : Rec) (A : Option Addr) (c : Nat) (l : List UInt8) (L : Option Addr) (cl p : Nat) (hp : p ≤ l.length) (hl : l.length ≤ 140737488351232) (w : World) (hd : RB w L l) (hr : RU w A r.Data) :
    ReadSaid Tryd.prog (valR r 11 (l.drop p)) r A c L l.length cl p 11 w := by
  have HB := Below.refl w.heap.size w
  have cu := refReadBytes_calls l L cl p 16384 hp hl (by omega)
  rw [show ((16384 : Nat) : Int) = 16384 from rfl] at cu
  have hv : valR r 11 (l.drop p) = ({ r with Data := (readB 16384 (l.drop p)).1 }, (readB 16384 (l.drop p)).2.1, (readB 16384 (l.drop p)).2.2) := by unfold valR; rw [if_neg (by omega), if_neg (by omega), if_pos rfl]
  rw [hv]
  unfold ReadSaid
  simp only
  generalize readAt p (readB 16384 (l.drop p)).2.1 (readB 16384 (l.drop p)).2.2 = q at cu
  generalize (readB 16384 (l.drop p)).2.2 = er at cu
  generalize (readB 16384 (l.drop p)).1 = x at cu
  have Cu := Lib.hid cu
  clear cu hv
  go_enter Tryd.func87, Tryd.ntmps87
  go_wp2_with (first
    | ((with_reducible refine gate_dst (N := 4) rfl ?_); refine ev_box rfl rfl (r.cells A c) rfl ?_; intro g4 W1 hg4 hsz hbn; have hgr := grown_of_below hbn; have zg4 : w.heap.size ≤ g4 := (by have := HB.size; omega); replace HB := HB.grown hgr (by have := HB.size; omega) (by simp); have hcg4 := hg4.cell; have hfg4 := hg4.frozen; clear hsz hbn hgr)
    | ((with_reducible refine gate_dst (N := 8) rfl ?_); refine ev_alloc rfl rfl _ rec_zero ?_; intro g8 W2 hg8 hsz hbn; have hgr := grown_of_below hbn; have ng4g8 : g4 ≠ g8 := (by have := hg4.lt; omega); replace hg8 : Blk W2 g8 _ (Rec.zero.cells none 0) := hg8; have zg8 : w.heap.size ≤ g8 := (by have := HB.size; omega); replace hg4 := hg4.grown hgr (by simp); replace HB := HB.grown hgr (by have := HB.size; omega) (by simp); have hcg8 := hg8.cell; have hfg8 := hg8.frozen; replace hcg4 := hg4.cell; replace hfg4 := hg4.frozen; clear hsz hbn hgr)
    | (go_at_call 102; (with_reducible refine (Cu.out _ (hd.next HB)).mono ?_); rintro e W3 ⟨A5, c5, rfl, o5, hb⟩; have hgr := grown_of_below hb; replace hg4 := hg4.grown hgr (by simp); replace hg8 := hg8.grown hgr (by simp); replace HB := HB.grown hgr (by have := HB.size; omega) (by simp); replace hcg4 := hg4.cell; replace hfg4 := hg4.frozen; replace hcg8 := hg8.cell; replace hfg8 := hg8.frozen; clear hb hgr; have hd5 := RU.of_own o5)
    | ((with_reducible refine gate_store (p := 63) rfl ?_); refine ev_store_cell rfl rfl rfl hg4 rfl (i := 11) (v := .slice A5 x.length c5) rfl rfl (by kernel_rfl) (by first | exact (show (11 : Nat) < 12 by decide) | exact (show (11 : Nat) < 16 by decide) | exact (show (11 : Nat) < 6 by decide)) ?_; intro W4 hgn hgr; replace hgn : Blk W4 g4 _ (({ r with Data := x } : Rec).cells A5 c5) := hgn; replace hd5 := hd5.kept hgr (RU.ne_blk hd5 hg4 (by decide)); replace hg8 := hg8.grown hgr (by intro e; injection e with e; omega); replace HB := HB.grown hgr (by have := HB.size; omega) (by intro k e; injection e with e; omega); replace hg4 := hgn; replace hcg4 := hg4.cell; replace hfg4 := hg4.frozen; replace hcg8 := hg8.cell; replace hfg8 := hg8.frozen; clear hgn hgr)
    | ((with_reducible refine gate_dst (N := 64) rfl ?_); refine wpList_load_row rfl _ _ rfl g4 rfl _ _ (0, 0) _ hg4 Tryd.underlying27 rfl rec_size ?_)
    | ((with_reducible refine gate_store (p := 8) rfl ?_); refine ev_store_row (cs := ({ r with Data := x } : Rec).cells A5 c5) rfl rfl rfl hg8 rfl rfl rec_size rfl (cells_one _ _ _) ?_; intro W5 hgn hgr; replace hd5 := hd5.kept hgr (RU.ne_blk hd5 hg8 (by decide)); replace hg4 := hg4.grown hgr (by intro e; injection e with e; omega); replace HB := HB.grown hgr (by have := HB.size; omega) (by intro k e; injection e with e; omega); replace hg8 := hgn; replace hcg4 := hg4.cell; replace hfg4 := hg4.frozen; replace hcg8 := hg8.cell; replace hfg8 := hg8.frozen; clear hgn hgr))
  refine ret_row2 rfl hg8 rfl Tryd.underlying27 rfl rec_size rfl ?_
  exact ⟨A5, c5, rfl, hd5, HB⟩
set_option maxHeartbeats 1000000 in
set_option maxRecDepth 100000 in
theorem readN_calls (r : Rec) (A : Option Addr) (c : Nat) (l : List UInt8) (L : Option Addr) (cl p t : Nat) (h1t : 1 ≤ t) (h9t : t ≤ 9) (h7 : t ≠ 7) (hp : p ≤ l.length) (hl : l.length ≤ 140737488351232) (w : World) (hd : RB w L l) (hr : RU w A r.Data) :
    ReadSaid Tryd.prog (valR r t (l.drop p)) r A c L l.length cl p t w := by
  have HB := Below.refl w.heap.size w
  have cu := refReadUint_calls l L cl p hp hl
  have hv : valR r t (l.drop p) = _ := rfl
  conv at hv => rhs; unfold valR
  rw [if_neg h7, if_neg (by omega), if_neg (by omega)] at hv
  have hu := readL_lt (l.drop p) 0 0 (by omega) (by simp)
  have hq : readEnd p (readL 0 0 (l.drop p)) = readAt p (readL 0 0 (l.drop p)).2.1 (readL 0 0 (l.drop p)).2.2 := rfl
  rw [hq] at cu
  generalize readL 0 0 (l.drop p) = x at cu hv hu
  obtain ⟨u, k, er⟩ := x
  simp only at cu hv hu
  have t7 : ((t : Int) == 7) = false := int_beq_false (by omega)
  have t10 : ((t : Int) == 10) = false := int_beq_false (by omega)
  have t11 : ((t : Int) == 11) = false := int_beq_false (by omega)
  unfold ReadSaid
  by_cases h0 : er = 0
  · subst h0
    have t1 : ((0 : Int) != 0) = false := rfl
    rw [if_neg (by simp)] at hv
    have q : readAt p k 0 = ((p + k : Nat) : Int) := rfl
    rw [q] at cu
    by_cases hm : 9223372036854775807 < u
    · rw [if_pos hm] at hv
      rw [hv]
      simp only
      have q2 : readAt p 0 34 = 0 := rfl
      rw [q2]
      have t2 : decide ((9223372036854775807 : Int) < (u : Int)) = true := by rw [decide_eq_true_eq]; exact Int.ofNat_lt.2 hm
      have t2' : decide (9223372036854775807 < u) = true := by rw [decide_eq_true_eq]; exact hm
      have Cu := Lib.hid cu
      clear cu hv hq q hm hu q2
      go_enter Tryd.func87, Tryd.ntmps87
      go_wp2_with (first
        | ((with_reducible refine gate_dst (N := 4) rfl ?_); refine ev_box rfl rfl (r.cells A c) rfl ?_; intro g4 W1 hg4 hsz hbn; have hgr := grown_of_below hbn; have zg4 : w.heap.size ≤ g4 := (by have := HB.size; omega); replace HB := HB.grown hgr (by have := HB.size; omega) (by simp); have hcg4 := hg4.cell; have hfg4 := hg4.frozen; clear hsz hbn hgr)
        | ((with_reducible refine gate_dst (N := 8) rfl ?_); refine ev_alloc rfl rfl _ rec_zero ?_; intro g8 W2 hg8 hsz hbn; have hgr := grown_of_below hbn; have ng4g8 : g4 ≠ g8 := (by have := hg4.lt; omega); replace hg8 : Blk W2 g8 _ (Rec.zero.cells none 0) := hg8; have zg8 : w.heap.size ≤ g8 := (by have := HB.size; omega); replace hg4 := hg4.grown hgr (by simp); replace HB := HB.grown hgr (by have := HB.size; omega) (by simp); have hcg8 := hg8.cell; have hfg8 := hg8.frozen; replace hcg4 := hg4.cell; replace hfg4 := hg4.frozen; clear hsz hbn hgr)
        | (go_at_call 86; (with_reducible refine (Cu.out _ (hd.next HB)).mono ?_); rintro e w1 ⟨rfl, rfl⟩)
        | ((with_reducible refine gate_dst (N := 80) rfl ?_); refine wpList_load_row rfl _ _ rfl g4 rfl _ _ (0, 0) _ hg4 Tryd.underlying27 rfl rec_size ?_)
        | ((with_reducible refine gate_store (p := 8) rfl ?_); refine ev_store_row (cs := r.cells A c) rfl rfl rfl hg8 rfl rfl rec_size rfl (cells_one _ _ _) ?_; intro W3 hgn hgr; replace hg4 := hg4.grown hgr (by intro e; injection e with e; omega); replace HB := HB.grown hgr (by have := HB.size; omega) (by intro k e; injection e with e; omega); replace hg8 := hgn; replace hcg4 := hg4.cell; replace hfg4 := hg4.frozen; replace hcg8 := hg8.cell; replace hfg8 := hg8.frozen; clear hgn hgr))
      refine ret_row2 rfl hg8 rfl Tryd.underlying27 rfl rec_size rfl ?_
      exact ⟨A, c, rfl, hr.next HB, HB⟩
    · rw [if_neg hm] at hv
      rw [hv]
      simp only
      have t2 : decide ((9223372036854775807 : Int) < (u : Int)) = false := by rw [decide_eq_false_iff_not]; intro h; exact hm (Int.ofNat_lt.1 h)
      have t2' : decide (9223372036854775807 < u) = false := by rw [decide_eq_false_iff_not]; exact hm
      have tw := wrap64_nat u (Nat.le_of_not_lt hm)
      have tw2 := wrap_i64_nat u (Nat.le_of_not_lt hm)
      have pd := put_data r t u
      have cp := fun w => put_calls r A c t h1t h9t u w
      rw [q]
      generalize r.put t (u : Int) = r' at pd cp
      have Cu := Lib.hid cu
      have Cp := Lib.hid cp
      have Pd := Lib.hid pd
      clear cu hv hq q hm hu cp pd
      go_enter Tryd.func87, Tryd.ntmps87
      go_wp2_with (first
        | ((with_reducible refine gate_dst (N := 4) rfl ?_); refine ev_box rfl rfl (r.cells A c) rfl ?_; intro g4 W1 hg4 hsz hbn; have hgr := grown_of_below hbn; have zg4 : w.heap.size ≤ g4 := (by have := HB.size; omega); replace HB := HB.grown hgr (by have := HB.size; omega) (by simp); have hcg4 := hg4.cell; have hfg4 := hg4.frozen; clear hsz hbn hgr)
        | ((with_reducible refine gate_dst (N := 8) rfl ?_); refine ev_alloc rfl rfl _ rec_zero ?_; intro g8 W2 hg8 hsz hbn; have hgr := grown_of_below hbn; have ng4g8 : g4 ≠ g8 := (by have := hg4.lt; omega); replace hg8 : Blk W2 g8 _ (Rec.zero.cells none 0) := hg8; have zg8 : w.heap.size ≤ g8 := (by have := HB.size; omega); replace hg4 := hg4.grown hgr (by simp); replace HB := HB.grown hgr (by have := HB.size; omega) (by simp); have hcg8 := hg8.cell; have hfg8 := hg8.frozen; replace hcg4 := hg4.cell; replace hfg4 := hg4.frozen; clear hsz hbn hgr)
        | (go_at_call 86; (with_reducible refine (Cu.out _ (hd.next HB)).mono ?_); rintro e w1 ⟨rfl, rfl⟩)
        | ((with_reducible refine gate_dst (N := 81) rfl ?_); refine wpList_load_row rfl _ _ rfl g4 rfl _ _ (0, 0) _ hg4 Tryd.underlying27 rfl rec_size ?_)
        | (go_at_call 101; (with_reducible refine (Cp.out _).mono ?_); rintro e W3 ⟨rfl, hb⟩; have hgr := grown_of_below hb; replace hg4 := hg4.grown hgr (by simp); replace hg8 := hg8.grown hgr (by simp); replace HB := HB.grown hgr (by have := HB.size; omega) (by simp); replace hcg4 := hg4.cell; replace hfg4 := hg4.frozen; replace hcg8 := hg8.cell; replace hfg8 := hg8.frozen; clear hb hgr)
        | ((with_reducible refine gate_store (p := 8) rfl ?_); refine ev_store_row (cs := r'.cells A c) rfl rfl rfl hg8 rfl rfl rec_size rfl (cells_one _ _ _) ?_; intro W4 hgn hgr; replace hg4 := hg4.grown hgr (by intro e; injection e with e; omega); replace HB := HB.grown hgr (by have := HB.size; omega) (by intro k e; injection e with e; omega); replace hg8 := hgn; replace hcg4 := hg4.cell; replace hfg4 := hg4.frozen; replace hcg8 := hg8.cell; replace hfg8 := hg8.frozen; clear hgn hgr))
      refine ret_row2 rfl hg8 rfl Tryd.underlying27 rfl rec_size rfl ?_
      exact ⟨A, c, rfl, by rw [Pd.out]; exact hr.next HB, HB⟩
  · rw [if_pos h0] at hv
    rw [hv]
    simp only
    have t1 := int_bne_true h0
    have q : readAt p k er = 0 := if_neg h0
    have q2 : readAt p 0 er = 0 := if_neg h0
    rw [q] at cu
    rw [q2]
    have Cu := Lib.hid cu
    clear cu hv hq q q2 h0 hu
    go_enter Tryd.func87, Tryd.ntmps87
    go_wp2_with (first
      | ((with_reducible refine gate_dst (N := 4) rfl ?_); refine ev_box rfl rfl (r.cells A c) rfl ?_; intro g4 W1 hg4 hsz hbn; have hgr := grown_of_below hbn; have zg4 : w.heap.size ≤ g4 := (by have := HB.size; omega); replace HB := HB.grown hgr (by have := HB.size; omega) (by simp); have hcg4 := hg4.cell; have hfg4 := hg4.frozen; clear hsz hbn hgr)
      | ((with_reducible refine gate_dst (N := 8) rfl ?_); refine ev_alloc rfl rfl _ rec_zero ?_; intro g8 W2 hg8 hsz hbn; have hgr := grown_of_below hbn; have ng4g8 : g4 ≠ g8 := (by have := hg4.lt; omega); replace hg8 : Blk W2 g8 _ (Rec.zero.cells none 0) := hg8; have zg8 : w.heap.size ≤ g8 := (by have := HB.size; omega); replace hg4 := hg4.grown hgr (by simp); replace HB := HB.grown hgr (by have := HB.size; omega) (by simp); have hcg8 := hg8.cell; have hfg8 := hg8.frozen; replace hcg4 := hg4.cell; replace hfg4 := hg4.frozen; clear hsz hbn hgr)
      | (go_at_call 86; (with_reducible refine (Cu.out _ (hd.next HB)).mono ?_); rintro e w1 ⟨rfl, rfl⟩)
      | ((with_reducible refine gate_dst (N := 76) rfl ?_); refine wpList_load_row rfl _ _ rfl g4 rfl _ _ (0, 0) _ hg4 Tryd.underlying27 rfl rec_size ?_)
      | ((with_reducible refine gate_store (p := 8) rfl ?_); refine ev_store_row (cs := r.cells A c) rfl rfl rfl hg8 rfl rfl rec_size rfl (cells_one _ _ _) ?_; intro W3 hgn hgr; replace hg4 := hg4.grown hgr (by intro e; injection e with e; omega); replace HB := HB.grown hgr (by have := HB.size; omega) (by intro k e; injection e with e; omega); replace hg8 := hgn; replace hcg4 := hg4.cell; replace hfg4 := hg4.frozen; replace hcg8 := hg8.cell; replace hfg8 := hg8.frozen; clear hgn hgr))
    refine ret_row2 rfl hg8 rfl Tryd.underlying27 rfl rec_size rfl ?_
    exact ⟨A, c, rfl, hr.next HB, HB⟩
theorem read_calls (r : Rec) (A : Option Addr) (c : Nat) (l : List UInt8) (L : Option Addr) (cl p t : Nat) (h1t : 1 ≤ t) (h11 : t ≤ 11) (hp : p ≤ l.length) (hl : l.length ≤ 140737488351232) (w : World) (hd : RB w L l) (hr : RU w A r.Data) :
    ReadSaid Tryd.prog (valR r t (l.drop p)) r A c L l.length cl p t w := by
  by_cases h7 : t = 7
  · subst h7
    exact read7_calls r A c l L cl p hp hl w hd hr
  by_cases h10 : t = 10
  · subst h10
    exact read10_calls r A c l L cl p hp hl w hd hr
  by_cases h11' : t = 11
  · subst h11'
    exact read11_calls r A c l L cl p hp hl w hd hr
  · exact readN_calls r A c l L cl p t h1t (by omega) h7 hp hl w hd hr
end Go.Proofs.YtikodgaomhmbmaaDoor
namespace Go.Proofs.YtikodgaomhmbmaaDoor
open Go.RowKit
attribute [local go_sem] Rec.size_ Rec.g0 Rec.g1 Rec.g2 Rec.g3 Rec.g4 Rec.g5 Rec.g6 Rec.g7 Rec.g8 Rec.g9 Rec.g10 Rec.g11 Rec.fold

theorem val_name {r : Rec} (h : r.Name.size ≤ 192) (t : Nat) (s : List UInt8) : (valR r t s).1.Name.size ≤ 192 := by
  have hp : ∀ t x, (r.put t x).Name = r.Name := fun t x => by unfold Rec.put; split <;> rfl
  have h1 := readB_len 192 s
  unfold valR
  repeat' split
  · show (r.put _ _).Name.size ≤ 192
    rw [hp]; exact h
  · show (r.put _ _).Name.size ≤ 192
    rw [hp]; exact h
  · show (readB 192 s).1.toArray.size ≤ 192
    simpa using h1
  · exact h
  · exact h
  · exact h
  · show (r.put _ _).Name.size ≤ 192
    rw [hp]; exact h
/-- What annalsref3.fields answers. -/
def FieldsSaid (P : Program) (d : Rec × Int) (v : Int) (L : Option Addr) (len cl : Nat) (w : World) : Prop :=
  Calls P 72 #[.int .i64 v, .slice L len cl] w fun e w' => ∃ (r' : Rec) (A' : Option Addr) (c' : Nat), e = .returned (.tuple #[.agg (r'.cells A' c'), .int .i64 d.2]) ∧ Aside (d.2 = 0 → d.1 = r') ∧ Aside (r'.Name.size ≤ 192) ∧ RU w' A' r'.Data ∧ Below w.heap.size w w'
set_option maxHeartbeats 4000000 in
set_option maxRecDepth 100000 in
theorem fields_calls' (v : Int) (l : List UInt8) (L : Option Addr) (cl : Nat) (hl : l.length ≤ 140737488351232) (w : World) (hd : RB w L l) :
    FieldsSaid Tryd.prog (decN 12 (startR v) 0 l) v L l.length cl w := by
  have HB := Below.refl w.heap.size w
  unfold FieldsSaid
  generalize hD : decN 12 (startR v) 0 l = D
  go_enter Tryd.func72, Tryd.ntmps72
  go_wp2_with (first
    | ((with_reducible refine gate_dst (N := 4) rfl ?_); refine ev_alloc rfl rfl _ rec_zero ?_; intro g4 W1 hg4 hsz hbn; have hgr := grown_of_below hbn; replace hg4 : Blk W1 g4 _ (Rec.zero.cells none 0) := hg4; have zg4 : w.heap.size ≤ g4 := (by have := HB.size; omega); replace HB := HB.grown hgr (by have := HB.size; omega) (by simp); have hcg4 := hg4.cell; have hfg4 := hg4.frozen; clear hsz hbn hgr)
    | ((with_reducible refine gate_dst (N := 6) rfl ?_); refine ev_alloc rfl rfl _ rec_zero ?_; intro g6 W2 hg6 hsz hbn; have hgr := grown_of_below hbn; have ng4g6 : g4 ≠ g6 := (by have := hg4.lt; omega); replace hg6 : Blk W2 g6 _ (Rec.zero.cells none 0) := hg6; have zg6 : w.heap.size ≤ g6 := (by have := HB.size; omega); replace hg4 := hg4.grown hgr (by simp); replace HB := HB.grown hgr (by have := HB.size; omega) (by simp); have hcg6 := hg6.cell; have hfg6 := hg6.frozen; replace hcg4 := hg4.cell; replace hfg4 := hg4.frozen; clear hsz hbn hgr)
    | ((with_reducible refine gate_store (p := 6) rfl ?_); refine ev_store_row (cs := (startR v).cells none 0) rfl rfl rfl hg6 rfl rfl rec_size rfl (cells_one _ _ _) ?_; intro W3 hgn hgr; replace hg4 := hg4.grown hgr (by intro e; injection e with e; omega); replace HB := HB.grown hgr (by have := HB.size; omega) (by intro k e; injection e with e; omega); replace hg6 := hgn; replace hcg4 := hg4.cell; replace hfg4 := hg4.frozen; replace hcg6 := hg6.cell; replace hfg6 := hg6.frozen; clear hgn hgr))
  go_loopg [7, 8] 12 (fun n v7 v8 wr => ∃ (r : Rec) (A6 : Option Addr) (c6 p t : Nat), n + t = 13 ∧ 1 ≤ t ∧ t ≤ 12 ∧ v7 = .int .i64 p ∧ v8 = .int .i64 t ∧ Aside ((∃ f last, 12 ≤ f + last ∧ last < t ∧ D = decN f r last (l.drop p) ∧ (p < l.length → (readL 0 0 (l.drop p)).2.2 = 0 → ¬ (last < (readL 0 0 (l.drop p)).1 ∧ (readL 0 0 (l.drop p)).1 < t))) ∧ p ≤ l.length ∧ r.Name.size ≤ 192
    ∧ Blk wr g4 _ (Rec.zero.cells none 0) ∧ Blk wr g6 _ (r.cells A6 c6) ∧ RU wr A6 r.Data ∧ Below w.heap.size w wr))
  case atStart => exact ⟨startR v, none, 0, 0, 1, by omega, by omega, by omega, rfl, rfl, ⟨⟨12, 0, by omega, by omega, hD.symm, fun _ _ h => by omega⟩, by omega, (show Rec.zero.Name.size ≤ 192 by decide), hg4, hg6, RU.nil, HB⟩⟩
  case round =>
    clear hg4 hcg4 hfg4 hg6 hcg6 hfg6 HB hD
    obtain ⟨r, A6, c6, p, t, hn, h1t, ht12', rfl, rfl, HA⟩ := hrel
    obtain ⟨⟨f, last, hf, hlt, hdec, hskip⟩, hp, hname, hg4, hg6, hd6, HB⟩ := HA.out
    clear HA
    have hcg4 := hg4.cell
    have hfg4 := hg4.frozen
    have hcg6 := hg6.cell
    have hfg6 := hg6.frozen
    have Hname := Lib.hid hname
    have tw : IntKind.u64.wrap (t : Int) = t := wrap_u64_nat t (by omega)
    by_cases hpl : p < l.length
    · have s2 : decide ((p : Int) < (l.length : Int)) = true := by rw [decide_eq_true_eq]; omega
      have s2' : decide (p < l.length) = true := by rw [decide_eq_true_eq]; exact hpl
      have s3 : ((p : Int) == (l.length : Int)) = false := int_beq_false (by omega)
      have hne : l.drop p ≠ [] := by
        intro e
        have := congrArg List.length e
        rw [List.length_drop, List.length_nil] at this
        omega
      have hskip2 := hskip hpl
      have cu := fun w hd => refReadUint_calls l L cl p hp hl w hd
      have ht := readL_took (l.drop p) 0 0
      have hfr : fieldR r last (l.drop p) = _ := rfl
      conv at hfr => rhs; unfold fieldR
      rw [List.drop_drop] at hfr
      rw [List.length_drop] at ht
      generalize hs : l.drop p = s at hfr hdec hne cu ht hskip2
      generalize hxx : readL 0 0 s = x at cu ht hfr hskip2
      obtain ⟨u, k, er⟩ := x
      simp only at ht hfr hskip2
      by_cases h0 : er = 0
      · subst h0
        have hsk := hskip2 rfl
        have q : readEnd p (u, k, 0) = ((p + k : Nat) : Int) := rfl
        rw [if_neg (by simp)] at hfr
        obtain ⟨k1, k2, k3⟩ := ht rfl
        have hq : p + k ≤ l.length := by omega
        rw [q] at cu
        have z1 : ((0 : Int) != 0) = false := rfl
        have Cu := Lib.hid cu
        by_cases ht11 : t ≤ 11
        · have s1 : decide ((t : Int) ≤ 11) = true := by rw [decide_eq_true_eq]; omega
          have s1' : decide (t ≤ 11) = true := by rw [decide_eq_true_eq]; exact ht11
          by_cases hut : u = t
          · have b1 : ((u : Int) != (t : Int)) = false := by simp [hut]
            rw [if_neg (by omega)] at hfr
            subst hut
            have cv := fun w hd hr => read_calls r A6 c6 l L cl (p + k) u h1t ht11 hq hl w hd hr
            have vl := val_len (r := r) (t := u) (s := l.drop (p + k))
            have vn := val_name hname u (l.drop (p + k))
            rw [List.length_drop] at vl
            generalize hx : valR r u (l.drop (p + k)) = y at hfr cv vl vn
            obtain ⟨r', k', er'⟩ := y
            unfold ReadSaid at cv
            simp only at hfr cv vl vn
            by_cases h1 : er' = 0
            · subst h1
              rw [if_neg (by simp)] at hfr
              have q2 : readAt (p + k) k' 0 = ((p + k + k' : Nat) : Int) := rfl
              rw [q2] at cv
              simp only [Int.natCast_add] at cv
              have vl2 := vl rfl
              have Cv := Lib.hid cv
              have Vn := Lib.hid vn
              cases hz : r'.zeroAt u with
              | true =>
                rw [hz, if_pos rfl] at hfr
                have hd2 := hdec.trans (decN_err (e := 38) (by omega) hne (by rw [hfr]) (by decide))
                have Hd := Lib.hid hd2
                clear hfr hdec hne cu ht q hd2 hs hxx k1 k2 k3 hx cv vl vl2 vn q2 hskip hskip2 hsk hname
                go_wp2_with (first
                  | (go_at_call 86; (with_reducible refine (Cu.out _ (hd.next HB)).mono ?_); rintro e w1 ⟨rfl, rfl⟩)
                  | ((with_reducible refine gate_dst (N := 44) rfl ?_); refine wpList_load_row rfl _ _ rfl g6 rfl _ _ (0, 0) _ hg6 Tryd.underlying27 rfl rec_size ?_)
                  | (go_at_call 87; (with_reducible refine (Cv.out _ (hd.next HB) hd6).mono ?_); rintro e W1 ⟨A5, c5, rfl, hd5, hb⟩; have hgr := grown_of_below hb; replace hd6 := hd6.kept hgr (by simp); replace hg4 := hg4.grown hgr (by simp); replace hg6 := hg6.grown hgr (by simp); replace HB := HB.grown hgr (by have := HB.size; omega) (by simp); replace hcg4 := hg4.cell; replace hfg4 := hg4.frozen; replace hcg6 := hg6.cell; replace hfg6 := hg6.frozen; clear hb hgr)
                  | ((with_reducible refine gate_store (p := 6) rfl ?_); refine ev_store_row (cs := r'.cells A5 c5) rfl rfl rfl hg6 rfl rfl rec_size rfl (cells_one _ _ _) ?_; intro W2 hgn hgr; replace hd5 := hd5.kept hgr (RU.ne_blk hd5 hg6 (by decide)); replace hd6 := hd6.kept hgr (RU.ne_blk hd6 hg6 (by decide)); replace hg4 := hg4.grown hgr (by intro e; injection e with e; omega); replace HB := HB.grown hgr (by have := HB.size; omega) (by intro k e; injection e with e; omega); replace hg6 := hgn; replace hcg4 := hg4.cell; replace hfg4 := hg4.frozen; replace hcg6 := hg6.cell; replace hfg6 := hg6.frozen; clear hgn hgr)
                  | ((with_reducible refine gate_dst (N := 56) rfl ?_); refine wpList_load_row rfl _ _ rfl g6 rfl _ _ (0, 0) _ hg6 Tryd.underlying27 rfl rec_size ?_)
                  | (go_at_call 76; (with_reducible refine (refZeroAny_calls r' A5 c5 u h1t ht11 _).mono ?_); rintro e W3 ⟨rfl, hb⟩; have hgr := grown_of_below hb; replace hd5 := hd5.kept hgr (by simp); replace hd6 := hd6.kept hgr (by simp); replace hg4 := hg4.grown hgr (by simp); replace hg6 := hg6.grown hgr (by simp); replace HB := HB.grown hgr (by have := HB.size; omega) (by simp); replace hcg4 := hg4.cell; replace hfg4 := hg4.frozen; replace hcg6 := hg6.cell; replace hfg6 := hg6.frozen; clear hb hgr; rw [hz])
                  | ((with_reducible refine gate_dst (N := 60) rfl ?_); refine wpList_load_row rfl _ _ rfl g6 rfl _ _ (0, 0) _ hg6 Tryd.underlying27 rfl rec_size ?_)
                  | ((with_reducible refine gate_store (p := 4) rfl ?_); refine ev_store_row (cs := r'.cells A5 c5) rfl rfl rfl hg4 rfl rfl rec_size rfl (cells_one _ _ _) ?_; intro W4 hgn hgr; replace hd5 := hd5.kept hgr (RU.ne_blk hd5 hg4 (by decide)); replace hd6 := hd6.kept hgr (RU.ne_blk hd6 hg4 (by decide)); replace hg6 := hg6.grown hgr (by intro e; injection e with e; omega); replace HB := HB.grown hgr (by have := HB.size; omega) (by intro k e; injection e with e; omega); replace hg4 := hgn; replace hcg4 := hg4.cell; replace hfg4 := hg4.frozen; replace hcg6 := hg6.cell; replace hfg6 := hg6.frozen; clear hgn hgr))
                refine ret_row rfl hg4 rfl Tryd.underlying27 rfl rec_size rfl ?_
                rw [Hd.out]
                exact ⟨r', A5, c5, rfl, (fun h => absurd (show (38 : Int) = 0 from h) (by decide)), Vn.out, hd5, HB⟩
              | false =>
                rw [hz, if_neg (by simp)] at hfr
                have hd2 := hdec.trans (decN_next (by omega) hne hfr)
                rw [← hs, List.drop_drop] at hd2
                have hd3 : D = decN (f - 1) r' u (l.drop (p + k + k')) := by rw [hd2, Nat.add_assoc]
                have Hd := Lib.hid hd3
                have hp2 : p + k + k' ≤ l.length := by omega
                clear hfr hdec hne cu ht q hd2 hd3 hs hxx k1 k2 k3 hx cv vl vl2 vn q2 hskip hskip2 hsk hname
                go_wp2_with (first
                  | (go_at_call 86; (with_reducible refine (Cu.out _ (hd.next HB)).mono ?_); rintro e w1 ⟨rfl, rfl⟩)
                  | ((with_reducible refine gate_dst (N := 44) rfl ?_); refine wpList_load_row rfl _ _ rfl g6 rfl _ _ (0, 0) _ hg6 Tryd.underlying27 rfl rec_size ?_)
                  | (go_at_call 87; (with_reducible refine (Cv.out _ (hd.next HB) hd6).mono ?_); rintro e W1 ⟨A5, c5, rfl, hd5, hb⟩; have hgr := grown_of_below hb; replace hd6 := hd6.kept hgr (by simp); replace hg4 := hg4.grown hgr (by simp); replace hg6 := hg6.grown hgr (by simp); replace HB := HB.grown hgr (by have := HB.size; omega) (by simp); replace hcg4 := hg4.cell; replace hfg4 := hg4.frozen; replace hcg6 := hg6.cell; replace hfg6 := hg6.frozen; clear hb hgr)
                  | ((with_reducible refine gate_store (p := 6) rfl ?_); refine ev_store_row (cs := r'.cells A5 c5) rfl rfl rfl hg6 rfl rfl rec_size rfl (cells_one _ _ _) ?_; intro W2 hgn hgr; replace hd5 := hd5.kept hgr (RU.ne_blk hd5 hg6 (by decide)); replace hd6 := hd6.kept hgr (RU.ne_blk hd6 hg6 (by decide)); replace hg4 := hg4.grown hgr (by intro e; injection e with e; omega); replace HB := HB.grown hgr (by have := HB.size; omega) (by intro k e; injection e with e; omega); replace hg6 := hgn; replace hcg4 := hg4.cell; replace hfg4 := hg4.frozen; replace hcg6 := hg6.cell; replace hfg6 := hg6.frozen; clear hgn hgr)
                  | ((with_reducible refine gate_dst (N := 56) rfl ?_); refine wpList_load_row rfl _ _ rfl g6 rfl _ _ (0, 0) _ hg6 Tryd.underlying27 rfl rec_size ?_)
                  | (go_at_call 76; (with_reducible refine (refZeroAny_calls r' A5 c5 u h1t ht11 _).mono ?_); rintro e W3 ⟨rfl, hb⟩; have hgr := grown_of_below hb; replace hd5 := hd5.kept hgr (by simp); replace hd6 := hd6.kept hgr (by simp); replace hg4 := hg4.grown hgr (by simp); replace hg6 := hg6.grown hgr (by simp); replace HB := HB.grown hgr (by have := HB.size; omega) (by simp); replace hcg4 := hg4.cell; replace hfg4 := hg4.frozen; replace hcg6 := hg6.cell; replace hfg6 := hg6.frozen; clear hb hgr; rw [hz]))
                go_roundg (gk - 1)
                case measure => omega
                case rel => exact ⟨r', A5, c5, p + k + k', u + 1, by omega, by omega, by omega, by go_num, by go_num, ⟨⟨f - 1, u, by omega, by omega, Hd.out, fun _ _ h => by omega⟩, hp2, Vn.out, hg4, hg6, hd5, HB⟩⟩
            · rw [if_pos h1] at hfr
              have z2 := int_bne_true h1
              have hd2 := hdec.trans (decN_err (by omega) hne (by rw [hfr]) h1)
              have Hd := Lib.hid hd2
              have He := Lib.hid h1
              simp only [Int.natCast_add] at cv
              have Cv := Lib.hid cv
              have Vn := Lib.hid vn
              clear hfr hdec hne cu ht q hd2 hs hxx k1 k2 k3 hx cv vl vn h1 hskip hskip2 hsk hname
              go_wp2_with (first
                | (go_at_call 86; (with_reducible refine (Cu.out _ (hd.next HB)).mono ?_); rintro e w1 ⟨rfl, rfl⟩)
                | ((with_reducible refine gate_dst (N := 44) rfl ?_); refine wpList_load_row rfl _ _ rfl g6 rfl _ _ (0, 0) _ hg6 Tryd.underlying27 rfl rec_size ?_)
                | (go_at_call 87; (with_reducible refine (Cv.out _ (hd.next HB) hd6).mono ?_); rintro e W1 ⟨A5, c5, rfl, hd5, hb⟩; have hgr := grown_of_below hb; replace hd6 := hd6.kept hgr (by simp); replace hg4 := hg4.grown hgr (by simp); replace hg6 := hg6.grown hgr (by simp); replace HB := HB.grown hgr (by have := HB.size; omega) (by simp); replace hcg4 := hg4.cell; replace hfg4 := hg4.frozen; replace hcg6 := hg6.cell; replace hfg6 := hg6.frozen; clear hb hgr)
                | ((with_reducible refine gate_store (p := 6) rfl ?_); refine ev_store_row (cs := r'.cells A5 c5) rfl rfl rfl hg6 rfl rfl rec_size rfl (cells_one _ _ _) ?_; intro W2 hgn hgr; replace hd5 := hd5.kept hgr (RU.ne_blk hd5 hg6 (by decide)); replace hd6 := hd6.kept hgr (RU.ne_blk hd6 hg6 (by decide)); replace hg4 := hg4.grown hgr (by intro e; injection e with e; omega); replace HB := HB.grown hgr (by have := HB.size; omega) (by intro k e; injection e with e; omega); replace hg6 := hgn; replace hcg4 := hg4.cell; replace hfg4 := hg4.frozen; replace hcg6 := hg6.cell; replace hfg6 := hg6.frozen; clear hgn hgr)
                | ((with_reducible refine gate_dst (N := 54) rfl ?_); refine wpList_load_row rfl _ _ rfl g6 rfl _ _ (0, 0) _ hg6 Tryd.underlying27 rfl rec_size ?_)
                | ((with_reducible refine gate_store (p := 4) rfl ?_); refine ev_store_row (cs := r'.cells A5 c5) rfl rfl rfl hg4 rfl rfl rec_size rfl (cells_one _ _ _) ?_; intro W3 hgn hgr; replace hd5 := hd5.kept hgr (RU.ne_blk hd5 hg4 (by decide)); replace hd6 := hd6.kept hgr (RU.ne_blk hd6 hg4 (by decide)); replace hg6 := hg6.grown hgr (by intro e; injection e with e; omega); replace HB := HB.grown hgr (by have := HB.size; omega) (by intro k e; injection e with e; omega); replace hg4 := hgn; replace hcg4 := hg4.cell; replace hfg4 := hg4.frozen; replace hcg6 := hg6.cell; replace hfg6 := hg6.frozen; clear hgn hgr))
              refine ret_row rfl hg4 rfl Tryd.underlying27 rfl rec_size rfl ?_
              rw [Hd.out]
              exact ⟨r', A5, c5, rfl, fun h => absurd h He.out, Vn.out, hd5, HB⟩
          · have b1 : ((u : Int) != (t : Int)) = true := int_bne_true (by omega)
            have Hdec := Lib.hid (show D = decN f r last (l.drop p) by rw [hs]; exact hdec)
            have Hsk := Lib.hid (show (readL 0 0 (l.drop p)).2.2 = 0 → ¬ (last < (readL 0 0 (l.drop p)).1 ∧ (readL 0 0 (l.drop p)).1 < t + 1) by
              rw [hs, hxx]
              intro _
              show ¬ (last < u ∧ u < t + 1)
              omega)
            clear hfr hdec hne cu ht q hs hxx k1 k2 k3 hskip hskip2 hsk hname
            go_wp2_with (first
              | (go_at_call 86; (with_reducible refine (Cu.out _ (hd.next HB)).mono ?_); rintro e w1 ⟨rfl, rfl⟩))
            go_roundg (gk - 1)
            case measure => omega
            case rel => exact ⟨r, A6, c6, p, t + 1, by omega, by omega, by omega, rfl, by go_num, ⟨⟨f, last, hf, by omega, Hdec.out, fun _ h => Hsk.out h⟩, hp, Hname.out, hg4, hg6, hd6, HB⟩⟩
        · have s1 : decide ((t : Int) ≤ 11) = false := by rw [decide_eq_false_iff_not]; omega
          have s1' : decide (t ≤ 11) = false := by rw [decide_eq_false_iff_not]; exact ht11
          have ht12 : t = 12 := by omega
          rw [if_pos (by omega)] at hfr
          have hd2 := hdec.trans (decN_err (e := 37) (by omega) hne (by rw [hfr]) (by decide))
          have Hd := Lib.hid hd2
          clear hfr hdec hne cu ht q hd2 hs hxx k1 k2 k3 hskip hskip2 hsk hname
          go_wp2_with (first
            | (go_at_call 86; (with_reducible refine (Cu.out _ (hd.next HB)).mono ?_); rintro e w1 ⟨rfl, rfl⟩)
            | ((with_reducible refine gate_dst (N := 77) rfl ?_); refine wpList_load_row rfl _ _ rfl g6 rfl _ _ (0, 0) _ hg6 Tryd.underlying27 rfl rec_size ?_)
            | ((with_reducible refine gate_store (p := 4) rfl ?_); refine ev_store_row (cs := r.cells A6 c6) rfl rfl rfl hg4 rfl rfl rec_size rfl (cells_one _ _ _) ?_; intro W1 hgn hgr; replace hd6 := hd6.kept hgr (RU.ne_blk hd6 hg4 (by decide)); replace hg6 := hg6.grown hgr (by intro e; injection e with e; omega); replace HB := HB.grown hgr (by have := HB.size; omega) (by intro k e; injection e with e; omega); replace hg4 := hgn; replace hcg4 := hg4.cell; replace hfg4 := hg4.frozen; replace hcg6 := hg6.cell; replace hfg6 := hg6.frozen; clear hgn hgr))
          refine ret_row rfl hg4 rfl Tryd.underlying27 rfl rec_size rfl ?_
          rw [Hd.out]
          exact ⟨r, A6, c6, rfl, (fun h => absurd (show (37 : Int) = 0 from h) (by decide)), Hname.out, hd6, HB⟩
      · rw [if_pos h0] at hfr
        have z1 := int_bne_true h0
        have hd2 := hdec.trans (decN_err (by omega) hne (by rw [hfr]) h0)
        have q : readEnd p (u, k, er) = 0 := if_neg h0
        rw [q] at cu
        have Cu := Lib.hid cu
        have Hd := Lib.hid hd2
        have He := Lib.hid h0
        clear hfr hdec hne cu ht q hd2 hs hxx h0 hskip hskip2 hname
        by_cases ht11 : t ≤ 11
        · have s1 : decide ((t : Int) ≤ 11) = true := by rw [decide_eq_true_eq]; omega
          have s1' : decide (t ≤ 11) = true := by rw [decide_eq_true_eq]; exact ht11
          go_wp2_with (first
            | (go_at_call 86; (with_reducible refine (Cu.out _ (hd.next HB)).mono ?_); rintro e w1 ⟨rfl, rfl⟩)
            | ((with_reducible refine gate_dst (N := 37) rfl ?_); refine wpList_load_row rfl _ _ rfl g6 rfl _ _ (0, 0) _ hg6 Tryd.underlying27 rfl rec_size ?_)
            | ((with_reducible refine gate_store (p := 4) rfl ?_); refine ev_store_row (cs := r.cells A6 c6) rfl rfl rfl hg4 rfl rfl rec_size rfl (cells_one _ _ _) ?_; intro W1 hgn hgr; replace hd6 := hd6.kept hgr (RU.ne_blk hd6 hg4 (by decide)); replace hg6 := hg6.grown hgr (by intro e; injection e with e; omega); replace HB := HB.grown hgr (by have := HB.size; omega) (by intro k e; injection e with e; omega); replace hg4 := hgn; replace hcg4 := hg4.cell; replace hfg4 := hg4.frozen; replace hcg6 := hg6.cell; replace hfg6 := hg6.frozen; clear hgn hgr))
          refine ret_row rfl hg4 rfl Tryd.underlying27 rfl rec_size rfl ?_
          rw [Hd.out]
          exact ⟨r, A6, c6, rfl, fun h => absurd h He.out, Hname.out, hd6, HB⟩
        · have s1 : decide ((t : Int) ≤ 11) = false := by rw [decide_eq_false_iff_not]; omega
          have s1' : decide (t ≤ 11) = false := by rw [decide_eq_false_iff_not]; exact ht11
          go_wp2_with (first
            | (go_at_call 86; (with_reducible refine (Cu.out _ (hd.next HB)).mono ?_); rintro e w1 ⟨rfl, rfl⟩)
            | ((with_reducible refine gate_dst (N := 75) rfl ?_); refine wpList_load_row rfl _ _ rfl g6 rfl _ _ (0, 0) _ hg6 Tryd.underlying27 rfl rec_size ?_)
            | ((with_reducible refine gate_store (p := 4) rfl ?_); refine ev_store_row (cs := r.cells A6 c6) rfl rfl rfl hg4 rfl rfl rec_size rfl (cells_one _ _ _) ?_; intro W1 hgn hgr; replace hd6 := hd6.kept hgr (RU.ne_blk hd6 hg4 (by decide)); replace hg6 := hg6.grown hgr (by intro e; injection e with e; omega); replace HB := HB.grown hgr (by have := HB.size; omega) (by intro k e; injection e with e; omega); replace hg4 := hgn; replace hcg4 := hg4.cell; replace hfg4 := hg4.frozen; replace hcg6 := hg6.cell; replace hfg6 := hg6.frozen; clear hgn hgr))
          refine ret_row rfl hg4 rfl Tryd.underlying27 rfl rec_size rfl ?_
          rw [Hd.out]
          exact ⟨r, A6, c6, rfl, fun h => absurd h He.out, Hname.out, hd6, HB⟩
    · have s2 : decide ((p : Int) < (l.length : Int)) = false := by rw [decide_eq_false_iff_not]; omega
      have s2' : decide (p < l.length) = false := by rw [decide_eq_false_iff_not]; exact hpl
      have s3 : ((p : Int) == (l.length : Int)) = true := int_beq_true (by omega)
      have hd2 := hdec.trans (decN_end (List.drop_eq_nil_of_le (by omega)))
      have Hd := Lib.hid hd2
      clear hdec hd2 hskip hname hpl
      cases s1 : decide ((t : Int) ≤ 11)
      all_goals
        go_wp2_with (first
          | ((with_reducible refine gate_dst (N := 65) rfl ?_); refine wpList_load_row rfl _ _ rfl g6 rfl _ _ (0, 0) _ hg6 Tryd.underlying27 rfl rec_size ?_)
          | ((with_reducible refine gate_store (p := 4) rfl ?_); refine ev_store_row (cs := r.cells A6 c6) rfl rfl rfl hg4 rfl rfl rec_size rfl (cells_one _ _ _) ?_; intro W1 hgn hgr; replace hd6 := hd6.kept hgr (RU.ne_blk hd6 hg4 (by decide)); replace hg6 := hg6.grown hgr (by intro e; injection e with e; omega); replace HB := HB.grown hgr (by have := HB.size; omega) (by intro k e; injection e with e; omega); replace hg4 := hgn; replace hcg4 := hg4.cell; replace hfg4 := hg4.frozen; replace hcg6 := hg6.cell; replace hfg6 := hg6.frozen; clear hgn hgr))
        refine ret_row rfl hg4 rfl Tryd.underlying27 rfl rec_size rfl ?_
        rw [Hd.out]
        exact ⟨r, A6, c6, rfl, fun _ => rfl, Hname.out, hd6, HB⟩
end Go.Proofs.YtikodgaomhmbmaaDoor
namespace Go.Proofs.YtikodgaomhmbmaaDoor
open Go.RowKit
attribute [local go_sem] Rec.size_ Rec.g0 Rec.g1 Rec.g2 Rec.g3 Rec.g4 Rec.g5 Rec.g6 Rec.g7 Rec.g8 Rec.g9 Rec.g10 Rec.g11 Rec.fold

set_option maxHeartbeats 2000000 in
set_option maxRecDepth 100000 in
theorem refDecode_calls (v : Int) (l : List UInt8) (L : Option Addr) (cl : Nat) (hl : l.length ≤ 140737488351232) (w : World) (hR : RTabs w) (hd : RB w L l) :
    Calls Tryd.prog 48 #[.int .i64 v, .slice L l.length cl] w fun e w' => ∃ A' c', e = .returned (.tuple #[.agg ((decR v l).cells A' c'), .int .i64 (decE v l)]) ∧ RU w' A' (decR v l).Data ∧ Below w.heap.size w w' := by
  have HB := Below.refl w.heap.size w
  have HR := Lib.hid hR
  clear hR
  by_cases hbad : v < 1 ∨ 3 < v
  · rw [(dec_bad hbad).1, (dec_bad hbad).2]
    by_cases hv1 : v < 1
    · have t1 : decide (v < 1) = true := decide_eq_true hv1
      clear hbad
      go_enter Tryd.func48, Tryd.ntmps48
      go_wp2_with (first
        | ((with_reducible refine gate_dst (N := 4) rfl ?_); refine ev_alloc rfl rfl _ rec_zero ?_; intro g4 W1 hg4 hsz hbn; have hgr := grown_of_below hbn; replace hg4 : Blk W1 g4 _ (Rec.zero.cells none 0) := hg4; have zg4 : w.heap.size ≤ g4 := (by have := HB.size; omega); replace HB := HB.grown hgr (by have := HB.size; omega) (by simp); have hcg4 := hg4.cell; have hfg4 := hg4.frozen; clear hsz hbn hgr)
        | ((with_reducible refine gate_store (p := 4) rfl ?_); refine ev_store_row (cs := Rec.zero.cells none 0) rfl rfl rfl hg4 rfl rfl rec_size rfl (cells_one _ _ _) ?_; intro W2 hgn hgr; replace HB := HB.grown hgr (by have := HB.size; omega) (by intro k e; injection e with e; omega); replace hg4 := hgn; replace hcg4 := hg4.cell; replace hfg4 := hg4.frozen; clear hgn hgr))
      refine ret_row rfl hg4 rfl Tryd.underlying27 rfl rec_size rfl ?_
      (first | exact ⟨none, 0, rfl, RU.nil, HB⟩ | exact ⟨none, ⟨0, rfl⟩, RU.nil, HB⟩)
    · have t1 : decide (v < 1) = false := decide_eq_false hv1
      have t2 : decide (3 < v) = true := decide_eq_true (by omega)
      clear hbad
      go_enter Tryd.func48, Tryd.ntmps48
      go_wp2_with (first
        | ((with_reducible refine gate_dst (N := 4) rfl ?_); refine ev_alloc rfl rfl _ rec_zero ?_; intro g4 W1 hg4 hsz hbn; have hgr := grown_of_below hbn; replace hg4 : Blk W1 g4 _ (Rec.zero.cells none 0) := hg4; have zg4 : w.heap.size ≤ g4 := (by have := HB.size; omega); replace HB := HB.grown hgr (by have := HB.size; omega) (by simp); have hcg4 := hg4.cell; have hfg4 := hg4.frozen; clear hsz hbn hgr)
        | ((with_reducible refine gate_store (p := 4) rfl ?_); refine ev_store_row (cs := Rec.zero.cells none 0) rfl rfl rfl hg4 rfl rfl rec_size rfl (cells_one _ _ _) ?_; intro W2 hgn hgr; replace HB := HB.grown hgr (by have := HB.size; omega) (by intro k e; injection e with e; omega); replace hg4 := hgn; replace hcg4 := hg4.cell; replace hfg4 := hg4.frozen; clear hgn hgr))
      refine ret_row rfl hg4 rfl Tryd.underlying27 rfl rec_size rfl ?_
      (first | exact ⟨none, 0, rfl, RU.nil, HB⟩ | exact ⟨none, ⟨0, rfl⟩, RU.nil, HB⟩)
  have t1 : decide (v < 1) = false := decide_eq_false (by omega)
  have t2 : decide (3 < v) = false := decide_eq_false (by omega)
  have cf := fun w hd => fields_calls' v l L cl hl w hd
  unfold FieldsSaid at cf
  have he := fun e h => dec_err (v := v) (l := l) (r := (decN 12 (startR v) 0 l).1) (e := e) hbad h
  have hn := fun r h => dec_end (v := v) (l := l) (r := r) hbad h
  generalize hD : decN 12 (startR v) 0 l = D at cf he hn
  obtain ⟨q, er⟩ := D
  simp only at cf he hn
  by_cases h0 : er = 0
  · subst h0
    obtain ⟨x1, x2⟩ := hn q rfl
    rw [x1, x2]
    have Cf := Lib.hid cf
    have z1 : ((0 : Int) == 0) = true := rfl
    by_cases hc : q.chk = 0
    · rw [if_pos hc, hc]
      have cc := fun A c hz w => ref_check_of q 0 hc A c hz w
      have Cc := Lib.hid cc
      clear cf he hn x1 x2 hbad hD hc cc
      go_enter Tryd.func48, Tryd.ntmps48
      go_wp2_with (first
        | ((with_reducible refine gate_dst (N := 4) rfl ?_); refine ev_alloc rfl rfl _ rec_zero ?_; intro g4 W1 hg4 hsz hbn; have hgr := grown_of_below hbn; replace hg4 : Blk W1 g4 _ (Rec.zero.cells none 0) := hg4; have zg4 : w.heap.size ≤ g4 := (by have := HB.size; omega); replace HB := HB.grown hgr (by have := HB.size; omega) (by simp); have hcg4 := hg4.cell; have hfg4 := hg4.frozen; clear hsz hbn hgr)
        | (go_at_call 72; (with_reducible refine (Cf.out _ (hd.next HB)).mono ?_); rintro e W2 ⟨r', A5, c5, rfl, hE, hn, hd5, hb⟩; have hgr := grown_of_below hb; replace hg4 := hg4.grown hgr (by simp); replace HB := HB.grown hgr (by have := HB.size; omega) (by simp); replace hcg4 := hg4.cell; replace hfg4 := hg4.frozen; clear hb hgr; obtain rfl : q = r' := hE.out rfl)
        | ((with_reducible refine gate_dst (N := 6) rfl ?_); refine ev_alloc rfl rfl _ rec_zero ?_; intro g6 W3 hg6 hsz hbn; have hgr := grown_of_below hbn; have ng4g6 : g4 ≠ g6 := (by have := hg4.lt; omega); replace hg6 : Blk W3 g6 _ (Rec.zero.cells none 0) := hg6; have zg6 : w.heap.size ≤ g6 := (by have := HB.size; omega); replace hd5 := hd5.kept hgr (by simp); replace hg4 := hg4.grown hgr (by simp); replace HB := HB.grown hgr (by have := HB.size; omega) (by simp); have hcg6 := hg6.cell; have hfg6 := hg6.frozen; replace hcg4 := hg4.cell; replace hfg4 := hg4.frozen; clear hsz hbn hgr)
        | ((with_reducible refine gate_store (p := 6) rfl ?_); refine ev_store_row (cs := q.cells A5 c5) rfl rfl rfl hg6 rfl rfl rec_size rfl (cells_one _ _ _) ?_; intro W4 hgn hgr; replace hd5 := hd5.kept hgr (RU.ne_blk hd5 hg6 (by decide)); replace hg4 := hg4.grown hgr (by intro e; injection e with e; omega); replace HB := HB.grown hgr (by have := HB.size; omega) (by intro k e; injection e with e; omega); replace hg6 := hgn; replace hcg4 := hg4.cell; replace hfg4 := hg4.frozen; replace hcg6 := hg6.cell; replace hfg6 := hg6.frozen; clear hgn hgr)
        | ((with_reducible refine gate_dst (N := 23) rfl ?_); refine wpList_load_row rfl _ _ rfl g6 rfl _ _ (0, 0) _ hg6 Tryd.underlying27 rfl rec_size ?_)
        | (go_at_call 55; (with_reducible refine (Cc.out _ _ (Nat.le_trans hn.out (by decide)) _ (HR.out.next HB) hd5.rb).mono ?_); rintro e W5 ⟨rfl, hb⟩; have hgr := grown_of_below hb; replace hd5 := hd5.kept hgr (by simp); replace hg4 := hg4.grown hgr (by simp); replace hg6 := hg6.grown hgr (by simp); replace HB := HB.grown hgr (by have := HB.size; omega) (by simp); replace hcg4 := hg4.cell; replace hfg4 := hg4.frozen; replace hcg6 := hg6.cell; replace hfg6 := hg6.frozen; clear hb hgr)
        | ((with_reducible refine gate_dst (N := 29) rfl ?_); refine wpList_load_row rfl _ _ rfl g6 rfl _ _ (0, 0) _ hg6 Tryd.underlying27 rfl rec_size ?_)
        | ((with_reducible refine gate_store (p := 4) rfl ?_); refine ev_store_row (cs := q.cells A5 c5) rfl rfl rfl hg4 rfl rfl rec_size rfl (cells_one _ _ _) ?_; intro W6 hgn hgr; replace hd5 := hd5.kept hgr (RU.ne_blk hd5 hg4 (by decide)); replace hg6 := hg6.grown hgr (by intro e; injection e with e; omega); replace HB := HB.grown hgr (by have := HB.size; omega) (by intro k e; injection e with e; omega); replace hg4 := hgn; replace hcg4 := hg4.cell; replace hfg4 := hg4.frozen; replace hcg6 := hg6.cell; replace hfg6 := hg6.frozen; clear hgn hgr))
      refine ret_row rfl hg4 rfl Tryd.underlying27 rfl rec_size rfl ?_
      (first | exact ⟨A5, c5, rfl, hd5, HB⟩ | exact ⟨A5, ⟨c5, rfl⟩, hd5, HB⟩)
    · rw [if_neg hc]
      have z2 := int_bne_true hc
      obtain ⟨k, hk⟩ : ∃ k, k = q.chk := ⟨_, rfl⟩
      rw [← hk] at z2 ⊢
      have cc := fun A c hz w => ref_check_of q k hk.symm A c hz w
      have Cc := Lib.hid cc
      clear cf he hn x1 x2 hbad hD hc cc hk
      go_enter Tryd.func48, Tryd.ntmps48
      go_wp2_with (first
        | ((with_reducible refine gate_dst (N := 4) rfl ?_); refine ev_alloc rfl rfl _ rec_zero ?_; intro g4 W1 hg4 hsz hbn; have hgr := grown_of_below hbn; replace hg4 : Blk W1 g4 _ (Rec.zero.cells none 0) := hg4; have zg4 : w.heap.size ≤ g4 := (by have := HB.size; omega); replace HB := HB.grown hgr (by have := HB.size; omega) (by simp); have hcg4 := hg4.cell; have hfg4 := hg4.frozen; clear hsz hbn hgr)
        | (go_at_call 72; (with_reducible refine (Cf.out _ (hd.next HB)).mono ?_); rintro e W2 ⟨r', A5, c5, rfl, hE, hn, hd5, hb⟩; have hgr := grown_of_below hb; replace hg4 := hg4.grown hgr (by simp); replace HB := HB.grown hgr (by have := HB.size; omega) (by simp); replace hcg4 := hg4.cell; replace hfg4 := hg4.frozen; clear hb hgr; obtain rfl : q = r' := hE.out rfl)
        | ((with_reducible refine gate_dst (N := 6) rfl ?_); refine ev_alloc rfl rfl _ rec_zero ?_; intro g6 W3 hg6 hsz hbn; have hgr := grown_of_below hbn; have ng4g6 : g4 ≠ g6 := (by have := hg4.lt; omega); replace hg6 : Blk W3 g6 _ (Rec.zero.cells none 0) := hg6; have zg6 : w.heap.size ≤ g6 := (by have := HB.size; omega); replace hd5 := hd5.kept hgr (by simp); replace hg4 := hg4.grown hgr (by simp); replace HB := HB.grown hgr (by have := HB.size; omega) (by simp); have hcg6 := hg6.cell; have hfg6 := hg6.frozen; replace hcg4 := hg4.cell; replace hfg4 := hg4.frozen; clear hsz hbn hgr)
        | ((with_reducible refine gate_store (p := 6) rfl ?_); refine ev_store_row (cs := q.cells A5 c5) rfl rfl rfl hg6 rfl rfl rec_size rfl (cells_one _ _ _) ?_; intro W4 hgn hgr; replace hd5 := hd5.kept hgr (RU.ne_blk hd5 hg6 (by decide)); replace hg4 := hg4.grown hgr (by intro e; injection e with e; omega); replace HB := HB.grown hgr (by have := HB.size; omega) (by intro k e; injection e with e; omega); replace hg6 := hgn; replace hcg4 := hg4.cell; replace hfg4 := hg4.frozen; replace hcg6 := hg6.cell; replace hfg6 := hg6.frozen; clear hgn hgr)
        | ((with_reducible refine gate_dst (N := 23) rfl ?_); refine wpList_load_row rfl _ _ rfl g6 rfl _ _ (0, 0) _ hg6 Tryd.underlying27 rfl rec_size ?_)
        | (go_at_call 55; (with_reducible refine (Cc.out _ _ (Nat.le_trans hn.out (by decide)) _ (HR.out.next HB) hd5.rb).mono ?_); rintro e W5 ⟨rfl, hb⟩; have hgr := grown_of_below hb; replace hd5 := hd5.kept hgr (by simp); replace hg4 := hg4.grown hgr (by simp); replace hg6 := hg6.grown hgr (by simp); replace HB := HB.grown hgr (by have := HB.size; omega) (by simp); replace hcg4 := hg4.cell; replace hfg4 := hg4.frozen; replace hcg6 := hg6.cell; replace hfg6 := hg6.frozen; clear hb hgr)
        | ((with_reducible refine gate_store (p := 4) rfl ?_); refine ev_store_row (cs := Rec.zero.cells none 0) rfl rfl rfl hg4 rfl rfl rec_size rfl (cells_one _ _ _) ?_; intro W6 hgn hgr; replace hd5 := hd5.kept hgr (RU.ne_blk hd5 hg4 (by decide)); replace hg6 := hg6.grown hgr (by intro e; injection e with e; omega); replace HB := HB.grown hgr (by have := HB.size; omega) (by intro k e; injection e with e; omega); replace hg4 := hgn; replace hcg4 := hg4.cell; replace hfg4 := hg4.frozen; replace hcg6 := hg6.cell; replace hfg6 := hg6.frozen; clear hgn hgr))
      refine ret_row rfl hg4 rfl Tryd.underlying27 rfl rec_size rfl ?_
      (first | exact ⟨none, 0, rfl, RU.nil, HB⟩ | exact ⟨none, ⟨0, rfl⟩, RU.nil, HB⟩)
  · obtain ⟨x1, x2⟩ := dec_err (v := v) (l := l) hbad hD h0
    rw [x1, x2]
    have z1 : (er == 0) = false := int_beq_false h0
    have z2 := int_bne_true h0
    have Cf := Lib.hid cf
    clear cf he hn x1 x2 hbad hD h0
    go_enter Tryd.func48, Tryd.ntmps48
    go_wp2_with (first
      | ((with_reducible refine gate_dst (N := 4) rfl ?_); refine ev_alloc rfl rfl _ rec_zero ?_; intro g4 W1 hg4 hsz hbn; have hgr := grown_of_below hbn; replace hg4 : Blk W1 g4 _ (Rec.zero.cells none 0) := hg4; have zg4 : w.heap.size ≤ g4 := (by have := HB.size; omega); replace HB := HB.grown hgr (by have := HB.size; omega) (by simp); have hcg4 := hg4.cell; have hfg4 := hg4.frozen; clear hsz hbn hgr)
      | (go_at_call 72; (with_reducible refine (Cf.out _ (hd.next HB)).mono ?_); rintro e W2 ⟨r', A5, c5, rfl, hE, hn, hd5, hb⟩; have hgr := grown_of_below hb; replace hg4 := hg4.grown hgr (by simp); replace HB := HB.grown hgr (by have := HB.size; omega) (by simp); replace hcg4 := hg4.cell; replace hfg4 := hg4.frozen; clear hb hgr)
      | ((with_reducible refine gate_dst (N := 6) rfl ?_); refine ev_alloc rfl rfl _ rec_zero ?_; intro g6 W3 hg6 hsz hbn; have hgr := grown_of_below hbn; have ng4g6 : g4 ≠ g6 := (by have := hg4.lt; omega); replace hg6 : Blk W3 g6 _ (Rec.zero.cells none 0) := hg6; have zg6 : w.heap.size ≤ g6 := (by have := HB.size; omega); replace hd5 := hd5.kept hgr (by simp); replace hg4 := hg4.grown hgr (by simp); replace HB := HB.grown hgr (by have := HB.size; omega) (by simp); have hcg6 := hg6.cell; have hfg6 := hg6.frozen; replace hcg4 := hg4.cell; replace hfg4 := hg4.frozen; clear hsz hbn hgr)
      | ((with_reducible refine gate_store (p := 6) rfl ?_); refine ev_store_row (cs := r'.cells A5 c5) rfl rfl rfl hg6 rfl rfl rec_size rfl (cells_one _ _ _) ?_; intro W4 hgn hgr; replace hd5 := hd5.kept hgr (RU.ne_blk hd5 hg6 (by decide)); replace hg4 := hg4.grown hgr (by intro e; injection e with e; omega); replace HB := HB.grown hgr (by have := HB.size; omega) (by intro k e; injection e with e; omega); replace hg6 := hgn; replace hcg4 := hg4.cell; replace hfg4 := hg4.frozen; replace hcg6 := hg6.cell; replace hfg6 := hg6.frozen; clear hgn hgr)
      | ((with_reducible refine gate_store (p := 4) rfl ?_); refine ev_store_row (cs := Rec.zero.cells none 0) rfl rfl rfl hg4 rfl rfl rec_size rfl (cells_one _ _ _) ?_; intro W5 hgn hgr; replace hd5 := hd5.kept hgr (RU.ne_blk hd5 hg4 (by decide)); replace hg6 := hg6.grown hgr (by intro e; injection e with e; omega); replace HB := HB.grown hgr (by have := HB.size; omega) (by intro k e; injection e with e; omega); replace hg4 := hgn; replace hcg4 := hg4.cell; replace hfg4 := hg4.frozen; replace hcg6 := hg6.cell; replace hfg6 := hg6.frozen; clear hgn hgr))
    refine ret_row rfl hg4 rfl Tryd.underlying27 rfl rec_size rfl ?_
    (first | exact ⟨none, 0, rfl, RU.nil, HB⟩ | exact ⟨none, ⟨0, rfl⟩, RU.nil, HB⟩)
end Go.Proofs.YtikodgaomhmbmaaDoor
