/-
  The walk of record.Encode, for every record.
-/
import Derived.Test.YtjhiohjpkdjkoaaDoorW6
import Derived.Test.YtjhiohjpkdjkoaaDoorW2
import Derived.Test.YtjhiohjpkdjkoaaDoorD1
set_option linter.unusedVariables false
set_option linter.unusedSimpArgs false
namespace Go.Proofs.YtjhiohjpkdjkoaaDoor
open Go.RowKit
attribute [local go_sem] Rec.size_ Rec.g0 Rec.g1 Rec.g2 Rec.g3 Rec.g4 Rec.g5 Rec.g6 Rec.g7 Rec.g8 Rec.g9 Rec.g10 Rec.g11 Rec.fold

/-- How a field's value is written. -/
def Rec.valB (r : Rec) (t : Nat) : List UInt8 :=
  if t = 7 then intL r.Code else if t = 10 then bytesL r.Name.data.toList else if t = 11 then bytesL r.Data else uintL (IntKind.u64.wrap (r.num t)).toNat
def Rec.tagB (r : Rec) (t : Nat) : List UInt8 := if r.zeroAt t then [] else uintL t ++ r.valB t
/-- The bytes of the tags from 1 to n. -/
def Rec.encTo (r : Rec) : Nat → List UInt8
  | 0 => []
  | n + 1 => r.encTo n ++ r.tagB (n + 1)
def Rec.enc (r : Rec) : List UInt8 := r.encTo 11

theorem wrap_range (n : Int) : 0 ≤ IntKind.u64.wrap n ∧ IntKind.u64.wrap n < 18446744073709551616 := by rw [IntKind.wrap_u64]; omega
/-- A name and a Data within the bounds. -/
def Rec.Small (r : Rec) : Prop := r.Name.size ≤ 192 ∧ r.Data.length ≤ 16384
theorem valid_small {r : Rec} (h : r.chk = 0) : r.Small := by
  obtain ⟨v, k, hv, hk, h1, h2, _, hval⟩ := (chk_valid r).1 h
  have h10 := hval 10 (by omega) (by omega)
  have h11 := hval 11 (by omega) (by omega)
  constructor
  · by_cases hm : may v k 10 = true
    · rw [if_pos hm, b10] at h10
      exact name_size h10
    · rw [if_neg hm, z10] at h10
      rw [h10]
      decide
  · by_cases hm : may v k 11 = true
    · rw [if_pos hm, b11] at h11
      exact h11.1
    · rw [if_neg hm, z11] at h11
      rw [h11]
      decide
theorem intL_short (v : Int) : (intL v).length ≤ 65 := by
  obtain ⟨z1, z2⟩ := zig_range v
  exact uintL_short (by omega)
theorem tagB_short {r : Rec} (h : r.Small) (t : Nat) (ht : t ≤ 11) : (r.tagB t).length ≤ 16600 := by
  unfold Rec.tagB
  split
  · simp
  · have h0 := uintL_short (v := t) (by omega)
    have hv : (r.valB t).length ≤ 16500 := by
      unfold Rec.valB
      split
      · have := intL_short r.Code; omega
      · split
        · have := h.1
          have e : r.Name.data.toList.length = r.Name.size := rfl
          have := uintL_short (v := r.Name.data.toList.length) (by omega)
          simp only [bytesL, List.length_append]
          omega
        · split
          · have := h.2
            have := uintL_short (v := r.Data.length) (by omega)
            simp only [bytesL, List.length_append]
            omega
          · have w1 := wrap_range (r.num t)
            have := uintL_short (v := (IntKind.u64.wrap (r.num t)).toNat) (by omega)
            omega
    rw [List.length_append]
    omega
theorem encTo_short {r : Rec} (h : r.Small) : ∀ n, n ≤ 11 → (r.encTo n).length ≤ n * 16600
  | 0, _ => by simp [Rec.encTo]
  | n + 1, hn => by
    have := encTo_short h n (by omega)
    have := tagB_short h (n + 1) hn
    simp only [Rec.encTo, List.length_append]
    omega
theorem zeroAny_calls (r : Rec) (A : Option Addr) (c g t : Nat) (h1 : 1 ≤ t) (h11 : t ≤ 11) (w : World) (hg : Blk w g 35 (r.cells A c)) :
    Calls Tryd.prog 97 #[.pointer (some ⟨g, 0, none⟩), .int .i64 t] w fun e w' => e = .returned (.bool (r.zeroAt t)) ∧ w = w' := by
  by_cases e1 : t = 1
  · subst e1; exact zero1_calls r A c g w hg
  by_cases e2 : t = 2
  · subst e2; exact zero2_calls r A c g w hg
  exact zero_calls r A c g t (by omega) h11 w hg

set_option maxHeartbeats 4000000 in
set_option maxRecDepth 100000 in
theorem encode_calls (r : Rec) (A : Option Addr) (c : Nat) (hf : r.Fits) (w : World) (hT : Tabs w) (hd : RB w A r.Data) (hc : r.chk = 0) :
    Calls Tryd.prog 76 #[.agg (r.cells A c)] w fun e w' => ∃ A' c', e = .returned (.tuple #[.slice A' r.enc.length c', .int .i64 0]) ∧ w'.ownsRow w.heap.size 5 1 (.slice A' r.enc.length c') r.enc.length (u8s r.enc) ∧ Below w.heap.size w w' := by
  have HB := Below.refl w.heap.size w
  have HT := Lib.hid hT
  have hsm := valid_small hc
  have cc := fun w => check_calls r A c hf w
  rw [hc] at cc
  have Cc := Lib.hid cc
  have Hsm := Lib.hid hsm
  clear hT cc hsm hc
  go_enter Tryd.func76, Tryd.ntmps76
  go_wp2_with (first
    | ((with_reducible refine gate_dst (N := 1) rfl ?_); refine ev_box rfl rfl (r.cells A c) rfl ?_; intro g1 W1 hg1 hsz hbn; have hgr := grown_of_below hbn; have zg1 : w.heap.size ≤ g1 := (by have := HB.size; omega); replace HB := HB.grown hgr (by have := HB.size; omega) (by simp); have hcg1 := hg1.cell; have hfg1 := hg1.frozen; clear hsz hbn hgr)
    | ((with_reducible refine gate_dst (N := 7) rfl ?_); refine wpList_load_row rfl _ _ rfl g1 rfl _ _ (0, 0) _ hg1 Tryd.underlying35 rfl rec_size ?_)
    | (go_at_call 75; (with_reducible refine (Cc.out _ (HT.out.next HB) (hd.next HB)).mono ?_); rintro e W2 ⟨rfl, hb⟩; have hgr := grown_of_below hb; replace hg1 := hg1.grown hgr (by simp); replace HB := HB.grown hgr (by have := HB.size; omega) (by simp); replace hcg1 := hg1.cell; replace hfg1 := hg1.frozen; clear hb hgr))
  go_loopg [5, 6] 11 (fun n v5 v6 wr => ∃ (t : Nat) (A5 : Option Addr) (c5 : Nat) (acc : List UInt8), n + t = 12 ∧ 1 ≤ t ∧ v6 = .int .i64 t ∧ v5 = .slice A5 acc.length c5 ∧ Aside (acc = r.encTo (t - 1) ∧ Blk wr g1 _ (r.cells A c) ∧ wr.ownsRow w.heap.size 5 1 (.slice A5 acc.length c5) acc.length (u8s acc) ∧ Below w.heap.size w wr))
  case atStart => exact ⟨1, none, 0, [], by omega, by omega, rfl, rfl, ⟨rfl, hg1, own_nil _ _ _ _, HB⟩⟩
  case round =>
    clear hg1 hcg1 hfg1 HB
    obtain ⟨t, A5, c5, acc, hn, h1t, rfl, rfl, HA⟩ := hrel
    obtain ⟨hacc, hg1, oA, HB⟩ := HA.out
    clear HA
    have hcg1 := hg1.cell
    have hfg1 := hg1.frozen
    by_cases hle : t ≤ 11
    · have hlen : acc.length ≤ 182600 := by rw [hacc]; have := encTo_short Hsm.out (t - 1) (by omega); omega
      have hbl := tagB_short Hsm.out t hle
      have hnext : r.encTo t = acc ++ r.tagB t := by
        obtain ⟨j, rfl⟩ : ∃ j, t = j + 1 := ⟨t - 1, by omega⟩
        rw [hacc]
        rfl
      have tw : IntKind.u64.wrap (t : Int) = t := by rw [IntKind.wrap_u64]; omega
      have hut := uintL_short (v := t) (by omega)
      have m1 : True := trivial
      clear hacc
      cases hz : r.zeroAt t
      · have e0 : r.tagB t = uintL t ++ r.valB t := by unfold Rec.tagB; rw [hz]; rfl
        rw [e0] at hnext hbl
        rw [List.length_append] at hbl
        by_cases e7 : t = 7
        · have e1 : r.valB t = intL r.Code := by unfold Rec.valB; rw [if_pos e7]
          rw [e1] at hnext hbl
          have t7 : ((t : Int) == 7) = true := by simp [e7]
          have cu := int_calls r.Code
          generalize intL r.Code = vb at hnext hbl cu
          have Hnext := Lib.hid hnext
          have Cu := Lib.hid cu
          clear hnext cu e0 e1 e7
          go_wp2_with (first
            | (go_at_call 97; (with_reducible refine (zeroAny_calls r A c g1 t h1t hle _ hg1).mono ?_); rintro e w1 ⟨rfl, rfl⟩; rw [hz])
            | (go_at_call 103; clear m1; (with_reducible refine (uint_calls t (by omega) _).mono ?_); rintro e W1 ⟨A6, c6, rfl, o6, hb⟩; have hgr := grown_of_below hb; have doAo6 := own_apart oA o6 (Nat.le_refl _); replace o6 := own_mono o6 HB.size; replace hg1 := hg1.grown hgr (by simp); replace oA := oA.kept hgr (by cases Value.ownBlock _ <;> simp); replace HB := HB.grown hgr (by have := HB.size; omega) (by simp); replace hcg1 := hg1.cell; replace hfg1 := hg1.frozen; clear hb hgr)
            | ((with_reducible refine gate_dst (N := 22) rfl ?_); refine ev_append rfl rfl Tryd.underlying33 info_u8 rfl (by omega) rfl oA rfl (Reads.of_own o6) u8s_one (by omega) (by omega) (by have := HB.size; omega) ?_; intro A7 c7 W2 on hgr hat; replace hg1 := hg1.grown hgr (fun e => own_blk_ne oA hg1 (by decide) e.symm); replace HB := HB.grown hgr (by have := HB.size; omega) (own_base oA); replace oA := on; replace hcg1 := hg1.cell; replace hfg1 := hg1.frozen; clear on hgr hat)
            | (go_at_call 104; (with_reducible refine (Cu.out _).mono ?_); rintro e W3 ⟨A8, c8, rfl, o8, hb⟩; have hgr := grown_of_below hb; have doAo8 := own_apart oA o8 (Nat.le_refl _); replace o8 := own_mono o8 HB.size; replace hg1 := hg1.grown hgr (by simp); replace oA := oA.kept hgr (by cases Value.ownBlock _ <;> simp); replace HB := HB.grown hgr (by have := HB.size; omega) (by simp); replace hcg1 := hg1.cell; replace hfg1 := hg1.frozen; clear hb hgr)
            | ((with_reducible refine gate_dst (N := 38) rfl ?_); refine ev_append rfl rfl Tryd.underlying33 info_u8 rfl (by omega) rfl oA rfl (Reads.of_own o8) u8s_one (by omega) (by omega) (by have := HB.size; omega) ?_; intro A9 c9 W4 on hgr hat; replace hg1 := hg1.grown hgr (fun e => own_blk_ne oA hg1 (by decide) e.symm); replace HB := HB.grown hgr (by have := HB.size; omega) (own_base oA); replace oA := on; replace hcg1 := hg1.cell; replace hfg1 := hg1.frozen; clear on hgr hat))
          go_roundg (gk - 1)
          case measure => omega
          case rel => exact ⟨t + 1, A9, c9, r.encTo t, by omega, by omega, by go_num, by rw [Hnext.out]; simp [Nat.add_assoc], ⟨rfl, hg1, by rw [Hnext.out, u8s_append, u8s_append]; simpa [Nat.add_assoc] using oA, HB⟩⟩
        by_cases e10 : t = 10
        · have e1 : r.valB t = bytesL r.Name.data.toList := by unfold Rec.valB; rw [if_neg e7, if_pos e10]
          rw [e1] at hnext hbl
          have t7 : ((t : Int) == 7) = false := int_beq_false (by omega)
          have t10 : ((t : Int) == 10) = true := by simp [e10]
          have hnl : r.Name.data.toList.length ≤ 140737488351232 := hf.name
          have cu : ∀ (A : Option Addr) (c : Nat) (w : World), RB w A r.Name.data.toList → Calls Tryd.prog 105 #[.slice A r.Name.size c] w fun e w' => ∃ A' c', e = .returned (.slice A' (bytesL r.Name.data.toList).length c') ∧ w'.ownsRow w.heap.size 5 1 (.slice A' (bytesL r.Name.data.toList).length c') (bytesL r.Name.data.toList).length (u8s (bytesL r.Name.data.toList)) ∧ Below w.heap.size w w' := fun A c w h => bytes_calls r.Name.data.toList A c hnl w h
          generalize bytesL r.Name.data.toList = vb at hnext hbl cu
          have Hnext := Lib.hid hnext
          have Cu := Lib.hid cu
          clear hnext cu e0 e1 e7 e10
          go_wp2_with (first
            | (go_at_call 97; (with_reducible refine (zeroAny_calls r A c g1 t h1t hle _ hg1).mono ?_); rintro e w1 ⟨rfl, rfl⟩; rw [hz])
            | (go_at_call 103; clear m1; (with_reducible refine (uint_calls t (by omega) _).mono ?_); rintro e W1 ⟨A6, c6, rfl, o6, hb⟩; have hgr := grown_of_below hb; have doAo6 := own_apart oA o6 (Nat.le_refl _); replace o6 := own_mono o6 HB.size; replace hg1 := hg1.grown hgr (by simp); replace oA := oA.kept hgr (by cases Value.ownBlock _ <;> simp); replace HB := HB.grown hgr (by have := HB.size; omega) (by simp); replace hcg1 := hg1.cell; replace hfg1 := hg1.frozen; clear hb hgr)
            | ((with_reducible refine gate_dst (N := 22) rfl ?_); refine ev_append rfl rfl Tryd.underlying33 info_u8 rfl (by omega) rfl oA rfl (Reads.of_own o6) u8s_one (by omega) (by omega) (by have := HB.size; omega) ?_; intro A7 c7 W2 on hgr hat; replace hg1 := hg1.grown hgr (fun e => own_blk_ne oA hg1 (by decide) e.symm); replace HB := HB.grown hgr (by have := HB.size; omega) (own_base oA); replace oA := on; replace hcg1 := hg1.cell; replace hfg1 := hg1.frozen; clear on hgr hat)
            | ((with_reducible refine gate_dst (N := 44) rfl ?_); refine ev_bytes rfl rfl Tryd.underlying9 Tryd.underlying33 Tryd.underlying5 rfl ?_; intro AB cB W3 hd7 hb; have hgr := grown_of_below hb; replace hg1 := hg1.grown hgr (by simp); replace oA := oA.kept hgr (by cases Value.ownBlock _ <;> simp); replace HB := HB.grown hgr (by have := HB.size; omega) (by simp); replace hcg1 := hg1.cell; replace hfg1 := hg1.frozen; clear hb hgr)
            | (go_at_call 105; (with_reducible refine (Cu.out _ _ _ hd7.rb).mono ?_); rintro e W4 ⟨A8, c8, rfl, o8, hb⟩; have hgr := grown_of_below hb; have doAo8 := own_apart oA o8 (Nat.le_refl _); replace o8 := own_mono o8 HB.size; replace hd7 := hd7.kept hgr (by simp); replace hg1 := hg1.grown hgr (by simp); replace oA := oA.kept hgr (by cases Value.ownBlock _ <;> simp); replace HB := HB.grown hgr (by have := HB.size; omega) (by simp); replace hcg1 := hg1.cell; replace hfg1 := hg1.frozen; clear hb hgr)
            | ((with_reducible refine gate_dst (N := 46) rfl ?_); refine ev_append rfl rfl Tryd.underlying33 info_u8 rfl (by omega) rfl oA rfl (Reads.of_own o8) u8s_one (by omega) (by omega) (by have := HB.size; omega) ?_; intro A9 c9 W5 on hgr hat; replace hg1 := hg1.grown hgr (fun e => own_blk_ne oA hg1 (by decide) e.symm); replace HB := HB.grown hgr (by have := HB.size; omega) (own_base oA); replace oA := on; replace hcg1 := hg1.cell; replace hfg1 := hg1.frozen; clear on hgr hat))
          go_roundg (gk - 1)
          case measure => omega
          case rel => exact ⟨t + 1, A9, c9, r.encTo t, by omega, by omega, by go_num, by rw [Hnext.out]; simp [Nat.add_assoc], ⟨rfl, hg1, by rw [Hnext.out, u8s_append, u8s_append]; simpa [Nat.add_assoc] using oA, HB⟩⟩
        by_cases e11 : t = 11
        · have e1 : r.valB t = bytesL r.Data := by unfold Rec.valB; rw [if_neg e7, if_neg e10, if_pos e11]
          rw [e1] at hnext hbl
          have t7 : ((t : Int) == 7) = false := int_beq_false (by omega)
          have t10 : ((t : Int) == 10) = false := int_beq_false (by omega)
          have t11 : ((t : Int) == 11) = true := by simp [e11]
          have cu := fun w h => bytes_calls r.Data A c hf.data w h
          generalize bytesL r.Data = vb at hnext hbl cu
          have Hnext := Lib.hid hnext
          have Cu := Lib.hid cu
          clear hnext cu e0 e1 e7 e10 e11
          go_wp2_with (first
            | (go_at_call 97; (with_reducible refine (zeroAny_calls r A c g1 t h1t hle _ hg1).mono ?_); rintro e w1 ⟨rfl, rfl⟩; rw [hz])
            | (go_at_call 103; clear m1; (with_reducible refine (uint_calls t (by omega) _).mono ?_); rintro e W1 ⟨A6, c6, rfl, o6, hb⟩; have hgr := grown_of_below hb; have doAo6 := own_apart oA o6 (Nat.le_refl _); replace o6 := own_mono o6 HB.size; replace hg1 := hg1.grown hgr (by simp); replace oA := oA.kept hgr (by cases Value.ownBlock _ <;> simp); replace HB := HB.grown hgr (by have := HB.size; omega) (by simp); replace hcg1 := hg1.cell; replace hfg1 := hg1.frozen; clear hb hgr)
            | ((with_reducible refine gate_dst (N := 22) rfl ?_); refine ev_append rfl rfl Tryd.underlying33 info_u8 rfl (by omega) rfl oA rfl (Reads.of_own o6) u8s_one (by omega) (by omega) (by have := HB.size; omega) ?_; intro A7 c7 W2 on hgr hat; replace hg1 := hg1.grown hgr (fun e => own_blk_ne oA hg1 (by decide) e.symm); replace HB := HB.grown hgr (by have := HB.size; omega) (own_base oA); replace oA := on; replace hcg1 := hg1.cell; replace hfg1 := hg1.frozen; clear on hgr hat)
            | (go_at_call 105; (with_reducible refine (Cu.out _ (hd.next HB)).mono ?_); rintro e W3 ⟨A8, c8, rfl, o8, hb⟩; have hgr := grown_of_below hb; have doAo8 := own_apart oA o8 (Nat.le_refl _); replace o8 := own_mono o8 HB.size; replace hg1 := hg1.grown hgr (by simp); replace oA := oA.kept hgr (by cases Value.ownBlock _ <;> simp); replace HB := HB.grown hgr (by have := HB.size; omega) (by simp); replace hcg1 := hg1.cell; replace hfg1 := hg1.frozen; clear hb hgr)
            | ((with_reducible refine gate_dst (N := 53) rfl ?_); refine ev_append rfl rfl Tryd.underlying33 info_u8 rfl (by omega) rfl oA rfl (Reads.of_own o8) u8s_one (by omega) (by omega) (by have := HB.size; omega) ?_; intro A9 c9 W4 on hgr hat; replace hg1 := hg1.grown hgr (fun e => own_blk_ne oA hg1 (by decide) e.symm); replace HB := HB.grown hgr (by have := HB.size; omega) (own_base oA); replace oA := on; replace hcg1 := hg1.cell; replace hfg1 := hg1.frozen; clear on hgr hat))
          go_roundg (gk - 1)
          case measure => omega
          case rel => exact ⟨t + 1, A9, c9, r.encTo t, by omega, by omega, by go_num, by rw [Hnext.out]; simp [Nat.add_assoc], ⟨rfl, hg1, by rw [Hnext.out, u8s_append, u8s_append]; simpa [Nat.add_assoc] using oA, HB⟩⟩
        have e1 : r.valB t = uintL (IntKind.u64.wrap (r.num t)).toNat := by unfold Rec.valB; rw [if_neg e7, if_neg e10, if_neg e11]
        rw [e1] at hnext hbl
        have t7 : ((t : Int) == 7) = false := int_beq_false (by omega)
        have t10 : ((t : Int) == 10) = false := int_beq_false (by omega)
        have t11 : ((t : Int) == 11) = false := int_beq_false (by omega)
        have h9 : t ≤ 9 := by omega
        have xr := Rec.num_get r A c t h1t h9
        obtain ⟨w1, w2⟩ := wrap_range (r.num t)
        have cu := fun w => uint_calls (IntKind.u64.wrap (r.num t)).toNat (by omega) w
        rw [Int.toNat_of_nonneg w1] at cu
        generalize uintL (IntKind.u64.wrap (r.num t)).toNat = vb at hnext hbl cu
        have Hnext := Lib.hid hnext
        have Cu := Lib.hid cu
        clear hnext cu e0 e1 e7 e10 e11
        go_wp2_with (first
          | (go_at_call 97; (with_reducible refine (zeroAny_calls r A c g1 t h1t hle _ hg1).mono ?_); rintro e w1 ⟨rfl, rfl⟩; rw [hz])
          | (go_at_call 103; clear m1; (with_reducible refine (uint_calls t (by omega) _).mono ?_); rintro e W1 ⟨A6, c6, rfl, o6, hb⟩; have hgr := grown_of_below hb; have doAo6 := own_apart oA o6 (Nat.le_refl _); replace o6 := own_mono o6 HB.size; replace hg1 := hg1.grown hgr (by simp); replace oA := oA.kept hgr (by cases Value.ownBlock _ <;> simp); replace HB := HB.grown hgr (by have := HB.size; omega) (by simp); replace hcg1 := hg1.cell; replace hfg1 := hg1.frozen; clear hb hgr)
          | ((with_reducible refine gate_dst (N := 22) rfl ?_); refine ev_append rfl rfl Tryd.underlying33 info_u8 rfl (by omega) rfl oA rfl (Reads.of_own o6) u8s_one (by omega) (by omega) (by have := HB.size; omega) ?_; intro A7 c7 W2 on hgr hat; replace hg1 := hg1.grown hgr (fun e => own_blk_ne oA hg1 (by decide) e.symm); replace HB := HB.grown hgr (by have := HB.size; omega) (own_base oA); replace oA := on; replace hcg1 := hg1.cell; replace hfg1 := hg1.frozen; clear on hgr hat)
          | (go_at_call 90; (with_reducible refine (number_calls g1 t h1t h9 _).mono ?_); rintro e w1 ⟨rfl, rfl⟩)
          | (go_at_call 103; (with_reducible refine (Cu.out _).mono ?_); rintro e W3 ⟨A8, c8, rfl, o8, hb⟩; have hgr := grown_of_below hb; have doAo8 := own_apart oA o8 (Nat.le_refl _); replace o8 := own_mono o8 HB.size; replace hg1 := hg1.grown hgr (by simp); replace oA := oA.kept hgr (by cases Value.ownBlock _ <;> simp); replace HB := HB.grown hgr (by have := HB.size; omega) (by simp); replace hcg1 := hg1.cell; replace hfg1 := hg1.frozen; clear hb hgr)
          | ((with_reducible refine gate_dst (N := 31) rfl ?_); refine ev_append rfl rfl Tryd.underlying33 info_u8 rfl (by omega) rfl oA rfl (Reads.of_own o8) u8s_one (by omega) (by omega) (by have := HB.size; omega) ?_; intro A9 c9 W4 on hgr hat; replace hg1 := hg1.grown hgr (fun e => own_blk_ne oA hg1 (by decide) e.symm); replace HB := HB.grown hgr (by have := HB.size; omega) (own_base oA); replace oA := on; replace hcg1 := hg1.cell; replace hfg1 := hg1.frozen; clear on hgr hat))
        go_roundg (gk - 1)
        case measure => omega
        case rel => exact ⟨t + 1, A9, c9, r.encTo t, by omega, by omega, by go_num, by rw [Hnext.out]; simp [Nat.add_assoc], ⟨rfl, hg1, by rw [Hnext.out, u8s_append, u8s_append]; simpa [Nat.add_assoc] using oA, HB⟩⟩
      · have e0 : r.tagB t = [] := by unfold Rec.tagB; rw [hz]; rfl
        rw [e0, List.append_nil] at hnext
        have Hnext := Lib.hid hnext
        clear hnext e0
        go_wp2_with (first
          | (go_at_call 97; (with_reducible refine (zeroAny_calls r A c g1 t h1t hle _ hg1).mono ?_); rintro e w1 ⟨rfl, rfl⟩; rw [hz]))
        go_roundg (gk - 1)
        case measure => omega
        case rel => exact ⟨t + 1, A5, c5, acc, by omega, by omega, by go_num, rfl, ⟨Hnext.out.symm, hg1, oA, HB⟩⟩
    · obtain rfl : t = 12 := by omega
      obtain rfl : acc = r.enc := hacc
      go_wp2
      go_ret2
      exact ⟨A5, c5, rfl, oA, HB⟩
end Go.Proofs.YtjhiohjpkdjkoaaDoor
