/-
  What annalslaw3.started comes to (first part); wire.Uint, Int, Bytes.
-/
import Derived.Test.YtikodgaomhmbmaaDoorC3
import Derived.LoopN
import Derived.OwnWalk
set_option linter.unusedVariables false
set_option linter.unusedSimpArgs false
namespace Go.Proofs.YtikodgaomhmbmaaDoor
open Go.RowKit
attribute [local go_sem] Rec.size_ Rec.g0 Rec.g1 Rec.g2 Rec.g3 Rec.g4 Rec.g5 Rec.g6 Rec.g7 Rec.g8 Rec.g9 Rec.g10 Rec.g11 Rec.fold

section
variable {P : Program} {ops : Array Oper} {rest : List Oper} {o : Oper} {a : Act} {Q : Exit → Act → World → Prop} {W : World}
theorem ev_make (hgd : o.guard = none) {l c : Operand} {t e : TypeId} (ho : o.op = .makeSlice t l c) {z : Value} {size bytes : Nat} (ht : P.underlying t = some (.slice e)) (hinfo : (P.info? e).map (fun i => (i.zero, i.size, i.bytes)) = some (some z, size, bytes))
    {kl kc : IntKind} {C : Int} {n : Nat} (hl : a.eval l = .int kl 0) (hc : a.eval c = .int kc C) (hC : C = (n : Int)) (hb : bytes * n ≤ 281474976710656) (hm : n ≤ maxLen)
    (h : ∀ g w1, w1.ownsRow W.heap.size e size (.slice (some ⟨g, 0, none⟩) 0 n) 0 [] → W.heap.size ≤ g → Below W.heap.size W w1 → wpList P ops Q rest (a.put o.dst (.slice (some ⟨g, 0, none⟩) 0 n)) w1) : wpList P ops Q (o :: rest) a W := by
  obtain ⟨i, hi, hz0, hz1, hz2⟩ := info_parts hinfo
  subst hz2
  refine wpList_make_own W hgd l c t ho W.heap.size e i z size ht hi hz0 hz1 kl kc C n hl hc hC hb hm (Nat.le_refl _) ?_
  intro w' ho' hg
  exact h _ w' ho' (Nat.le_refl _) ((Below.refl _ _).grown hg (Nat.le_refl _) (by simp))
end

set_option maxHeartbeats 1000000 in
set_option maxRecDepth 100000 in
theorem uint_small (v : Int) (h0 : 0 ≤ v) (hv : v < 128) (w : World) :
    Calls Tryd.prog 73 #[.int .u64 v] w fun e w' => ∃ A c, e = .returned (.slice A 1 c) ∧ w'.ownsRow w.heap.size 5 1 (.slice A 1 c) 1 [.int .u8 v] ∧ Below w.heap.size w w' := by
  have HB := Below.refl w.heap.size w
  have t1 : decide ((128 : Int) ≤ v) = false := by simp; omega
  have t2 : IntKind.u8.wrap v = v := by rw [IntKind.wrap_u8]; omega
  go_enter Tryd.func73, Tryd.ntmps73
  go_wp2_with (first
    | (at_make; refine ev_make rfl rfl Tryd.underlying25 info_u8 rfl rfl (n := 10) rfl (by omega) (by decide) ?_; intro g W1 o1 hge hbn; have hgr := grown_of_below hbn; replace HB := HB.grown hgr (by have := HB.size; omega) (by simp); clear hgr hbn hge))
  refine wp_loop_rounds 1 ?_
  rw [rounds_succ]
  go_wp2_with (first
    | ((with_reducible refine gate_dst (N := 18) rfl ?_); refine ev_lit rfl rfl (#[.int .u8 v]) 5 1 (by first | (go_simp; done) | (go_simp; rfl)) ?_; intro g2 W1 hg2 hsz hbn; have hgr := grown_of_below hbn; have zg2 : w.heap.size ≤ g2 := (by have := HB.size; omega); replace o1 := o1.kept hgr (by cases Value.ownBlock _ <;> simp); replace HB := HB.grown hgr (by have := HB.size; omega) (by simp); have hcg2 := hg2.cell; have hfg2 := hg2.frozen; clear hsz hbn hgr)
    | ((with_reducible refine gate_dst (N := 19) rfl ?_); refine ev_append rfl rfl Tryd.underlying25 info_u8 rfl (by omega) rfl o1 rfl (hg2.reads (size := 1) (n := 1) rfl) (fun u hu => by simp at hu; subst hu; rfl) (by omega) (by omega) (by have := HB.size; omega) ?_; intro A2 c2 W2 on hgr hat; replace HB := HB.grown hgr (by have := HB.size; omega) (own_base o1); replace o1 := on; clear on hgr hat))
  go_ret
  exact ⟨A2, c2, rfl, by simpa using o1, HB⟩
end Go.Proofs.YtikodgaomhmbmaaDoor
namespace Go.Proofs.YtikodgaomhmbmaaDoor
open Go.RowKit
attribute [local go_sem] Rec.size_ Rec.g0 Rec.g1 Rec.g2 Rec.g3 Rec.g4 Rec.g5 Rec.g6 Rec.g7 Rec.g8 Rec.g9 Rec.g10 Rec.g11 Rec.fold

theorem zero1_calls (r : Rec) (A : Option Addr) (c g : Nat) (w : World) (hg : Blk w g 27 (r.cells A c)) :
    Calls Tryd.prog 71 #[.pointer (some ⟨g, 0, none⟩), .int .i64 1] w fun e w' => e = .returned (.bool (r.num 1 == 0)) ∧ w = w' := by
  have hcg := hg.cell
  have hfg := hg.frozen
  have cn : ∀ w, Calls Tryd.prog 60 #[.pointer (some ⟨g, 0, none⟩), .int .i64 1] w fun e w' => e = .returned (.pointer (some ⟨g, 1, none⟩)) ∧ w = w' := fun w => number_calls g 1 (by omega) (by omega) w
  go_enter Tryd.func71, Tryd.ntmps71
  go_wp2_with (first
    | (go_at_call 60; (with_reducible refine (cn _).mono ?_); rintro e w1 ⟨rfl, rfl⟩))
  go_ret
  exact ⟨rfl, rfl⟩
theorem zero2_calls (r : Rec) (A : Option Addr) (c g : Nat) (w : World) (hg : Blk w g 27 (r.cells A c)) :
    Calls Tryd.prog 71 #[.pointer (some ⟨g, 0, none⟩), .int .i64 2] w fun e w' => e = .returned (.bool (r.num 2 == 0)) ∧ w = w' := by
  have hcg := hg.cell
  have hfg := hg.frozen
  have cn : ∀ w, Calls Tryd.prog 60 #[.pointer (some ⟨g, 0, none⟩), .int .i64 2] w fun e w' => e = .returned (.pointer (some ⟨g, 2, none⟩)) ∧ w = w' := fun w => number_calls g 2 (by omega) (by omega) w
  go_enter Tryd.func71, Tryd.ntmps71
  go_wp2_with (first
    | (go_at_call 60; (with_reducible refine (cn _).mono ?_); rintro e w1 ⟨rfl, rfl⟩))
  go_ret
  exact ⟨rfl, rfl⟩

/-- The record that 'started' writes and reads. -/
def endC : Rec := { Rec.zero with V := 1, Kind := 7, Saga := 1 }
theorem endC_chk : endC.chk = 0 := by decide +kernel
theorem endC_fits : endC.Fits := ⟨by decide, by decide⟩
theorem endC_zero (v : Int) (h3 : 3 ≤ v) (h11 : v ≤ 11) (g : Nat) (w : World) (hg : Blk w g 27 (endC.cells none 0)) :
    Calls Tryd.prog 71 #[.pointer (some ⟨g, 0, none⟩), .int .i64 v] w fun e w' => e = .returned (.bool true) ∧ w = w' := by
  obtain ⟨t, rfl⟩ : ∃ t : Nat, v = t := ⟨v.toNat, by omega⟩
  have hz : endC.zeroAt t = true := by
    obtain rfl | rfl | rfl | rfl | rfl | rfl | rfl | rfl | rfl : t = 3 ∨ t = 4 ∨ t = 5 ∨ t = 6 ∨ t = 7 ∨ t = 8 ∨ t = 9 ∨ t = 10 ∨ t = 11 := by omega
    all_goals rfl
  have := zero_calls endC none 0 g t (by omega) (by omega) w hg
  rwa [hz] at this
theorem endC_z1 (g : Nat) (w : World) (hg : Blk w g 27 (endC.cells none 0)) :
    Calls Tryd.prog 71 #[.pointer (some ⟨g, 0, none⟩), .int .i64 1] w fun e w' => e = .returned (.bool false) ∧ w = w' := zero1_calls endC none 0 g w hg
theorem endC_z2 (g : Nat) (w : World) (hg : Blk w g 27 (endC.cells none 0)) :
    Calls Tryd.prog 71 #[.pointer (some ⟨g, 0, none⟩), .int .i64 2] w fun e w' => e = .returned (.bool false) ∧ w = w' := zero2_calls endC none 0 g w hg
theorem endC_check (w : World) (ht : Tabs w) : Calls Tryd.prog 52 #[.agg (endC.cells none 0)] w fun e w' => e = .returned (.int .i64 0) ∧ Below w.heap.size w w' := by
  have := check_calls endC none 0 endC_fits w ht RB.nil
  rwa [endC_chk] at this
theorem num1_calls (g : Nat) (w : World) : Calls Tryd.prog 60 #[.pointer (some ⟨g, 0, none⟩), .int .i64 1] w fun e w' => e = .returned (.pointer (some ⟨g, 1, none⟩)) ∧ w = w' := number_calls g 1 (by omega) (by omega) w
theorem num2_calls (g : Nat) (w : World) : Calls Tryd.prog 60 #[.pointer (some ⟨g, 0, none⟩), .int .i64 2] w fun e w' => e = .returned (.pointer (some ⟨g, 2, none⟩)) ∧ w = w' := number_calls g 2 (by omega) (by omega) w
theorem endC_k (w : World) (g : Nat) (hg : Blk w g 27 (endC.cells none 0)) : w.cell? ⟨g, 1, none⟩ = some (.int .i64 7) ∧ w.cell? ⟨g, 2, none⟩ = some (.int .i64 1) := ⟨hg.cell 1, hg.cell 2⟩

/-- The bytes so far, ahead of tag v. -/
def endB (v : Int) : List Value := if v ≤ 1 then [] else if v ≤ 2 then [.int .u8 1, .int .u8 7] else [.int .u8 1, .int .u8 7, .int .u8 2, .int .u8 1]
theorem endB_len (v : Int) : (endB v).length ≤ 4 := by unfold endB; repeat' split
                                                       all_goals simp

set_option maxHeartbeats 4000000 in
set_option maxRecDepth 100000 in
theorem encode_end (w : World) (hT : Tabs w) :
    Calls Tryd.prog 49 #[.agg (endC.cells none 0)] w fun e w' => ∃ A c, e = .returned (.tuple #[.slice A 4 c, .int .i64 0]) ∧ w'.ownsRow w.heap.size 5 1 (.slice A 4 c) 4 [.int .u8 1, .int .u8 7, .int .u8 2, .int .u8 1] ∧ Below w.heap.size w w' := by
  have HB := Below.refl w.heap.size w
  have HT := Lib.hid hT
  clear hT
  go_enter Tryd.func49, Tryd.ntmps49
  go_wp2_with (first
    | ((with_reducible refine gate_dst (N := 1) rfl ?_); refine ev_box rfl rfl (endC.cells none 0) rfl ?_; intro g1 W1 hg1 hsz hbn; have hgr := grown_of_below hbn; have zg1 : w.heap.size ≤ g1 := (by have := HB.size; omega); replace HB := HB.grown hgr (by have := HB.size; omega) (by simp); have hcg1 := hg1.cell; have hfg1 := hg1.frozen; clear hsz hbn hgr)
    | ((with_reducible refine gate_dst (N := 7) rfl ?_); refine wpList_load_row rfl _ _ rfl g1 rfl _ _ (0, 0) _ hg1 Tryd.underlying27 rfl rec_size ?_)
    | (go_at_call 52; (with_reducible refine (endC_check _ (HT.out.next HB)).mono ?_); rintro e W2 ⟨rfl, hb⟩; have hgr := grown_of_below hb; replace hg1 := hg1.grown hgr (by simp); replace HB := HB.grown hgr (by have := HB.size; omega) (by simp); replace hcg1 := hg1.cell; replace hfg1 := hg1.frozen; clear hb hgr))
  go_loopg [5, 6] 11 (fun n v5 v6 wr => ∃ (v : Int) (A : Option Addr) (m c : Nat), (n : Int) + v = 12 ∧ v6 = .int .i64 v ∧ v5 = .slice A m c ∧ Aside (1 ≤ v ∧ m = (endB v).length ∧ Blk wr g1 _ (endC.cells none 0) ∧ wr.ownsRow w.heap.size 5 1 (.slice A m c) m (endB v) ∧ Below w.heap.size w wr))
  case atStart => exact ⟨1, none, 0, 0, by omega, rfl, rfl, ⟨by omega, rfl, hg1, own_nil _ _ _ _, HB⟩⟩
  case round =>
    clear hg1 hcg1 hfg1 HB
    obtain ⟨v, A5, m, c5, hn, rfl, rfl, HA⟩ := hrel
    obtain ⟨h1, hm, hg1, o1, HB⟩ := HA.out
    clear HA
    have hcg1 := hg1.cell
    have hfg1 := hg1.frozen
    obtain ⟨x1, x2⟩ := endC_k wr g1 hg1
    by_cases hv1 : v = 1
    · subst hv1
      obtain rfl : m = 0 := hm
      have oA : wr.ownsRow w.heap.size 5 1 (.slice A5 0 c5) 0 [] := o1
      clear o1 x2
      have m1 : True := trivial
      have hK : endC.Kind = 7 := rfl
      have hS : endC.Saga = 1 := rfl
      have hw7 : IntKind.u64.wrap 7 = 7 := by rfl
      have hw1 : IntKind.u64.wrap 1 = 1 := by rfl
      go_wp2_with (first
        | (go_at_call 71; (with_reducible refine (endC_z1 g1 _ hg1).mono ?_); rintro e w1 ⟨rfl, rfl⟩)
        | (go_at_call 73; clear m1; (with_reducible refine (uint_small 1 (by omega) (by omega) _).mono ?_); rintro e W1 ⟨A6, c6, rfl, o6, hb⟩; have hgr := grown_of_below hb; have doAo6 := own_apart oA o6 (Nat.le_refl _); replace o6 := own_mono o6 HB.size; replace hg1 := hg1.grown hgr (by simp); replace oA := oA.kept hgr (by cases Value.ownBlock _ <;> simp); replace HB := HB.grown hgr (by have := HB.size; omega) (by simp); replace hcg1 := hg1.cell; replace hfg1 := hg1.frozen; clear hb hgr; replace x1 := (endC_k _ g1 hg1).1)
        | ((with_reducible refine gate_dst (N := 22) rfl ?_); refine ev_append rfl rfl Tryd.underlying25 info_u8 rfl (by omega) rfl oA rfl (Reads.of_own o6) (fun u hu => by simp at hu; subst hu; rfl) (by omega) (by omega) (by have := HB.size; omega) ?_; intro A7 c7 W2 on hgr hat; replace hg1 := hg1.grown hgr (fun e => own_blk_ne oA hg1 (by decide) e.symm); replace HB := HB.grown hgr (by have := HB.size; omega) (own_base oA); replace oA := on; replace hcg1 := hg1.cell; replace hfg1 := hg1.frozen; clear on hgr hat)
        | (go_at_call 60; (with_reducible refine (num1_calls g1 _).mono ?_); rintro e w1 ⟨rfl, rfl⟩; have x3 := (endC_k _ g1 hg1).1)
        | (go_at_call 73; (with_reducible refine (uint_small 7 (by omega) (by omega) _).mono ?_); rintro e W3 ⟨A8, c8, rfl, o8, hb⟩; have hgr := grown_of_below hb; have doAo8 := own_apart oA o8 (Nat.le_refl _); replace o8 := own_mono o8 HB.size; replace hg1 := hg1.grown hgr (by simp); replace oA := oA.kept hgr (by cases Value.ownBlock _ <;> simp); replace HB := HB.grown hgr (by have := HB.size; omega) (by simp); replace hcg1 := hg1.cell; replace hfg1 := hg1.frozen; clear hb hgr)
        | ((with_reducible refine gate_dst (N := 31) rfl ?_); refine ev_append rfl rfl Tryd.underlying25 info_u8 rfl (by omega) rfl oA rfl (Reads.of_own o8) (fun u hu => by simp at hu; subst hu; rfl) (by omega) (by omega) (by have := HB.size; omega) ?_; intro A9 c9 W4 on hgr hat; replace hg1 := hg1.grown hgr (fun e => own_blk_ne oA hg1 (by decide) e.symm); replace HB := HB.grown hgr (by have := HB.size; omega) (own_base oA); replace oA := on; replace hcg1 := hg1.cell; replace hfg1 := hg1.frozen; clear on hgr hat))
      go_roundg (gk - 1)
      case measure => omega
      case rel => exact ⟨2, A9, 2, c9, by omega, rfl, rfl, ⟨by omega, rfl, hg1, oA, HB⟩⟩
    by_cases hv2 : v = 2
    · subst hv2
      obtain rfl : m = 2 := hm
      have oA : wr.ownsRow w.heap.size 5 1 (.slice A5 2 c5) 2 [.int .u8 1, .int .u8 7] := o1
      clear o1 x1 hv1
      have m1 : True := trivial
      have hK : endC.Kind = 7 := rfl
      have hS : endC.Saga = 1 := rfl
      have hw7 : IntKind.u64.wrap 7 = 7 := by rfl
      have hw1 : IntKind.u64.wrap 1 = 1 := by rfl
      go_wp2_with (first
        | (go_at_call 71; (with_reducible refine (endC_z2 g1 _ hg1).mono ?_); rintro e w1 ⟨rfl, rfl⟩)
        | (go_at_call 73; clear m1; (with_reducible refine (uint_small 2 (by omega) (by omega) _).mono ?_); rintro e W1 ⟨A6, c6, rfl, o6, hb⟩; have hgr := grown_of_below hb; have doAo6 := own_apart oA o6 (Nat.le_refl _); replace o6 := own_mono o6 HB.size; replace hg1 := hg1.grown hgr (by simp); replace oA := oA.kept hgr (by cases Value.ownBlock _ <;> simp); replace HB := HB.grown hgr (by have := HB.size; omega) (by simp); replace hcg1 := hg1.cell; replace hfg1 := hg1.frozen; clear hb hgr; replace x2 := (endC_k _ g1 hg1).2)
        | ((with_reducible refine gate_dst (N := 22) rfl ?_); refine ev_append rfl rfl Tryd.underlying25 info_u8 rfl (by omega) rfl oA rfl (Reads.of_own o6) (fun u hu => by simp at hu; subst hu; rfl) (by omega) (by omega) (by have := HB.size; omega) ?_; intro A7 c7 W2 on hgr hat; replace hg1 := hg1.grown hgr (fun e => own_blk_ne oA hg1 (by decide) e.symm); replace HB := HB.grown hgr (by have := HB.size; omega) (own_base oA); replace oA := on; replace hcg1 := hg1.cell; replace hfg1 := hg1.frozen; clear on hgr hat)
        | (go_at_call 60; (with_reducible refine (num2_calls g1 _).mono ?_); rintro e w1 ⟨rfl, rfl⟩; have x3 := (endC_k _ g1 hg1).2)
        | (go_at_call 73; (with_reducible refine (uint_small 1 (by omega) (by omega) _).mono ?_); rintro e W3 ⟨A8, c8, rfl, o8, hb⟩; have hgr := grown_of_below hb; have doAo8 := own_apart oA o8 (Nat.le_refl _); replace o8 := own_mono o8 HB.size; replace hg1 := hg1.grown hgr (by simp); replace oA := oA.kept hgr (by cases Value.ownBlock _ <;> simp); replace HB := HB.grown hgr (by have := HB.size; omega) (by simp); replace hcg1 := hg1.cell; replace hfg1 := hg1.frozen; clear hb hgr)
        | ((with_reducible refine gate_dst (N := 31) rfl ?_); refine ev_append rfl rfl Tryd.underlying25 info_u8 rfl (by omega) rfl oA rfl (Reads.of_own o8) (fun u hu => by simp at hu; subst hu; rfl) (by omega) (by omega) (by have := HB.size; omega) ?_; intro A9 c9 W4 on hgr hat; replace hg1 := hg1.grown hgr (fun e => own_blk_ne oA hg1 (by decide) e.symm); replace HB := HB.grown hgr (by have := HB.size; omega) (own_base oA); replace oA := on; replace hcg1 := hg1.cell; replace hfg1 := hg1.frozen; clear on hgr hat))
      go_roundg (gk - 1)
      case measure => omega
      case rel => exact ⟨3, A9, 4, c9, by omega, rfl, rfl, ⟨by omega, rfl, hg1, oA, HB⟩⟩
    have he : endB v = [.int .u8 1, .int .u8 7, .int .u8 2, .int .u8 1] := by unfold endB; rw [if_neg (by omega), if_neg (by omega)]
    rw [he] at hm o1
    obtain rfl : m = 4 := hm
    clear x1 x2
    by_cases hle : v ≤ 11
    · have t1 : decide (v ≤ 11) = true := by simp [hle]
      go_wp2_with (first
        | (go_at_call 71; (with_reducible refine (endC_zero v (by omega) hle g1 _ hg1).mono ?_); rintro e w1 ⟨rfl, rfl⟩))
      go_roundg (gk - 1)
      case measure => omega
      case rel => exact ⟨v + 1, A5, 4, c5, by omega, by go_num, rfl, ⟨by omega, by unfold endB; rw [if_neg (by omega), if_neg (by omega)]; rfl, hg1, by unfold endB; rw [if_neg (by omega), if_neg (by omega)]; exact o1, HB⟩⟩
    · have t1 : decide (v ≤ 11) = false := by simp; omega
      go_wp2
      go_ret2
      exact ⟨A5, c5, rfl, o1, HB⟩

set_option maxRecDepth 100000 in
theorem size_end (w : World) (hT : Tabs w) :
    Calls Tryd.prog 51 #[.agg (endC.cells none 0)] w fun e w' => e = .returned (.tuple #[.int .i64 4, .int .i64 0]) ∧ Below w.heap.size w w' := by
  have HB := Below.refl w.heap.size w
  have HT := Lib.hid hT
  clear hT
  go_enter Tryd.func51, Tryd.ntmps51
  go_wp2_with (first
    | ((with_reducible refine gate_dst (N := 1) rfl ?_); refine ev_box rfl rfl (endC.cells none 0) rfl ?_; intro g1 W1 hg1 hsz hbn; have hgr := grown_of_below hbn; have zg1 : w.heap.size ≤ g1 := (by have := HB.size; omega); replace HB := HB.grown hgr (by have := HB.size; omega) (by simp); have hcg1 := hg1.cell; have hfg1 := hg1.frozen; clear hsz hbn hgr)
    | ((with_reducible refine gate_dst (N := 7) rfl ?_); refine wpList_load_row rfl _ _ rfl g1 rfl _ _ (0, 0) _ hg1 Tryd.underlying27 rfl rec_size ?_)
    | (go_at_call 49; (with_reducible refine (encode_end _ (HT.out.next HB)).mono ?_); rintro e W2 ⟨A5, c5, rfl, o5, hb⟩; have hgr := grown_of_below hb; replace hg1 := hg1.grown hgr (by simp); replace HB := HB.grown hgr (by have := HB.size; omega) (by simp); replace hcg1 := hg1.cell; replace hfg1 := hg1.frozen; clear hb hgr))
  go_ret2
  exact ⟨rfl, HB⟩
end Go.Proofs.YtikodgaomhmbmaaDoor
namespace Go.Proofs.YtikodgaomhmbmaaDoor
open Go.RowKit
attribute [local go_sem] Rec.size_ Rec.g0 Rec.g1 Rec.g2 Rec.g3 Rec.g4 Rec.g5 Rec.g6 Rec.g7 Rec.g8 Rec.g9 Rec.g10 Rec.g11 Rec.fold

/-- The four bytes. -/
def fourB : Array Value := #[.int .u8 1, .int .u8 7, .int .u8 2, .int .u8 1]
set_option maxHeartbeats 1000000 in
set_option maxRecDepth 100000 in
theorem read_0 (g : Nat) (w : World) (hg : Blk w g 5 fourB) :
    Calls Tryd.prog 69 #[.slice (some ⟨g, 0, none⟩) 4 4, .int .i64 0] w fun e w' => e = .returned (.tuple #[.int .u64 1, .int .i64 1, .int .i64 0]) ∧ w = w' := by
  have x0 : w.cell? ⟨g, 0, none⟩ = some (.int .u8 1) := hg.cell 0
  have hb : bits .and .u8 1 127 = 1 := by decide
  clear hg
  go_enter Tryd.func69, Tryd.ntmps69
  go_wp2
  refine wp_loop_rounds 1 ?_
  rw [rounds_succ]
  go_wp2
  go_ret3
  exact ⟨rfl, rfl⟩
set_option maxHeartbeats 1000000 in
set_option maxRecDepth 100000 in
theorem read_1 (g : Nat) (w : World) (hg : Blk w g 5 fourB) :
    Calls Tryd.prog 69 #[.slice (some ⟨g, 0, none⟩) 4 4, .int .i64 1] w fun e w' => e = .returned (.tuple #[.int .u64 7, .int .i64 2, .int .i64 0]) ∧ w = w' := by
  have x0 : w.cell? ⟨g, 1, none⟩ = some (.int .u8 7) := hg.cell 1
  have hb : bits .and .u8 7 127 = 7 := by decide
  clear hg
  go_enter Tryd.func69, Tryd.ntmps69
  go_wp2
  refine wp_loop_rounds 1 ?_
  rw [rounds_succ]
  go_wp2
  go_ret3
  exact ⟨rfl, rfl⟩
set_option maxHeartbeats 1000000 in
set_option maxRecDepth 100000 in
theorem read_2 (g : Nat) (w : World) (hg : Blk w g 5 fourB) :
    Calls Tryd.prog 69 #[.slice (some ⟨g, 0, none⟩) 4 4, .int .i64 2] w fun e w' => e = .returned (.tuple #[.int .u64 2, .int .i64 3, .int .i64 0]) ∧ w = w' := by
  have x0 : w.cell? ⟨g, 2, none⟩ = some (.int .u8 2) := hg.cell 2
  have hb : bits .and .u8 2 127 = 2 := by decide
  clear hg
  go_enter Tryd.func69, Tryd.ntmps69
  go_wp2
  refine wp_loop_rounds 1 ?_
  rw [rounds_succ]
  go_wp2
  go_ret3
  exact ⟨rfl, rfl⟩
set_option maxHeartbeats 1000000 in
set_option maxRecDepth 100000 in
theorem read_3 (g : Nat) (w : World) (hg : Blk w g 5 fourB) :
    Calls Tryd.prog 69 #[.slice (some ⟨g, 0, none⟩) 4 4, .int .i64 3] w fun e w' => e = .returned (.tuple #[.int .u64 1, .int .i64 4, .int .i64 0]) ∧ w = w' := by
  have x0 : w.cell? ⟨g, 3, none⟩ = some (.int .u8 1) := hg.cell 3
  have hb : bits .and .u8 1 127 = 1 := by decide
  clear hg
  go_enter Tryd.func69, Tryd.ntmps69
  go_wp2
  refine wp_loop_rounds 1 ?_
  rw [rounds_succ]
  go_wp2
  go_ret3
  exact ⟨rfl, rfl⟩
end Go.Proofs.YtikodgaomhmbmaaDoor
namespace Go.Proofs.YtikodgaomhmbmaaDoor
open Go.RowKit

theorem or_128 : ∀ n < 256, bits .or .u8 ((n : Nat) : Int) 128 = ((n % 128 + 128 : Nat) : Int) := by decide +kernel
/-- A number, seven bits a byte, low ones first. -/
def uintL (v : Nat) : List UInt8 := if h : v < 128 then [UInt8.ofNat v] else UInt8.ofNat (v % 128 + 128) :: uintL (v / 128)
termination_by v
theorem uintL_last {v : Nat} (h : v < 128) : uintL v = [UInt8.ofNat v] := by rw [uintL, dif_pos h]
theorem uintL_more {v : Nat} (h : ¬ v < 128) : uintL v = UInt8.ofNat (v % 128 + 128) :: uintL (v / 128) := by rw [uintL, dif_neg h]
theorem uintL_len (v : Nat) : 1 ≤ (uintL v).length := by
  by_cases h : v < 128
  · rw [uintL_last h]; simp
  · rw [uintL_more h]; simp
theorem len_of_pow {n v : Nat} (h : 2 ^ n * (v + 1) ≤ 2 ^ 64) : n ≤ 64 := by
  rcases Nat.lt_or_ge 64 n with hn | hn
  · exfalso
    have h1 : 2 ^ 65 ≤ 2 ^ n := Nat.pow_le_pow_right (by decide) hn
    have h2 : 2 ^ n * 1 ≤ 2 ^ n * (v + 1) := Nat.mul_le_mul_left _ (by omega)
    omega
  · exact hn
theorem pow_step {n v : Nat} (h : 2 ^ n * (v + 1) ≤ 2 ^ 64) (hv : ¬ v < 128) : 2 ^ (n + 1) * (v / 128 + 1) ≤ 2 ^ 64 := by
  have h1 : 2 * (v / 128 + 1) ≤ v + 1 := by omega
  have h2 : 2 ^ n * (2 * (v / 128 + 1)) ≤ 2 ^ n * (v + 1) := Nat.mul_le_mul_left _ h1
  have e : 2 ^ (n + 1) * (v / 128 + 1) = 2 ^ n * (2 * (v / 128 + 1)) := by rw [Nat.pow_succ, Nat.mul_assoc]
  omega
theorem u8_one (n : Nat) (h : n < 256) : u8s [UInt8.ofNat n] = [.int .u8 (n : Int)] := by
  have : (UInt8.ofNat n).toNat = n := by rw [UInt8.toNat_ofNat']; exact Nat.mod_eq_of_lt h
  simp [u8s, this]

set_option maxHeartbeats 2000000 in
set_option maxRecDepth 100000 in
theorem uint_calls (v : Nat) (hv : v < 18446744073709551616) (w : World) :
    Calls Tryd.prog 73 #[.int .u64 v] w fun e w' => ∃ A c, e = .returned (.slice A (uintL v).length c) ∧ w'.ownsRow w.heap.size 5 1 (.slice A (uintL v).length c) (uintL v).length (u8s (uintL v)) ∧ Below w.heap.size w w' := by
  have HB := Below.refl w.heap.size w
  go_enter Tryd.func73, Tryd.ntmps73
  go_wp2_with (first
    | (at_make; refine ev_make rfl rfl Tryd.underlying25 info_u8 rfl rfl (n := 10) rfl (by omega) (by decide) ?_; intro g W1 o1 hge hbn; have hgr := grown_of_below hbn; replace HB := HB.grown hgr (by have := HB.size; omega) (by simp); clear hgr hbn hge))
  go_loopg [0, 3] v (fun n v0 v3 wr => ∃ (x : Nat) (A : Option Addr) (c : Nat) (acc : List UInt8), n = x ∧ v0 = .int .u64 x ∧ v3 = .slice A acc.length c ∧ Aside (uintL v = acc ++ uintL x ∧ 2 ^ acc.length * (x + 1) ≤ 2 ^ 64 ∧ x < 18446744073709551616 ∧
    wr.ownsRow w.heap.size 5 1 (.slice A acc.length c) acc.length (u8s acc) ∧ Below w.heap.size w wr))
  case atStart => exact ⟨v, some ⟨g, 0, none⟩, 10, [], rfl, rfl, rfl, ⟨rfl, by simp; omega, hv, o1, HB⟩⟩
  case round =>
    clear o1 HB
    obtain ⟨x, A5, c5, acc, hgk, rfl, rfl, HA⟩ := hrel
    obtain ⟨hacc, hpow, hx, o1, HB⟩ := HA.out
    clear HA
    have hlen := len_of_pow hpow
    have Hacc := Lib.hid hacc
    have Hpow := Lib.hid hpow
    clear hacc hpow
    by_cases h128 : x < 128
    · have t1 : decide ((128 : Int) ≤ (x : Int)) = false := by simp; omega
      have t2 : IntKind.u8.wrap (x : Int) = x := by rw [IntKind.wrap_u8]; omega
      have hfin : uintL v = acc ++ [UInt8.ofNat x] := by rw [Hacc.out, uintL_last h128]
      have Hfin := Lib.hid hfin
      clear hfin
      go_wp2_with (first
        | ((with_reducible refine gate_dst (N := 18) rfl ?_); refine ev_lit rfl rfl (#[.int .u8 x]) 5 1 (by first | (go_simp; done) | (go_simp; rfl)) ?_; intro g2 W1 hg2 hsz hbn; have hgr := grown_of_below hbn; have zg2 : w.heap.size ≤ g2 := (by have := HB.size; omega); replace o1 := o1.kept hgr (by cases Value.ownBlock _ <;> simp); replace HB := HB.grown hgr (by have := HB.size; omega) (by simp); have hcg2 := hg2.cell; have hfg2 := hg2.frozen; clear hsz hbn hgr)
        | ((with_reducible refine gate_dst (N := 19) rfl ?_); refine ev_append rfl rfl Tryd.underlying25 info_u8 rfl (by omega) rfl o1 rfl (hg2.reads (size := 1) (n := 1) rfl) (fun u hu => by simp at hu; subst hu; rfl) (by omega) (by omega) (by have := HB.size; omega) ?_; intro A2 c2 W2 on hgr hat; replace HB := HB.grown hgr (by have := HB.size; omega) (own_base o1); replace o1 := on; clear on hgr hat))
      go_ret
      refine ⟨A2, c2, by rw [Hfin.out]; simp, ?_, HB⟩
      rw [Hfin.out, u8s_append, u8_one x (by omega)]
      simpa using o1
    · have t1 : decide ((128 : Int) ≤ (x : Int)) = true := by simp; omega
      have t2 : bits .or .u8 ((x : Int) % 256) 128 = ((x % 128 + 128 : Nat) : Int) := by
        have e : (x : Int) % 256 = ((x % 256 : Nat) : Int) := by omega
        rw [e, or_128 _ (by omega)]
        congr 2
        omega
      have hnext : uintL v = (acc ++ [UInt8.ofNat (x % 128 + 128)]) ++ uintL (x / 128) := by rw [Hacc.out, uintL_more h128]; simp
      have Hnext := Lib.hid hnext
      have Hpow2 := Lib.hid (pow_step Hpow.out h128)
      clear hnext
      generalize hb : x % 128 + 128 = b at t2 Hnext
      go_wp2_with (first
        | ((with_reducible refine gate_dst (N := 11) rfl ?_); refine ev_lit rfl rfl (#[.int .u8 b]) 5 1 (by first | (go_simp; done) | (go_simp; rfl)) ?_; intro g2 W1 hg2 hsz hbn; have hgr := grown_of_below hbn; have zg2 : w.heap.size ≤ g2 := (by have := HB.size; omega); replace o1 := o1.kept hgr (by cases Value.ownBlock _ <;> simp); replace HB := HB.grown hgr (by have := HB.size; omega) (by simp); have hcg2 := hg2.cell; have hfg2 := hg2.frozen; clear hsz hbn hgr)
        | ((with_reducible refine gate_dst (N := 12) rfl ?_); refine ev_append rfl rfl Tryd.underlying25 info_u8 rfl (by omega) rfl o1 rfl (hg2.reads (size := 1) (n := 1) rfl) (fun u hu => by simp at hu; subst hu; rfl) (by omega) (by omega) (by have := HB.size; omega) ?_; intro A2 c2 W2 on hgr hat; replace HB := HB.grown hgr (by have := HB.size; omega) (own_base o1); replace o1 := on; clear on hgr hat))
      have hx2 : x / 128 < x := by omega
      go_roundg (x / 128)
      case measure => omega
      case rel => exact ⟨x / 128, A2, c2, acc ++ [UInt8.ofNat b], rfl, by rw [show ((x / 128 : Nat) : Int) = (x : Int) / 128 by omega], by simp, ⟨Hnext.out, by rw [List.length_append]; exact Hpow2.out, by omega, by rw [u8s_append, u8_one b (by omega)]; simpa using o1, HB⟩⟩

theorem uintL_pow : ∀ v : Nat, 2 ^ (uintL v).length ≤ 2 * (v + 1) := by
  intro v
  induction v using Nat.strongRecOn with
  | _ v ih =>
    by_cases h : v < 128
    · rw [uintL_last h]; simp; omega
    · rw [uintL_more h, List.length_cons, Nat.pow_succ]
      have := ih (v / 128) (by omega)
      omega
theorem uintL_short {v : Nat} (hv : v < 18446744073709551616) : (uintL v).length ≤ 65 := by
  have h := uintL_pow v
  rcases Nat.lt_or_ge 65 (uintL v).length with hn | hn
  · exfalso
    have h1 : 2 ^ 66 ≤ 2 ^ (uintL v).length := Nat.pow_le_pow_right (by decide) hn
    omega
  · exact hn

/-- A byte string with its length ahead of it. -/
def bytesL (s : List UInt8) : List UInt8 := uintL s.length ++ s
set_option maxHeartbeats 1000000 in
set_option maxRecDepth 100000 in
theorem bytes_calls (s : List UInt8) (A : Option Addr) (c : Nat) (hs : s.length ≤ 140737488351232) (w : World) (hd : RB w A s) :
    Calls Tryd.prog 75 #[.slice A s.length c] w fun e w' => ∃ A' c', e = .returned (.slice A' (bytesL s).length c') ∧ w'.ownsRow w.heap.size 5 1 (.slice A' (bytesL s).length c') (bytesL s).length (u8s (bytesL s)) ∧ Below w.heap.size w w' := by
  have HB := Below.refl w.heap.size w
  have hsh := uintL_short (v := s.length) (by omega)
  have t1 : IntKind.u64.wrap (s.length : Int) = s.length := by rw [IntKind.wrap_u64]; omega
  go_enter Tryd.func75, Tryd.ntmps75
  go_wp2_with (first
    | (go_at_call 73; (with_reducible refine (uint_calls s.length (by omega) _).mono ?_); rintro e W1 ⟨A5, c5, rfl, o5, hb⟩; have hgr := grown_of_below hb; replace o5 := own_mono o5 HB.size; replace HB := HB.grown hgr (by have := HB.size; omega) (by simp); clear hb hgr)
    | ((with_reducible refine gate_dst (N := 8) rfl ?_); refine ev_append rfl rfl Tryd.underlying25 info_u8 rfl (by omega) rfl o5 rfl (hd.next HB) u8s_one (by omega) (by omega) (by have := HB.size; omega) ?_; intro A6 c6 W2 on hgr hat; replace HB := HB.grown hgr (by have := HB.size; omega) (own_base o5); replace o5 := on; clear on hgr hat))
  go_ret
  refine ⟨A6, c6, by simp [bytesL], ?_, HB⟩
  unfold bytesL
  rw [u8s_append, List.length_append]
  exact o5

/-- The number that wire.Int hands to wire.Uint. -/
def zig (v : Int) : Int := bits .xor .u64 (IntKind.u64.wrap (IntKind.u64.wrap v * 2)) (IntKind.u64.wrap (v / 9223372036854775808))
theorem zig_range (v : Int) : 0 ≤ zig v ∧ zig v < 18446744073709551616 := by
  have e : zig v = IntKind.u64.wrap (((BitVec.ofInt 64 (IntKind.u64.wrap (IntKind.u64.wrap v * 2)) ^^^ BitVec.ofInt 64 (IntKind.u64.wrap (v / 9223372036854775808))).toNat : Nat) : Int) := rfl
  rw [e, IntKind.wrap_u64]
  omega
/-- A signed number's bytes. -/
def intL (v : Int) : List UInt8 := uintL (zig v).toNat
set_option maxHeartbeats 1000000 in
set_option maxRecDepth 100000 in
theorem int_calls (v : Int) (w : World) :
    Calls Tryd.prog 74 #[.int .i64 v] w fun e w' => ∃ A c, e = .returned (.slice A (intL v).length c) ∧ w'.ownsRow w.heap.size 5 1 (.slice A (intL v).length c) (intL v).length (u8s (intL v)) ∧ Below w.heap.size w w' := by
  have HB := Below.refl w.heap.size w
  obtain ⟨z1, z2⟩ := zig_range v
  have cu : ∀ w, Calls Tryd.prog 73 #[.int .u64 (zig v)] w fun e w' => ∃ A c, e = .returned (.slice A (intL v).length c) ∧ w'.ownsRow w.heap.size 5 1 (.slice A (intL v).length c) (intL v).length (u8s (intL v)) ∧ Below w.heap.size w w' := fun w => by
    have := uint_calls (zig v).toNat (by omega) w
    rwa [Int.toNat_of_nonneg z1] at this
  unfold zig at cu
  have Cu := Lib.hid cu
  clear cu z1 z2
  go_enter Tryd.func74, Tryd.ntmps74
  go_wp2_with (first
    | (go_at_call 73; (with_reducible refine (Cu.out _).mono ?_); rintro e W1 ⟨A5, c5, rfl, o5, hb⟩; have hgr := grown_of_below hb; replace o5 := own_mono o5 HB.size; replace HB := HB.grown hgr (by have := HB.size; omega) (by simp); clear hb hgr))
  go_ret
  exact ⟨A5, c5, rfl, o5, HB⟩
end Go.Proofs.YtikodgaomhmbmaaDoor
