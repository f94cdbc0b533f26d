/-
  The walk of record.value, for all bytes.
-/
import Derived.Test.YtjhiohjpkdjkoaaDoorY2
set_option linter.unusedVariables false
set_option linter.unusedSimpArgs false
namespace Go.Proofs.YtjhiohjpkdjkoaaDoor
open Go.RowKit
attribute [local go_sem] Rec.size_ Rec.g0 Rec.g1 Rec.g2 Rec.g3 Rec.g4 Rec.g5 Rec.g6 Rec.g7 Rec.g8 Rec.g9 Rec.g10 Rec.g11 Rec.fold

theorem grown_then {w w1 w2 : World} {g : Nat} (h : w.grownBy w1 none) (k : w1.grownBy w2 (some g)) : w.grownBy w2 (some g) :=
  ⟨k.os.trans h.os, k.tape.trans h.tape, k.output.trans h.output, Nat.le_trans h.size k.size, fun i hi hne => (k.block i (Nat.lt_of_lt_of_le hi h.size) hne).trans (h.block i hi (by simp))⟩
theorem put_cells (r : Rec) (A : Option Addr) (c t : Nat) (x : Int) (h1 : 1 ≤ t) (h9 : t ≤ 9) : (r.cells A c).setIfInBounds t (.int .i64 x) = (r.put t x).cells A c := by
  rcases tag_cases h1 (by omega) with rfl | rfl | rfl | rfl | rfl | rfl | rfl | rfl | rfl | rfl | rfl
  case inr.inr.inr.inr.inr.inr.inr.inr.inr.inl => omega
  case inr.inr.inr.inr.inr.inr.inr.inr.inr.inr => omega
  all_goals rfl
theorem put_data (r : Rec) (t : Nat) (x : Int) : (r.put t x).Data = r.Data := by unfold Rec.put; split <;> rfl

/-- What record.value answers. -/
def ValSaid (P : Program) (r' : Rec) (p k : Nat) (er : Int) (L : Option Addr) (len cl t g base : Nat) (w : World) : Prop :=
  Calls P 96 #[.pointer (some ⟨g, 0, none⟩), .int .i64 t, .slice L len cl, .int .i64 p] w fun e w' => ∃ A' c', e = .returned (.tuple #[.int .i64 (readAt p k er), .int .i64 er]) ∧ Blk w' g 35 (r'.cells A' c')
    ∧ w'.ownsRow base 5 1 (.slice A' r'.Data.length c') r'.Data.length (u8s r'.Data) ∧ w.grownBy w' (some g)

set_option maxHeartbeats 1000000 in
set_option maxRecDepth 100000 in
theorem value7_calls (r : Rec) (A : Option Addr) (c g : Nat) (l : List UInt8) (L : Option Addr) (cl p base : Nat) (hp : p ≤ l.length) (hl : l.length ≤ 140737488351232) 
    (w : World) (hd : RB w L l) (hg : Blk w g 35 (r.cells A c))
        (hb0 : base ≤ w.heap.size) (ho : w.ownsRow base 5 1 (.slice A r.Data.length c) r.Data.length (u8s r.Data)) :
    ValSaid Tryd.prog (valR r 7 (l.drop p)).1 p (valR r 7 (l.drop p)).2.1 (valR r 7 (l.drop p)).2.2 L l.length cl 7 g base w := by
  have cu := readInt_calls l L cl p hp hl w hd
  have hv : valR r 7 (l.drop p) = (r.put 7 (if (readL 0 0 (l.drop p)).2.2 = 0 then zag (readL 0 0 (l.drop p)).1 else 0), (readL 0 0 (l.drop p)).2.1, (readL 0 0 (l.drop p)).2.2) := if_pos rfl
  rw [hv]
  simp only
  have hr : readEnd p (readL 0 0 (l.drop p)) = readAt p (readL 0 0 (l.drop p)).2.1 (readL 0 0 (l.drop p)).2.2 := rfl
  rw [hr] at cu
  unfold ValSaid
  generalize (if (readL 0 0 (l.drop p)).2.2 = 0 then zag (readL 0 0 (l.drop p)).1 else 0) = z at cu
  generalize readAt p (readL 0 0 (l.drop p)).2.1 (readL 0 0 (l.drop p)).2.2 = q at cu
  generalize (readL 0 0 (l.drop p)).2.2 = er at cu
  have Cu := Lib.hid cu
  have hne := own_blk_ne ho hg (by decide)
  clear cu hv hr hd
  go_enter Tryd.func96, Tryd.ntmps96
  go_wp2_with (first
    | (go_at_call 112; (with_reducible refine Cu.out.mono ?_); rintro e w1 ⟨rfl, rfl⟩)
    | ((with_reducible refine gate_store (p := 35) rfl ?_); refine ev_store_cell rfl rfl rfl hg rfl (i := 7) (v := .int .i64 z) rfl rfl (by kernel_rfl) (show (7 : Nat) < 12 by decide) ?_; intro W1 hgn hgr; replace hgn : Blk W1 g _ ((r.put 7 z).cells A c) := hgn; clear hg))
  go_ret2
  exact ⟨A, c, rfl, hgn, ho.kept hgr (.inr hne), hgr⟩

set_option maxHeartbeats 1000000 in
set_option maxRecDepth 100000 in
theorem value10_calls (r : Rec) (A : Option Addr) (c g : Nat) (l : List UInt8) (L : Option Addr) (cl p base : Nat) (hp : p ≤ l.length) (hcl : l.length ≤ cl) (hl : l.length ≤ 140737488351232)
    (w : World) (hd : RB w L l) (hg : Blk w g 35 (r.cells A c))
        (hb0 : base ≤ w.heap.size) (ho : w.ownsRow base 5 1 (.slice A r.Data.length c) r.Data.length (u8s r.Data)) :
    ValSaid Tryd.prog (valR r 10 (l.drop p)).1 p (valR r 10 (l.drop p)).2.1 (valR r 10 (l.drop p)).2.2 L l.length cl 10 g base w := by
  have cu := readBytes_calls l L cl p 192 hp hcl hl (by omega) w hd
  rw [show ((192 : Nat) : Int) = 192 from rfl] at cu
  have hv : valR r 10 (l.drop p) = ({ r with Name := ⟨(readB 192 (l.drop p)).1.toArray⟩ }, (readB 192 (l.drop p)).2.1, (readB 192 (l.drop p)).2.2) := by unfold valR; rw [if_neg (by omega), if_pos rfl]
  rw [hv]
  simp only
  unfold ValSaid
  generalize readAt p (readB 192 (l.drop p)).2.1 (readB 192 (l.drop p)).2.2 = q at cu
  generalize (readB 192 (l.drop p)).2.2 = er at cu
  generalize (readB 192 (l.drop p)).1 = x at cu
  have Cu := Lib.hid cu
  have hne := own_blk_ne ho hg (by decide)
  clear cu hv hd
  go_enter Tryd.func96, Tryd.ntmps96
  go_wp2_with (first
    | (go_at_call 113; (with_reducible refine Cu.out.mono ?_); rintro e w1 ⟨A5, c5, rfl, oA, hb⟩; have hg1 := hg.next hb; have ho1 := own_next ho hb; have cv := conv_bytes (own_rb oA) c5; clear hg)
    | ((with_reducible refine gate_store (p := 51) rfl ?_); refine ev_store_cell rfl rfl rfl hg1 rfl (i := 10) (v := .string ⟨x.toArray⟩) rfl rfl (by kernel_rfl) (show (10 : Nat) < 12 by decide) ?_; intro W1 hgn hgr; replace hgn : Blk W1 g _ (({ r with Name := ⟨x.toArray⟩ } : Rec).cells A c) := hgn; clear hg1))
  go_ret2
  exact ⟨A, c, rfl, hgn, ho1.kept hgr (.inr hne), grown_then (grown_of_below hb) hgr⟩

set_option maxHeartbeats 1000000 in
set_option maxRecDepth 100000 in
theorem value11_calls (r : Rec) (A : Option Addr) (c g : Nat) (l : List UInt8) (L : Option Addr) (cl p base : Nat) (hp : p ≤ l.length) (hcl : l.length ≤ cl) (hl : l.length ≤ 140737488351232)
    (w : World) (hd : RB w L l) (hg : Blk w g 35 (r.cells A c))
        (hb0 : base ≤ w.heap.size) (ho : w.ownsRow base 5 1 (.slice A r.Data.length c) r.Data.length (u8s r.Data)) :
    ValSaid Tryd.prog (valR r 11 (l.drop p)).1 p (valR r 11 (l.drop p)).2.1 (valR r 11 (l.drop p)).2.2 L l.length cl 11 g base w := by
  have cu := readBytes_calls l L cl p 16384 hp hcl hl (by omega) w hd
  rw [show ((16384 : Nat) : Int) = 16384 from rfl] at cu
  have hv : valR r 11 (l.drop p) = ({ r with Data := (readB 16384 (l.drop p)).1 }, (readB 16384 (l.drop p)).2.1, (readB 16384 (l.drop p)).2.2) := by unfold valR; rw [if_neg (by omega), if_neg (by omega), if_pos rfl]
  rw [hv]
  simp only
  unfold ValSaid
  generalize readAt p (readB 16384 (l.drop p)).2.1 (readB 16384 (l.drop p)).2.2 = q at cu
  generalize (readB 16384 (l.drop p)).2.2 = er at cu
  generalize (readB 16384 (l.drop p)).1 = x at cu
  have Cu := Lib.hid cu
  clear cu hv hd
  go_enter Tryd.func96, Tryd.ntmps96
  go_wp2_with (first
    | (go_at_call 113; (with_reducible refine Cu.out.mono ?_); rintro e w1 ⟨A5, c5, rfl, oA, hb⟩; have hg1 := hg.next hb; have hne := own_blk_ne oA hg1 (by decide); clear hg)
    | ((with_reducible refine gate_store (p := 66) rfl ?_); refine ev_store_cell rfl rfl rfl hg1 rfl (i := 11) (v := .slice A5 x.length c5) rfl rfl (by kernel_rfl) (show (11 : Nat) < 12 by decide) ?_; intro W1 hgn hgr; replace hgn : Blk W1 g _ (({ r with Data := x } : Rec).cells A5 c5) := hgn; clear hg1))
  go_ret2
  exact ⟨A5, c5, rfl, hgn, own_mono (oA.kept hgr (.inr hne)) hb0, grown_then (grown_of_below hb) hgr⟩

set_option maxHeartbeats 1000000 in
set_option maxRecDepth 100000 in
theorem valueN_calls (r : Rec) (A : Option Addr) (c g : Nat) (l : List UInt8) (L : Option Addr) (cl p base t : Nat) (h1t : 1 ≤ t) (h9t : t ≤ 9) (h7 : t ≠ 7) (hp : p ≤ l.length) (hl : l.length ≤ 140737488351232)
    (w : World) (hd : RB w L l) (hg : Blk w g 35 (r.cells A c))
        (hb0 : base ≤ w.heap.size) (ho : w.ownsRow base 5 1 (.slice A r.Data.length c) r.Data.length (u8s r.Data)) :
    ValSaid Tryd.prog (valR r t (l.drop p)).1 p (valR r t (l.drop p)).2.1 (valR r t (l.drop p)).2.2 L l.length cl t g base w := by
  have cu := readUint_calls l L cl p hp hl w hd
  have hv : valR r t (l.drop p) = _ := rfl
  conv at hv => rhs; unfold valR
  rw [if_neg h7, if_neg (by omega), if_neg (by omega)] at hv
  have hu := readL_lt (l.drop p) 0 0 (by omega) (by simp)
  have hr : readEnd p (readL 0 0 (l.drop p)) = readAt p (readL 0 0 (l.drop p)).2.1 (readL 0 0 (l.drop p)).2.2 := rfl
  rw [hr] at cu
  generalize readL 0 0 (l.drop p) = x at cu hv hu
  obtain ⟨u, k, er⟩ := x
  simp only at cu hv hu
  have t7 : ((t : Int) == 7) = false := int_beq_false (by omega)
  have t10 : ((t : Int) == 10) = false := int_beq_false (by omega)
  have t11 : ((t : Int) == 11) = false := int_beq_false (by omega)
  have hne := own_blk_ne ho hg (by decide)
  by_cases h0 : er = 0
  · subst h0
    have t1 : ((0 : Int) != 0) = false := rfl
    rw [if_neg (by simp)] at hv
    have q : readAt p k 0 = ((p + k : Nat) : Int) := rfl
    rw [q] at cu
    by_cases hm : 9223372036854775807 < u
    · rw [if_pos hm] at hv
      rw [hv]
      simp only
      have t2 : decide ((9223372036854775807 : Int) < (u : Int)) = true := by rw [decide_eq_true_eq]; omega
      have t2' : decide (9223372036854775807 < u) = true := by rw [decide_eq_true_eq]; exact hm
      unfold ValSaid
      have Cu := Lib.hid cu
      clear cu hv hd hr q hm hu
      go_enter Tryd.func96, Tryd.ntmps96
      go_wp2_with (first
        | (go_at_call 95; (with_reducible refine Cu.out.mono ?_); rintro e w1 ⟨rfl, rfl⟩))
      go_ret2
      exact ⟨A, c, rfl, hg, ho, World.grownBy.refl _ _⟩
    · rw [if_neg hm] at hv
      rw [hv]
      simp only
      have t2 : decide ((9223372036854775807 : Int) < (u : Int)) = false := by rw [decide_eq_false_iff_not]; omega
      have t2' : decide (9223372036854775807 < u) = false := by rw [decide_eq_false_iff_not]; exact hm
      have tw := wrap64_nat u (Nat.le_of_not_lt hm)
      have tw2 := wrap_i64_nat u (Nat.le_of_not_lt hm)
      have pc := put_cells r A c t u h1t h9t
      have pd := put_data r t u
      unfold ValSaid
      rw [pd, show readAt p k 0 = ((p + k : Nat) : Int) from rfl]
      generalize r.put t (u : Int) = r' at pc pd
      have Cu := Lib.hid cu
      have Pc := Lib.hid pc
      clear cu hv hd hr q hm hu pc
      go_enter Tryd.func96, Tryd.ntmps96
      go_wp2_with (first
        | (go_at_call 95; (with_reducible refine Cu.out.mono ?_); rintro e w1 ⟨rfl, rfl⟩)
        | (go_at_call 90; (with_reducible refine (number_calls g t h1t h9t _).mono ?_); rintro e w1 ⟨rfl, rfl⟩)
        | ((with_reducible refine gate_store (p := 86) rfl ?_); refine ev_store_cell rfl rfl rfl hg rfl (i := t) (v := .int .i64 u) rfl rfl (by kernel_rfl) (show t < 12 by omega) ?_; intro W1 hgn hgr; rw [Pc.out] at hgn; clear hg))
      go_ret2
      exact ⟨A, c, rfl, hgn, ho.kept hgr (.inr hne), hgr⟩
  · rw [if_pos h0] at hv
    rw [hv]
    simp only
    have t1 := int_bne_true h0
    have q : readAt p k er = 0 := if_neg h0
    have q2 : readAt p 0 er = 0 := if_neg h0
    rw [q] at cu
    unfold ValSaid
    rw [q2]
    have Cu := Lib.hid cu
    clear cu hv hd hr q q2 h0 hu
    go_enter Tryd.func96, Tryd.ntmps96
    go_wp2_with (first
      | (go_at_call 95; (with_reducible refine Cu.out.mono ?_); rintro e w1 ⟨rfl, rfl⟩))
    go_ret2
    exact ⟨A, c, rfl, hg, ho, World.grownBy.refl _ _⟩

theorem value_calls (r : Rec) (A : Option Addr) (c g : Nat) (l : List UInt8) (L : Option Addr) (cl p base t : Nat) (h1t : 1 ≤ t) (h11 : t ≤ 11) (hp : p ≤ l.length) (hcl : l.length ≤ cl) (hl : l.length ≤ 140737488351232)
    (w : World) (hd : RB w L l) (hg : Blk w g 35 (r.cells A c))
        (hb0 : base ≤ w.heap.size) (ho : w.ownsRow base 5 1 (.slice A r.Data.length c) r.Data.length (u8s r.Data)) :
    ValSaid Tryd.prog (valR r t (l.drop p)).1 p (valR r t (l.drop p)).2.1 (valR r t (l.drop p)).2.2 L l.length cl t g base w := by
  by_cases h7 : t = 7
  · subst h7
    exact value7_calls r A c g l L cl p base hp hl w hd hg hb0 ho
  by_cases h10 : t = 10
  · subst h10
    exact value10_calls r A c g l L cl p base hp hcl hl w hd hg hb0 ho
  by_cases h11' : t = 11
  · subst h11'
    exact value11_calls r A c g l L cl p base hp hcl hl w hd hg hb0 ho
  · exact valueN_calls r A c g l L cl p base t h1t (by omega) h7 hp hl w hd hg hb0 ho
end Go.Proofs.YtjhiohjpkdjkoaaDoor
