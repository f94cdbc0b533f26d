/-
  The walks of annalsref2.Pieces and annalsref2.Name.
-/
import Derived.Test.YtikodgaomhmbmaaDoorO2
import Derived.Test.YtikodgaomhmbmaaDoorN10
set_option linter.unusedVariables false
set_option linter.unusedSimpArgs false
namespace Go.Proofs.YtikodgaomhmbmaaDoor
open Go.RowKit

/-- The pieces of s from pos on, as cells. -/
def pieces_ (s : ByteArray) : Nat → Nat → List (Int × Nat × Nat)
  | 0, _ => []
  | f + 1, pos => if pos < s.size then (pieceR s pos, pos, (Utf8.decode s pos).2) :: pieces_ s f (pos + (Utf8.decode s pos).2) else []
def pcells (l : List (Int × Nat × Nat)) : List Value := l.flatMap fun p => [.int .i64 p.1, .int .i64 (p.2.1 : Int), .int .i64 (p.2.2 : Int)]
theorem pcells_append (l m : List (Int × Nat × Nat)) : pcells (l ++ m) = pcells l ++ pcells m := by simp [pcells]
theorem pcells_one {l : List (Int × Nat × Nat)} : ∀ u ∈ pcells l, u.oneCell' = true := by
  intro u hu
  obtain ⟨p, _, hp⟩ := List.mem_flatMap.1 hu
  simp at hp
  rcases hp with rfl | rfl | rfl <;> rfl
theorem pieces_more {s : ByteArray} {f pos : Nat} (hlt : pos < s.size) (hf : s.size ≤ pos + f) : pieces_ s f pos = (pieceR s pos, pos, (Utf8.decode s pos).2) :: pieces_ s (f - 1) (pos + (Utf8.decode s pos).2) := by
  obtain ⟨f, rfl⟩ : ∃ g, f = g + 1 := ⟨f - 1, by omega⟩
  rw [pieces_, if_pos hlt]
  rfl
theorem pieces_end {s : ByteArray} {f pos : Nat} (hlt : ¬ pos < s.size) : pieces_ s f pos = [] := by
  cases f
  · rfl
  · rw [pieces_, if_neg hlt]
theorem info_piece : (Tryd.prog.info? 149).map (fun i => (i.zero, i.size, i.bytes)) = some (some (.agg #[.int .i64 0, .int .i64 0, .int .i64 0]), 3, 24) := by kernel_rfl
/-- A new block is not a row's. -/
theorem pieceCells_size (r : Int) (i n : Nat) : (pieceCells r i n).size = 3 := rfl
theorem pieceCells_0 (r : Int) (i n : Nat) : (pieceCells r i n)[0]? = some (.int .i64 r) := rfl
theorem pieceCells_1 (r : Int) (i n : Nat) : (pieceCells r i n)[1]? = some (.int .i64 (i : Int)) := rfl
theorem pieceCells_2 (r : Int) (i n : Nat) : (pieceCells r i n)[2]? = some (.int .i64 (n : Int)) := rfl
theorem decode_wide4 (s : ByteArray) (pos : Nat) : (Utf8.decode s pos).2 ≤ 4 := by
  simp only [Utf8.decode]
  repeat' split
  all_goals simp
attribute [local go_sem] pieceCells_size pieceCells_0 pieceCells_1 pieceCells_2

set_option maxHeartbeats 2000000 in
set_option maxRecDepth 100000 in
theorem pieces_calls (s : ByteArray) (hs : s.size ≤ 1099511627776) (w : World) :
    Calls Tryd.prog 108 #[.string s] w fun e w' => ∃ A c, e = .returned (.slice A (pieces_ s s.size 0).length c) ∧ w'.ownsRow w.heap.size 149 3 (.slice A (pieces_ s s.size 0).length c) (pieces_ s s.size 0).length (pcells (pieces_ s s.size 0)) ∧ Below w.heap.size w w' := by
  have HB := Below.refl w.heap.size w
  go_enter Tryd.func108, Tryd.ntmps108
  go_wp2
  go_loopg [3, 4] s.size (fun n v3 v4 wr => ∃ (pre : List (Int × Nat × Nat)) (pos : Nat) (A : Option Addr) (c : Nat), v4 = .int .i64 pos ∧ v3 = .slice A pre.length c ∧ Aside (s.size ≤ pos + n ∧ pre.length ≤ pos ∧ pos ≤ s.size + 4 ∧ pieces_ s s.size 0 = pre ++ pieces_ s n pos ∧ wr.ownsRow w.heap.size 149 3 (.slice A pre.length c) pre.length (pcells pre) ∧ Below w.heap.size w wr))
  case atStart => exact ⟨[], 0, none, 0, rfl, rfl, ⟨by omega, by simp, by omega, rfl, own_nil _ _ _ _, HB⟩⟩
  case round =>
    obtain ⟨pre, pos, A, c, rfl, rfl, HA⟩ := hrel
    obtain ⟨hf, hlen, hpos, hp, o1, HB⟩ := HA.out
    have Hp := Lib.hid hp
    clear HA hp
    by_cases hlt : pos < s.size
    · have hmore := Lib.hid (pieces_more hlt hf)
      have hw1 := decode_wide s pos
      have hw4 := decode_wide4 s pos
      go_wp2_with (first
        | (go_at_call 113; (with_reducible refine (piece_calls s pos hlt (by omega) _).mono ?_); rintro e W1 ⟨rfl, hb⟩; have hgr := grown_of_below hb; replace o1 := o1.kept hgr (by cases Value.ownBlock _ <;> simp); replace HB := HB.grown hgr (by have := HB.size; omega) (by simp); clear hb hgr)
        | ((with_reducible refine gate_dst (N := 5) rfl ?_); refine ev_alloc rfl rfl _ piece_zero ?_; intro g1 W2 hg1 hsz hbn; have hgr := grown_of_below hbn; have no1g1 := own_new o1 hsz; replace hg1 : Blk W2 g1 _ (#[.int .i64 0, .int .i64 0, .int .i64 0]) := hg1; have zg1 : w.heap.size ≤ g1 := (by have := HB.size; omega); replace o1 := o1.kept hgr (by cases Value.ownBlock _ <;> simp); replace HB := HB.grown hgr (by have := HB.size; omega) (by simp); have hcg1 := hg1.cell; have hfg1 := hg1.frozen; clear hsz hbn hgr)
        | ((with_reducible refine gate_store (p := 5) rfl ?_); refine ev_store_row (cs := pieceCells (pieceR s pos) pos (Utf8.decode s pos).2) rfl rfl rfl hg1 rfl rfl piece_size rfl (pieceCells_one _ _ _) ?_; intro W3 hgn hgr; replace o1 := o1.kept hgr (.inr no1g1); replace HB := HB.grown hgr (by have := HB.size; omega) (by intro k e; injection e with e; omega); replace hg1 := hgn; replace hcg1 := hg1.cell; replace hfg1 := hg1.frozen; clear hgn hgr)
        | ((with_reducible refine gate_dst (N := 14) rfl ?_); refine wpList_load_row rfl _ _ rfl g1 rfl _ _ (0, 0) _ hg1 Tryd.underlying149 rfl piece_size ?_)
        | ((with_reducible refine gate_dst (N := 15) rfl ?_); refine ev_lit rfl rfl (pieceCells (pieceR s pos) pos (Utf8.decode s pos).2) 149 1 (by first | (go_simp; done) | (go_simp; rfl)) ?_; intro g2 W4 hg2 hsz hbn; have hgr := grown_of_below hbn; have ng1g2 : g1 ≠ g2 := (by have := hg1.lt; omega); have zg2 : w.heap.size ≤ g2 := (by have := HB.size; omega); replace hg1 := hg1.grown hgr (by simp); replace o1 := o1.kept hgr (by cases Value.ownBlock _ <;> simp); replace HB := HB.grown hgr (by have := HB.size; omega) (by simp); have hcg2 := hg2.cell; have hfg2 := hg2.frozen; replace hcg1 := hg1.cell; replace hfg1 := hg1.frozen; clear hsz hbn hgr)
        | ((with_reducible refine gate_dst (N := 16) rfl ?_); refine ev_append rfl rfl Tryd.underlying146 info_piece rfl (by omega) rfl o1 rfl (hg2.reads (size := 3) (n := 1) rfl) (pcells_one (l := [(pieceR s pos, pos, (Utf8.decode s pos).2)])) (by omega) (by omega) (by have := HB.size; omega) ?_; intro A2 c2 W5 on hgr hat; replace hg1 := hg1.grown hgr (fun e => no1g1 e.symm); replace HB := HB.grown hgr (by have := HB.size; omega) (own_base o1); replace o1 := on; replace hcg1 := hg1.cell; replace hfg1 := hg1.frozen; clear on hgr hat))
      go_roundg (gk - 1)
      case measure => omega
      case rel => exact ⟨pre ++ [(pieceR s pos, pos, (Utf8.decode s pos).2)], pos + (Utf8.decode s pos).2, A2, c2, by go_num, by simp, ⟨by omega, by simp; omega, by omega, by rw [Hp.out, hmore.out]; simp, by rw [pcells_append]; simpa [pcells, pieceCells] using o1, HB⟩⟩
    · have he := pieces_end (f := gk) hlt
      have e : pieces_ s s.size 0 = pre := by rw [Hp.out, he, List.append_nil]
      have He := Lib.hid e
      clear e he
      go_wp2
      go_ret
      exact ⟨A, c, by rw [He.out]; rfl, by rw [He.out]; exact o1, HB⟩
end Go.Proofs.YtikodgaomhmbmaaDoor
