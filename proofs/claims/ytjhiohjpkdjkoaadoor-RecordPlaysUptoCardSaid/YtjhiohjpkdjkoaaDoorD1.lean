/-
  The walks of lift.fill, stay, plain, empty.
-/
import Derived.Test.YtjhiohjpkdjkoaaDoorCL
import Derived.Laws.ResultCell
import Derived.Laws.IdiomStrings
import Derived.OrdersHeld
import Derived.RegionTactic
set_option linter.unusedVariables false
set_option linter.unusedSimpArgs false
namespace Go.Proofs.YtjhiohjpkdjkoaaDoor
open Go.RowKit
attribute [local go_sem] Rec.size_ Rec.g0 Rec.g1 Rec.g2 Rec.g3 Rec.g4 Rec.g5 Rec.g6 Rec.g7 Rec.g8 Rec.g9 Rec.g10 Rec.g11 Rec.fold

theorem results_row_tmp {P : Program} {fn : Func} {p u : Tmp} {ty : TypeId} (h : fn.results = #[.cell p ty, .tmp u]) (tmps : Array Value) (w : World) (g : Nat) (t : TypeId) (cs : Array Value) (fr : Nat × Nat) (d : TypeDesc)
    (hp : tmps.getD p undef = .pointer (some ⟨g, 0, none⟩)) (hg : w.heap[g]? = some (.cells cs t fr))
    (hu : P.underlying ty = some d) (hd : (match d with | .struct _ | .array _ _ => true | _ => false) = true) (hi : (P.info? ty).map (·.size) = some cs.size) :
    (results fn tmps).run P w = .ok (.tuple #[.agg cs, tmps.getD u undef]) w := by
  rw [results_cell_tmp h tmps P w, hp]
  simp [asAddr, Result.andThen, run_loadVar_row w g t ty cs fr d hg hu hd hi]
theorem ret_row {P : Program} {fn : Func} {R : Ending → World → Prop} {a : Act} {w : World} {p u : Tmp} {ty : TypeId} {g : Nat} {t : TypeId} {cs : Array Value} {d : TypeDesc} (h : fn.results = #[.cell p ty, .tmp u])
    (hg : Blk w g t cs) (hp : a.tmps.getD p undef = .pointer (some ⟨g, 0, none⟩))
    (hu : P.underlying ty = some d) (hd : (match d with | .struct _ | .array _ _ => true | _ => false) = true) (hi : (P.info? ty).map (·.size) = some cs.size) (hdf : a.defers = [])
    (hR : R (.returned (.tuple #[.agg cs, a.tmps.getD u undef])) w) : bodyPost P fn R .ret a w :=
  bodyPost_ret (results_row_tmp h _ _ g _ _ (0, 0) _ hp hg hu hd hi) hdf hR

/-- Bytes that lie in a block of bytes. -/
structure RU (w : World) (A : Option Addr) (l : List UInt8) : Prop where
  rb : RB w A l
  ty : l ≠ [] → ∃ ad cs fr, A = some ad ∧ w.heap[ad.block]? = some (.cells cs 5 fr)
section
variable {w w' : World} {A : Option Addr} {l : List UInt8}
theorem RU.kept {row : Option Nat} (h : RU w A l) (hgr : w.grownBy w' row) (hne : l ≠ [] → ∀ ad, A = some ad → some ad.block ≠ row) : RU w' A l := by
  refine ⟨⟨h.rb.1, fun hn => ?_⟩, fun hl => ?_⟩
  · have hl : l ≠ [] := by intro e; subst e; simp at hn
    obtain ⟨ad, e, hb, hc⟩ := h.rb.2 hn
    have hk := hgr.block ad.block hb (hne hl ad e)
    refine ⟨ad, e, Nat.lt_of_lt_of_le hb hgr.size, fun j u hu => ?_⟩
    rw [← hc j u hu]
    have e2 : (ad.add j).block = ad.block := block_of_add ad j
    exact World.cell?_of_block (by rw [e2]; exact hk)
  · obtain ⟨ad, cs, fr, e, hh⟩ := h.ty hl
    have hb : ad.block < w.heap.size := (Array.getElem?_eq_some_iff.1 hh).1
    exact ⟨ad, cs, fr, e, (hgr.block ad.block hb (hne hl ad e)).trans hh⟩
theorem RU.next (h : RU w A l) (hb : Below w.heap.size w w') : RU w' A l := h.kept (grown_of_below hb) (by simp)
theorem RU.nil : RU w A [] := ⟨RB.nil, fun h => absurd rfl h⟩
theorem RU.ne_blk {g : Nat} {t : TypeId} {cs : Array Value} (h : RU w A l) (hg : Blk w g t cs) (hne : 5 ≠ t) : l ≠ [] → ∀ ad, A = some ad → some ad.block ≠ some g := by
  intro hl ad hA e
  obtain ⟨ad', cs', fr, e', hh⟩ := h.ty hl
  rw [hA] at e'
  injection e' with e'
  subst e'
  injection e with e
  rw [e] at hh
  unfold Blk at hg
  rw [hg] at hh
  injection hh with hh
  injection hh with _ h2 _
  exact hne h2.symm
theorem RU.ne_own {base size n : Nat} {e : TypeId} {v : Value} {xs : List Value} (h : RU w A l) (ho : w.ownsRow base e size v n xs) (hne : 5 ≠ e) : l ≠ [] → ∀ ad, A = some ad → some ad.block ≠ v.ownBlock := by
  intro hl ad hA he
  obtain ⟨ad', cs', fr, e', hh⟩ := h.ty hl
  rw [hA] at e'
  injection e' with e'
  subst e'
  rcases ho.2 with ⟨rfl, _⟩ | ⟨g', cap, cur, rfl, _, hg, _⟩
  · simp [Value.ownBlock] at he
  · have : ad.block = g' := by simpa [Value.ownBlock] using he
    rw [this, hg] at hh
    injection hh with hh
    injection hh with _ h2 _
    exact hne h2.symm
theorem RU.of_own {base c : Nat} (h : w.ownsRow base 5 1 (.slice A l.length c) l.length (u8s l)) : RU w A l := by
  refine ⟨own_rb h, fun hl => ?_⟩
  rcases h.2 with ⟨_, h0⟩ | ⟨g, cap, cur, hv, _, hg, _⟩
  · exact absurd (List.eq_nil_of_length_eq_zero h0) hl
  · injection hv with hA
    subst hA
    exact ⟨_, cur, (0, 0), rfl, hg⟩
end

section
variable {P : Program} {ops : Array Oper} {rest : List Oper} {o : Oper} {a : Act} {Q : Exit → Act → World → Prop} {W : World}
theorem ev_bytes (hgd : o.guard = none) {src dst : TypeId} {x : Operand} (ho : o.op = .convert src dst x) (hs : P.underlying src = some .string) (hd : P.underlying dst = some (.slice 5)) (he : P.underlying 5 = some (.int .u8)) {s : ByteArray} (hx : a.eval x = .string s)
    (h : ∀ A c w1, RU w1 A s.data.toList → Below W.heap.size W w1 → wpList P ops Q rest (a.put o.dst (.slice A s.data.toList.length c)) w1) : wpList P ops Q (o :: rest) a W := by
  refine ev_run hgd (w1 := W.drew.alloc (.cells (bytesRow s (grownCap W s.size 0 5)) 5 ((bytesRow s (grownCap W s.size 0 5)).size, (bytesRow s (grownCap W s.size 0 5)).size + 1))) (v := .slice (some ⟨W.heap.size, 0, none⟩) s.size (grownCap W s.size 0 5)) ?_
    (h (some ⟨W.heap.size, 0, none⟩) (grownCap W s.size 0 5) _ ?_ (below_alloc (Below.refl _ _).drew _))
  · have := run_bytes_of_string (P := P) W src dst 5 s hs hd he
    simp [execOp, ho, hx, this]
  · have hnew : (W.drew.alloc (.cells (bytesRow s (grownCap W s.size 0 5)) 5 ((bytesRow s (grownCap W s.size 0 5)).size, (bytesRow s (grownCap W s.size 0 5)).size + 1))).heap[W.heap.size]? = some (.cells (bytesRow s (grownCap W s.size 0 5)) 5 ((bytesRow s (grownCap W s.size 0 5)).size, (bytesRow s (grownCap W s.size 0 5)).size + 1)) := heap_alloc_new W.drew _
    refine ⟨⟨by simp [u8s], fun _ => ⟨_, rfl, ?_, fun j u hu => ?_⟩⟩, fun _ => ⟨_, _, _, rfl, hnew⟩⟩
    · exact (Array.getElem?_eq_some_iff.1 hnew).1
    · have hj : j < s.data.size := by
        have := (List.getElem?_eq_some_iff.1 hu).1
        simpa [u8s] using this
      have e1 : (⟨W.heap.size, 0, none⟩ : Addr).add j = ⟨W.heap.size, j, none⟩ := by unfold Addr.add; split <;> simp_all
      rw [e1, cell_of_row _ _ _ _ _ _ hnew, bytesRow_at s _ j hj, ← hu, u8s_get (by simpa using hj)]
      simp
end

/-- What a step's function answers. -/
def HopSaid (P : Program) (f : Nat) (r' : Rec) (b : Bool) (r : Rec) (A : Option Addr) (c : Nat) (w : World) : Prop :=
  Calls P f #[.agg (r.cells A c)] w fun e w' => ∃ A' c', e = .returned (.tuple #[.agg (r'.cells A' c'), .bool b]) ∧ RU w' A' r'.Data ∧ Below w.heap.size w w'

set_option maxRecDepth 100000 in
theorem stay_calls (r : Rec) (A : Option Addr) (c : Nat) (w : World) (hd : RU w A r.Data) : HopSaid Tryd.prog 109 r true r A c w := by
  unfold HopSaid
  have HB := Below.refl w.heap.size w
  go_enter Tryd.func109, Tryd.ntmps109
  go_wp2_with (first
    | ((with_reducible refine gate_dst (N := 1) rfl ?_); refine ev_box rfl rfl (r.cells A c) rfl ?_; intro g1 W1 hg1 hsz hbn; have hgr := grown_of_below hbn; have zg1 : w.heap.size ≤ g1 := (by have := HB.size; omega); replace HB := HB.grown hgr (by have := HB.size; omega) (by simp); have hcg1 := hg1.cell; have hfg1 := hg1.frozen; clear hsz hbn hgr)
    | ((with_reducible refine gate_dst (N := 2) rfl ?_); refine ev_alloc rfl rfl _ rec_zero ?_; intro g2 W2 hg2 hsz hbn; have hgr := grown_of_below hbn; have ng1g2 : g1 ≠ g2 := (by have := hg1.lt; omega); replace hg2 : Blk W2 g2 _ (Rec.zero.cells none 0) := hg2; have zg2 : w.heap.size ≤ g2 := (by have := HB.size; omega); replace hg1 := hg1.grown hgr (by simp); replace HB := HB.grown hgr (by have := HB.size; omega) (by simp); have hcg2 := hg2.cell; have hfg2 := hg2.frozen; replace hcg1 := hg1.cell; replace hfg1 := hg1.frozen; clear hsz hbn hgr)
    | ((with_reducible refine gate_dst (N := 4) rfl ?_); refine wpList_load_row rfl _ _ rfl g1 rfl _ _ (0, 0) _ hg1 Tryd.underlying35 rfl rec_size ?_)
    | ((with_reducible refine gate_store (p := 2) rfl ?_); refine ev_store_row (cs := r.cells A c) rfl rfl rfl hg2 rfl rfl rec_size rfl (cells_one _ _ _) ?_; intro W3 hgn hgr; replace hg1 := hg1.grown hgr (by intro e; injection e with e; omega); replace HB := HB.grown hgr (by have := HB.size; omega) (by intro k e; injection e with e; omega); replace hg2 := hgn; replace hcg1 := hg1.cell; replace hfg1 := hg1.frozen; replace hcg2 := hg2.cell; replace hfg2 := hg2.frozen; clear hgn hgr))
  refine ret_row rfl hg2 rfl Tryd.underlying35 rfl rec_size rfl ?_
  exact ⟨A, c, rfl, hd.next HB, HB⟩

set_option maxRecDepth 100000 in
theorem fill_calls (r : Rec) (A : Option Addr) (c : Nat) (w : World) (hd : RU w A r.Data) : HopSaid Tryd.prog 125 (fillR r) true r A c w := by
  unfold HopSaid
  have HB := Below.refl w.heap.size w
  by_cases k1 : r.Kind = 1
  · have e : fillR r = { r with Name := ⟨r.Data.toArray⟩, Data := [], Count := r.Step, Step := 0 } := if_pos k1
    rw [e]
    clear e
    have t1 := int_beq_true k1
    clear k1
    go_enter Tryd.func125, Tryd.ntmps125
    go_wp2_with (first
      | ((with_reducible refine gate_dst (N := 1) rfl ?_); refine ev_box rfl rfl (r.cells A c) rfl ?_; intro g1 W1 hg1 hsz hbn; have hgr := grown_of_below hbn; have zg1 : w.heap.size ≤ g1 := (by have := HB.size; omega); replace HB := HB.grown hgr (by have := HB.size; omega) (by simp); have hcg1 := hg1.cell; have hfg1 := hg1.frozen; clear hsz hbn hgr)
      | ((with_reducible refine gate_dst (N := 2) rfl ?_); refine ev_alloc rfl rfl _ rec_zero ?_; intro g2 W2 hg2 hsz hbn; have hgr := grown_of_below hbn; have ng1g2 : g1 ≠ g2 := (by have := hg1.lt; omega); replace hg2 : Blk W2 g2 _ (Rec.zero.cells none 0) := hg2; have zg2 : w.heap.size ≤ g2 := (by have := HB.size; omega); replace hg1 := hg1.grown hgr (by simp); replace HB := HB.grown hgr (by have := HB.size; omega) (by simp); have hcg2 := hg2.cell; have hfg2 := hg2.frozen; replace hcg1 := hg1.cell; replace hfg1 := hg1.frozen; clear hsz hbn hgr; have cv := conv_bytes (hd.next HB).rb c)
      | ((with_reducible refine gate_store (p := 11) rfl ?_); refine ev_store_cell rfl rfl rfl hg1 rfl (i := 10) (v := .string ⟨r.Data.toArray⟩) rfl rfl (by kernel_rfl) (show (10 : Nat) < 12 by decide) ?_; intro W3 hgn hgr; replace hgn : Blk W3 g1 _ (({ r with Name := ⟨r.Data.toArray⟩ } : Rec).cells A c) := hgn; replace hg2 := hg2.grown hgr (by intro e; injection e with e; omega); replace HB := HB.grown hgr (by have := HB.size; omega) (by intro k e; injection e with e; omega); replace hg1 := hgn; replace hcg1 := hg1.cell; replace hfg1 := hg1.frozen; replace hcg2 := hg2.cell; replace hfg2 := hg2.frozen; clear hgn hgr)
      | ((with_reducible refine gate_store (p := 12) rfl ?_); refine ev_store_cell rfl rfl rfl hg1 rfl (i := 11) (v := .slice none 0 0) rfl rfl (by kernel_rfl) (show (11 : Nat) < 12 by decide) ?_; intro W4 hgn hgr; replace hgn : Blk W4 g1 _ (({ r with Name := ⟨r.Data.toArray⟩, Data := [] } : Rec).cells none 0) := hgn; replace hg2 := hg2.grown hgr (by intro e; injection e with e; omega); replace HB := HB.grown hgr (by have := HB.size; omega) (by intro k e; injection e with e; omega); replace hg1 := hgn; replace hcg1 := hg1.cell; replace hfg1 := hg1.frozen; replace hcg2 := hg2.cell; replace hfg2 := hg2.frozen; clear hgn hgr)
      | ((with_reducible refine gate_store (p := 15) rfl ?_); refine ev_store_cell rfl rfl rfl hg1 rfl (i := 8) (v := .int .i64 r.Step) rfl rfl (by kernel_rfl) (show (8 : Nat) < 12 by decide) ?_; intro W5 hgn hgr; replace hgn : Blk W5 g1 _ (({ r with Name := ⟨r.Data.toArray⟩, Data := [], Count := r.Step } : Rec).cells none 0) := hgn; replace hg2 := hg2.grown hgr (by intro e; injection e with e; omega); replace HB := HB.grown hgr (by have := HB.size; omega) (by intro k e; injection e with e; omega); replace hg1 := hgn; replace hcg1 := hg1.cell; replace hfg1 := hg1.frozen; replace hcg2 := hg2.cell; replace hfg2 := hg2.frozen; clear hgn hgr)
      | ((with_reducible refine gate_store (p := 16) rfl ?_); refine ev_store_cell rfl rfl rfl hg1 rfl (i := 3) (v := .int .i64 0) rfl rfl (by kernel_rfl) (show (3 : Nat) < 12 by decide) ?_; intro W6 hgn hgr; replace hgn : Blk W6 g1 _ (({ r with Name := ⟨r.Data.toArray⟩, Data := [], Count := r.Step, Step := 0 } : Rec).cells none 0) := hgn; replace hg2 := hg2.grown hgr (by intro e; injection e with e; omega); replace HB := HB.grown hgr (by have := HB.size; omega) (by intro k e; injection e with e; omega); replace hg1 := hgn; replace hcg1 := hg1.cell; replace hfg1 := hg1.frozen; replace hcg2 := hg2.cell; replace hfg2 := hg2.frozen; clear hgn hgr)
      | ((with_reducible refine gate_dst (N := 24) rfl ?_); refine wpList_load_row rfl _ _ rfl g1 rfl _ _ (0, 0) _ hg1 Tryd.underlying35 rfl rec_size ?_)
      | ((with_reducible refine gate_store (p := 2) rfl ?_); refine ev_store_row (cs := ({ r with Name := ⟨r.Data.toArray⟩, Data := [], Count := r.Step, Step := 0 } : Rec).cells none 0) rfl rfl rfl hg2 rfl rfl rec_size rfl (cells_one _ _ _) ?_; intro W7 hgn hgr; replace hg1 := hg1.grown hgr (by intro e; injection e with e; omega); replace HB := HB.grown hgr (by have := HB.size; omega) (by intro k e; injection e with e; omega); replace hg2 := hgn; replace hcg1 := hg1.cell; replace hfg1 := hg1.frozen; replace hcg2 := hg2.cell; replace hfg2 := hg2.frozen; clear hgn hgr))
    refine ret_row rfl hg2 rfl Tryd.underlying35 rfl rec_size rfl ?_
    exact ⟨none, 0, rfl, RU.nil, HB⟩
  have t1 := int_beq_false k1
  by_cases k2 : r.Kind = 2 ∨ r.Kind = 5
  · have e : fillR r = { r with Try := 1 } := by unfold fillR; rw [if_neg k1, if_pos k2]
    rw [e]
    clear e
    rcases k2 with k2 | k2
    · have t2 := int_beq_true k2
      clear k1 k2
      go_enter Tryd.func125, Tryd.ntmps125
      go_wp2_with (first
        | ((with_reducible refine gate_dst (N := 1) rfl ?_); refine ev_box rfl rfl (r.cells A c) rfl ?_; intro g1 W1 hg1 hsz hbn; have hgr := grown_of_below hbn; have zg1 : w.heap.size ≤ g1 := (by have := HB.size; omega); replace HB := HB.grown hgr (by have := HB.size; omega) (by simp); have hcg1 := hg1.cell; have hfg1 := hg1.frozen; clear hsz hbn hgr)
        | ((with_reducible refine gate_dst (N := 2) rfl ?_); refine ev_alloc rfl rfl _ rec_zero ?_; intro g2 W2 hg2 hsz hbn; have hgr := grown_of_below hbn; have ng1g2 : g1 ≠ g2 := (by have := hg1.lt; omega); replace hg2 : Blk W2 g2 _ (Rec.zero.cells none 0) := hg2; have zg2 : w.heap.size ≤ g2 := (by have := HB.size; omega); replace hg1 := hg1.grown hgr (by simp); replace HB := HB.grown hgr (by have := HB.size; omega) (by simp); have hcg2 := hg2.cell; have hfg2 := hg2.frozen; replace hcg1 := hg1.cell; replace hfg1 := hg1.frozen; clear hsz hbn hgr)
        | ((with_reducible refine gate_store (p := 20) rfl ?_); refine ev_store_cell rfl rfl rfl hg1 rfl (i := 4) (v := .int .i64 1) rfl rfl (by kernel_rfl) (show (4 : Nat) < 12 by decide) ?_; intro W3 hgn hgr; replace hgn : Blk W3 g1 _ (({ r with Try := 1 } : Rec).cells A c) := hgn; replace hg2 := hg2.grown hgr (by intro e; injection e with e; omega); replace HB := HB.grown hgr (by have := HB.size; omega) (by intro k e; injection e with e; omega); replace hg1 := hgn; replace hcg1 := hg1.cell; replace hfg1 := hg1.frozen; replace hcg2 := hg2.cell; replace hfg2 := hg2.frozen; clear hgn hgr)
        | ((with_reducible refine gate_dst (N := 24) rfl ?_); refine wpList_load_row rfl _ _ rfl g1 rfl _ _ (0, 0) _ hg1 Tryd.underlying35 rfl rec_size ?_)
        | ((with_reducible refine gate_store (p := 2) rfl ?_); refine ev_store_row (cs := ({ r with Try := 1 } : Rec).cells A c) rfl rfl rfl hg2 rfl rfl rec_size rfl (cells_one _ _ _) ?_; intro W4 hgn hgr; replace hg1 := hg1.grown hgr (by intro e; injection e with e; omega); replace HB := HB.grown hgr (by have := HB.size; omega) (by intro k e; injection e with e; omega); replace hg2 := hgn; replace hcg1 := hg1.cell; replace hfg1 := hg1.frozen; replace hcg2 := hg2.cell; replace hfg2 := hg2.frozen; clear hgn hgr))
      refine ret_row rfl hg2 rfl Tryd.underlying35 rfl rec_size rfl ?_
      exact ⟨A, c, rfl, hd.next HB, HB⟩
    · have t2 : (r.Kind == 2) = false := int_beq_false (by omega)
      have t3 := int_beq_true k2
      clear k1 k2
      go_enter Tryd.func125, Tryd.ntmps125
      go_wp2_with (first
        | ((with_reducible refine gate_dst (N := 1) rfl ?_); refine ev_box rfl rfl (r.cells A c) rfl ?_; intro g1 W1 hg1 hsz hbn; have hgr := grown_of_below hbn; have zg1 : w.heap.size ≤ g1 := (by have := HB.size; omega); replace HB := HB.grown hgr (by have := HB.size; omega) (by simp); have hcg1 := hg1.cell; have hfg1 := hg1.frozen; clear hsz hbn hgr)
        | ((with_reducible refine gate_dst (N := 2) rfl ?_); refine ev_alloc rfl rfl _ rec_zero ?_; intro g2 W2 hg2 hsz hbn; have hgr := grown_of_below hbn; have ng1g2 : g1 ≠ g2 := (by have := hg1.lt; omega); replace hg2 : Blk W2 g2 _ (Rec.zero.cells none 0) := hg2; have zg2 : w.heap.size ≤ g2 := (by have := HB.size; omega); replace hg1 := hg1.grown hgr (by simp); replace HB := HB.grown hgr (by have := HB.size; omega) (by simp); have hcg2 := hg2.cell; have hfg2 := hg2.frozen; replace hcg1 := hg1.cell; replace hfg1 := hg1.frozen; clear hsz hbn hgr)
        | ((with_reducible refine gate_store (p := 20) rfl ?_); refine ev_store_cell rfl rfl rfl hg1 rfl (i := 4) (v := .int .i64 1) rfl rfl (by kernel_rfl) (show (4 : Nat) < 12 by decide) ?_; intro W3 hgn hgr; replace hgn : Blk W3 g1 _ (({ r with Try := 1 } : Rec).cells A c) := hgn; replace hg2 := hg2.grown hgr (by intro e; injection e with e; omega); replace HB := HB.grown hgr (by have := HB.size; omega) (by intro k e; injection e with e; omega); replace hg1 := hgn; replace hcg1 := hg1.cell; replace hfg1 := hg1.frozen; replace hcg2 := hg2.cell; replace hfg2 := hg2.frozen; clear hgn hgr)
        | ((with_reducible refine gate_dst (N := 24) rfl ?_); refine wpList_load_row rfl _ _ rfl g1 rfl _ _ (0, 0) _ hg1 Tryd.underlying35 rfl rec_size ?_)
        | ((with_reducible refine gate_store (p := 2) rfl ?_); refine ev_store_row (cs := ({ r with Try := 1 } : Rec).cells A c) rfl rfl rfl hg2 rfl rfl rec_size rfl (cells_one _ _ _) ?_; intro W4 hgn hgr; replace hg1 := hg1.grown hgr (by intro e; injection e with e; omega); replace HB := HB.grown hgr (by have := HB.size; omega) (by intro k e; injection e with e; omega); replace hg2 := hgn; replace hcg1 := hg1.cell; replace hfg1 := hg1.frozen; replace hcg2 := hg2.cell; replace hfg2 := hg2.frozen; clear hgn hgr))
      refine ret_row rfl hg2 rfl Tryd.underlying35 rfl rec_size rfl ?_
      exact ⟨A, c, rfl, hd.next HB, HB⟩
  have t2 : (r.Kind == 2) = false := int_beq_false (by omega)
  have t3 : (r.Kind == 5) = false := int_beq_false (by omega)
  by_cases k4 : r.Kind = 4
  · have e : fillR r = { r with Last := 1 } := by unfold fillR; rw [if_neg k1, if_neg k2, if_pos k4]
    rw [e]
    clear e
    have t4 := int_beq_true k4
    clear k1 k2 k4
    go_enter Tryd.func125, Tryd.ntmps125
    go_wp2_with (first
      | ((with_reducible refine gate_dst (N := 1) rfl ?_); refine ev_box rfl rfl (r.cells A c) rfl ?_; intro g1 W1 hg1 hsz hbn; have hgr := grown_of_below hbn; have zg1 : w.heap.size ≤ g1 := (by have := HB.size; omega); replace HB := HB.grown hgr (by have := HB.size; omega) (by simp); have hcg1 := hg1.cell; have hfg1 := hg1.frozen; clear hsz hbn hgr)
      | ((with_reducible refine gate_dst (N := 2) rfl ?_); refine ev_alloc rfl rfl _ rec_zero ?_; intro g2 W2 hg2 hsz hbn; have hgr := grown_of_below hbn; have ng1g2 : g1 ≠ g2 := (by have := hg1.lt; omega); replace hg2 : Blk W2 g2 _ (Rec.zero.cells none 0) := hg2; have zg2 : w.heap.size ≤ g2 := (by have := HB.size; omega); replace hg1 := hg1.grown hgr (by simp); replace HB := HB.grown hgr (by have := HB.size; omega) (by simp); have hcg2 := hg2.cell; have hfg2 := hg2.frozen; replace hcg1 := hg1.cell; replace hfg1 := hg1.frozen; clear hsz hbn hgr)
      | ((with_reducible refine gate_store (p := 23) rfl ?_); refine ev_store_cell rfl rfl rfl hg1 rfl (i := 6) (v := .int .i64 1) rfl rfl (by kernel_rfl) (show (6 : Nat) < 12 by decide) ?_; intro W3 hgn hgr; replace hgn : Blk W3 g1 _ (({ r with Last := 1 } : Rec).cells A c) := hgn; replace hg2 := hg2.grown hgr (by intro e; injection e with e; omega); replace HB := HB.grown hgr (by have := HB.size; omega) (by intro k e; injection e with e; omega); replace hg1 := hgn; replace hcg1 := hg1.cell; replace hfg1 := hg1.frozen; replace hcg2 := hg2.cell; replace hfg2 := hg2.frozen; clear hgn hgr)
      | ((with_reducible refine gate_dst (N := 24) rfl ?_); refine wpList_load_row rfl _ _ rfl g1 rfl _ _ (0, 0) _ hg1 Tryd.underlying35 rfl rec_size ?_)
      | ((with_reducible refine gate_store (p := 2) rfl ?_); refine ev_store_row (cs := ({ r with Last := 1 } : Rec).cells A c) rfl rfl rfl hg2 rfl rfl rec_size rfl (cells_one _ _ _) ?_; intro W4 hgn hgr; replace hg1 := hg1.grown hgr (by intro e; injection e with e; omega); replace HB := HB.grown hgr (by have := HB.size; omega) (by intro k e; injection e with e; omega); replace hg2 := hgn; replace hcg1 := hg1.cell; replace hfg1 := hg1.frozen; replace hcg2 := hg2.cell; replace hfg2 := hg2.frozen; clear hgn hgr))
    refine ret_row rfl hg2 rfl Tryd.underlying35 rfl rec_size rfl ?_
    exact ⟨A, c, rfl, hd.next HB, HB⟩
  · have e : fillR r = r := by unfold fillR; rw [if_neg k1, if_neg k2, if_neg k4]
    rw [e]
    clear e
    have t4 := int_beq_false k4
    clear k1 k2 k4
    go_enter Tryd.func125, Tryd.ntmps125
    go_wp2_with (first
      | ((with_reducible refine gate_dst (N := 1) rfl ?_); refine ev_box rfl rfl (r.cells A c) rfl ?_; intro g1 W1 hg1 hsz hbn; have hgr := grown_of_below hbn; have zg1 : w.heap.size ≤ g1 := (by have := HB.size; omega); replace HB := HB.grown hgr (by have := HB.size; omega) (by simp); have hcg1 := hg1.cell; have hfg1 := hg1.frozen; clear hsz hbn hgr)
      | ((with_reducible refine gate_dst (N := 2) rfl ?_); refine ev_alloc rfl rfl _ rec_zero ?_; intro g2 W2 hg2 hsz hbn; have hgr := grown_of_below hbn; have ng1g2 : g1 ≠ g2 := (by have := hg1.lt; omega); replace hg2 : Blk W2 g2 _ (Rec.zero.cells none 0) := hg2; have zg2 : w.heap.size ≤ g2 := (by have := HB.size; omega); replace hg1 := hg1.grown hgr (by simp); replace HB := HB.grown hgr (by have := HB.size; omega) (by simp); have hcg2 := hg2.cell; have hfg2 := hg2.frozen; replace hcg1 := hg1.cell; replace hfg1 := hg1.frozen; clear hsz hbn hgr)
      | ((with_reducible refine gate_dst (N := 24) rfl ?_); refine wpList_load_row rfl _ _ rfl g1 rfl _ _ (0, 0) _ hg1 Tryd.underlying35 rfl rec_size ?_)
      | ((with_reducible refine gate_store (p := 2) rfl ?_); refine ev_store_row (cs := r.cells A c) rfl rfl rfl hg2 rfl rfl rec_size rfl (cells_one _ _ _) ?_; intro W3 hgn hgr; replace hg1 := hg1.grown hgr (by intro e; injection e with e; omega); replace HB := HB.grown hgr (by have := HB.size; omega) (by intro k e; injection e with e; omega); replace hg2 := hgn; replace hcg1 := hg1.cell; replace hfg1 := hg1.frozen; replace hcg2 := hg2.cell; replace hfg2 := hg2.frozen; clear hgn hgr))
    refine ret_row rfl hg2 rfl Tryd.underlying35 rfl rec_size rfl ?_
    exact ⟨A, c, rfl, hd.next HB, HB⟩
end Go.Proofs.YtjhiohjpkdjkoaaDoor
