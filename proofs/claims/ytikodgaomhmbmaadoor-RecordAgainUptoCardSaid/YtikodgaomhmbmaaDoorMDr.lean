/-
  Bytes and rows of bytes of one's own, loads from whatever address, regions read in a drawn order.
-/
import Derived.Test.YtikodgaomhmbmaaDoorD0
import Derived.Laws.ResultCell
import Derived.Laws.IdiomStrings
import Derived.OrdersHeld
import Derived.RegionTactic
import Derived.Laws.CopyRow
set_option linter.unusedVariables false
set_option linter.unusedSimpArgs false
namespace Go.Proofs.YtikodgaomhmbmaaDoor
open Go.RowKit
attribute [local go_sem] Rec.size_ Rec.g0 Rec.g1 Rec.g2 Rec.g3 Rec.g4 Rec.g5 Rec.g6 Rec.g7 Rec.g8 Rec.g9 Rec.g10 Rec.g11 Rec.fold

theorem results_row_tmp {P : Program} {fn : Func} {p u : Tmp} {ty : TypeId} (h : fn.results = #[.cell p ty, .tmp u]) (tmps : Array Value) (w : World) (g : Nat) (t : TypeId) (cs : Array Value) (fr : Nat × Nat) (d : TypeDesc)
    (hp : tmps.getD p undef = .pointer (some ⟨g, 0, none⟩)) (hg : w.heap[g]? = some (.cells cs t fr))
    (hu : P.underlying ty = some d) (hd : (match d with | .struct _ | .array _ _ => true | _ => false) = true) (hi : (P.info? ty).map (·.size) = some cs.size) :
    (results fn tmps).run P w = .ok (.tuple #[.agg cs, tmps.getD u undef]) w := by
  rw [results_cell_tmp h tmps P w, hp]
  simp [asAddr, Result.andThen, run_loadVar_row w g t ty cs fr d hg hu hd hi]
theorem ret_row {P : Program} {fn : Func} {R : Ending → World → Prop} {a : Act} {w : World} {p u : Tmp} {ty : TypeId} {g : Nat} {t : TypeId} {cs : Array Value} {d : TypeDesc} (h : fn.results = #[.cell p ty, .tmp u])
    (hg : Blk w g t cs) (hp : a.tmps.getD p undef = .pointer (some ⟨g, 0, none⟩))
    (hu : P.underlying ty = some d) (hd : (match d with | .struct _ | .array _ _ => true | _ => false) = true) (hi : (P.info? ty).map (·.size) = some cs.size) (hdf : a.defers = [])
    (hR : R (.returned (.tuple #[.agg cs, a.tmps.getD u undef])) w) : bodyPost P fn R .ret a w :=
  bodyPost_ret (results_row_tmp h _ _ g _ _ (0, 0) _ hp hg hu hd hi) hdf hR

section
variable {P : Program} {ops : Array Oper} {rest : List Oper} {o : Oper} {a : Act} {Q : Exit → Act → World → Prop} {W : World}
theorem ev_bytes (hgd : o.guard = none) {src dst : TypeId} {x : Operand} (ho : o.op = .convert src dst x) (hs : P.underlying src = some .string) (hd : P.underlying dst = some (.slice 5)) (he : P.underlying 5 = some (.int .u8)) {s : ByteArray} (hx : a.eval x = .string s)
    (h : ∀ A c w1, RU w1 A s.data.toList → Below W.heap.size W w1 → wpList P ops Q rest (a.put o.dst (.slice A s.data.toList.length c)) w1) : wpList P ops Q (o :: rest) a W := by
  refine ev_run hgd (w1 := W.drew.alloc (.cells (bytesRow s (grownCap W s.size 0 5)) 5 ((bytesRow s (grownCap W s.size 0 5)).size, (bytesRow s (grownCap W s.size 0 5)).size + 1))) (v := .slice (some ⟨W.heap.size, 0, none⟩) s.size (grownCap W s.size 0 5)) ?_
    (h (some ⟨W.heap.size, 0, none⟩) (grownCap W s.size 0 5) _ ?_ (below_alloc (Below.refl _ _).drew _))
  · have := run_bytes_of_string (P := P) W src dst 5 s hs hd he
    simp [execOp, ho, hx, this]
  · have hnew : (W.drew.alloc (.cells (bytesRow s (grownCap W s.size 0 5)) 5 ((bytesRow s (grownCap W s.size 0 5)).size, (bytesRow s (grownCap W s.size 0 5)).size + 1))).heap[W.heap.size]? = some (.cells (bytesRow s (grownCap W s.size 0 5)) 5 ((bytesRow s (grownCap W s.size 0 5)).size, (bytesRow s (grownCap W s.size 0 5)).size + 1)) := heap_alloc_new W.drew _
    refine ⟨⟨by simp [u8s], fun _ => ⟨_, rfl, ?_, fun j u hu => ?_⟩⟩, fun _ => ⟨_, _, _, rfl, hnew⟩⟩
    · exact (Array.getElem?_eq_some_iff.1 hnew).1
    · have hj : j < s.data.size := by
        have := (List.getElem?_eq_some_iff.1 hu).1
        simpa [u8s] using this
      have e1 : (⟨W.heap.size, 0, none⟩ : Addr).add j = ⟨W.heap.size, j, none⟩ := by unfold Addr.add; split <;> simp_all
      rw [e1, cell_of_row _ _ _ _ _ _ hnew, bytesRow_at s _ j hj, ← hu, u8s_get (by simpa using hj)]
      simp
theorem ev_bytes_ob (hgd : o.guard = none) {src dst : TypeId} {x : Operand} (ho : o.op = .convert src dst x) (hs : P.underlying src = some .string) (hd : P.underlying dst = some (.slice 5)) (he : P.underlying 5 = some (.int .u8)) {s : ByteArray} (hx : a.eval x = .string s)
    (h : ∀ A c w1, OB w1 W.heap.size A c s.data.toList → Below W.heap.size W w1 → wpList P ops Q rest (a.put o.dst (.slice A s.data.toList.length c)) w1) : wpList P ops Q (o :: rest) a W := by
  refine ev_run hgd (w1 := W.drew.alloc (.cells (bytesRow s (grownCap W s.size 0 5)) 5 ((bytesRow s (grownCap W s.size 0 5)).size, (bytesRow s (grownCap W s.size 0 5)).size + 1))) (v := .slice (some ⟨W.heap.size, 0, none⟩) s.size (grownCap W s.size 0 5)) ?_
    (h (some ⟨W.heap.size, 0, none⟩) (grownCap W s.size 0 5) _ ?_ (below_alloc (Below.refl _ _).drew _))
  · have := run_bytes_of_string (P := P) W src dst 5 s hs hd he
    simp [execOp, ho, hx, this]
  · have hnew : (W.drew.alloc (.cells (bytesRow s (grownCap W s.size 0 5)) 5 ((bytesRow s (grownCap W s.size 0 5)).size, (bytesRow s (grownCap W s.size 0 5)).size + 1))).heap[W.heap.size]? = some (.cells (bytesRow s (grownCap W s.size 0 5)) 5 ((bytesRow s (grownCap W s.size 0 5)).size, (bytesRow s (grownCap W s.size 0 5)).size + 1)) := heap_alloc_new W.drew _
    have hge := grownCap_ge W s.size 0 5
    have hsz : s.size = s.data.toList.length := rfl
    have hz : (bytesRow s (grownCap W s.size 0 5)).size = grownCap W s.size 0 5 := by
      simp only [bytesRow, Array.size_append, Array.size_map, Array.size_replicate]
      have : s.data.size = s.size := rfl
      omega
    refine .inr ⟨W.heap.size, _, _, rfl, Nat.le_refl _, hnew, .inr (Nat.le_refl _), by omega, hz, ?_⟩
    apply List.ext_getElem?
    intro j
    rw [List.getElem?_take]
    by_cases hj : j < s.data.toList.length
    · rw [if_pos hj, Array.getElem?_toList, bytesRow_at s _ j (by simpa using hj), u8s_get hj]
      simp
    · rw [if_neg hj, List.getElem?_eq_none (by simpa [u8s] using hj)]
end

/-- Data that is as it was, or a row of one's own. -/
def HopData (base : Nat) (A : Option Addr) (c : Nat) (l : List UInt8) (A' : Option Addr) (c' : Nat) (l' : List UInt8) (w' : World) : Prop := (A' = A ∧ c' = c ∧ l' = l) ∨ OB w' base A' c' l'
theorem HopData.stays {base : Nat} {A : Option Addr} {c : Nat} {l : List UInt8} {w' : World} : HopData base A c l A c l w' := .inl ⟨rfl, rfl, rfl⟩
theorem HopData.own {base : Nat} {A : Option Addr} {c : Nat} {l : List UInt8} {A' : Option Addr} {c' : Nat} {l' : List UInt8} {w' : World} (h : OB w' base A' c' l') : HopData base A c l A' c' l' w' := .inr h
/-- What a step's function answers: the data is the argument's, or a row of one's own. -/
def HopSaid (P : Program) (f : Nat) (r' : Rec) (b : Bool) (r : Rec) (A : Option Addr) (c : Nat) (w : World) : Prop :=
  Calls P f #[.agg (r.cells A c)] w fun e w' => ∃ A' c', e = .returned (.tuple #[.agg (r'.cells A' c'), .bool b]) ∧ HopData w.heap.size A c r.Data A' c' r'.Data w' ∧ Below w.heap.size w w'
theorem hop_own {P : Program} {f : Nat} {r' : Rec} {b : Bool} {r : Rec} {A : Option Addr} {c base : Nat} {w : World} (h : HopSaid P f r' b r A c w) (hB : OB w base A c r.Data) (hle : base ≤ w.heap.size) :
    Calls P f #[.agg (r.cells A c)] w fun e w' => ∃ A' c', e = .returned (.tuple #[.agg (r'.cells A' c'), .bool b]) ∧ OB w' base A' c' r'.Data ∧ Below w.heap.size w w' :=
  Calls.mono h fun e w' ⟨A', c', he, hd, hb⟩ => ⟨A', c', he, by
    rcases hd with ⟨rfl, rfl, e⟩ | hd
    · rw [e]; exact hB.next hb
    · exact hd.mono hle, hb⟩

set_option maxRecDepth 100000 in
theorem stay_calls (r : Rec) (A : Option Addr) (c : Nat) (w : World) (hd : RU w A r.Data) : HopSaid Tryd.prog 83 r true r A c w := by
  unfold HopSaid
  have HB := Below.refl w.heap.size w
  go_enter Tryd.func83, Tryd.ntmps83
  go_wp2_with (first
    | ((with_reducible refine gate_dst (N := 1) rfl ?_); refine ev_box rfl rfl (r.cells A c) rfl ?_; intro g1 W1 hg1 hsz hbn; have hgr := grown_of_below hbn; have zg1 : w.heap.size ≤ g1 := (by have := HB.size; omega); replace HB := HB.grown hgr (by have := HB.size; omega) (by simp); have hcg1 := hg1.cell; have hfg1 := hg1.frozen; clear hsz hbn hgr)
    | ((with_reducible refine gate_dst (N := 2) rfl ?_); refine ev_alloc rfl rfl _ rec_zero ?_; intro g2 W2 hg2 hsz hbn; have hgr := grown_of_below hbn; have ng1g2 : g1 ≠ g2 := (by have := hg1.lt; omega); replace hg2 : Blk W2 g2 _ (Rec.zero.cells none 0) := hg2; have zg2 : w.heap.size ≤ g2 := (by have := HB.size; omega); replace hg1 := hg1.grown hgr (by simp); replace HB := HB.grown hgr (by have := HB.size; omega) (by simp); have hcg2 := hg2.cell; have hfg2 := hg2.frozen; replace hcg1 := hg1.cell; replace hfg1 := hg1.frozen; clear hsz hbn hgr)
    | ((with_reducible refine gate_dst (N := 4) rfl ?_); refine wpList_load_row rfl _ _ rfl g1 rfl _ _ (0, 0) _ hg1 Tryd.underlying27 rfl rec_size ?_)
    | ((with_reducible refine gate_store (p := 2) rfl ?_); refine ev_store_row (cs := r.cells A c) rfl rfl rfl hg2 rfl rfl rec_size rfl (cells_one _ _ _) ?_; intro W3 hgn hgr; replace hg1 := hg1.grown hgr (by intro e; injection e with e; omega); replace HB := HB.grown hgr (by have := HB.size; omega) (by intro k e; injection e with e; omega); replace hg2 := hgn; replace hcg1 := hg1.cell; replace hfg1 := hg1.frozen; replace hcg2 := hg2.cell; replace hfg2 := hg2.frozen; clear hgn hgr))
  refine ret_row rfl hg2 rfl Tryd.underlying27 rfl rec_size rfl ?_
  exact ⟨A, c, rfl, HopData.stays, HB⟩

set_option maxRecDepth 100000 in
theorem fill_calls (r : Rec) (A : Option Addr) (c : Nat) (w : World) (hd : RU w A r.Data) : HopSaid Tryd.prog 96 (fillR r) true r A c w := by
  unfold HopSaid
  have HB := Below.refl w.heap.size w
  by_cases k1 : r.Kind = 1
  · have e : fillR r = { r with Name := ⟨r.Data.toArray⟩, Data := [], Count := r.Step, Step := 0 } := if_pos k1
    rw [e]
    clear e
    have t1 := int_beq_true k1
    clear k1
    go_enter Tryd.func96, Tryd.ntmps96
    go_wp2_with (first
      | ((with_reducible refine gate_dst (N := 1) rfl ?_); refine ev_box rfl rfl (r.cells A c) rfl ?_; intro g1 W1 hg1 hsz hbn; have hgr := grown_of_below hbn; have zg1 : w.heap.size ≤ g1 := (by have := HB.size; omega); replace HB := HB.grown hgr (by have := HB.size; omega) (by simp); have hcg1 := hg1.cell; have hfg1 := hg1.frozen; clear hsz hbn hgr)
      | ((with_reducible refine gate_dst (N := 2) rfl ?_); refine ev_alloc rfl rfl _ rec_zero ?_; intro g2 W2 hg2 hsz hbn; have hgr := grown_of_below hbn; have ng1g2 : g1 ≠ g2 := (by have := hg1.lt; omega); replace hg2 : Blk W2 g2 _ (Rec.zero.cells none 0) := hg2; have zg2 : w.heap.size ≤ g2 := (by have := HB.size; omega); replace hg1 := hg1.grown hgr (by simp); replace HB := HB.grown hgr (by have := HB.size; omega) (by simp); have hcg2 := hg2.cell; have hfg2 := hg2.frozen; replace hcg1 := hg1.cell; replace hfg1 := hg1.frozen; clear hsz hbn hgr; have cv := conv_bytes (hd.next HB).rb c)
      | ((with_reducible refine gate_store (p := 11) rfl ?_); refine ev_store_cell rfl rfl rfl hg1 rfl (i := 10) (v := .string ⟨r.Data.toArray⟩) rfl rfl (by kernel_rfl) (by first | exact (show (10 : Nat) < 12 by decide) | exact (show (10 : Nat) < 16 by decide) | exact (show (10 : Nat) < 6 by decide)) ?_; intro W3 hgn hgr; replace hgn : Blk W3 g1 _ (({ r with Name := ⟨r.Data.toArray⟩ } : Rec).cells A c) := hgn; replace hg2 := hg2.grown hgr (by intro e; injection e with e; omega); replace HB := HB.grown hgr (by have := HB.size; omega) (by intro k e; injection e with e; omega); replace hg1 := hgn; replace hcg1 := hg1.cell; replace hfg1 := hg1.frozen; replace hcg2 := hg2.cell; replace hfg2 := hg2.frozen; clear hgn hgr)
      | ((with_reducible refine gate_store (p := 12) rfl ?_); refine ev_store_cell rfl rfl rfl hg1 rfl (i := 11) (v := .slice none 0 0) rfl rfl (by kernel_rfl) (by first | exact (show (11 : Nat) < 12 by decide) | exact (show (11 : Nat) < 16 by decide) | exact (show (11 : Nat) < 6 by decide)) ?_; intro W4 hgn hgr; replace hgn : Blk W4 g1 _ (({ r with Name := ⟨r.Data.toArray⟩, Data := [] } : Rec).cells none 0) := hgn; replace hg2 := hg2.grown hgr (by intro e; injection e with e; omega); replace HB := HB.grown hgr (by have := HB.size; omega) (by intro k e; injection e with e; omega); replace hg1 := hgn; replace hcg1 := hg1.cell; replace hfg1 := hg1.frozen; replace hcg2 := hg2.cell; replace hfg2 := hg2.frozen; clear hgn hgr)
      | ((with_reducible refine gate_store (p := 15) rfl ?_); refine ev_store_cell rfl rfl rfl hg1 rfl (i := 8) (v := .int .i64 r.Step) rfl rfl (by kernel_rfl) (by first | exact (show (8 : Nat) < 12 by decide) | exact (show (8 : Nat) < 16 by decide) | exact (show (8 : Nat) < 6 by decide)) ?_; intro W5 hgn hgr; replace hgn : Blk W5 g1 _ (({ r with Name := ⟨r.Data.toArray⟩, Data := [], Count := r.Step } : Rec).cells none 0) := hgn; replace hg2 := hg2.grown hgr (by intro e; injection e with e; omega); replace HB := HB.grown hgr (by have := HB.size; omega) (by intro k e; injection e with e; omega); replace hg1 := hgn; replace hcg1 := hg1.cell; replace hfg1 := hg1.frozen; replace hcg2 := hg2.cell; replace hfg2 := hg2.frozen; clear hgn hgr)
      | ((with_reducible refine gate_store (p := 16) rfl ?_); refine ev_store_cell rfl rfl rfl hg1 rfl (i := 3) (v := .int .i64 0) rfl rfl (by kernel_rfl) (by first | exact (show (3 : Nat) < 12 by decide) | exact (show (3 : Nat) < 16 by decide) | exact (show (3 : Nat) < 6 by decide)) ?_; intro W6 hgn hgr; replace hgn : Blk W6 g1 _ (({ r with Name := ⟨r.Data.toArray⟩, Data := [], Count := r.Step, Step := 0 } : Rec).cells none 0) := hgn; replace hg2 := hg2.grown hgr (by intro e; injection e with e; omega); replace HB := HB.grown hgr (by have := HB.size; omega) (by intro k e; injection e with e; omega); replace hg1 := hgn; replace hcg1 := hg1.cell; replace hfg1 := hg1.frozen; replace hcg2 := hg2.cell; replace hfg2 := hg2.frozen; clear hgn hgr)
      | ((with_reducible refine gate_dst (N := 24) rfl ?_); refine wpList_load_row rfl _ _ rfl g1 rfl _ _ (0, 0) _ hg1 Tryd.underlying27 rfl rec_size ?_)
      | ((with_reducible refine gate_store (p := 2) rfl ?_); refine ev_store_row (cs := ({ r with Name := ⟨r.Data.toArray⟩, Data := [], Count := r.Step, Step := 0 } : Rec).cells none 0) rfl rfl rfl hg2 rfl rfl rec_size rfl (cells_one _ _ _) ?_; intro W7 hgn hgr; replace hg1 := hg1.grown hgr (by intro e; injection e with e; omega); replace HB := HB.grown hgr (by have := HB.size; omega) (by intro k e; injection e with e; omega); replace hg2 := hgn; replace hcg1 := hg1.cell; replace hfg1 := hg1.frozen; replace hcg2 := hg2.cell; replace hfg2 := hg2.frozen; clear hgn hgr))
    refine ret_row rfl hg2 rfl Tryd.underlying27 rfl rec_size rfl ?_
    exact ⟨none, 0, rfl, HopData.own OB.nil, HB⟩
  have t1 := int_beq_false k1
  by_cases k2 : r.Kind = 2 ∨ r.Kind = 5
  · have e : fillR r = { r with Try := 1 } := by unfold fillR; rw [if_neg k1, if_pos k2]
    rw [e]
    clear e
    rcases k2 with k2 | k2
    · have t2 := int_beq_true k2
      clear k1 k2
      go_enter Tryd.func96, Tryd.ntmps96
      go_wp2_with (first
        | ((with_reducible refine gate_dst (N := 1) rfl ?_); refine ev_box rfl rfl (r.cells A c) rfl ?_; intro g1 W1 hg1 hsz hbn; have hgr := grown_of_below hbn; have zg1 : w.heap.size ≤ g1 := (by have := HB.size; omega); replace HB := HB.grown hgr (by have := HB.size; omega) (by simp); have hcg1 := hg1.cell; have hfg1 := hg1.frozen; clear hsz hbn hgr)
        | ((with_reducible refine gate_dst (N := 2) rfl ?_); refine ev_alloc rfl rfl _ rec_zero ?_; intro g2 W2 hg2 hsz hbn; have hgr := grown_of_below hbn; have ng1g2 : g1 ≠ g2 := (by have := hg1.lt; omega); replace hg2 : Blk W2 g2 _ (Rec.zero.cells none 0) := hg2; have zg2 : w.heap.size ≤ g2 := (by have := HB.size; omega); replace hg1 := hg1.grown hgr (by simp); replace HB := HB.grown hgr (by have := HB.size; omega) (by simp); have hcg2 := hg2.cell; have hfg2 := hg2.frozen; replace hcg1 := hg1.cell; replace hfg1 := hg1.frozen; clear hsz hbn hgr)
        | ((with_reducible refine gate_store (p := 20) rfl ?_); refine ev_store_cell rfl rfl rfl hg1 rfl (i := 4) (v := .int .i64 1) rfl rfl (by kernel_rfl) (by first | exact (show (4 : Nat) < 12 by decide) | exact (show (4 : Nat) < 16 by decide) | exact (show (4 : Nat) < 6 by decide)) ?_; intro W3 hgn hgr; replace hgn : Blk W3 g1 _ (({ r with Try := 1 } : Rec).cells A c) := hgn; replace hg2 := hg2.grown hgr (by intro e; injection e with e; omega); replace HB := HB.grown hgr (by have := HB.size; omega) (by intro k e; injection e with e; omega); replace hg1 := hgn; replace hcg1 := hg1.cell; replace hfg1 := hg1.frozen; replace hcg2 := hg2.cell; replace hfg2 := hg2.frozen; clear hgn hgr)
        | ((with_reducible refine gate_dst (N := 24) rfl ?_); refine wpList_load_row rfl _ _ rfl g1 rfl _ _ (0, 0) _ hg1 Tryd.underlying27 rfl rec_size ?_)
        | ((with_reducible refine gate_store (p := 2) rfl ?_); refine ev_store_row (cs := ({ r with Try := 1 } : Rec).cells A c) rfl rfl rfl hg2 rfl rfl rec_size rfl (cells_one _ _ _) ?_; intro W4 hgn hgr; replace hg1 := hg1.grown hgr (by intro e; injection e with e; omega); replace HB := HB.grown hgr (by have := HB.size; omega) (by intro k e; injection e with e; omega); replace hg2 := hgn; replace hcg1 := hg1.cell; replace hfg1 := hg1.frozen; replace hcg2 := hg2.cell; replace hfg2 := hg2.frozen; clear hgn hgr))
      refine ret_row rfl hg2 rfl Tryd.underlying27 rfl rec_size rfl ?_
      exact ⟨A, c, rfl, HopData.stays, HB⟩
    · have t2 : (r.Kind == 2) = false := int_beq_false (by omega)
      have t3 := int_beq_true k2
      clear k1 k2
      go_enter Tryd.func96, Tryd.ntmps96
      go_wp2_with (first
        | ((with_reducible refine gate_dst (N := 1) rfl ?_); refine ev_box rfl rfl (r.cells A c) rfl ?_; intro g1 W1 hg1 hsz hbn; have hgr := grown_of_below hbn; have zg1 : w.heap.size ≤ g1 := (by have := HB.size; omega); replace HB := HB.grown hgr (by have := HB.size; omega) (by simp); have hcg1 := hg1.cell; have hfg1 := hg1.frozen; clear hsz hbn hgr)
        | ((with_reducible refine gate_dst (N := 2) rfl ?_); refine ev_alloc rfl rfl _ rec_zero ?_; intro g2 W2 hg2 hsz hbn; have hgr := grown_of_below hbn; have ng1g2 : g1 ≠ g2 := (by have := hg1.lt; omega); replace hg2 : Blk W2 g2 _ (Rec.zero.cells none 0) := hg2; have zg2 : w.heap.size ≤ g2 := (by have := HB.size; omega); replace hg1 := hg1.grown hgr (by simp); replace HB := HB.grown hgr (by have := HB.size; omega) (by simp); have hcg2 := hg2.cell; have hfg2 := hg2.frozen; replace hcg1 := hg1.cell; replace hfg1 := hg1.frozen; clear hsz hbn hgr)
        | ((with_reducible refine gate_store (p := 20) rfl ?_); refine ev_store_cell rfl rfl rfl hg1 rfl (i := 4) (v := .int .i64 1) rfl rfl (by kernel_rfl) (by first | exact (show (4 : Nat) < 12 by decide) | exact (show (4 : Nat) < 16 by decide) | exact (show (4 : Nat) < 6 by decide)) ?_; intro W3 hgn hgr; replace hgn : Blk W3 g1 _ (({ r with Try := 1 } : Rec).cells A c) := hgn; replace hg2 := hg2.grown hgr (by intro e; injection e with e; omega); replace HB := HB.grown hgr (by have := HB.size; omega) (by intro k e; injection e with e; omega); replace hg1 := hgn; replace hcg1 := hg1.cell; replace hfg1 := hg1.frozen; replace hcg2 := hg2.cell; replace hfg2 := hg2.frozen; clear hgn hgr)
        | ((with_reducible refine gate_dst (N := 24) rfl ?_); refine wpList_load_row rfl _ _ rfl g1 rfl _ _ (0, 0) _ hg1 Tryd.underlying27 rfl rec_size ?_)
        | ((with_reducible refine gate_store (p := 2) rfl ?_); refine ev_store_row (cs := ({ r with Try := 1 } : Rec).cells A c) rfl rfl rfl hg2 rfl rfl rec_size rfl (cells_one _ _ _) ?_; intro W4 hgn hgr; replace hg1 := hg1.grown hgr (by intro e; injection e with e; omega); replace HB := HB.grown hgr (by have := HB.size; omega) (by intro k e; injection e with e; omega); replace hg2 := hgn; replace hcg1 := hg1.cell; replace hfg1 := hg1.frozen; replace hcg2 := hg2.cell; replace hfg2 := hg2.frozen; clear hgn hgr))
      refine ret_row rfl hg2 rfl Tryd.underlying27 rfl rec_size rfl ?_
      exact ⟨A, c, rfl, HopData.stays, HB⟩
  have t2 : (r.Kind == 2) = false := int_beq_false (by omega)
  have t3 : (r.Kind == 5) = false := int_beq_false (by omega)
  by_cases k4 : r.Kind = 4
  · have e : fillR r = { r with Last := 1 } := by unfold fillR; rw [if_neg k1, if_neg k2, if_pos k4]
    rw [e]
    clear e
    have t4 := int_beq_true k4
    clear k1 k2 k4
    go_enter Tryd.func96, Tryd.ntmps96
    go_wp2_with (first
      | ((with_reducible refine gate_dst (N := 1) rfl ?_); refine ev_box rfl rfl (r.cells A c) rfl ?_; intro g1 W1 hg1 hsz hbn; have hgr := grown_of_below hbn; have zg1 : w.heap.size ≤ g1 := (by have := HB.size; omega); replace HB := HB.grown hgr (by have := HB.size; omega) (by simp); have hcg1 := hg1.cell; have hfg1 := hg1.frozen; clear hsz hbn hgr)
      | ((with_reducible refine gate_dst (N := 2) rfl ?_); refine ev_alloc rfl rfl _ rec_zero ?_; intro g2 W2 hg2 hsz hbn; have hgr := grown_of_below hbn; have ng1g2 : g1 ≠ g2 := (by have := hg1.lt; omega); replace hg2 : Blk W2 g2 _ (Rec.zero.cells none 0) := hg2; have zg2 : w.heap.size ≤ g2 := (by have := HB.size; omega); replace hg1 := hg1.grown hgr (by simp); replace HB := HB.grown hgr (by have := HB.size; omega) (by simp); have hcg2 := hg2.cell; have hfg2 := hg2.frozen; replace hcg1 := hg1.cell; replace hfg1 := hg1.frozen; clear hsz hbn hgr)
      | ((with_reducible refine gate_store (p := 23) rfl ?_); refine ev_store_cell rfl rfl rfl hg1 rfl (i := 6) (v := .int .i64 1) rfl rfl (by kernel_rfl) (by first | exact (show (6 : Nat) < 12 by decide) | exact (show (6 : Nat) < 16 by decide) | exact (show (6 : Nat) < 6 by decide)) ?_; intro W3 hgn hgr; replace hgn : Blk W3 g1 _ (({ r with Last := 1 } : Rec).cells A c) := hgn; replace hg2 := hg2.grown hgr (by intro e; injection e with e; omega); replace HB := HB.grown hgr (by have := HB.size; omega) (by intro k e; injection e with e; omega); replace hg1 := hgn; replace hcg1 := hg1.cell; replace hfg1 := hg1.frozen; replace hcg2 := hg2.cell; replace hfg2 := hg2.frozen; clear hgn hgr)
      | ((with_reducible refine gate_dst (N := 24) rfl ?_); refine wpList_load_row rfl _ _ rfl g1 rfl _ _ (0, 0) _ hg1 Tryd.underlying27 rfl rec_size ?_)
      | ((with_reducible refine gate_store (p := 2) rfl ?_); refine ev_store_row (cs := ({ r with Last := 1 } : Rec).cells A c) rfl rfl rfl hg2 rfl rfl rec_size rfl (cells_one _ _ _) ?_; intro W4 hgn hgr; replace hg1 := hg1.grown hgr (by intro e; injection e with e; omega); replace HB := HB.grown hgr (by have := HB.size; omega) (by intro k e; injection e with e; omega); replace hg2 := hgn; replace hcg1 := hg1.cell; replace hfg1 := hg1.frozen; replace hcg2 := hg2.cell; replace hfg2 := hg2.frozen; clear hgn hgr))
    refine ret_row rfl hg2 rfl Tryd.underlying27 rfl rec_size rfl ?_
    exact ⟨A, c, rfl, HopData.stays, HB⟩
  · have e : fillR r = r := by unfold fillR; rw [if_neg k1, if_neg k2, if_neg k4]
    rw [e]
    clear e
    have t4 := int_beq_false k4
    clear k1 k2 k4
    go_enter Tryd.func96, Tryd.ntmps96
    go_wp2_with (first
      | ((with_reducible refine gate_dst (N := 1) rfl ?_); refine ev_box rfl rfl (r.cells A c) rfl ?_; intro g1 W1 hg1 hsz hbn; have hgr := grown_of_below hbn; have zg1 : w.heap.size ≤ g1 := (by have := HB.size; omega); replace HB := HB.grown hgr (by have := HB.size; omega) (by simp); have hcg1 := hg1.cell; have hfg1 := hg1.frozen; clear hsz hbn hgr)
      | ((with_reducible refine gate_dst (N := 2) rfl ?_); refine ev_alloc rfl rfl _ rec_zero ?_; intro g2 W2 hg2 hsz hbn; have hgr := grown_of_below hbn; have ng1g2 : g1 ≠ g2 := (by have := hg1.lt; omega); replace hg2 : Blk W2 g2 _ (Rec.zero.cells none 0) := hg2; have zg2 : w.heap.size ≤ g2 := (by have := HB.size; omega); replace hg1 := hg1.grown hgr (by simp); replace HB := HB.grown hgr (by have := HB.size; omega) (by simp); have hcg2 := hg2.cell; have hfg2 := hg2.frozen; replace hcg1 := hg1.cell; replace hfg1 := hg1.frozen; clear hsz hbn hgr)
      | ((with_reducible refine gate_dst (N := 24) rfl ?_); refine wpList_load_row rfl _ _ rfl g1 rfl _ _ (0, 0) _ hg1 Tryd.underlying27 rfl rec_size ?_)
      | ((with_reducible refine gate_store (p := 2) rfl ?_); refine ev_store_row (cs := r.cells A c) rfl rfl rfl hg2 rfl rfl rec_size rfl (cells_one _ _ _) ?_; intro W3 hgn hgr; replace hg1 := hg1.grown hgr (by intro e; injection e with e; omega); replace HB := HB.grown hgr (by have := HB.size; omega) (by intro k e; injection e with e; omega); replace hg2 := hgn; replace hcg1 := hg1.cell; replace hfg1 := hg1.frozen; replace hcg2 := hg2.cell; replace hfg2 := hg2.frozen; clear hgn hgr))
    refine ret_row rfl hg2 rfl Tryd.underlying27 rfl rec_size rfl ?_
    exact ⟨A, c, rfl, HopData.stays, HB⟩
end Go.Proofs.YtikodgaomhmbmaaDoor
namespace Go.Proofs.YtikodgaomhmbmaaDoor
open Go.RowKit
attribute [local go_sem] Rec.size_ Rec.g0 Rec.g1 Rec.g2 Rec.g3 Rec.g4 Rec.g5 Rec.g6 Rec.g7 Rec.g8 Rec.g9 Rec.g10 Rec.g11 Rec.fold

/-- A function of the program that is called by its value. -/
def Coded (P : Program) (f : FuncId) : Prop := ∃ fn c, P.funcs[f]? = some fn ∧ (fn.name == "runtime.NumGoroutine") = false ∧ fn.body = some c
theorem Rec.lit_fold (r : Rec) (A : Option Addr) (c : Nat) : Array.foldl (fun (cs : Array Value) (x : Value × Nat) => cs.setIfInBounds x.snd x.fst) #[Value.int IntKind.i64 0, Value.int IntKind.i64 0, Value.int IntKind.i64 0, Value.int IntKind.i64 0, Value.int IntKind.i64 0, Value.int IntKind.i64 0, Value.int IntKind.i64 0, Value.int IntKind.i64 0, Value.int IntKind.i64 0, Value.int IntKind.i64 0, Value.string { data := #[] }, Value.slice none 0 0] (r.cells A c).zipIdx 0 12 = r.cells A c := by
  unfold Rec.cells
  simp [Array.zipIdx]
attribute [local go_sem] Rec.lit_fold
/-! ### A load of a struct from whatever address -/
section
variable {P : Program} {ops : Array Oper} {rest : List Oper} {o : Oper} {a : Act} {Q : Exit → Act → World → Prop} {W : World}
theorem run_loadVar_at (w : World) (ad : Addr) (ty : TypeId) (cs : Array Value) (d : TypeDesc) (hc : ∀ j v, cs[j]? = some v → w.cell? (ad.add j) = some v)
    (hu : P.underlying ty = some d) (hd : (match d with | .struct _ | .array _ _ => true | _ => false) = true) (hi : (P.info? ty).map (·.size) = some cs.size) :
    (loadVar ty ad).run P w = .ok (.agg cs) w := by
  have hl : (loadCells ad cs.toList.length).run P w = .ok cs.toList.toArray w := run_loadCells_list (P := P) w ad cs.toList (fun j v hv => hc j v (by simpa using hv))
  cases hq : P.info? ty with
  | none => simp [hq] at hi
  | some i =>
    have hs : i.size = cs.size := by simpa [hq] using hi
    have hz : (sizeOf ty).run P w = .ok cs.size w := by simp [sizeOf, typeInfo, hq, hs]
    have ha : (isAgg ty).run P w = .ok true w := by
      cases d <;> simp at hd <;> simp [isAgg, run_underlying hu]
    have hl' : (loadCells ad cs.size).run P w = .ok cs w := by simpa using hl
    simp [loadVar, ha, hz, hl', Sem.run_bind, Result.andThen]
theorem ev_load_at (hgd : o.guard = none) {ty : TypeId} {x : Operand} (ho : o.op = .load ty x) {ad : Addr} (hx : a.eval x = .pointer (some ad)) {cs : Array Value} {d : TypeDesc} (hc : ∀ j v, cs[j]? = some v → W.cell? (ad.add j) = some v)
    (hu : P.underlying ty = some d) (hd : (match d with | .struct _ | .array _ _ => true | _ => false) = true) (hi : (P.info? ty).map (·.size) = some cs.size)
    (h : wpList P ops Q rest (a.put o.dst (.agg cs)) W) : wpList P ops Q (o :: rest) a W := by
  refine ev_run hgd (w1 := W) (v := .agg cs) ?_ h
  simp [execOp, ho, hx, Instr.loadAt, Instr.sureAddr, run_loadVar_at W ad ty cs d hc hu hd hi]
end
theorem RR.load {w : World} {A : Option Addr} {l : List RA} (h : RR w A l) {k : Nat} {x : RA} (hx : l[k]? = some x) {ad : Addr} (he : A = some ad) : ∀ j v, (x.1.cells x.2.1 x.2.2)[j]? = some v → w.cell? ((ad.add (k * 12)).add j) = some v := by
  obtain ⟨ad', e, _, hc⟩ := h.get hx
  rw [he] at e
  injection e with e
  subst e
  intro j v hv
  rw [add_of_add]
  exact hc j v hv

/-- The Data of records that were made. -/
def RUs (w : World) (os : List RA) : Prop := ∀ x ∈ os, RU w x.2.1 x.1.Data
section
variable {w w' : World} {os : List RA}
theorem RUs.kept {row : Option Nat} (h : RUs w os) (hgr : w.grownBy w' row) (hne : ∀ x ∈ os, x.1.Data ≠ [] → ∀ ad, x.2.1 = some ad → some ad.block ≠ row) : RUs w' os := fun x hx => (h x hx).kept hgr (hne x hx)
theorem RUs.ne_blk {g : Nat} {t : TypeId} {cs : Array Value} (h : RUs w os) (hg : Blk w g t cs) (hne : 5 ≠ t) : ∀ x ∈ os, x.1.Data ≠ [] → ∀ ad, x.2.1 = some ad → some ad.block ≠ some g := fun x hx => (h x hx).ne_blk hg hne
theorem RUs.ne_own {base size n : Nat} {e : TypeId} {v : Value} {xs : List Value} (h : RUs w os) (ho : w.ownsRow base e size v n xs) (hne : 5 ≠ e) : ∀ x ∈ os, x.1.Data ≠ [] → ∀ ad, x.2.1 = some ad → some ad.block ≠ v.ownBlock := fun x hx => (h x hx).ne_own ho hne
theorem RUs.nil : RUs w [] := fun x hx => by cases hx
theorem RUs.snoc {y : RA} (h : RUs w os) (hy : RU w y.2.1 y.1.Data) : RUs w (os ++ [y]) := fun x hx => by
  rcases List.mem_append.1 hx with hx | hx
  · exact h x hx
  · obtain rfl : x = y := by simpa using hx
    exact hy
end

theorem OBs.recs {w : World} {base : Nat} {os : List RA} (h : OBs w base (bs os)) : RUs w os := fun x hx => (h.all (x.1.Data, x.2.1, x.2.2) (List.mem_map.2 ⟨x, hx, rfl⟩)).ru
theorem OBs.rb_at {w : World} {base : Nat} {os : List RA} (h : OBs w base (bs os)) {k : Nat} {x : RA} (hx : os[k]? = some x) : RB w x.2.1 x.1.Data := (h.recs x (List.mem_of_getElem? hx)).rb
end Go.Proofs.YtikodgaomhmbmaaDoor
namespace Go.Proofs.YtikodgaomhmbmaaDoor
open Go.RowKit
attribute [local go_sem] Rec.size_ Rec.g0 Rec.g1 Rec.g2 Rec.g3 Rec.g4 Rec.g5 Rec.g6 Rec.g7 Rec.g8 Rec.g9 Rec.g10 Rec.g11 Rec.fold

theorem take_at {P : Program} {ops : Array Oper} {Q : Exit → Act → World → Prop} {S : World → Prop} {i : Nat} {oi : Oper} {v : Value} {fuel : Nat} {listed : Array Bool} {a : Act} {w : World} (N : Tmp) (hi : ops[i]? = some oi) (hN : oi.dst = some N)
    (hs : Region.noSelect ops = true) (hf : Region.free .any ops listed i = true) (hr : (Region.ready .any ops listed).contains i = true)
    (hQ : ∀ c a w, Q (.panic c) (a.put oi.dst v) w → Q (.panic c) a w) (hy : YieldsIf P ops S oi v a) (hS : S w)
    (h : wpAnyH P .any ops Q S fuel (listed.setIfInBounds i true) (a.put (some N) v) w) : wpAnyH P .any ops Q S (fuel + 1) listed a w :=
  wpAnyH_take hi hs hf hr hQ hy hS (by rw [hN]; exact h)
/-- What a load of a whole row yields, in every world that holds it. -/
theorem yields_row {P : Program} {ops : Array Oper} {S : World → Prop} {o : Oper} {a : Act} (hw : Region.wanted o (yielded ops a.tmps) = true) {ty : TypeId} {x : Operand} (ho : o.op = .load ty x) {g : Nat} {t : TypeId} {cs : Array Value} {d : TypeDesc} (hx : a.eval x = .pointer (some ⟨g, 0, none⟩))
    (hS : ∀ w, S w → Blk w g t cs) (hu : P.underlying ty = some d) (hd : (match d with | .struct _ | .array _ _ => true | _ => false) = true) (hi : (P.info? ty).map (·.size) = some cs.size) : YieldsIf P ops S o (.agg cs) a :=
  .inl ⟨hw, fun w h => by simp [execOp, ho, hx, Instr.loadAt, Instr.sureAddr, run_loadVar_row w g t ty cs (0, 0) d (hS w h) hu hd hi]⟩
theorem held_store {P : Program} {ops : Array Oper} {Q : Exit → Act → World → Prop} {S : World → Prop} {fuel i : Nat} {listed : Array Bool} {a : Act} {W : World} {o : Oper} (hr : Region.ready .any ops listed = [i]) (hi : ops[i]? = some o) (hgd : o.guard = none) (hN : o.dst = none) {t : TypeId} {p x : Operand} (ho : o.op = .store t p x) {g : Nat} {te : TypeId} {old cs : Array Value} (hB : Blk W g te old)
    (hp : a.eval p = .pointer (some ⟨g, 0, none⟩)) (hx : a.eval x = .agg cs) (hz : (P.info? t).map (·.size) = some cs.size) (hs : old.size = cs.size) (h1 : cs.all (·.oneCell') = true)
    (h : ∀ w1, Blk w1 g te cs → W.grownBy w1 (some g) → S w1 ∧ wpAnyH P .any ops Q S fuel (listed.setIfInBounds i true) a w1) : wpAnyH P .any ops Q S (fuel + 1) listed a W := by
  refine wpAnyH_all hr (by simp) fun j hj => ?_
  obtain rfl : j = i := by simpa using hj
  refine wpOp_step hi fun K' hK => ?_
  rw [if_pos (by simp [Region.wanted, hgd])]
  have hrun : (execOp a.eval o).run P W = .ok .skip (W.setRow g cs) := by
    have := run_storeVar_row (P := P) W g te t old cs hB hz hs h1
    simp [execOp, ho, hp, hx, Instr.storeAt, Instr.sureAddr, this]
  unfold Oper.wp
  rw [hrun]
  show K' (a.put o.dst undef) _
  rw [hN]
  exact hK _ _ (h _ (setRow_heap W g old cs te (0, 0) hB) ⟨rfl, rfl, rfl, by simp, fun i _ hne => setRow_other W g i cs (fun e => hne (by rw [e]))⟩)

set_option maxHeartbeats 4000000 in
set_option maxRecDepth 100000 in
theorem plain_calls (r : Rec) (A : Option Addr) (c : Nat) (w : World) (hd : RU w A r.Data) : HopSaid Tryd.prog 97 r (plainF r) r A c w := by
  unfold HopSaid
  have HB := Below.refl w.heap.size w
  have key : ∀ o1 o2 : Bool, (r.Pivot == 0) = o1 → (r.Code == 0) = o2 → Calls Tryd.prog 97 #[.agg (r.cells A c)] w fun e w' => ∃ A' c', e = .returned (.tuple #[.agg (r.cells A' c'), .bool (plainF r)]) ∧ HopData w.heap.size A c r.Data A' c' r.Data w' ∧ Below w.heap.size w w' := by
    intro o1 o2 h1 h2
    have e : plainF r = (o1 && o2) := by unfold plainF; rw [h1, h2]
    rw [e]
    clear e
    cases o1 <;> cases o2
    · go_enter Tryd.func97, Tryd.ntmps97
      go_wp2_with (first
        | ((with_reducible refine gate_dst (N := 1) rfl ?_); refine ev_box rfl rfl (r.cells A c) rfl ?_; intro g1 W1 hg1 hsz hbn; have hgr := grown_of_below hbn; have zg1 : w.heap.size ≤ g1 := (by have := HB.size; omega); replace HB := HB.grown hgr (by have := HB.size; omega) (by simp); have hcg1 := hg1.cell; have hfg1 := hg1.frozen; clear hsz hbn hgr)
        | ((with_reducible refine gate_dst (N := 2) rfl ?_); refine ev_alloc rfl rfl _ rec_zero ?_; intro g2 W2 hg2 hsz hbn; have hgr := grown_of_below hbn; have ng1g2 : g1 ≠ g2 := (by have := hg1.lt; omega); replace hg2 : Blk W2 g2 _ (Rec.zero.cells none 0) := hg2; have zg2 : w.heap.size ≤ g2 := (by have := HB.size; omega); replace hg1 := hg1.grown hgr (by simp); replace HB := HB.grown hgr (by have := HB.size; omega) (by simp); have hcg2 := hg2.cell; have hfg2 := hg2.frozen; replace hcg1 := hg1.cell; replace hfg1 := hg1.frozen; clear hsz hbn hgr))
      refine wp_region_held (S := fun w' => Blk w' g1 27 (r.cells A c)) (by kernel_rfl) ?_
      refine take_at (i := 0) 4 rfl rfl (by kernel_rfl) (by kernel_rfl) (by kernel_rfl) (fun _ _ _ h => h) (yields_row rfl rfl rfl (fun _ h => h) Tryd.underlying27 rfl rec_size) (hg1.drewN 1) ?_
      simp only [Act.put, List.setIfInBounds_toArray, List.set_cons_succ, List.set_cons_zero]
      refine take_at (i := 1) (v := .pointer (some ⟨g1, 9, none⟩)) 5 rfl rfl (by kernel_rfl) (by kernel_rfl) (by kernel_rfl) (fun _ _ _ h => h) (.inl ⟨rfl, fun w h => by simp [go_sem, h.cell, h1, h2]⟩) (hg1.drewN 1) ?_
      simp only [Act.put, List.setIfInBounds_toArray, List.set_cons_succ, List.set_cons_zero]
      refine take_at (i := 2) (v := .int .i64 r.Pivot) 6 rfl rfl (by kernel_rfl) (by kernel_rfl) (by kernel_rfl) (fun _ _ _ h => h) (.inl ⟨rfl, fun w h => by simp [go_sem, h.cell, h1, h2]⟩) (hg1.drewN 1) ?_
      simp only [Act.put, List.setIfInBounds_toArray, List.set_cons_succ, List.set_cons_zero]
      refine take_at (i := 3) (v := .bool false) 7 rfl rfl (by kernel_rfl) (by kernel_rfl) (by kernel_rfl) (fun _ _ _ h => h) (.inl ⟨rfl, fun w h => by simp [go_sem, h.cell, h1, h2]⟩) (hg1.drewN 1) ?_
      simp only [Act.put, List.setIfInBounds_toArray, List.set_cons_succ, List.set_cons_zero]
      refine take_at (i := 4) (v := .bool false) 8 rfl rfl (by kernel_rfl) (by kernel_rfl) (by kernel_rfl) (fun _ _ _ h => h) (.inl ⟨rfl, fun w h => by simp [go_sem, h.cell, h1, h2]⟩) (hg1.drewN 1) ?_
      simp only [Act.put, List.setIfInBounds_toArray, List.set_cons_succ, List.set_cons_zero]
      refine take_at (i := 5) (v := undef) 9 rfl rfl (by kernel_rfl) (by kernel_rfl) (by kernel_rfl) (fun _ _ _ h => h) (.inr ⟨by simp [Region.wanted, yielded], rfl⟩) (hg1.drewN 1) ?_
      simp only [Act.put, List.setIfInBounds_toArray, List.set_cons_succ, List.set_cons_zero]
      refine take_at (i := 6) (v := undef) 10 rfl rfl (by kernel_rfl) (by kernel_rfl) (by kernel_rfl) (fun _ _ _ h => h) (.inr ⟨by simp [Region.wanted, yielded], rfl⟩) (hg1.drewN 1) ?_
      simp only [Act.put, List.setIfInBounds_toArray, List.set_cons_succ, List.set_cons_zero]
      refine take_at (i := 7) (v := undef) 11 rfl rfl (by kernel_rfl) (by kernel_rfl) (by kernel_rfl) (fun _ _ _ h => h) (.inr ⟨by simp [Region.wanted, yielded], rfl⟩) (hg1.drewN 1) ?_
      simp only [Act.put, List.setIfInBounds_toArray, List.set_cons_succ, List.set_cons_zero]
      refine take_at (i := 8) (v := .bool false) 12 rfl rfl (by kernel_rfl) (by kernel_rfl) (by kernel_rfl) (fun _ _ _ h => h) (.inl ⟨by simp [Region.wanted, yielded], fun w h => by simp [go_sem, h.cell, h1, h2]⟩) (hg1.drewN 1) ?_
      simp only [Act.put, List.setIfInBounds_toArray, List.set_cons_succ, List.set_cons_zero]
      refine held_store (S := fun w' => Blk w' g1 27 (r.cells A c)) (P := Tryd.prog) (i := 9) (g := g2) (te := 27) (old := Rec.zero.cells none 0) (cs := r.cells A c) (t := 27) (p := .tmp 2) (x := .tmp 4) (by kernel_rfl) rfl rfl rfl rfl (hg2.drewN 1) (by simp [go_sem]) (by simp [go_sem]) rec_size rfl (cells_one _ _ _) (fun w3 hg2 hgr => ⟨(hg1.drewN 1).grown hgr (by intro e; injection e with e; omega), ?_⟩)
      have hg1' : Blk w3 g1 27 (r.cells A c) := (hg1.drewN 1).grown hgr (by intro e; injection e with e; omega)
      replace HB := (below_drewN HB 1).grown hgr (by have := (below_drewN HB 1).size; omega) (by intro k e; injection e with e; omega)
      refine take_at (i := 10) (v := .bool false) 3 rfl rfl (by kernel_rfl) (by kernel_rfl) (by kernel_rfl) (fun _ _ _ h => h) (.inl ⟨by simp [Region.wanted, yielded], fun w h => by simp [go_sem, h.cell, h1, h2]⟩) hg1' ?_
      simp only [Act.put, List.setIfInBounds_toArray, List.set_cons_succ, List.set_cons_zero]
      refine wpAnyH_done (by kernel_rfl) ?_ _
      go_wp2
      refine ret_row rfl hg2 rfl Tryd.underlying27 rfl rec_size rfl ?_
      exact ⟨A, c, rfl, HopData.stays, HB⟩
    · go_enter Tryd.func97, Tryd.ntmps97
      go_wp2_with (first
        | ((with_reducible refine gate_dst (N := 1) rfl ?_); refine ev_box rfl rfl (r.cells A c) rfl ?_; intro g1 W1 hg1 hsz hbn; have hgr := grown_of_below hbn; have zg1 : w.heap.size ≤ g1 := (by have := HB.size; omega); replace HB := HB.grown hgr (by have := HB.size; omega) (by simp); have hcg1 := hg1.cell; have hfg1 := hg1.frozen; clear hsz hbn hgr)
        | ((with_reducible refine gate_dst (N := 2) rfl ?_); refine ev_alloc rfl rfl _ rec_zero ?_; intro g2 W2 hg2 hsz hbn; have hgr := grown_of_below hbn; have ng1g2 : g1 ≠ g2 := (by have := hg1.lt; omega); replace hg2 : Blk W2 g2 _ (Rec.zero.cells none 0) := hg2; have zg2 : w.heap.size ≤ g2 := (by have := HB.size; omega); replace hg1 := hg1.grown hgr (by simp); replace HB := HB.grown hgr (by have := HB.size; omega) (by simp); have hcg2 := hg2.cell; have hfg2 := hg2.frozen; replace hcg1 := hg1.cell; replace hfg1 := hg1.frozen; clear hsz hbn hgr))
      refine wp_region_held (S := fun w' => Blk w' g1 27 (r.cells A c)) (by kernel_rfl) ?_
      refine take_at (i := 0) 4 rfl rfl (by kernel_rfl) (by kernel_rfl) (by kernel_rfl) (fun _ _ _ h => h) (yields_row rfl rfl rfl (fun _ h => h) Tryd.underlying27 rfl rec_size) (hg1.drewN 1) ?_
      simp only [Act.put, List.setIfInBounds_toArray, List.set_cons_succ, List.set_cons_zero]
      refine take_at (i := 1) (v := .pointer (some ⟨g1, 9, none⟩)) 5 rfl rfl (by kernel_rfl) (by kernel_rfl) (by kernel_rfl) (fun _ _ _ h => h) (.inl ⟨rfl, fun w h => by simp [go_sem, h.cell, h1, h2]⟩) (hg1.drewN 1) ?_
      simp only [Act.put, List.setIfInBounds_toArray, List.set_cons_succ, List.set_cons_zero]
      refine take_at (i := 2) (v := .int .i64 r.Pivot) 6 rfl rfl (by kernel_rfl) (by kernel_rfl) (by kernel_rfl) (fun _ _ _ h => h) (.inl ⟨rfl, fun w h => by simp [go_sem, h.cell, h1, h2]⟩) (hg1.drewN 1) ?_
      simp only [Act.put, List.setIfInBounds_toArray, List.set_cons_succ, List.set_cons_zero]
      refine take_at (i := 3) (v := .bool false) 7 rfl rfl (by kernel_rfl) (by kernel_rfl) (by kernel_rfl) (fun _ _ _ h => h) (.inl ⟨rfl, fun w h => by simp [go_sem, h.cell, h1, h2]⟩) (hg1.drewN 1) ?_
      simp only [Act.put, List.setIfInBounds_toArray, List.set_cons_succ, List.set_cons_zero]
      refine take_at (i := 4) (v := .bool false) 8 rfl rfl (by kernel_rfl) (by kernel_rfl) (by kernel_rfl) (fun _ _ _ h => h) (.inl ⟨rfl, fun w h => by simp [go_sem, h.cell, h1, h2]⟩) (hg1.drewN 1) ?_
      simp only [Act.put, List.setIfInBounds_toArray, List.set_cons_succ, List.set_cons_zero]
      refine take_at (i := 5) (v := undef) 9 rfl rfl (by kernel_rfl) (by kernel_rfl) (by kernel_rfl) (fun _ _ _ h => h) (.inr ⟨by simp [Region.wanted, yielded], rfl⟩) (hg1.drewN 1) ?_
      simp only [Act.put, List.setIfInBounds_toArray, List.set_cons_succ, List.set_cons_zero]
      refine take_at (i := 6) (v := undef) 10 rfl rfl (by kernel_rfl) (by kernel_rfl) (by kernel_rfl) (fun _ _ _ h => h) (.inr ⟨by simp [Region.wanted, yielded], rfl⟩) (hg1.drewN 1) ?_
      simp only [Act.put, List.setIfInBounds_toArray, List.set_cons_succ, List.set_cons_zero]
      refine take_at (i := 7) (v := undef) 11 rfl rfl (by kernel_rfl) (by kernel_rfl) (by kernel_rfl) (fun _ _ _ h => h) (.inr ⟨by simp [Region.wanted, yielded], rfl⟩) (hg1.drewN 1) ?_
      simp only [Act.put, List.setIfInBounds_toArray, List.set_cons_succ, List.set_cons_zero]
      refine take_at (i := 8) (v := .bool false) 12 rfl rfl (by kernel_rfl) (by kernel_rfl) (by kernel_rfl) (fun _ _ _ h => h) (.inl ⟨by simp [Region.wanted, yielded], fun w h => by simp [go_sem, h.cell, h1, h2]⟩) (hg1.drewN 1) ?_
      simp only [Act.put, List.setIfInBounds_toArray, List.set_cons_succ, List.set_cons_zero]
      refine held_store (S := fun w' => Blk w' g1 27 (r.cells A c)) (P := Tryd.prog) (i := 9) (g := g2) (te := 27) (old := Rec.zero.cells none 0) (cs := r.cells A c) (t := 27) (p := .tmp 2) (x := .tmp 4) (by kernel_rfl) rfl rfl rfl rfl (hg2.drewN 1) (by simp [go_sem]) (by simp [go_sem]) rec_size rfl (cells_one _ _ _) (fun w3 hg2 hgr => ⟨(hg1.drewN 1).grown hgr (by intro e; injection e with e; omega), ?_⟩)
      have hg1' : Blk w3 g1 27 (r.cells A c) := (hg1.drewN 1).grown hgr (by intro e; injection e with e; omega)
      replace HB := (below_drewN HB 1).grown hgr (by have := (below_drewN HB 1).size; omega) (by intro k e; injection e with e; omega)
      refine take_at (i := 10) (v := .bool false) 3 rfl rfl (by kernel_rfl) (by kernel_rfl) (by kernel_rfl) (fun _ _ _ h => h) (.inl ⟨by simp [Region.wanted, yielded], fun w h => by simp [go_sem, h.cell, h1, h2]⟩) hg1' ?_
      simp only [Act.put, List.setIfInBounds_toArray, List.set_cons_succ, List.set_cons_zero]
      refine wpAnyH_done (by kernel_rfl) ?_ _
      go_wp2
      refine ret_row rfl hg2 rfl Tryd.underlying27 rfl rec_size rfl ?_
      exact ⟨A, c, rfl, HopData.stays, HB⟩
    · go_enter Tryd.func97, Tryd.ntmps97
      go_wp2_with (first
        | ((with_reducible refine gate_dst (N := 1) rfl ?_); refine ev_box rfl rfl (r.cells A c) rfl ?_; intro g1 W1 hg1 hsz hbn; have hgr := grown_of_below hbn; have zg1 : w.heap.size ≤ g1 := (by have := HB.size; omega); replace HB := HB.grown hgr (by have := HB.size; omega) (by simp); have hcg1 := hg1.cell; have hfg1 := hg1.frozen; clear hsz hbn hgr)
        | ((with_reducible refine gate_dst (N := 2) rfl ?_); refine ev_alloc rfl rfl _ rec_zero ?_; intro g2 W2 hg2 hsz hbn; have hgr := grown_of_below hbn; have ng1g2 : g1 ≠ g2 := (by have := hg1.lt; omega); replace hg2 : Blk W2 g2 _ (Rec.zero.cells none 0) := hg2; have zg2 : w.heap.size ≤ g2 := (by have := HB.size; omega); replace hg1 := hg1.grown hgr (by simp); replace HB := HB.grown hgr (by have := HB.size; omega) (by simp); have hcg2 := hg2.cell; have hfg2 := hg2.frozen; replace hcg1 := hg1.cell; replace hfg1 := hg1.frozen; clear hsz hbn hgr))
      refine wp_region_held (S := fun w' => Blk w' g1 27 (r.cells A c)) (by kernel_rfl) ?_
      refine take_at (i := 0) 4 rfl rfl (by kernel_rfl) (by kernel_rfl) (by kernel_rfl) (fun _ _ _ h => h) (yields_row rfl rfl rfl (fun _ h => h) Tryd.underlying27 rfl rec_size) (hg1.drewN 1) ?_
      simp only [Act.put, List.setIfInBounds_toArray, List.set_cons_succ, List.set_cons_zero]
      refine take_at (i := 1) (v := .pointer (some ⟨g1, 9, none⟩)) 5 rfl rfl (by kernel_rfl) (by kernel_rfl) (by kernel_rfl) (fun _ _ _ h => h) (.inl ⟨rfl, fun w h => by simp [go_sem, h.cell, h1, h2]⟩) (hg1.drewN 1) ?_
      simp only [Act.put, List.setIfInBounds_toArray, List.set_cons_succ, List.set_cons_zero]
      refine take_at (i := 2) (v := .int .i64 r.Pivot) 6 rfl rfl (by kernel_rfl) (by kernel_rfl) (by kernel_rfl) (fun _ _ _ h => h) (.inl ⟨rfl, fun w h => by simp [go_sem, h.cell, h1, h2]⟩) (hg1.drewN 1) ?_
      simp only [Act.put, List.setIfInBounds_toArray, List.set_cons_succ, List.set_cons_zero]
      refine take_at (i := 3) (v := .bool true) 7 rfl rfl (by kernel_rfl) (by kernel_rfl) (by kernel_rfl) (fun _ _ _ h => h) (.inl ⟨rfl, fun w h => by simp [go_sem, h.cell, h1, h2]⟩) (hg1.drewN 1) ?_
      simp only [Act.put, List.setIfInBounds_toArray, List.set_cons_succ, List.set_cons_zero]
      refine take_at (i := 4) (v := .bool true) 8 rfl rfl (by kernel_rfl) (by kernel_rfl) (by kernel_rfl) (fun _ _ _ h => h) (.inl ⟨rfl, fun w h => by simp [go_sem, h.cell, h1, h2]⟩) (hg1.drewN 1) ?_
      simp only [Act.put, List.setIfInBounds_toArray, List.set_cons_succ, List.set_cons_zero]
      refine take_at (i := 5) (v := .pointer (some ⟨g1, 7, none⟩)) 9 rfl rfl (by kernel_rfl) (by kernel_rfl) (by kernel_rfl) (fun _ _ _ h => h) (.inl ⟨by simp [Region.wanted, yielded], fun w h => by simp [go_sem, h.cell, h1, h2]⟩) (hg1.drewN 1) ?_
      simp only [Act.put, List.setIfInBounds_toArray, List.set_cons_succ, List.set_cons_zero]
      refine take_at (i := 6) (v := .int .i64 r.Code) 10 rfl rfl (by kernel_rfl) (by kernel_rfl) (by kernel_rfl) (fun _ _ _ h => h) (.inl ⟨by simp [Region.wanted, yielded], fun w h => by simp [go_sem, h.cell, h1, h2]⟩) (hg1.drewN 1) ?_
      simp only [Act.put, List.setIfInBounds_toArray, List.set_cons_succ, List.set_cons_zero]
      refine take_at (i := 7) (v := .bool false) 11 rfl rfl (by kernel_rfl) (by kernel_rfl) (by kernel_rfl) (fun _ _ _ h => h) (.inl ⟨by simp [Region.wanted, yielded], fun w h => by simp [go_sem, h.cell, h1, h2]⟩) (hg1.drewN 1) ?_
      simp only [Act.put, List.setIfInBounds_toArray, List.set_cons_succ, List.set_cons_zero]
      refine take_at (i := 8) (v := .bool false) 12 rfl rfl (by kernel_rfl) (by kernel_rfl) (by kernel_rfl) (fun _ _ _ h => h) (.inl ⟨by simp [Region.wanted, yielded], fun w h => by simp [go_sem, h.cell, h1, h2]⟩) (hg1.drewN 1) ?_
      simp only [Act.put, List.setIfInBounds_toArray, List.set_cons_succ, List.set_cons_zero]
      refine held_store (S := fun w' => Blk w' g1 27 (r.cells A c)) (P := Tryd.prog) (i := 9) (g := g2) (te := 27) (old := Rec.zero.cells none 0) (cs := r.cells A c) (t := 27) (p := .tmp 2) (x := .tmp 4) (by kernel_rfl) rfl rfl rfl rfl (hg2.drewN 1) (by simp [go_sem]) (by simp [go_sem]) rec_size rfl (cells_one _ _ _) (fun w3 hg2 hgr => ⟨(hg1.drewN 1).grown hgr (by intro e; injection e with e; omega), ?_⟩)
      have hg1' : Blk w3 g1 27 (r.cells A c) := (hg1.drewN 1).grown hgr (by intro e; injection e with e; omega)
      replace HB := (below_drewN HB 1).grown hgr (by have := (below_drewN HB 1).size; omega) (by intro k e; injection e with e; omega)
      refine take_at (i := 10) (v := .bool false) 3 rfl rfl (by kernel_rfl) (by kernel_rfl) (by kernel_rfl) (fun _ _ _ h => h) (.inl ⟨by simp [Region.wanted, yielded], fun w h => by simp [go_sem, h.cell, h1, h2]⟩) hg1' ?_
      simp only [Act.put, List.setIfInBounds_toArray, List.set_cons_succ, List.set_cons_zero]
      refine wpAnyH_done (by kernel_rfl) ?_ _
      go_wp2
      refine ret_row rfl hg2 rfl Tryd.underlying27 rfl rec_size rfl ?_
      exact ⟨A, c, rfl, HopData.stays, HB⟩
    · go_enter Tryd.func97, Tryd.ntmps97
      go_wp2_with (first
        | ((with_reducible refine gate_dst (N := 1) rfl ?_); refine ev_box rfl rfl (r.cells A c) rfl ?_; intro g1 W1 hg1 hsz hbn; have hgr := grown_of_below hbn; have zg1 : w.heap.size ≤ g1 := (by have := HB.size; omega); replace HB := HB.grown hgr (by have := HB.size; omega) (by simp); have hcg1 := hg1.cell; have hfg1 := hg1.frozen; clear hsz hbn hgr)
        | ((with_reducible refine gate_dst (N := 2) rfl ?_); refine ev_alloc rfl rfl _ rec_zero ?_; intro g2 W2 hg2 hsz hbn; have hgr := grown_of_below hbn; have ng1g2 : g1 ≠ g2 := (by have := hg1.lt; omega); replace hg2 : Blk W2 g2 _ (Rec.zero.cells none 0) := hg2; have zg2 : w.heap.size ≤ g2 := (by have := HB.size; omega); replace hg1 := hg1.grown hgr (by simp); replace HB := HB.grown hgr (by have := HB.size; omega) (by simp); have hcg2 := hg2.cell; have hfg2 := hg2.frozen; replace hcg1 := hg1.cell; replace hfg1 := hg1.frozen; clear hsz hbn hgr))
      refine wp_region_held (S := fun w' => Blk w' g1 27 (r.cells A c)) (by kernel_rfl) ?_
      refine take_at (i := 0) 4 rfl rfl (by kernel_rfl) (by kernel_rfl) (by kernel_rfl) (fun _ _ _ h => h) (yields_row rfl rfl rfl (fun _ h => h) Tryd.underlying27 rfl rec_size) (hg1.drewN 1) ?_
      simp only [Act.put, List.setIfInBounds_toArray, List.set_cons_succ, List.set_cons_zero]
      refine take_at (i := 1) (v := .pointer (some ⟨g1, 9, none⟩)) 5 rfl rfl (by kernel_rfl) (by kernel_rfl) (by kernel_rfl) (fun _ _ _ h => h) (.inl ⟨rfl, fun w h => by simp [go_sem, h.cell, h1, h2]⟩) (hg1.drewN 1) ?_
      simp only [Act.put, List.setIfInBounds_toArray, List.set_cons_succ, List.set_cons_zero]
      refine take_at (i := 2) (v := .int .i64 r.Pivot) 6 rfl rfl (by kernel_rfl) (by kernel_rfl) (by kernel_rfl) (fun _ _ _ h => h) (.inl ⟨rfl, fun w h => by simp [go_sem, h.cell, h1, h2]⟩) (hg1.drewN 1) ?_
      simp only [Act.put, List.setIfInBounds_toArray, List.set_cons_succ, List.set_cons_zero]
      refine take_at (i := 3) (v := .bool true) 7 rfl rfl (by kernel_rfl) (by kernel_rfl) (by kernel_rfl) (fun _ _ _ h => h) (.inl ⟨rfl, fun w h => by simp [go_sem, h.cell, h1, h2]⟩) (hg1.drewN 1) ?_
      simp only [Act.put, List.setIfInBounds_toArray, List.set_cons_succ, List.set_cons_zero]
      refine take_at (i := 4) (v := .bool true) 8 rfl rfl (by kernel_rfl) (by kernel_rfl) (by kernel_rfl) (fun _ _ _ h => h) (.inl ⟨rfl, fun w h => by simp [go_sem, h.cell, h1, h2]⟩) (hg1.drewN 1) ?_
      simp only [Act.put, List.setIfInBounds_toArray, List.set_cons_succ, List.set_cons_zero]
      refine take_at (i := 5) (v := .pointer (some ⟨g1, 7, none⟩)) 9 rfl rfl (by kernel_rfl) (by kernel_rfl) (by kernel_rfl) (fun _ _ _ h => h) (.inl ⟨by simp [Region.wanted, yielded], fun w h => by simp [go_sem, h.cell, h1, h2]⟩) (hg1.drewN 1) ?_
      simp only [Act.put, List.setIfInBounds_toArray, List.set_cons_succ, List.set_cons_zero]
      refine take_at (i := 6) (v := .int .i64 r.Code) 10 rfl rfl (by kernel_rfl) (by kernel_rfl) (by kernel_rfl) (fun _ _ _ h => h) (.inl ⟨by simp [Region.wanted, yielded], fun w h => by simp [go_sem, h.cell, h1, h2]⟩) (hg1.drewN 1) ?_
      simp only [Act.put, List.setIfInBounds_toArray, List.set_cons_succ, List.set_cons_zero]
      refine take_at (i := 7) (v := .bool true) 11 rfl rfl (by kernel_rfl) (by kernel_rfl) (by kernel_rfl) (fun _ _ _ h => h) (.inl ⟨by simp [Region.wanted, yielded], fun w h => by simp [go_sem, h.cell, h1, h2]⟩) (hg1.drewN 1) ?_
      simp only [Act.put, List.setIfInBounds_toArray, List.set_cons_succ, List.set_cons_zero]
      refine take_at (i := 8) (v := .bool true) 12 rfl rfl (by kernel_rfl) (by kernel_rfl) (by kernel_rfl) (fun _ _ _ h => h) (.inl ⟨by simp [Region.wanted, yielded], fun w h => by simp [go_sem, h.cell, h1, h2]⟩) (hg1.drewN 1) ?_
      simp only [Act.put, List.setIfInBounds_toArray, List.set_cons_succ, List.set_cons_zero]
      refine held_store (S := fun w' => Blk w' g1 27 (r.cells A c)) (P := Tryd.prog) (i := 9) (g := g2) (te := 27) (old := Rec.zero.cells none 0) (cs := r.cells A c) (t := 27) (p := .tmp 2) (x := .tmp 4) (by kernel_rfl) rfl rfl rfl rfl (hg2.drewN 1) (by simp [go_sem]) (by simp [go_sem]) rec_size rfl (cells_one _ _ _) (fun w3 hg2 hgr => ⟨(hg1.drewN 1).grown hgr (by intro e; injection e with e; omega), ?_⟩)
      have hg1' : Blk w3 g1 27 (r.cells A c) := (hg1.drewN 1).grown hgr (by intro e; injection e with e; omega)
      replace HB := (below_drewN HB 1).grown hgr (by have := (below_drewN HB 1).size; omega) (by intro k e; injection e with e; omega)
      refine take_at (i := 10) (v := .bool true) 3 rfl rfl (by kernel_rfl) (by kernel_rfl) (by kernel_rfl) (fun _ _ _ h => h) (.inl ⟨by simp [Region.wanted, yielded], fun w h => by simp [go_sem, h.cell, h1, h2]⟩) hg1' ?_
      simp only [Act.put, List.setIfInBounds_toArray, List.set_cons_succ, List.set_cons_zero]
      refine wpAnyH_done (by kernel_rfl) ?_ _
      go_wp2
      refine ret_row rfl hg2 rfl Tryd.underlying27 rfl rec_size rfl ?_
      exact ⟨A, c, rfl, HopData.stays, HB⟩
  exact key _ _ rfl rfl
end Go.Proofs.YtikodgaomhmbmaaDoor
namespace Go.Proofs.YtikodgaomhmbmaaDoor
open Go.RowKit

/-- K behind a normal end, Q behind any other. -/
def Behind (K : Act → World → Prop) (Q : Exit → Act → World → Prop) : Exit → Act → World → Prop
  | .normal, a, w => K a w
  | x, a, w => Q x a w
theorem wpOp_of_list {P : Program} {ops : Array Oper} {Q : Exit → Act → World → Prop} {i : Nat} {o : Oper} {K : Act → World → Prop} {a : Act} {w : World} (hi : ops[i]? = some o) (h : wpList P ops (Behind K Q) [o] a w) : wpOp P ops Q i K a w := by
  unfold wpOp
  rw [hi]
  show if Region.wanted o (yielded ops a.tmps) = true then _ else _
  unfold wpList at h
  split
  · rename_i hw
    rw [if_pos hw] at h
    rcases h with h | ⟨h1, a', w', h2⟩
    · refine .inl ?_
      unfold Oper.wp at *
      generalize (execOp a.eval o).run P w = r at h ⊢
      cases r with
      | ok n w' =>
        cases n
        all_goals first
          | exact h
          | exact Calls.mono h (fun e w'' he => by
              cases e
              all_goals first
                | exact he
                | (obtain ⟨a1, w1, h1⟩ := he; exact ⟨a1, w1, h1⟩))
      | halt x w' => cases x <;> exact h
    · exact .inr ⟨h1, a', w', h2⟩
  · rename_i hw
    rw [if_neg hw] at h
    exact h
/-- The beginning: the world behind the draw is like the one ahead. -/
theorem held_start {P : Program} {ops : Array Oper} {Q : Exit → Act → World → Prop} (S : World → Prop) {id : Nat} {a : Act} {w : World} (hm : P.follows .mixedOrders = true)
    (h : ∀ w', Below w.heap.size w w' → wpAnyH P .any ops Q S ops.size (Array.replicate ops.size false) a w') : (Code.region id ops true).wp P Q a w := wp_region_held hm (h _ (Below.refl _ _).drew)
/-- The one operation that may come up. -/
theorem held_one {P : Program} {ops : Array Oper} {Q : Exit → Act → World → Prop} {S : World → Prop} {i : Nat} {o : Oper} {fuel : Nat} {listed : Array Bool} {a : Act} {w : World} (hr : Region.ready .any ops listed = [i]) (hi : ops[i]? = some o)
    (h : wpList P ops (Behind (fun a' w' => S w' ∧ wpAnyH P .any ops Q S fuel (listed.setIfInBounds i true) a' w') Q) [o] a w) : wpAnyH P .any ops Q S (fuel + 1) listed a w :=
  wpAnyH_all hr (by simp) fun j hj => by
    obtain rfl : j = i := by simpa using hj
    exact wpOp_of_list hi h
/-- One of two. -/
theorem held_two {P : Program} {ops : Array Oper} {Q : Exit → Act → World → Prop} {S : World → Prop} {i j : Nat} {o o' : Oper} {fuel : Nat} {listed : Array Bool} {a : Act} {w : World} (hr : Region.ready .any ops listed = [i, j]) (hi : ops[i]? = some o) (hj : ops[j]? = some o')
    (h : wpList P ops (Behind (fun a' w' => S w' ∧ wpAnyH P .any ops Q S fuel (listed.setIfInBounds i true) a' w') Q) [o] a w)
    (h' : wpList P ops (Behind (fun a' w' => S w' ∧ wpAnyH P .any ops Q S fuel (listed.setIfInBounds j true) a' w') Q) [o'] a w) : wpAnyH P .any ops Q S (fuel + 1) listed a w :=
  wpAnyH_all hr (by simp) fun x hx => by
    rcases (by simpa using hx : x = i ∨ x = j) with rfl | rfl
    · exact wpOp_of_list hi h
    · exact wpOp_of_list hj h'
theorem yields_at {P : Program} {ops : Array Oper} {S : World → Prop} {o : Oper} {a : Act} (hw : Region.wanted o (yielded ops a.tmps) = true) {ty : TypeId} {x : Operand} (ho : o.op = .load ty x) {ad : Addr} {cs : Array Value} {d : TypeDesc} (hx : a.eval x = .pointer (some ad))
    (hS : ∀ w, S w → ∀ j v, cs[j]? = some v → w.cell? (ad.add j) = some v) (hu : P.underlying ty = some d) (hd : (match d with | .struct _ | .array _ _ => true | _ => false) = true) (hi : (P.info? ty).map (·.size) = some cs.size) : YieldsIf P ops S o (.agg cs) a :=
  .inl ⟨hw, fun w h => by simp [execOp, ho, hx, Instr.loadAt, Instr.sureAddr, run_loadVar_at w ad ty cs d (hS w h) hu hd hi]⟩
section
variable {P : Program} {ops : Array Oper} {rest : List Oper} {o : Oper} {a : Act} {Q : Exit → Act → World → Prop} {W : World}
/-- A call, as an operation by itself. -/
theorem ev_call (hgd : o.guard = none) {f : FuncId} {xs : Array Operand} {ats : Array TypeId} (ho : o.op = .call { callee := .value (.func f), args := xs, argTypes := ats }) (hf : Coded P f) {args : Array Value} (hargs : xs.map a.eval = args)
    (h : Calls P f args W fun e w' => ∃ u, e = .returned u ∧ wpList P ops Q rest (a.put o.dst u) w') : wpList P ops Q (o :: rest) a W := by
  obtain ⟨fn, c, h1, h2, h3⟩ := hf
  have hfv : a.eval (.func f) = .func (.func f) #[] #[] := rfl
  have hrun : (execOp a.eval o).run P W = .ok (.enter f args) W := by
    simp [execOp, ho, resolve, Deferred.ofValue, hfv, hargs, invoke, callFunc, Sem.run_bind, h1, beq_eq_false_iff_ne.1 h2, h3, Result.andThen]
  refine wpList_plain hgd fun K hK => ?_
  unfold Oper.wp
  rw [hrun, Oper.upon_enter]
  exact h.mono fun e w' ⟨u, he, hw⟩ => by subst he; exact hK _ _ hw
theorem ev_call1 (hgd : o.guard = none) {f : FuncId} {x : Operand} {ats : Array TypeId} (ho : o.op = .call { callee := .value (.func f), args := #[x], argTypes := ats }) (hf : Coded P f) {v : Value} (hx : a.eval x = v)
    (h : Calls P f #[v] W fun e w' => ∃ u, e = .returned u ∧ wpList P ops Q rest (a.put o.dst u) w') : wpList P ops Q (o :: rest) a W := ev_call hgd ho hf (by simp [hx]) h
theorem ev_call2 (hgd : o.guard = none) {f : FuncId} {x y : Operand} {ats : Array TypeId} (ho : o.op = .call { callee := .value (.func f), args := #[x, y], argTypes := ats }) (hf : Coded P f) {v u : Value} (hx : a.eval x = v) (hy : a.eval y = u)
    (h : Calls P f #[v, u] W fun e w' => ∃ z, e = .returned z ∧ wpList P ops Q rest (a.put o.dst z) w') : wpList P ops Q (o :: rest) a W := ev_call hgd ho hf (by simp [hx, hy]) h
/-- A struct is stored into a part of a block. -/
theorem ev_store_part (hgd : o.guard = none) (hN : o.dst = none) {t : TypeId} {p x : Operand} (ho : o.op = .store t p x) {g off : Nat} {te : TypeId} {old cs new : Array Value} (hB : Blk W g te old)
    (hp : a.eval p = .pointer (some ⟨g, off, none⟩)) (hx : a.eval x = .agg cs) (hi : (P.info? t).map (·.size) = some cs.size) (hfit : off + cs.size ≤ old.size) (h1 : cs.all (·.oneCell') = true)
    (hnew : (old.toList.take off ++ cs.toList ++ old.toList.drop (off + cs.size)).toArray = new)
    (h : ∀ w1, Blk w1 g te new → W.grownBy w1 (some g) → wpList P ops Q rest a w1) : wpList P ops Q (o :: rest) a W := by
  have hst := run_storeCells_at P g off te cs.toList 0 old W hB (by simpa using hfit) (fun v hv => Array.all_eq_true_iff_forall_mem.1 h1 v (by simpa using hv))
  have hst2 : (storeVar t ⟨g, off, none⟩ (.agg cs)).run P W = .ok () (W.setRow g new) := by
    obtain ⟨i, hq, hs⟩ := Option.map_eq_some_iff.1 hi
    simp only [Nat.add_zero, Array.length_toList] at hst
    rw [hnew] at hst
    simp [storeVar, sizeOf, typeInfo, hq, Value.cells, hs, hst]
  refine ev_skip hgd hN (w1 := W.setRow g new) ?_ (h _ (setRow_heap W g old new te (0, 0) hB) ?_)
  · simp [execOp, ho, hp, hx, Instr.storeAt, Instr.sureAddr, hst2]
  · exact ⟨rfl, rfl, rfl, by simp, fun i _ hne => setRow_other W g i new (fun e => hne (by rw [e]))⟩
end
end Go.Proofs.YtikodgaomhmbmaaDoor
