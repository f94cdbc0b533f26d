/-
  package lift, walked: the steps, turned, Up, UpAll, Down; data of an answer is a row of its own.
-/
import Derived.Test.YtikodgaomhmbmaaDoorD0
import Derived.Laws.ResultCell
import Derived.Laws.IdiomStrings
import Derived.OrdersHeld
import Derived.RegionTactic
import Derived.Test.YtikodgaomhmbmaaDoorC3
set_option linter.unusedVariables false
set_option linter.unusedSimpArgs false
namespace Go.Proofs.YtikodgaomhmbmaaDoor
open Go.RowKit
attribute [local go_sem] Rec.size_ Rec.g0 Rec.g1 Rec.g2 Rec.g3 Rec.g4 Rec.g5 Rec.g6 Rec.g7 Rec.g8 Rec.g9 Rec.g10 Rec.g11 Rec.fold

theorem results_row_tmp {P : Program} {fn : Func} {p u : Tmp} {ty : TypeId} (h : fn.results = #[.cell p ty, .tmp u]) (tmps : Array Value) (w : World) (g : Nat) (t : TypeId) (cs : Array Value) (fr : Nat × Nat) (d : TypeDesc)
    (hp : tmps.getD p undef = .pointer (some ⟨g, 0, none⟩)) (hg : w.heap[g]? = some (.cells cs t fr))
    (hu : P.underlying ty = some d) (hd : (match d with | .struct _ | .array _ _ => true | _ => false) = true) (hi : (P.info? ty).map (·.size) = some cs.size) :
    (results fn tmps).run P w = .ok (.tuple #[.agg cs, tmps.getD u undef]) w := by
  rw [results_cell_tmp h tmps P w, hp]
  simp [asAddr, Result.andThen, run_loadVar_row w g t ty cs fr d hg hu hd hi]
theorem ret_row {P : Program} {fn : Func} {R : Ending → World → Prop} {a : Act} {w : World} {p u : Tmp} {ty : TypeId} {g : Nat} {t : TypeId} {cs : Array Value} {d : TypeDesc} (h : fn.results = #[.cell p ty, .tmp u])
    (hg : Blk w g t cs) (hp : a.tmps.getD p undef = .pointer (some ⟨g, 0, none⟩))
    (hu : P.underlying ty = some d) (hd : (match d with | .struct _ | .array _ _ => true | _ => false) = true) (hi : (P.info? ty).map (·.size) = some cs.size) (hdf : a.defers = [])
    (hR : R (.returned (.tuple #[.agg cs, a.tmps.getD u undef])) w) : bodyPost P fn R .ret a w :=
  bodyPost_ret (results_row_tmp h _ _ g _ _ (0, 0) _ hp hg hu hd hi) hdf hR

section
variable {P : Program} {ops : Array Oper} {rest : List Oper} {o : Oper} {a : Act} {Q : Exit → Act → World → Prop} {W : World}
theorem ev_bytes (hgd : o.guard = none) {src dst : TypeId} {x : Operand} (ho : o.op = .convert src dst x) (hs : P.underlying src = some .string) (hd : P.underlying dst = some (.slice 5)) (he : P.underlying 5 = some (.int .u8)) {s : ByteArray} (hx : a.eval x = .string s)
    (h : ∀ A c w1, RU w1 A s.data.toList → Below W.heap.size W w1 → wpList P ops Q rest (a.put o.dst (.slice A s.data.toList.length c)) w1) : wpList P ops Q (o :: rest) a W := by
  refine ev_run hgd (w1 := W.drew.alloc (.cells (bytesRow s (grownCap W s.size 0 5)) 5 ((bytesRow s (grownCap W s.size 0 5)).size, (bytesRow s (grownCap W s.size 0 5)).size + 1))) (v := .slice (some ⟨W.heap.size, 0, none⟩) s.size (grownCap W s.size 0 5)) ?_
    (h (some ⟨W.heap.size, 0, none⟩) (grownCap W s.size 0 5) _ ?_ (below_alloc (Below.refl _ _).drew _))
  · have := run_bytes_of_string (P := P) W src dst 5 s hs hd he
    simp [execOp, ho, hx, this]
  · have hnew : (W.drew.alloc (.cells (bytesRow s (grownCap W s.size 0 5)) 5 ((bytesRow s (grownCap W s.size 0 5)).size, (bytesRow s (grownCap W s.size 0 5)).size + 1))).heap[W.heap.size]? = some (.cells (bytesRow s (grownCap W s.size 0 5)) 5 ((bytesRow s (grownCap W s.size 0 5)).size, (bytesRow s (grownCap W s.size 0 5)).size + 1)) := heap_alloc_new W.drew _
    refine ⟨⟨by simp [u8s], fun _ => ⟨_, rfl, ?_, fun j u hu => ?_⟩⟩, fun _ => ⟨_, _, _, rfl, hnew⟩⟩
    · exact (Array.getElem?_eq_some_iff.1 hnew).1
    · have hj : j < s.data.size := by
        have := (List.getElem?_eq_some_iff.1 hu).1
        simpa [u8s] using this
      have e1 : (⟨W.heap.size, 0, none⟩ : Addr).add j = ⟨W.heap.size, j, none⟩ := by unfold Addr.add; split <;> simp_all
      rw [e1, cell_of_row _ _ _ _ _ _ hnew, bytesRow_at s _ j hj, ← hu, u8s_get (by simpa using hj)]
      simp
theorem ev_bytes_ob (hgd : o.guard = none) {src dst : TypeId} {x : Operand} (ho : o.op = .convert src dst x) (hs : P.underlying src = some .string) (hd : P.underlying dst = some (.slice 5)) (he : P.underlying 5 = some (.int .u8)) {s : ByteArray} (hx : a.eval x = .string s)
    (h : ∀ A c w1, OB w1 W.heap.size A c s.data.toList → Below W.heap.size W w1 → wpList P ops Q rest (a.put o.dst (.slice A s.data.toList.length c)) w1) : wpList P ops Q (o :: rest) a W := by
  refine ev_run hgd (w1 := W.drew.alloc (.cells (bytesRow s (grownCap W s.size 0 5)) 5 ((bytesRow s (grownCap W s.size 0 5)).size, (bytesRow s (grownCap W s.size 0 5)).size + 1))) (v := .slice (some ⟨W.heap.size, 0, none⟩) s.size (grownCap W s.size 0 5)) ?_
    (h (some ⟨W.heap.size, 0, none⟩) (grownCap W s.size 0 5) _ ?_ (below_alloc (Below.refl _ _).drew _))
  · have := run_bytes_of_string (P := P) W src dst 5 s hs hd he
    simp [execOp, ho, hx, this]
  · have hnew : (W.drew.alloc (.cells (bytesRow s (grownCap W s.size 0 5)) 5 ((bytesRow s (grownCap W s.size 0 5)).size, (bytesRow s (grownCap W s.size 0 5)).size + 1))).heap[W.heap.size]? = some (.cells (bytesRow s (grownCap W s.size 0 5)) 5 ((bytesRow s (grownCap W s.size 0 5)).size, (bytesRow s (grownCap W s.size 0 5)).size + 1)) := heap_alloc_new W.drew _
    have hge := grownCap_ge W s.size 0 5
    have hsz : s.size = s.data.toList.length := rfl
    have hz : (bytesRow s (grownCap W s.size 0 5)).size = grownCap W s.size 0 5 := by
      simp only [bytesRow, Array.size_append, Array.size_map, Array.size_replicate]
      have : s.data.size = s.size := rfl
      omega
    refine .inr ⟨W.heap.size, _, _, rfl, Nat.le_refl _, hnew, .inr (Nat.le_refl _), by omega, hz, ?_⟩
    apply List.ext_getElem?
    intro j
    rw [List.getElem?_take]
    by_cases hj : j < s.data.toList.length
    · rw [if_pos hj, Array.getElem?_toList, bytesRow_at s _ j (by simpa using hj), u8s_get hj]
      simp
    · rw [if_neg hj, List.getElem?_eq_none (by simpa [u8s] using hj)]
end

/-- Data that is as it was, or a row of one's own. -/
def HopData (base : Nat) (A : Option Addr) (c : Nat) (l : List UInt8) (A' : Option Addr) (c' : Nat) (l' : List UInt8) (w' : World) : Prop := (A' = A ∧ c' = c ∧ l' = l) ∨ OB w' base A' c' l'
theorem HopData.stays {base : Nat} {A : Option Addr} {c : Nat} {l : List UInt8} {w' : World} : HopData base A c l A c l w' := .inl ⟨rfl, rfl, rfl⟩
theorem HopData.own {base : Nat} {A : Option Addr} {c : Nat} {l : List UInt8} {A' : Option Addr} {c' : Nat} {l' : List UInt8} {w' : World} (h : OB w' base A' c' l') : HopData base A c l A' c' l' w' := .inr h
/-- What a step's function answers: the data is the argument's, or a row of one's own. -/
def HopSaid (P : Program) (f : Nat) (r' : Rec) (b : Bool) (r : Rec) (A : Option Addr) (c : Nat) (w : World) : Prop :=
  Calls P f #[.agg (r.cells A c)] w fun e w' => ∃ A' c', e = .returned (.tuple #[.agg (r'.cells A' c'), .bool b]) ∧ HopData w.heap.size A c r.Data A' c' r'.Data w' ∧ Below w.heap.size w w'
theorem hop_own {P : Program} {f : Nat} {r' : Rec} {b : Bool} {r : Rec} {A : Option Addr} {c base : Nat} {w : World} (h : HopSaid P f r' b r A c w) (hB : OB w base A c r.Data) (hle : base ≤ w.heap.size) :
    Calls P f #[.agg (r.cells A c)] w fun e w' => ∃ A' c', e = .returned (.tuple #[.agg (r'.cells A' c'), .bool b]) ∧ OB w' base A' c' r'.Data ∧ Below w.heap.size w w' :=
  Calls.mono h fun e w' ⟨A', c', he, hd, hb⟩ => ⟨A', c', he, by
    rcases hd with ⟨rfl, rfl, e⟩ | hd
    · rw [e]; exact hB.next hb
    · exact hd.mono hle, hb⟩

set_option maxRecDepth 100000 in
theorem stay_calls (r : Rec) (A : Option Addr) (c : Nat) (w : World) (hd : RU w A r.Data) : HopSaid Tryd.prog 83 r true r A c w := by
  unfold HopSaid
  have HB := Below.refl w.heap.size w
  go_enter Tryd.func83, Tryd.ntmps83
  go_wp2_with (first
    | ((with_reducible refine gate_dst (N := 1) rfl ?_); refine ev_box rfl rfl (r.cells A c) rfl ?_; intro g1 W1 hg1 hsz hbn; have hgr := grown_of_below hbn; have zg1 : w.heap.size ≤ g1 := (by have := HB.size; omega); replace HB := HB.grown hgr (by have := HB.size; omega) (by simp); have hcg1 := hg1.cell; have hfg1 := hg1.frozen; clear hsz hbn hgr)
    | ((with_reducible refine gate_dst (N := 2) rfl ?_); refine ev_alloc rfl rfl _ rec_zero ?_; intro g2 W2 hg2 hsz hbn; have hgr := grown_of_below hbn; have ng1g2 : g1 ≠ g2 := (by have := hg1.lt; omega); replace hg2 : Blk W2 g2 _ (Rec.zero.cells none 0) := hg2; have zg2 : w.heap.size ≤ g2 := (by have := HB.size; omega); replace hg1 := hg1.grown hgr (by simp); replace HB := HB.grown hgr (by have := HB.size; omega) (by simp); have hcg2 := hg2.cell; have hfg2 := hg2.frozen; replace hcg1 := hg1.cell; replace hfg1 := hg1.frozen; clear hsz hbn hgr)
    | ((with_reducible refine gate_dst (N := 4) rfl ?_); refine wpList_load_row rfl _ _ rfl g1 rfl _ _ (0, 0) _ hg1 Tryd.underlying27 rfl rec_size ?_)
    | ((with_reducible refine gate_store (p := 2) rfl ?_); refine ev_store_row (cs := r.cells A c) rfl rfl rfl hg2 rfl rfl rec_size rfl (cells_one _ _ _) ?_; intro W3 hgn hgr; replace hg1 := hg1.grown hgr (by intro e; injection e with e; omega); replace HB := HB.grown hgr (by have := HB.size; omega) (by intro k e; injection e with e; omega); replace hg2 := hgn; replace hcg1 := hg1.cell; replace hfg1 := hg1.frozen; replace hcg2 := hg2.cell; replace hfg2 := hg2.frozen; clear hgn hgr))
  refine ret_row rfl hg2 rfl Tryd.underlying27 rfl rec_size rfl ?_
  exact ⟨A, c, rfl, HopData.stays, HB⟩

set_option maxRecDepth 100000 in
theorem fill_calls (r : Rec) (A : Option Addr) (c : Nat) (w : World) (hd : RU w A r.Data) : HopSaid Tryd.prog 96 (fillR r) true r A c w := by
  unfold HopSaid
  have HB := Below.refl w.heap.size w
  by_cases k1 : r.Kind = 1
  · have e : fillR r = { r with Name := ⟨r.Data.toArray⟩, Data := [], Count := r.Step, Step := 0 } := if_pos k1
    rw [e]
    clear e
    have t1 := int_beq_true k1
    clear k1
    go_enter Tryd.func96, Tryd.ntmps96
    go_wp2_with (first
      | ((with_reducible refine gate_dst (N := 1) rfl ?_); refine ev_box rfl rfl (r.cells A c) rfl ?_; intro g1 W1 hg1 hsz hbn; have hgr := grown_of_below hbn; have zg1 : w.heap.size ≤ g1 := (by have := HB.size; omega); replace HB := HB.grown hgr (by have := HB.size; omega) (by simp); have hcg1 := hg1.cell; have hfg1 := hg1.frozen; clear hsz hbn hgr)
      | ((with_reducible refine gate_dst (N := 2) rfl ?_); refine ev_alloc rfl rfl _ rec_zero ?_; intro g2 W2 hg2 hsz hbn; have hgr := grown_of_below hbn; have ng1g2 : g1 ≠ g2 := (by have := hg1.lt; omega); replace hg2 : Blk W2 g2 _ (Rec.zero.cells none 0) := hg2; have zg2 : w.heap.size ≤ g2 := (by have := HB.size; omega); replace hg1 := hg1.grown hgr (by simp); replace HB := HB.grown hgr (by have := HB.size; omega) (by simp); have hcg2 := hg2.cell; have hfg2 := hg2.frozen; replace hcg1 := hg1.cell; replace hfg1 := hg1.frozen; clear hsz hbn hgr; have cv := conv_bytes (hd.next HB).rb c)
      | ((with_reducible refine gate_store (p := 11) rfl ?_); refine ev_store_cell rfl rfl rfl hg1 rfl (i := 10) (v := .string ⟨r.Data.toArray⟩) rfl rfl (by kernel_rfl) (by first | exact (show (10 : Nat) < 12 by decide) | exact (show (10 : Nat) < 16 by decide) | exact (show (10 : Nat) < 6 by decide)) ?_; intro W3 hgn hgr; replace hgn : Blk W3 g1 _ (({ r with Name := ⟨r.Data.toArray⟩ } : Rec).cells A c) := hgn; replace hg2 := hg2.grown hgr (by intro e; injection e with e; omega); replace HB := HB.grown hgr (by have := HB.size; omega) (by intro k e; injection e with e; omega); replace hg1 := hgn; replace hcg1 := hg1.cell; replace hfg1 := hg1.frozen; replace hcg2 := hg2.cell; replace hfg2 := hg2.frozen; clear hgn hgr)
      | ((with_reducible refine gate_store (p := 12) rfl ?_); refine ev_store_cell rfl rfl rfl hg1 rfl (i := 11) (v := .slice none 0 0) rfl rfl (by kernel_rfl) (by first | exact (show (11 : Nat) < 12 by decide) | exact (show (11 : Nat) < 16 by decide) | exact (show (11 : Nat) < 6 by decide)) ?_; intro W4 hgn hgr; replace hgn : Blk W4 g1 _ (({ r with Name := ⟨r.Data.toArray⟩, Data := [] } : Rec).cells none 0) := hgn; replace hg2 := hg2.grown hgr (by intro e; injection e with e; omega); replace HB := HB.grown hgr (by have := HB.size; omega) (by intro k e; injection e with e; omega); replace hg1 := hgn; replace hcg1 := hg1.cell; replace hfg1 := hg1.frozen; replace hcg2 := hg2.cell; replace hfg2 := hg2.frozen; clear hgn hgr)
      | ((with_reducible refine gate_store (p := 15) rfl ?_); refine ev_store_cell rfl rfl rfl hg1 rfl (i := 8) (v := .int .i64 r.Step) rfl rfl (by kernel_rfl) (by first | exact (show (8 : Nat) < 12 by decide) | exact (show (8 : Nat) < 16 by decide) | exact (show (8 : Nat) < 6 by decide)) ?_; intro W5 hgn hgr; replace hgn : Blk W5 g1 _ (({ r with Name := ⟨r.Data.toArray⟩, Data := [], Count := r.Step } : Rec).cells none 0) := hgn; replace hg2 := hg2.grown hgr (by intro e; injection e with e; omega); replace HB := HB.grown hgr (by have := HB.size; omega) (by intro k e; injection e with e; omega); replace hg1 := hgn; replace hcg1 := hg1.cell; replace hfg1 := hg1.frozen; replace hcg2 := hg2.cell; replace hfg2 := hg2.frozen; clear hgn hgr)
      | ((with_reducible refine gate_store (p := 16) rfl ?_); refine ev_store_cell rfl rfl rfl hg1 rfl (i := 3) (v := .int .i64 0) rfl rfl (by kernel_rfl) (by first | exact (show (3 : Nat) < 12 by decide) | exact (show (3 : Nat) < 16 by decide) | exact (show (3 : Nat) < 6 by decide)) ?_; intro W6 hgn hgr; replace hgn : Blk W6 g1 _ (({ r with Name := ⟨r.Data.toArray⟩, Data := [], Count := r.Step, Step := 0 } : Rec).cells none 0) := hgn; replace hg2 := hg2.grown hgr (by intro e; injection e with e; omega); replace HB := HB.grown hgr (by have := HB.size; omega) (by intro k e; injection e with e; omega); replace hg1 := hgn; replace hcg1 := hg1.cell; replace hfg1 := hg1.frozen; replace hcg2 := hg2.cell; replace hfg2 := hg2.frozen; clear hgn hgr)
      | ((with_reducible refine gate_dst (N := 24) rfl ?_); refine wpList_load_row rfl _ _ rfl g1 rfl _ _ (0, 0) _ hg1 Tryd.underlying27 rfl rec_size ?_)
      | ((with_reducible refine gate_store (p := 2) rfl ?_); refine ev_store_row (cs := ({ r with Name := ⟨r.Data.toArray⟩, Data := [], Count := r.Step, Step := 0 } : Rec).cells none 0) rfl rfl rfl hg2 rfl rfl rec_size rfl (cells_one _ _ _) ?_; intro W7 hgn hgr; replace hg1 := hg1.grown hgr (by intro e; injection e with e; omega); replace HB := HB.grown hgr (by have := HB.size; omega) (by intro k e; injection e with e; omega); replace hg2 := hgn; replace hcg1 := hg1.cell; replace hfg1 := hg1.frozen; replace hcg2 := hg2.cell; replace hfg2 := hg2.frozen; clear hgn hgr))
    refine ret_row rfl hg2 rfl Tryd.underlying27 rfl rec_size rfl ?_
    exact ⟨none, 0, rfl, HopData.own OB.nil, HB⟩
  have t1 := int_beq_false k1
  by_cases k2 : r.Kind = 2 ∨ r.Kind = 5
  · have e : fillR r = { r with Try := 1 } := by unfold fillR; rw [if_neg k1, if_pos k2]
    rw [e]
    clear e
    rcases k2 with k2 | k2
    · have t2 := int_beq_true k2
      clear k1 k2
      go_enter Tryd.func96, Tryd.ntmps96
      go_wp2_with (first
        | ((with_reducible refine gate_dst (N := 1) rfl ?_); refine ev_box rfl rfl (r.cells A c) rfl ?_; intro g1 W1 hg1 hsz hbn; have hgr := grown_of_below hbn; have zg1 : w.heap.size ≤ g1 := (by have := HB.size; omega); replace HB := HB.grown hgr (by have := HB.size; omega) (by simp); have hcg1 := hg1.cell; have hfg1 := hg1.frozen; clear hsz hbn hgr)
        | ((with_reducible refine gate_dst (N := 2) rfl ?_); refine ev_alloc rfl rfl _ rec_zero ?_; intro g2 W2 hg2 hsz hbn; have hgr := grown_of_below hbn; have ng1g2 : g1 ≠ g2 := (by have := hg1.lt; omega); replace hg2 : Blk W2 g2 _ (Rec.zero.cells none 0) := hg2; have zg2 : w.heap.size ≤ g2 := (by have := HB.size; omega); replace hg1 := hg1.grown hgr (by simp); replace HB := HB.grown hgr (by have := HB.size; omega) (by simp); have hcg2 := hg2.cell; have hfg2 := hg2.frozen; replace hcg1 := hg1.cell; replace hfg1 := hg1.frozen; clear hsz hbn hgr)
        | ((with_reducible refine gate_store (p := 20) rfl ?_); refine ev_store_cell rfl rfl rfl hg1 rfl (i := 4) (v := .int .i64 1) rfl rfl (by kernel_rfl) (by first | exact (show (4 : Nat) < 12 by decide) | exact (show (4 : Nat) < 16 by decide) | exact (show (4 : Nat) < 6 by decide)) ?_; intro W3 hgn hgr; replace hgn : Blk W3 g1 _ (({ r with Try := 1 } : Rec).cells A c) := hgn; replace hg2 := hg2.grown hgr (by intro e; injection e with e; omega); replace HB := HB.grown hgr (by have := HB.size; omega) (by intro k e; injection e with e; omega); replace hg1 := hgn; replace hcg1 := hg1.cell; replace hfg1 := hg1.frozen; replace hcg2 := hg2.cell; replace hfg2 := hg2.frozen; clear hgn hgr)
        | ((with_reducible refine gate_dst (N := 24) rfl ?_); refine wpList_load_row rfl _ _ rfl g1 rfl _ _ (0, 0) _ hg1 Tryd.underlying27 rfl rec_size ?_)
        | ((with_reducible refine gate_store (p := 2) rfl ?_); refine ev_store_row (cs := ({ r with Try := 1 } : Rec).cells A c) rfl rfl rfl hg2 rfl rfl rec_size rfl (cells_one _ _ _) ?_; intro W4 hgn hgr; replace hg1 := hg1.grown hgr (by intro e; injection e with e; omega); replace HB := HB.grown hgr (by have := HB.size; omega) (by intro k e; injection e with e; omega); replace hg2 := hgn; replace hcg1 := hg1.cell; replace hfg1 := hg1.frozen; replace hcg2 := hg2.cell; replace hfg2 := hg2.frozen; clear hgn hgr))
      refine ret_row rfl hg2 rfl Tryd.underlying27 rfl rec_size rfl ?_
      exact ⟨A, c, rfl, HopData.stays, HB⟩
    · have t2 : (r.Kind == 2) = false := int_beq_false (by omega)
      have t3 := int_beq_true k2
      clear k1 k2
      go_enter Tryd.func96, Tryd.ntmps96
      go_wp2_with (first
        | ((with_reducible refine gate_dst (N := 1) rfl ?_); refine ev_box rfl rfl (r.cells A c) rfl ?_; intro g1 W1 hg1 hsz hbn; have hgr := grown_of_below hbn; have zg1 : w.heap.size ≤ g1 := (by have := HB.size; omega); replace HB := HB.grown hgr (by have := HB.size; omega) (by simp); have hcg1 := hg1.cell; have hfg1 := hg1.frozen; clear hsz hbn hgr)
        | ((with_reducible refine gate_dst (N := 2) rfl ?_); refine ev_alloc rfl rfl _ rec_zero ?_; intro g2 W2 hg2 hsz hbn; have hgr := grown_of_below hbn; have ng1g2 : g1 ≠ g2 := (by have := hg1.lt; omega); replace hg2 : Blk W2 g2 _ (Rec.zero.cells none 0) := hg2; have zg2 : w.heap.size ≤ g2 := (by have := HB.size; omega); replace hg1 := hg1.grown hgr (by simp); replace HB := HB.grown hgr (by have := HB.size; omega) (by simp); have hcg2 := hg2.cell; have hfg2 := hg2.frozen; replace hcg1 := hg1.cell; replace hfg1 := hg1.frozen; clear hsz hbn hgr)
        | ((with_reducible refine gate_store (p := 20) rfl ?_); refine ev_store_cell rfl rfl rfl hg1 rfl (i := 4) (v := .int .i64 1) rfl rfl (by kernel_rfl) (by first | exact (show (4 : Nat) < 12 by decide) | exact (show (4 : Nat) < 16 by decide) | exact (show (4 : Nat) < 6 by decide)) ?_; intro W3 hgn hgr; replace hgn : Blk W3 g1 _ (({ r with Try := 1 } : Rec).cells A c) := hgn; replace hg2 := hg2.grown hgr (by intro e; injection e with e; omega); replace HB := HB.grown hgr (by have := HB.size; omega) (by intro k e; injection e with e; omega); replace hg1 := hgn; replace hcg1 := hg1.cell; replace hfg1 := hg1.frozen; replace hcg2 := hg2.cell; replace hfg2 := hg2.frozen; clear hgn hgr)
        | ((with_reducible refine gate_dst (N := 24) rfl ?_); refine wpList_load_row rfl _ _ rfl g1 rfl _ _ (0, 0) _ hg1 Tryd.underlying27 rfl rec_size ?_)
        | ((with_reducible refine gate_store (p := 2) rfl ?_); refine ev_store_row (cs := ({ r with Try := 1 } : Rec).cells A c) rfl rfl rfl hg2 rfl rfl rec_size rfl (cells_one _ _ _) ?_; intro W4 hgn hgr; replace hg1 := hg1.grown hgr (by intro e; injection e with e; omega); replace HB := HB.grown hgr (by have := HB.size; omega) (by intro k e; injection e with e; omega); replace hg2 := hgn; replace hcg1 := hg1.cell; replace hfg1 := hg1.frozen; replace hcg2 := hg2.cell; replace hfg2 := hg2.frozen; clear hgn hgr))
      refine ret_row rfl hg2 rfl Tryd.underlying27 rfl rec_size rfl ?_
      exact ⟨A, c, rfl, HopData.stays, HB⟩
  have t2 : (r.Kind == 2) = false := int_beq_false (by omega)
  have t3 : (r.Kind == 5) = false := int_beq_false (by omega)
  by_cases k4 : r.Kind = 4
  · have e : fillR r = { r with Last := 1 } := by unfold fillR; rw [if_neg k1, if_neg k2, if_pos k4]
    rw [e]
    clear e
    have t4 := int_beq_true k4
    clear k1 k2 k4
    go_enter Tryd.func96, Tryd.ntmps96
    go_wp2_with (first
      | ((with_reducible refine gate_dst (N := 1) rfl ?_); refine ev_box rfl rfl (r.cells A c) rfl ?_; intro g1 W1 hg1 hsz hbn; have hgr := grown_of_below hbn; have zg1 : w.heap.size ≤ g1 := (by have := HB.size; omega); replace HB := HB.grown hgr (by have := HB.size; omega) (by simp); have hcg1 := hg1.cell; have hfg1 := hg1.frozen; clear hsz hbn hgr)
      | ((with_reducible refine gate_dst (N := 2) rfl ?_); refine ev_alloc rfl rfl _ rec_zero ?_; intro g2 W2 hg2 hsz hbn; have hgr := grown_of_below hbn; have ng1g2 : g1 ≠ g2 := (by have := hg1.lt; omega); replace hg2 : Blk W2 g2 _ (Rec.zero.cells none 0) := hg2; have zg2 : w.heap.size ≤ g2 := (by have := HB.size; omega); replace hg1 := hg1.grown hgr (by simp); replace HB := HB.grown hgr (by have := HB.size; omega) (by simp); have hcg2 := hg2.cell; have hfg2 := hg2.frozen; replace hcg1 := hg1.cell; replace hfg1 := hg1.frozen; clear hsz hbn hgr)
      | ((with_reducible refine gate_store (p := 23) rfl ?_); refine ev_store_cell rfl rfl rfl hg1 rfl (i := 6) (v := .int .i64 1) rfl rfl (by kernel_rfl) (by first | exact (show (6 : Nat) < 12 by decide) | exact (show (6 : Nat) < 16 by decide) | exact (show (6 : Nat) < 6 by decide)) ?_; intro W3 hgn hgr; replace hgn : Blk W3 g1 _ (({ r with Last := 1 } : Rec).cells A c) := hgn; replace hg2 := hg2.grown hgr (by intro e; injection e with e; omega); replace HB := HB.grown hgr (by have := HB.size; omega) (by intro k e; injection e with e; omega); replace hg1 := hgn; replace hcg1 := hg1.cell; replace hfg1 := hg1.frozen; replace hcg2 := hg2.cell; replace hfg2 := hg2.frozen; clear hgn hgr)
      | ((with_reducible refine gate_dst (N := 24) rfl ?_); refine wpList_load_row rfl _ _ rfl g1 rfl _ _ (0, 0) _ hg1 Tryd.underlying27 rfl rec_size ?_)
      | ((with_reducible refine gate_store (p := 2) rfl ?_); refine ev_store_row (cs := ({ r with Last := 1 } : Rec).cells A c) rfl rfl rfl hg2 rfl rfl rec_size rfl (cells_one _ _ _) ?_; intro W4 hgn hgr; replace hg1 := hg1.grown hgr (by intro e; injection e with e; omega); replace HB := HB.grown hgr (by have := HB.size; omega) (by intro k e; injection e with e; omega); replace hg2 := hgn; replace hcg1 := hg1.cell; replace hfg1 := hg1.frozen; replace hcg2 := hg2.cell; replace hfg2 := hg2.frozen; clear hgn hgr))
    refine ret_row rfl hg2 rfl Tryd.underlying27 rfl rec_size rfl ?_
    exact ⟨A, c, rfl, HopData.stays, HB⟩
  · have e : fillR r = r := by unfold fillR; rw [if_neg k1, if_neg k2, if_neg k4]
    rw [e]
    clear e
    have t4 := int_beq_false k4
    clear k1 k2 k4
    go_enter Tryd.func96, Tryd.ntmps96
    go_wp2_with (first
      | ((with_reducible refine gate_dst (N := 1) rfl ?_); refine ev_box rfl rfl (r.cells A c) rfl ?_; intro g1 W1 hg1 hsz hbn; have hgr := grown_of_below hbn; have zg1 : w.heap.size ≤ g1 := (by have := HB.size; omega); replace HB := HB.grown hgr (by have := HB.size; omega) (by simp); have hcg1 := hg1.cell; have hfg1 := hg1.frozen; clear hsz hbn hgr)
      | ((with_reducible refine gate_dst (N := 2) rfl ?_); refine ev_alloc rfl rfl _ rec_zero ?_; intro g2 W2 hg2 hsz hbn; have hgr := grown_of_below hbn; have ng1g2 : g1 ≠ g2 := (by have := hg1.lt; omega); replace hg2 : Blk W2 g2 _ (Rec.zero.cells none 0) := hg2; have zg2 : w.heap.size ≤ g2 := (by have := HB.size; omega); replace hg1 := hg1.grown hgr (by simp); replace HB := HB.grown hgr (by have := HB.size; omega) (by simp); have hcg2 := hg2.cell; have hfg2 := hg2.frozen; replace hcg1 := hg1.cell; replace hfg1 := hg1.frozen; clear hsz hbn hgr)
      | ((with_reducible refine gate_dst (N := 24) rfl ?_); refine wpList_load_row rfl _ _ rfl g1 rfl _ _ (0, 0) _ hg1 Tryd.underlying27 rfl rec_size ?_)
      | ((with_reducible refine gate_store (p := 2) rfl ?_); refine ev_store_row (cs := r.cells A c) rfl rfl rfl hg2 rfl rfl rec_size rfl (cells_one _ _ _) ?_; intro W3 hgn hgr; replace hg1 := hg1.grown hgr (by intro e; injection e with e; omega); replace HB := HB.grown hgr (by have := HB.size; omega) (by intro k e; injection e with e; omega); replace hg2 := hgn; replace hcg1 := hg1.cell; replace hfg1 := hg1.frozen; replace hcg2 := hg2.cell; replace hfg2 := hg2.frozen; clear hgn hgr))
    refine ret_row rfl hg2 rfl Tryd.underlying27 rfl rec_size rfl ?_
    exact ⟨A, c, rfl, HopData.stays, HB⟩
end Go.Proofs.YtikodgaomhmbmaaDoor
namespace Go.Proofs.YtikodgaomhmbmaaDoor
open Go.RowKit
attribute [local go_sem] Rec.size_ Rec.g0 Rec.g1 Rec.g2 Rec.g3 Rec.g4 Rec.g5 Rec.g6 Rec.g7 Rec.g8 Rec.g9 Rec.g10 Rec.g11 Rec.fold stepCells_size stepCells_0 stepCells_1 stepCells_2 stepCells_3

section
variable {P : Program} {ops : Array Oper} {rest : List Oper} {o : Oper} {a : Act} {Q : Exit → Act → World → Prop} {W : World}
/-- A function of the program that is called by its value. -/
def Coded (P : Program) (f : FuncId) : Prop := ∃ fn c, P.funcs[f]? = some fn ∧ (fn.name == "runtime.NumGoroutine") = false ∧ fn.body = some c
theorem ev_call_value (hgd : o.guard = none) {x y : Operand} {ats : Array TypeId} (ho : o.op = .call { callee := .value x, args := #[y], argTypes := ats }) {f : FuncId} (hx : a.eval x = .func (.func f) #[] #[]) (hf : Coded P f) {v : Value} (hy : a.eval y = v)
    (h : Calls P f #[v] W fun e w' => ∃ u, e = .returned u ∧ wpList P ops Q rest (a.put o.dst u) w') : wpList P ops Q (o :: rest) a W := by
  obtain ⟨fn, c, h1, h2, h3⟩ := hf
  have hrun : (execOp a.eval o).run P W = .ok (.enter f #[v]) W := by
    simp [execOp, ho, resolve, Deferred.ofValue, hx, hy, invoke, callFunc, Sem.run_bind, h1, beq_eq_false_iff_ne.1 h2, h3, Result.andThen]
  refine wpList_plain hgd fun K hK => ?_
  unfold Oper.wp
  rw [hrun, Oper.upon_enter]
  exact h.mono fun e w' ⟨u, he, hw⟩ => by subst he; exact hK _ _ hw
end
theorem hop_coded (a b : Int) : Coded Tryd.prog (hopFn a b) := by
  unfold hopFn
  repeat' split
  · exact ⟨_, _, Tryd.func96, by kernel_rfl, rfl⟩
  · exact ⟨_, _, Tryd.func97, by kernel_rfl, rfl⟩
  · exact ⟨_, _, Tryd.func98, by kernel_rfl, rfl⟩
  · exact ⟨_, _, Tryd.func83, by kernel_rfl, rfl⟩

theorem turn_step {q : Rec} {to : Int} (hv : Ver q.V) (ht : Ver to) (hne : q.V ≠ to) :
    (hopF q.V to q = true → turnR q to = turnR { hopR q.V to q with V := hopTo q.V to } to ∧ turnF q to = turnF { hopR q.V to q with V := hopTo q.V to } to) ∧ (hopF q.V to q = false → turnR q to = Rec.zero ∧ turnF q to = false) := by
  have hs := hop_steps hv ht hne
  unfold turnR turnF
  rw [hs]
  refine ⟨fun h => ⟨?_, ?_⟩, fun h => ⟨?_, ?_⟩⟩
  · show turnN (_ + 1) q to = _
    rw [turnN, if_pos h]
  · show turnB (_ + 1) q to = _
    rw [turnB, if_pos h]
  · show turnN (_ + 1) q to = _
    rw [turnN, if_neg (by rw [h]; decide)]
  · show turnB (_ + 1) q to = _
    rw [turnB, if_neg (by rw [h]; decide)]
/-- Each step from a towards b does as it should. -/
def HopsTo (b : Int) (v : Int → Prop) : Prop := ∀ (a : Int) (q : Rec) (A : Option Addr) (c : Nat) (w : World), v a → Ver a → a ≠ b → q.Fits → RU w A q.Data → HopSaid Tryd.prog (hopFn a b) (hopR a b q) (hopF a b q) q A c w

set_option maxHeartbeats 2000000 in
set_option maxRecDepth 100000 in
theorem turnedBy_calls (to : Int) (hto : Ver to) (v : Int → Prop) (hops : HopsTo to v) (hv : ∀ a, v a → Ver a → a ≠ to → v (hopTo a to)) (r : Rec) (A : Option Addr) (c : Nat) (hf : r.Fits) (hr : Ver r.V) (hrv : v r.V) (w : World) (ht : Tab w 1 waysL) (hd : RB w A r.Data) :
    Calls Tryd.prog 64 #[.agg (r.cells A c), .int .i64 to] w fun e w' => ∃ A' c', e = .returned (.tuple #[.agg ((turnR r to).cells A' c'), .bool (turnF r to)]) ∧ OB w' w.heap.size A' c' (turnR r to).Data ∧ Below w.heap.size w w' := by
  have HB := Below.refl w.heap.size w
  have Ht := Lib.hid ht
  have Hto := Lib.hid hto
  have Hops := Lib.hid hops
  have Hr := Lib.hid hr
  have Hrv := Lib.hid hrv
  have Hv := Lib.hid hv
  clear ht hto hops hr hrv hv
  go_enter Tryd.func64, Tryd.ntmps64
  go_wp2_with (first
    | ((with_reducible refine gate_dst (N := 2) rfl ?_); refine ev_box rfl rfl (r.cells A c) rfl ?_; intro g1 W1 hg1 hsz hbn; have hgr := grown_of_below hbn; have zg1 : w.heap.size ≤ g1 := (by have := HB.size; omega); replace HB := HB.grown hgr (by have := HB.size; omega) (by simp); have hcg1 := hg1.cell; have hfg1 := hg1.frozen; clear hsz hbn hgr)
    | ((with_reducible refine gate_dst (N := 4) rfl ?_); refine ev_alloc rfl rfl _ rec_zero ?_; intro g2 W2 hg2 hsz hbn; have hgr := grown_of_below hbn; have ng1g2 : g1 ≠ g2 := (by have := hg1.lt; omega); replace hg2 : Blk W2 g2 _ (Rec.zero.cells none 0) := hg2; have zg2 : w.heap.size ≤ g2 := (by have := HB.size; omega); replace hg1 := hg1.grown hgr (by simp); replace HB := HB.grown hgr (by have := HB.size; omega) (by simp); have hcg2 := hg2.cell; have hfg2 := hg2.frozen; replace hcg1 := hg1.cell; replace hfg1 := hg1.frozen; clear hsz hbn hgr)
    | ((with_reducible refine gate_dst (N := 8) rfl ?_); refine wpList_load_row rfl _ _ rfl g1 rfl _ _ (0, 0) _ hg1 Tryd.underlying27 rfl rec_size ?_)
    | (go_at_call 19; (with_reducible refine (clone_calls r A c _ (hd.next HB) hf.data).mono ?_); rintro e W3 ⟨A3, c3, rfl, o3, hb⟩; have hgr := grown_of_below hb; replace o3 := own_mono o3 HB.size; replace hg1 := hg1.grown hgr (by simp); replace hg2 := hg2.grown hgr (by simp); replace HB := HB.grown hgr (by have := HB.size; omega) (by simp); replace hcg1 := hg1.cell; replace hfg1 := hg1.frozen; replace hcg2 := hg2.cell; replace hfg2 := hg2.frozen; clear hb hgr)
    | ((with_reducible refine gate_store (p := 2) rfl ?_); refine ev_store_row (cs := r.cells A3 c3) rfl rfl rfl hg1 rfl rfl rec_size rfl (cells_one _ _ _) ?_; intro W4 hgn hgr; replace hg2 := hg2.grown hgr (by intro e; injection e with e; omega); replace o3 := o3.kept hgr (.inr (own_blk_ne o3 hg1 (by decide))); replace HB := HB.grown hgr (by have := HB.size; omega) (by intro k e; injection e with e; omega); replace hg1 := hgn; replace hcg1 := hg1.cell; replace hfg1 := hg1.frozen; replace hcg2 := hg2.cell; replace hfg2 := hg2.frozen; clear hgn hgr))
  have B3 : OB _ w.heap.size A3 c3 r.Data := OB.of_own o3
  go_loopg [5] (stepsL r.V to).length (fun n v5 wr => ∃ (q : Rec) (A : Option Addr) (c : Nat), v5 = .bool false ∧ n = (stepsL q.V to).length ∧ Aside (Ver q.V ∧ v q.V ∧ q.Fits ∧ turnR q to = turnR r to ∧ turnF q to = turnF r to ∧
    Blk wr g1 _ (q.cells A c) ∧ Blk wr g2 _ (Rec.zero.cells none 0) ∧ OB wr w.heap.size A c q.Data ∧ Below w.heap.size w wr))
  case atStart => exact ⟨r, A3, c3, rfl, rfl, ⟨Hr.out, Hrv.out, hf, rfl, rfl, hg1, hg2, B3, HB⟩⟩
  case round =>
    clear B3 hg1 hg2 o3 HB hcg1 hcg2 hfg1 hfg2
    obtain ⟨q, Aq, cq, rfl, hn, HA⟩ := hrel
    obtain ⟨hver, hvq, hfq, htr, htf, hg1, hg2, Bq, HB⟩ := HA.out
    clear HA
    have hcg1 := hg1.cell
    have hfg1 := hg1.frozen
    have hcg2 := hg2.cell
    have hfg2 := hg2.frozen
    have Htr := Lib.hid htr
    have Htf := Lib.hid htf
    have Hver := Lib.hid hver
    have Hvq := Lib.hid hvq
    clear htr htf hver hvq
    by_cases hab : q.V = to
    · have t1 := int_bne_false hab
      have hself := turn_self hab
      have Eq := Lib.hid (Htr.out.symm.trans hself.1)
      have Ef := Lib.hid (Htf.out.symm.trans hself.2)
      clear hab hself
      go_wp2_with (first
        | ((with_reducible refine gate_dst (N := 32) rfl ?_); refine wpList_load_row rfl _ _ rfl g1 rfl _ _ (0, 0) _ hg1 Tryd.underlying27 rfl rec_size ?_)
        | ((with_reducible refine gate_store (p := 4) rfl ?_); refine ev_store_row (cs := q.cells Aq cq) rfl rfl rfl hg2 rfl rfl rec_size rfl (cells_one _ _ _) ?_; intro W1 hgn hgr; replace Bq := Bq.kept hgr (OB.ne_blk Bq hg2 (by decide)); replace hg1 := hg1.grown hgr (by intro e; injection e with e; omega); replace HB := HB.grown hgr (by have := HB.size; omega) (by intro k e; injection e with e; omega); replace hg2 := hgn; replace hcg1 := hg1.cell; replace hfg1 := hg1.frozen; replace hcg2 := hg2.cell; replace hfg2 := hg2.frozen; clear hgn hgr))
      refine ret_row rfl hg2 rfl Tryd.underlying27 rfl rec_size rfl ?_
      exact ⟨Aq, cq, by rw [Eq.out, Ef.out]; rfl, by rw [Eq.out]; exact Bq, HB⟩
    · have t1 := int_bne_true hab
      have hs := hop_steps Hver.out Hto.out hab
      have hts := turn_step Hver.out Hto.out hab
      have Hab := Lib.hid hab
      have Hs := Lib.hid hs
      clear hab hs
      cases hF : hopF q.V to q
      · have hq := hts.2 hF
        have Eq := Lib.hid (Htr.out.symm.trans hq.1)
        have Ef := Lib.hid (Htf.out.symm.trans hq.2)
        have hh := fun (A : Option Addr) (c : Nat) (w : World) => Hops.out q.V q A c w Hvq.out Hver.out Hab.out hfq
        rw [hF] at hh
        unfold HopSaid at hh
        have Hh := Lib.hid hh
        clear hq hts hF hh
        go_wp2_with (first
          | (go_at_call 62; (with_reducible refine (next_calls Hver.out Hto.out Hab.out _ (Ht.out.next HB)).mono ?_); rintro e W1 ⟨rfl, hb⟩; have hgr := grown_of_below hb; replace Bq := Bq.kept hgr (by simp); replace hg1 := hg1.grown hgr (by simp); replace hg2 := hg2.grown hgr (by simp); replace HB := HB.grown hgr (by have := HB.size; omega) (by simp); replace hcg1 := hg1.cell; replace hfg1 := hg1.frozen; replace hcg2 := hg2.cell; replace hfg2 := hg2.frozen; clear hb hgr)
          | ((with_reducible refine gate_dst (N := 6) rfl ?_); refine ev_alloc rfl rfl _ step_zero ?_; intro g3 W2 hg3 hsz hbn; have hgr := grown_of_below hbn; have ng1g3 : g1 ≠ g3 := (by have := hg1.lt; omega); have ng2g3 : g2 ≠ g3 := (by have := hg2.lt; omega); replace hg3 : Blk W2 g3 _ (#[.int .i64 0, .int .i64 0, .string ⟨#[]⟩, .nilFunc]) := hg3; have zg3 : w.heap.size ≤ g3 := (by have := HB.size; omega); replace Bq := Bq.kept hgr (by simp); replace hg1 := hg1.grown hgr (by simp); replace hg2 := hg2.grown hgr (by simp); replace HB := HB.grown hgr (by have := HB.size; omega) (by simp); have hcg3 := hg3.cell; have hfg3 := hg3.frozen; replace hcg1 := hg1.cell; replace hfg1 := hg1.frozen; replace hcg2 := hg2.cell; replace hfg2 := hg2.frozen; clear hsz hbn hgr)
          | ((with_reducible refine gate_store (p := 6) rfl ?_); refine ev_store_row (cs := stepCells q.V (hopTo q.V to) (hopNm q.V to) (hopFn q.V to)) rfl rfl rfl hg3 rfl rfl step_size rfl (stepCells_one _ _ _ _) ?_; intro W3 hgn hgr; replace Bq := Bq.kept hgr (OB.ne_blk Bq hg3 (by decide)); replace hg1 := hg1.grown hgr (by intro e; injection e with e; omega); replace hg2 := hg2.grown hgr (by intro e; injection e with e; omega); replace HB := HB.grown hgr (by have := HB.size; omega) (by intro k e; injection e with e; omega); replace hg3 := hgn; replace hcg1 := hg1.cell; replace hfg1 := hg1.frozen; replace hcg2 := hg2.cell; replace hfg2 := hg2.frozen; replace hcg3 := hg3.cell; replace hfg3 := hg3.frozen; clear hgn hgr)
          | ((with_reducible refine gate_dst (N := 21) rfl ?_); refine wpList_load_row rfl _ _ rfl g1 rfl _ _ (0, 0) _ hg1 Tryd.underlying27 rfl rec_size ?_)
          | ((with_reducible refine gate_dst (N := 22) rfl ?_); refine ev_call_value rfl rfl rfl (hop_coded q.V to) rfl ?_; refine Calls.mono (hop_own (Hh.out Aq cq _ Bq.ru) Bq HB.size) ?_; rintro e W4 ⟨A5, c5, rfl, B5, hb⟩; refine ⟨_, rfl, ?_⟩; have hgr := grown_of_below hb; replace Bq := Bq.kept hgr (by simp); replace hg1 := hg1.grown hgr (by simp); replace hg2 := hg2.grown hgr (by simp); replace hg3 := hg3.grown hgr (by simp); replace HB := HB.grown hgr (by have := HB.size; omega) (by simp); replace hcg1 := hg1.cell; replace hfg1 := hg1.frozen; replace hcg2 := hg2.cell; replace hfg2 := hg2.frozen; replace hcg3 := hg3.cell; replace hfg3 := hg3.frozen; clear hb hgr)
          | ((with_reducible refine gate_store (p := 2) rfl ?_); refine ev_store_row (cs := (hopR q.V to q).cells A5 c5) rfl rfl rfl hg1 rfl rfl rec_size rfl (cells_one _ _ _) ?_; intro W5 hgn hgr; replace hg2 := hg2.grown hgr (by intro e; injection e with e; omega); replace hg3 := hg3.grown hgr (by intro e; injection e with e; omega); replace HB := HB.grown hgr (by have := HB.size; omega) (by intro k e; injection e with e; omega); replace hg1 := hgn; replace hcg1 := hg1.cell; replace hfg1 := hg1.frozen; replace hcg2 := hg2.cell; replace hfg2 := hg2.frozen; replace hcg3 := hg3.cell; replace hfg3 := hg3.frozen; clear hgn hgr)
          | ((with_reducible refine gate_store (p := 4) rfl ?_); refine ev_store_row (cs := Rec.zero.cells none 0) rfl rfl rfl hg2 rfl rfl rec_size rfl (cells_one _ _ _) ?_; intro W6 hgn hgr; replace hg1 := hg1.grown hgr (by intro e; injection e with e; omega); replace hg3 := hg3.grown hgr (by intro e; injection e with e; omega); replace HB := HB.grown hgr (by have := HB.size; omega) (by intro k e; injection e with e; omega); replace hg2 := hgn; replace hcg1 := hg1.cell; replace hfg1 := hg1.frozen; replace hcg2 := hg2.cell; replace hfg2 := hg2.frozen; replace hcg3 := hg3.cell; replace hfg3 := hg3.frozen; clear hgn hgr))
        refine ret_row rfl hg2 rfl Tryd.underlying27 rfl rec_size rfl ?_
        exact ⟨none, 0, by rw [Eq.out, Ef.out]; rfl, by rw [Eq.out]; exact OB.nil, HB⟩
      · have hq := hts.1 hF
        have Eq := Lib.hid (hq.1.symm.trans Htr.out)
        have Ef := Lib.hid (hq.2.symm.trans Htf.out)
        have hh := fun (A : Option Addr) (c : Nat) (w : World) => Hops.out q.V q A c w Hvq.out Hver.out Hab.out hfq
        rw [hF] at hh
        unfold HopSaid at hh
        have Hh := Lib.hid hh
        clear hq hts hF hh
        go_wp2_with (first
          | (go_at_call 62; (with_reducible refine (next_calls Hver.out Hto.out Hab.out _ (Ht.out.next HB)).mono ?_); rintro e W1 ⟨rfl, hb⟩; have hgr := grown_of_below hb; replace Bq := Bq.kept hgr (by simp); replace hg1 := hg1.grown hgr (by simp); replace hg2 := hg2.grown hgr (by simp); replace HB := HB.grown hgr (by have := HB.size; omega) (by simp); replace hcg1 := hg1.cell; replace hfg1 := hg1.frozen; replace hcg2 := hg2.cell; replace hfg2 := hg2.frozen; clear hb hgr)
          | ((with_reducible refine gate_dst (N := 6) rfl ?_); refine ev_alloc rfl rfl _ step_zero ?_; intro g3 W2 hg3 hsz hbn; have hgr := grown_of_below hbn; have ng1g3 : g1 ≠ g3 := (by have := hg1.lt; omega); have ng2g3 : g2 ≠ g3 := (by have := hg2.lt; omega); replace hg3 : Blk W2 g3 _ (#[.int .i64 0, .int .i64 0, .string ⟨#[]⟩, .nilFunc]) := hg3; have zg3 : w.heap.size ≤ g3 := (by have := HB.size; omega); replace Bq := Bq.kept hgr (by simp); replace hg1 := hg1.grown hgr (by simp); replace hg2 := hg2.grown hgr (by simp); replace HB := HB.grown hgr (by have := HB.size; omega) (by simp); have hcg3 := hg3.cell; have hfg3 := hg3.frozen; replace hcg1 := hg1.cell; replace hfg1 := hg1.frozen; replace hcg2 := hg2.cell; replace hfg2 := hg2.frozen; clear hsz hbn hgr)
          | ((with_reducible refine gate_store (p := 6) rfl ?_); refine ev_store_row (cs := stepCells q.V (hopTo q.V to) (hopNm q.V to) (hopFn q.V to)) rfl rfl rfl hg3 rfl rfl step_size rfl (stepCells_one _ _ _ _) ?_; intro W3 hgn hgr; replace Bq := Bq.kept hgr (OB.ne_blk Bq hg3 (by decide)); replace hg1 := hg1.grown hgr (by intro e; injection e with e; omega); replace hg2 := hg2.grown hgr (by intro e; injection e with e; omega); replace HB := HB.grown hgr (by have := HB.size; omega) (by intro k e; injection e with e; omega); replace hg3 := hgn; replace hcg1 := hg1.cell; replace hfg1 := hg1.frozen; replace hcg2 := hg2.cell; replace hfg2 := hg2.frozen; replace hcg3 := hg3.cell; replace hfg3 := hg3.frozen; clear hgn hgr)
          | ((with_reducible refine gate_dst (N := 21) rfl ?_); refine wpList_load_row rfl _ _ rfl g1 rfl _ _ (0, 0) _ hg1 Tryd.underlying27 rfl rec_size ?_)
          | ((with_reducible refine gate_dst (N := 22) rfl ?_); refine ev_call_value rfl rfl rfl (hop_coded q.V to) rfl ?_; refine Calls.mono (hop_own (Hh.out Aq cq _ Bq.ru) Bq HB.size) ?_; rintro e W4 ⟨A5, c5, rfl, B5, hb⟩; refine ⟨_, rfl, ?_⟩; have hgr := grown_of_below hb; replace Bq := Bq.kept hgr (by simp); replace hg1 := hg1.grown hgr (by simp); replace hg2 := hg2.grown hgr (by simp); replace hg3 := hg3.grown hgr (by simp); replace HB := HB.grown hgr (by have := HB.size; omega) (by simp); replace hcg1 := hg1.cell; replace hfg1 := hg1.frozen; replace hcg2 := hg2.cell; replace hfg2 := hg2.frozen; replace hcg3 := hg3.cell; replace hfg3 := hg3.frozen; clear hb hgr)
          | ((with_reducible refine gate_store (p := 2) rfl ?_); refine ev_store_row (cs := (hopR q.V to q).cells A5 c5) rfl rfl rfl hg1 rfl rfl rec_size rfl (cells_one _ _ _) ?_; intro W5 hgn hgr; replace B5 := B5.kept hgr (OB.ne_blk B5 hg1 (by decide)); replace hg2 := hg2.grown hgr (by intro e; injection e with e; omega); replace hg3 := hg3.grown hgr (by intro e; injection e with e; omega); replace HB := HB.grown hgr (by have := HB.size; omega) (by intro k e; injection e with e; omega); replace hg1 := hgn; replace hcg1 := hg1.cell; replace hfg1 := hg1.frozen; replace hcg2 := hg2.cell; replace hfg2 := hg2.frozen; replace hcg3 := hg3.cell; replace hfg3 := hg3.frozen; clear hgn hgr)
          | ((with_reducible refine gate_store (p := 31) rfl ?_); refine ev_store_cell rfl rfl rfl hg1 rfl (i := 0) (v := .int .i64 (hopTo q.V to)) rfl rfl (by kernel_rfl) (by first | exact (show (0 : Nat) < 12 by decide) | exact (show (0 : Nat) < 16 by decide) | exact (show (0 : Nat) < 6 by decide)) ?_; intro W6 hgn hgr; replace hgn : Blk W6 g1 _ (({ hopR q.V to q with V := hopTo q.V to } : Rec).cells A5 c5) := hgn; replace B5 := B5.kept hgr (OB.ne_blk B5 hg1 (by decide)); replace hg2 := hg2.grown hgr (by intro e; injection e with e; omega); replace hg3 := hg3.grown hgr (by intro e; injection e with e; omega); replace HB := HB.grown hgr (by have := HB.size; omega) (by intro k e; injection e with e; omega); replace hg1 := hgn; replace hcg1 := hg1.cell; replace hfg1 := hg1.frozen; replace hcg2 := hg2.cell; replace hfg2 := hg2.frozen; replace hcg3 := hg3.cell; replace hfg3 := hg3.frozen; clear hgn hgr))
        go_roundg (stepsL (hopTo q.V to) to).length
        case measure => rw [Hs.out]; simp
        case rel => exact ⟨{ hopR q.V to q with V := hopTo q.V to }, A5, c5, rfl, rfl, ⟨Hver.out.hop Hto.out, Hv.out _ Hvq.out Hver.out Hab.out, ⟨(hfq.hop _ _).name, (hfq.hop _ _).data⟩, Eq.out, Ef.out, hg1, hg2, B5, HB⟩⟩
end Go.Proofs.YtikodgaomhmbmaaDoor
namespace Go.Proofs.YtikodgaomhmbmaaDoor
open Go.RowKit
attribute [local go_sem] Rec.size_ Rec.g0 Rec.g1 Rec.g2 Rec.g3 Rec.g4 Rec.g5 Rec.g6 Rec.g7 Rec.g8 Rec.g9 Rec.g10 Rec.g11 Rec.fold

theorem hops_up {to : Int} (hto : Ver to) : HopsTo to (fun a => a ≤ to) := by
  intro a q A c w hle hv hne hf hd
  change a ≤ to at hle
  obtain rfl | rfl | rfl := hv
  · exact fill_calls q A c w hd
  · have e1 : hopFn 2 to = 83 := by unfold hopFn; rw [if_neg (by decide), if_neg (by decide), if_neg (by omega)]
    have e2 : hopR 2 to q = q := by unfold hopR; rw [if_neg (by decide), if_neg (by decide), if_neg (by omega)]
    have e3 : hopF 2 to q = true := by unfold hopF; rw [if_neg (by decide), if_neg (by decide), if_neg (by omega)]
    rw [e1, e2, e3]
    exact stay_calls q A c w hd
  · exfalso
    unfold Ver at hto
    omega
theorem turnedUp_calls (to : Int) (hto : Ver to) (r : Rec) (A : Option Addr) (c : Nat) (hf : r.Fits) (hr : Ver r.V) (hle : r.V ≤ to) (w : World) (ht : Tab w 1 waysL) (hd : RB w A r.Data) :
    Calls Tryd.prog 64 #[.agg (r.cells A c), .int .i64 to] w fun e w' => ∃ A' c', e = .returned (.tuple #[.agg ((turnR r to).cells A' c'), .bool (turnF r to)]) ∧ OB w' w.heap.size A' c' (turnR r to).Data ∧ Below w.heap.size w w' :=
  turnedBy_calls to hto (fun a => a ≤ to) (hops_up hto) (fun a ha hv hne => by
    change a ≤ to at ha
    change hopTo a to ≤ to
    unfold hopTo
    unfold Ver at hv hto
    split
    · omega
    · split <;> omega) r A c hf hr hle w ht hd

set_option maxHeartbeats 2000000 in
set_option maxRecDepth 100000 in
theorem up_own (r : Rec) (A : Option Addr) (c : Nat) (to : Int) (hf : r.Fits) (w : World) (hT : Tabs w) (ht : Tab w 1 waysL) (hd : RB w A r.Data) :
    Calls Tryd.prog 38 #[.agg (r.cells A c), .int .i64 to] w fun e w' => ∃ A' c', e = .returned (.tuple #[.agg ((upR r to).cells A' c'), .int .i64 (upE r to)]) ∧ OB w' w.heap.size A' c' (upR r to).Data ∧ Below w.heap.size w w' := by
  have HB := Below.refl w.heap.size w
  have HT := Lib.hid hT
  have Ht := Lib.hid ht
  clear hT ht
  by_cases hc : r.chk = 0
  · have t1 := int_bne_false hc
    have hv3 : 1 ≤ r.V ∧ r.V ≤ 3 := ((chk_ok r).1 hc).1
    cases hk : known to
    · have e1 : upE r to = 3 := by unfold upE; rw [if_neg (by rw [hc]; simp), hk, if_pos (by decide)]
      have e2 : upR r to = Rec.zero := by unfold upR; rw [e1, if_neg (by decide)]
      rw [e1, e2]
      have hk' : (decide (1 ≤ to) && decide (to ≤ 3)) = false := hk
      clear hc e1 e2 hv3 hk
      go_enter Tryd.func38, Tryd.ntmps38
      go_wp2_with (first
        | ((with_reducible refine gate_dst (N := 2) rfl ?_); refine ev_box rfl rfl (r.cells A c) rfl ?_; intro g1 W1 hg1 hsz hbn; have hgr := grown_of_below hbn; have zg1 : w.heap.size ≤ g1 := (by have := HB.size; omega); replace HB := HB.grown hgr (by have := HB.size; omega) (by simp); have hcg1 := hg1.cell; have hfg1 := hg1.frozen; clear hsz hbn hgr)
        | ((with_reducible refine gate_dst (N := 4) rfl ?_); refine ev_alloc rfl rfl _ rec_zero ?_; intro g2 W2 hg2 hsz hbn; have hgr := grown_of_below hbn; have ng1g2 : g1 ≠ g2 := (by have := hg1.lt; omega); replace hg2 : Blk W2 g2 _ (Rec.zero.cells none 0) := hg2; have zg2 : w.heap.size ≤ g2 := (by have := HB.size; omega); replace hg1 := hg1.grown hgr (by simp); replace HB := HB.grown hgr (by have := HB.size; omega) (by simp); have hcg2 := hg2.cell; have hfg2 := hg2.frozen; replace hcg1 := hg1.cell; replace hfg1 := hg1.frozen; clear hsz hbn hgr)
        | ((with_reducible refine gate_dst (N := 9) rfl ?_); refine wpList_load_row rfl _ _ rfl g1 rfl _ _ (0, 0) _ hg1 Tryd.underlying27 rfl rec_size ?_)
        | (go_at_call 52; (with_reducible refine (check_calls r A c hf _ (HT.out.next HB) (hd.next HB)).mono ?_); rintro e W3 ⟨rfl, hb⟩; have hgr := grown_of_below hb; replace hg1 := hg1.grown hgr (by simp); replace hg2 := hg2.grown hgr (by simp); replace HB := HB.grown hgr (by have := HB.size; omega) (by simp); replace hcg1 := hg1.cell; replace hfg1 := hg1.frozen; replace hcg2 := hg2.cell; replace hfg2 := hg2.frozen; clear hb hgr)
        | (go_at_call 61; (with_reducible refine (known_calls _ _).mono ?_); rintro e w1 ⟨rfl, rfl⟩; rw [hk'])
        | ((with_reducible refine gate_store (p := 4) rfl ?_); refine ev_store_row (cs := Rec.zero.cells none 0) rfl rfl rfl hg2 rfl rfl rec_size rfl (cells_one _ _ _) ?_; intro W4 hgn hgr; replace hg1 := hg1.grown hgr (by intro e; injection e with e; omega); replace HB := HB.grown hgr (by have := HB.size; omega) (by intro k e; injection e with e; omega); replace hg2 := hgn; replace hcg1 := hg1.cell; replace hfg1 := hg1.frozen; replace hcg2 := hg2.cell; replace hfg2 := hg2.frozen; clear hgn hgr))
      refine ret_row rfl hg2 rfl Tryd.underlying27 rfl rec_size rfl ?_
      exact ⟨none, 0, rfl, OB.nil, HB⟩
    · have hk' : (decide (1 ≤ to) && decide (to ≤ 3)) = true := hk
      have hto : Ver to := by
        simp only [Bool.and_eq_true, decide_eq_true_eq] at hk'
        exact Ver.of hk'.1 hk'.2
      by_cases hlt : to < r.V
      · have e1 : upE r to = 41 := by unfold upE; rw [if_neg (by rw [hc]; simp), hk, if_neg (by decide), if_pos hlt]
        have e2 : upR r to = Rec.zero := by unfold upR; rw [e1, if_neg (by decide)]
        rw [e1, e2]
        have t2 : decide (to < r.V) = true := by simp [hlt]
        clear hc e1 e2 hlt hv3 hk hto
        go_enter Tryd.func38, Tryd.ntmps38
        go_wp2_with (first
          | ((with_reducible refine gate_dst (N := 2) rfl ?_); refine ev_box rfl rfl (r.cells A c) rfl ?_; intro g1 W1 hg1 hsz hbn; have hgr := grown_of_below hbn; have zg1 : w.heap.size ≤ g1 := (by have := HB.size; omega); replace HB := HB.grown hgr (by have := HB.size; omega) (by simp); have hcg1 := hg1.cell; have hfg1 := hg1.frozen; clear hsz hbn hgr)
          | ((with_reducible refine gate_dst (N := 4) rfl ?_); refine ev_alloc rfl rfl _ rec_zero ?_; intro g2 W2 hg2 hsz hbn; have hgr := grown_of_below hbn; have ng1g2 : g1 ≠ g2 := (by have := hg1.lt; omega); replace hg2 : Blk W2 g2 _ (Rec.zero.cells none 0) := hg2; have zg2 : w.heap.size ≤ g2 := (by have := HB.size; omega); replace hg1 := hg1.grown hgr (by simp); replace HB := HB.grown hgr (by have := HB.size; omega) (by simp); have hcg2 := hg2.cell; have hfg2 := hg2.frozen; replace hcg1 := hg1.cell; replace hfg1 := hg1.frozen; clear hsz hbn hgr)
          | ((with_reducible refine gate_dst (N := 9) rfl ?_); refine wpList_load_row rfl _ _ rfl g1 rfl _ _ (0, 0) _ hg1 Tryd.underlying27 rfl rec_size ?_)
          | (go_at_call 52; (with_reducible refine (check_calls r A c hf _ (HT.out.next HB) (hd.next HB)).mono ?_); rintro e W3 ⟨rfl, hb⟩; have hgr := grown_of_below hb; replace hg1 := hg1.grown hgr (by simp); replace hg2 := hg2.grown hgr (by simp); replace HB := HB.grown hgr (by have := HB.size; omega) (by simp); replace hcg1 := hg1.cell; replace hfg1 := hg1.frozen; replace hcg2 := hg2.cell; replace hfg2 := hg2.frozen; clear hb hgr)
          | (go_at_call 61; (with_reducible refine (known_calls _ _).mono ?_); rintro e w1 ⟨rfl, rfl⟩; rw [hk'])
          | ((with_reducible refine gate_store (p := 4) rfl ?_); refine ev_store_row (cs := Rec.zero.cells none 0) rfl rfl rfl hg2 rfl rfl rec_size rfl (cells_one _ _ _) ?_; intro W4 hgn hgr; replace hg1 := hg1.grown hgr (by intro e; injection e with e; omega); replace HB := HB.grown hgr (by have := HB.size; omega) (by intro k e; injection e with e; omega); replace hg2 := hgn; replace hcg1 := hg1.cell; replace hfg1 := hg1.frozen; replace hcg2 := hg2.cell; replace hfg2 := hg2.frozen; clear hgn hgr))
        refine ret_row rfl hg2 rfl Tryd.underlying27 rfl rec_size rfl ?_
        exact ⟨none, 0, rfl, OB.nil, HB⟩
      · have e1 : upE r to = 0 := by unfold upE; rw [if_neg (by rw [hc]; simp), hk, if_neg (by decide), if_neg hlt]
        have e2 : upR r to = turnR r to := by unfold upR; rw [e1, if_pos rfl]
        rw [e1, e2]
        have t2 : decide (to < r.V) = false := by simp; omega
        have hle : r.V ≤ to := by omega
        have Hto := Lib.hid hto
        have Hvr := Lib.hid (Ver.of hv3.1 hv3.2)
        clear hc e1 e2 hlt hv3 hk hto
        go_enter Tryd.func38, Tryd.ntmps38
        go_wp2_with (first
          | ((with_reducible refine gate_dst (N := 2) rfl ?_); refine ev_box rfl rfl (r.cells A c) rfl ?_; intro g1 W1 hg1 hsz hbn; have hgr := grown_of_below hbn; have zg1 : w.heap.size ≤ g1 := (by have := HB.size; omega); replace HB := HB.grown hgr (by have := HB.size; omega) (by simp); have hcg1 := hg1.cell; have hfg1 := hg1.frozen; clear hsz hbn hgr)
          | ((with_reducible refine gate_dst (N := 4) rfl ?_); refine ev_alloc rfl rfl _ rec_zero ?_; intro g2 W2 hg2 hsz hbn; have hgr := grown_of_below hbn; have ng1g2 : g1 ≠ g2 := (by have := hg1.lt; omega); replace hg2 : Blk W2 g2 _ (Rec.zero.cells none 0) := hg2; have zg2 : w.heap.size ≤ g2 := (by have := HB.size; omega); replace hg1 := hg1.grown hgr (by simp); replace HB := HB.grown hgr (by have := HB.size; omega) (by simp); have hcg2 := hg2.cell; have hfg2 := hg2.frozen; replace hcg1 := hg1.cell; replace hfg1 := hg1.frozen; clear hsz hbn hgr)
          | ((with_reducible refine gate_dst (N := 9) rfl ?_); refine wpList_load_row rfl _ _ rfl g1 rfl _ _ (0, 0) _ hg1 Tryd.underlying27 rfl rec_size ?_)
          | (go_at_call 52; (with_reducible refine (check_calls r A c hf _ (HT.out.next HB) (hd.next HB)).mono ?_); rintro e W3 ⟨rfl, hb⟩; have hgr := grown_of_below hb; replace hg1 := hg1.grown hgr (by simp); replace hg2 := hg2.grown hgr (by simp); replace HB := HB.grown hgr (by have := HB.size; omega) (by simp); replace hcg1 := hg1.cell; replace hfg1 := hg1.frozen; replace hcg2 := hg2.cell; replace hfg2 := hg2.frozen; clear hb hgr)
          | (go_at_call 61; (with_reducible refine (known_calls _ _).mono ?_); rintro e w1 ⟨rfl, rfl⟩; rw [hk'])
          | ((with_reducible refine gate_dst (N := 25) rfl ?_); refine wpList_load_row rfl _ _ rfl g1 rfl _ _ (0, 0) _ hg1 Tryd.underlying27 rfl rec_size ?_)
          | (go_at_call 64; (with_reducible refine (turnedUp_calls to Hto.out r A c hf Hvr.out hle _ (Ht.out.next HB) (hd.next HB)).mono ?_); rintro e W4 ⟨A5, c5, rfl, B5, hb⟩; have hgr := grown_of_below hb; replace B5 := B5.mono HB.size; replace hg1 := hg1.grown hgr (by simp); replace hg2 := hg2.grown hgr (by simp); replace HB := HB.grown hgr (by have := HB.size; omega) (by simp); replace hcg1 := hg1.cell; replace hfg1 := hg1.frozen; replace hcg2 := hg2.cell; replace hfg2 := hg2.frozen; clear hb hgr)
          | ((with_reducible refine gate_dst (N := 7) rfl ?_); refine ev_alloc rfl rfl _ rec_zero ?_; intro g3 W5 hg3 hsz hbn; have hgr := grown_of_below hbn; have ng1g3 : g1 ≠ g3 := (by have := hg1.lt; omega); have ng2g3 : g2 ≠ g3 := (by have := hg2.lt; omega); replace hg3 : Blk W5 g3 _ (Rec.zero.cells none 0) := hg3; have zg3 : w.heap.size ≤ g3 := (by have := HB.size; omega); replace B5 := B5.kept hgr (by simp); replace hg1 := hg1.grown hgr (by simp); replace hg2 := hg2.grown hgr (by simp); replace HB := HB.grown hgr (by have := HB.size; omega) (by simp); have hcg3 := hg3.cell; have hfg3 := hg3.frozen; replace hcg1 := hg1.cell; replace hfg1 := hg1.frozen; replace hcg2 := hg2.cell; replace hfg2 := hg2.frozen; clear hsz hbn hgr)
          | ((with_reducible refine gate_store (p := 7) rfl ?_); refine ev_store_row (cs := (turnR r to).cells A5 c5) rfl rfl rfl hg3 rfl rfl rec_size rfl (cells_one _ _ _) ?_; intro W6 hgn hgr; replace B5 := B5.kept hgr (OB.ne_blk B5 hg3 (by decide)); replace hg1 := hg1.grown hgr (by intro e; injection e with e; omega); replace hg2 := hg2.grown hgr (by intro e; injection e with e; omega); replace HB := HB.grown hgr (by have := HB.size; omega) (by intro k e; injection e with e; omega); replace hg3 := hgn; replace hcg1 := hg1.cell; replace hfg1 := hg1.frozen; replace hcg2 := hg2.cell; replace hfg2 := hg2.frozen; replace hcg3 := hg3.cell; replace hfg3 := hg3.frozen; clear hgn hgr)
          | ((with_reducible refine gate_dst (N := 30) rfl ?_); refine wpList_load_row rfl _ _ rfl g3 rfl _ _ (0, 0) _ hg3 Tryd.underlying27 rfl rec_size ?_)
          | ((with_reducible refine gate_store (p := 4) rfl ?_); refine ev_store_row (cs := (turnR r to).cells A5 c5) rfl rfl rfl hg2 rfl rfl rec_size rfl (cells_one _ _ _) ?_; intro W7 hgn hgr; replace B5 := B5.kept hgr (OB.ne_blk B5 hg2 (by decide)); replace hg1 := hg1.grown hgr (by intro e; injection e with e; omega); replace hg3 := hg3.grown hgr (by intro e; injection e with e; omega); replace HB := HB.grown hgr (by have := HB.size; omega) (by intro k e; injection e with e; omega); replace hg2 := hgn; replace hcg1 := hg1.cell; replace hfg1 := hg1.frozen; replace hcg2 := hg2.cell; replace hfg2 := hg2.frozen; replace hcg3 := hg3.cell; replace hfg3 := hg3.frozen; clear hgn hgr))
        refine ret_row rfl hg2 rfl Tryd.underlying27 rfl rec_size rfl ?_
        exact ⟨A5, c5, rfl, B5, HB⟩
  · have t1 := int_bne_true hc
    have e1 : upE r to = r.chk := by unfold upE; rw [if_pos hc]
    have e2 : upR r to = Rec.zero := by unfold upR; rw [e1, if_neg hc]
    rw [e1, e2]
    clear hc e1 e2
    go_enter Tryd.func38, Tryd.ntmps38
    go_wp2_with (first
      | ((with_reducible refine gate_dst (N := 2) rfl ?_); refine ev_box rfl rfl (r.cells A c) rfl ?_; intro g1 W1 hg1 hsz hbn; have hgr := grown_of_below hbn; have zg1 : w.heap.size ≤ g1 := (by have := HB.size; omega); replace HB := HB.grown hgr (by have := HB.size; omega) (by simp); have hcg1 := hg1.cell; have hfg1 := hg1.frozen; clear hsz hbn hgr)
      | ((with_reducible refine gate_dst (N := 4) rfl ?_); refine ev_alloc rfl rfl _ rec_zero ?_; intro g2 W2 hg2 hsz hbn; have hgr := grown_of_below hbn; have ng1g2 : g1 ≠ g2 := (by have := hg1.lt; omega); replace hg2 : Blk W2 g2 _ (Rec.zero.cells none 0) := hg2; have zg2 : w.heap.size ≤ g2 := (by have := HB.size; omega); replace hg1 := hg1.grown hgr (by simp); replace HB := HB.grown hgr (by have := HB.size; omega) (by simp); have hcg2 := hg2.cell; have hfg2 := hg2.frozen; replace hcg1 := hg1.cell; replace hfg1 := hg1.frozen; clear hsz hbn hgr)
      | ((with_reducible refine gate_dst (N := 9) rfl ?_); refine wpList_load_row rfl _ _ rfl g1 rfl _ _ (0, 0) _ hg1 Tryd.underlying27 rfl rec_size ?_)
      | (go_at_call 52; (with_reducible refine (check_calls r A c hf _ (HT.out.next HB) (hd.next HB)).mono ?_); rintro e W3 ⟨rfl, hb⟩; have hgr := grown_of_below hb; replace hg1 := hg1.grown hgr (by simp); replace hg2 := hg2.grown hgr (by simp); replace HB := HB.grown hgr (by have := HB.size; omega) (by simp); replace hcg1 := hg1.cell; replace hfg1 := hg1.frozen; replace hcg2 := hg2.cell; replace hfg2 := hg2.frozen; clear hb hgr)
      | ((with_reducible refine gate_store (p := 4) rfl ?_); refine ev_store_row (cs := Rec.zero.cells none 0) rfl rfl rfl hg2 rfl rfl rec_size rfl (cells_one _ _ _) ?_; intro W4 hgn hgr; replace hg1 := hg1.grown hgr (by intro e; injection e with e; omega); replace HB := HB.grown hgr (by have := HB.size; omega) (by intro k e; injection e with e; omega); replace hg2 := hgn; replace hcg1 := hg1.cell; replace hfg1 := hg1.frozen; replace hcg2 := hg2.cell; replace hfg2 := hg2.frozen; clear hgn hgr))
    refine ret_row rfl hg2 rfl Tryd.underlying27 rfl rec_size rfl ?_
    exact ⟨none, 0, rfl, OB.nil, HB⟩
theorem up_calls (r : Rec) (A : Option Addr) (c : Nat) (to : Int) (hf : r.Fits) (w : World) (hT : Tabs w) (ht : Tab w 1 waysL) (hd : RB w A r.Data) :
    Calls Tryd.prog 38 #[.agg (r.cells A c), .int .i64 to] w fun e w' => ∃ A' c', e = .returned (.tuple #[.agg ((upR r to).cells A' c'), .int .i64 (upE r to)]) ∧ RU w' A' (upR r to).Data ∧ Below w.heap.size w w' :=
  (up_own r A c to hf w hT ht hd).mono fun e w' ⟨A', c', he, hB, hb⟩ => ⟨A', c', he, hB.ru, hb⟩
end Go.Proofs.YtikodgaomhmbmaaDoor
namespace Go.Proofs.YtikodgaomhmbmaaDoor
open Go.RowKit
attribute [local go_sem] Rec.size_ Rec.g0 Rec.g1 Rec.g2 Rec.g3 Rec.g4 Rec.g5 Rec.g6 Rec.g7 Rec.g8 Rec.g9 Rec.g10 Rec.g11 Rec.fold

theorem Rec.lit_fold (r : Rec) (A : Option Addr) (c : Nat) : Array.foldl (fun (cs : Array Value) (x : Value × Nat) => cs.setIfInBounds x.snd x.fst) #[Value.int IntKind.i64 0, Value.int IntKind.i64 0, Value.int IntKind.i64 0, Value.int IntKind.i64 0, Value.int IntKind.i64 0, Value.int IntKind.i64 0, Value.int IntKind.i64 0, Value.int IntKind.i64 0, Value.int IntKind.i64 0, Value.int IntKind.i64 0, Value.string { data := #[] }, Value.slice none 0 0] (r.cells A c).zipIdx 0 12 = r.cells A c := by
  unfold Rec.cells
  simp [Array.zipIdx]
attribute [local go_sem] Rec.lit_fold
/-! ### A load of a struct from whatever address -/
section
variable {P : Program} {ops : Array Oper} {rest : List Oper} {o : Oper} {a : Act} {Q : Exit → Act → World → Prop} {W : World}
theorem run_loadVar_at (w : World) (ad : Addr) (ty : TypeId) (cs : Array Value) (d : TypeDesc) (hc : ∀ j v, cs[j]? = some v → w.cell? (ad.add j) = some v)
    (hu : P.underlying ty = some d) (hd : (match d with | .struct _ | .array _ _ => true | _ => false) = true) (hi : (P.info? ty).map (·.size) = some cs.size) :
    (loadVar ty ad).run P w = .ok (.agg cs) w := by
  have hl : (loadCells ad cs.toList.length).run P w = .ok cs.toList.toArray w := run_loadCells_list (P := P) w ad cs.toList (fun j v hv => hc j v (by simpa using hv))
  cases hq : P.info? ty with
  | none => simp [hq] at hi
  | some i =>
    have hs : i.size = cs.size := by simpa [hq] using hi
    have hz : (sizeOf ty).run P w = .ok cs.size w := by simp [sizeOf, typeInfo, hq, hs]
    have ha : (isAgg ty).run P w = .ok true w := by
      cases d <;> simp at hd <;> simp [isAgg, run_underlying hu]
    have hl' : (loadCells ad cs.size).run P w = .ok cs w := by simpa using hl
    simp [loadVar, ha, hz, hl', Sem.run_bind, Result.andThen]
theorem ev_load_at (hgd : o.guard = none) {ty : TypeId} {x : Operand} (ho : o.op = .load ty x) {ad : Addr} (hx : a.eval x = .pointer (some ad)) {cs : Array Value} {d : TypeDesc} (hc : ∀ j v, cs[j]? = some v → W.cell? (ad.add j) = some v)
    (hu : P.underlying ty = some d) (hd : (match d with | .struct _ | .array _ _ => true | _ => false) = true) (hi : (P.info? ty).map (·.size) = some cs.size)
    (h : wpList P ops Q rest (a.put o.dst (.agg cs)) W) : wpList P ops Q (o :: rest) a W := by
  refine ev_run hgd (w1 := W) (v := .agg cs) ?_ h
  simp [execOp, ho, hx, Instr.loadAt, Instr.sureAddr, run_loadVar_at W ad ty cs d hc hu hd hi]
end
theorem RR.load {w : World} {A : Option Addr} {l : List RA} (h : RR w A l) {k : Nat} {x : RA} (hx : l[k]? = some x) {ad : Addr} (he : A = some ad) : ∀ j v, (x.1.cells x.2.1 x.2.2)[j]? = some v → w.cell? ((ad.add (k * 12)).add j) = some v := by
  obtain ⟨ad', e, _, hc⟩ := h.get hx
  rw [he] at e
  injection e with e
  subst e
  intro j v hv
  rw [add_of_add]
  exact hc j v hv

/-- The Data of records that were made. -/
def RUs (w : World) (os : List RA) : Prop := ∀ x ∈ os, RU w x.2.1 x.1.Data
section
variable {w w' : World} {os : List RA}
theorem RUs.kept {row : Option Nat} (h : RUs w os) (hgr : w.grownBy w' row) (hne : ∀ x ∈ os, x.1.Data ≠ [] → ∀ ad, x.2.1 = some ad → some ad.block ≠ row) : RUs w' os := fun x hx => (h x hx).kept hgr (hne x hx)
theorem RUs.ne_blk {g : Nat} {t : TypeId} {cs : Array Value} (h : RUs w os) (hg : Blk w g t cs) (hne : 5 ≠ t) : ∀ x ∈ os, x.1.Data ≠ [] → ∀ ad, x.2.1 = some ad → some ad.block ≠ some g := fun x hx => (h x hx).ne_blk hg hne
theorem RUs.ne_own {base size n : Nat} {e : TypeId} {v : Value} {xs : List Value} (h : RUs w os) (ho : w.ownsRow base e size v n xs) (hne : 5 ≠ e) : ∀ x ∈ os, x.1.Data ≠ [] → ∀ ad, x.2.1 = some ad → some ad.block ≠ v.ownBlock := fun x hx => (h x hx).ne_own ho hne
theorem RUs.nil : RUs w [] := fun x hx => by cases hx
theorem RUs.snoc {y : RA} (h : RUs w os) (hy : RU w y.2.1 y.1.Data) : RUs w (os ++ [y]) := fun x hx => by
  rcases List.mem_append.1 hx with hx | hx
  · exact h x hx
  · obtain rfl : x = y := by simpa using hx
    exact hy
end

theorem OBs.recs {w : World} {base : Nat} {os : List RA} (h : OBs w base (bs os)) : RUs w os := fun x hx => (h.all (x.1.Data, x.2.1, x.2.2) (List.mem_map.2 ⟨x, hx, rfl⟩)).ru
theorem OBs.rb_at {w : World} {base : Nat} {os : List RA} (h : OBs w base (bs os)) {k : Nat} {x : RA} (hx : os[k]? = some x) : RB w x.2.1 x.1.Data := (h.recs x (List.mem_of_getElem? hx)).rb
/-! ### What UpAll answers -/
def upsE (to : Int) : List Rec → Int
  | [] => 0
  | r :: l => if upE r to = 0 then upsE to l else upE r to
def upsAt (to : Int) : List Rec → Nat → Nat
  | [], _ => 0
  | r :: l, i => if upE r to = 0 then upsAt to l (i + 1) else i
theorem upsE_drop {to : Int} : ∀ {l : List Rec} {k : Nat} {r : Rec}, l[k]? = some r → upsE to (l.drop k) = if upE r to = 0 then upsE to (l.drop (k + 1)) else upE r to
  | [], k, r, h => by simp at h
  | x :: l, 0, r, h => by
    simp at h
    subst h
    rfl
  | x :: l, k + 1, r, h => by
    simpa using upsE_drop (l := l) (k := k) (r := r) (by simpa using h)
theorem upsAt_drop {to : Int} {i : Nat} : ∀ {l : List Rec} {k : Nat} {r : Rec}, l[k]? = some r → upsAt to (l.drop k) i = if upE r to = 0 then upsAt to (l.drop (k + 1)) (i + 1) else i
  | [], k, r, h => by simp at h
  | x :: l, 0, r, h => by
    simp at h
    subst h
    rfl
  | x :: l, k + 1, r, h => by
    simpa using upsAt_drop (l := l) (k := k) (r := r) (by simpa using h)
def upAllE (to : Int) (l : List Rec) : Int := if known to then upsE to l else 3
def upAllAt (to : Int) (l : List Rec) : Nat := if known to then upsAt to l 0 else 0
noncomputable def upAllR (to : Int) (l : List Rec) : List Rec := if upAllE to l = 0 then l.map fun r => upR r to else []

/-- What UpAll said. -/
def UpAllSaid (to : Int) (l : List RA) (w : World) (e : Ending) (w' : World) : Prop :=
  ∃ (A' : Option Addr) (c' : Nat) (os : List RA), e = .returned (.tuple #[.slice A' os.length c', .int .i64 (upAllAt to (l.map (·.1))), .int .i64 (upAllE to (l.map (·.1)))]) ∧ os.map (·.1) = upAllR to (l.map (·.1)) ∧
    w'.ownsRow w.heap.size 27 12 (.slice A' os.length c') os.length (recCells os) ∧ RUs w' os ∧ Below w.heap.size w w'

/-- What UpAll said, the data being its own. -/
def UpAllOwn (to : Int) (l : List RA) (w : World) (e : Ending) (w' : World) : Prop :=
  ∃ (A' : Option Addr) (c' : Nat) (os : List RA), e = .returned (.tuple #[.slice A' os.length c', .int .i64 (upAllAt to (l.map (·.1))), .int .i64 (upAllE to (l.map (·.1)))]) ∧ os.map (·.1) = upAllR to (l.map (·.1)) ∧
    w'.ownsRow w.heap.size 27 12 (.slice A' os.length c') os.length (recCells os) ∧ OBs w' w.heap.size (bs os) ∧ Below w.heap.size w w'

set_option maxHeartbeats 2000000 in
set_option maxRecDepth 100000 in
theorem upAll_own (to : Int) (l : List RA) (A : Option Addr) (c : Nat) (hl : l.length * 120 ≤ 140737488351232) (hfit : ∀ y ∈ l, y.1.Fits) (w : World) (hT : Tabs w) (ht : Tab w 1 waysL) (hr : RR w A l) :
    Calls Tryd.prog 23 #[.int .i64 to, .slice A l.length c] w (UpAllOwn to l w) := by
  have HB := Below.refl w.heap.size w
  have HT := Lib.hid hT
  have Ht := Lib.hid ht
  have Hr := Lib.hid hr
  have Hfit := Lib.hid hfit
  clear hT ht hr hfit
  cases hk : known to
  · have hk' : (decide (1 ≤ to) && decide (to ≤ 3)) = false := hk
    have e1 : upAllAt to (l.map (·.1)) = 0 := by unfold upAllAt; rw [hk]; rfl
    have e2 : upAllE to (l.map (·.1)) = 3 := by unfold upAllE; rw [hk]; rfl
    have e3 : upAllR to (l.map (·.1)) = [] := by unfold upAllR; rw [e2]; rfl
    unfold UpAllOwn
    rw [e1, e2, e3]
    clear e1 e2 e3 hk
    go_enter Tryd.func23, Tryd.ntmps23
    go_wp2_with (first
      | (go_at_call 61; (with_reducible refine (known_calls _ _).mono ?_); rintro e w1 ⟨rfl, rfl⟩; rw [hk']))
    go_ret3
    exact ⟨none, 0, [], rfl, rfl, own_nil _ _ _ _, OBs.nil, HB⟩
  · have hk' : (decide (1 ≤ to) && decide (to ≤ 3)) = true := hk
    have e1 : upAllAt to (l.map (·.1)) = upsAt to (l.map (·.1)) 0 := by unfold upAllAt; rw [hk]; rfl
    have e2 : upAllE to (l.map (·.1)) = upsE to (l.map (·.1)) := by unfold upAllE; rw [hk]; rfl
    have E1 := Lib.hid e1
    have E2 := Lib.hid e2
    clear e1 e2 hk
    go_enter Tryd.func23, Tryd.ntmps23
    go_wp2_with (first
      | (go_at_call 61; (with_reducible refine (known_calls _ _).mono ?_); rintro e w1 ⟨rfl, rfl⟩; rw [hk']))
    go_loopg [7, 17] l.length (fun n v7 v17 wr => ∃ (k : Nat) (A' : Option Addr) (c' : Nat) (os : List RA), n + k = l.length ∧ v17 = .int .i64 k ∧ v7 = .slice A' os.length c' ∧
      Aside (os.length = k ∧ upsAt to (l.map (·.1)) 0 = upsAt to ((l.map (·.1)).drop k) k ∧ upsE to (l.map (·.1)) = upsE to ((l.map (·.1)).drop k) ∧ os.map (·.1) = ((l.map (·.1)).take k).map (fun r => upR r to) ∧
        wr.ownsRow w.heap.size 27 12 (.slice A' os.length c') os.length (recCells os) ∧ OBs wr w.heap.size (bs os) ∧ Below w.heap.size w wr))
    case atStart => exact ⟨0, none, 0, [], by omega, rfl, rfl, ⟨rfl, rfl, rfl, by simp, own_nil _ _ _ _, OBs.nil, HB⟩⟩
    case round =>
      clear HB
      obtain ⟨k, A2, c2, os, hn, rfl, rfl, HA⟩ := hrel
      obtain ⟨hok, hat, he, hos, o1, Qo, HB⟩ := HA.out
      clear HA
      have Hat := Lib.hid hat
      have Hok := Lib.hid hok
      have He := Lib.hid he
      have Hos := Lib.hid hos
      clear hat he hos hok
      by_cases hlt : k < l.length
      · obtain ⟨x, hx⟩ : ∃ x, l[k]? = some x := ⟨l[k], List.getElem?_eq_getElem hlt⟩
        obtain ⟨r, Ar, cr⟩ := x
        have hxm : (l.map (·.1))[k]? = some r := by rw [List.getElem?_map, hx]; rfl
        have hxf : r.Fits := Hfit.out _ (List.mem_of_getElem? hx)
        have hxd : RB w Ar r.Data := Hr.out.data _ (List.mem_of_getElem? hx)
        obtain ⟨ad, had, hadlt, _⟩ := Hr.out.get hx
        have hld := fun (W : World) (hb : Below w.heap.size w W) => (Hr.out.next hb).load hx had
        have Hld := Lib.hid hld
        subst had
        clear hx hld
        by_cases hu : upE r to = 0
        · have cu := fun (W : World) => up_own r Ar cr to hxf W
          generalize hgu : upR r to = u at cu
          have t0 := int_bne_false hu
          have n1 : upsAt to (l.map (·.1)) 0 = upsAt to ((l.map (·.1)).drop (k + 1)) (k + 1) := by rw [Hat.out, upsAt_drop hxm, if_pos hu]
          have n2 : upsE to (l.map (·.1)) = upsE to ((l.map (·.1)).drop (k + 1)) := by rw [He.out, upsE_drop hxm, if_pos hu]
          have n3 : ((l.map (·.1)).take (k + 1)).map (fun r => upR r to) = ((l.map (·.1)).take k).map (fun r => upR r to) ++ [u] := by rw [List.take_add_one, hxm]; simp [hgu]
          have N1 := Lib.hid n1
          have N2 := Lib.hid n2
          have N3 := Lib.hid n3
          have Cu := Lib.hid cu
          clear n1 n2 n3 hu hxm Hat He cu hgu
          go_wp2_with (first
            | ((with_reducible refine gate_dst (N := 21) rfl ?_); refine ev_load_at rfl rfl rfl (Hld.out _ HB) Tryd.underlying27 rfl rec_size ?_)
            | ((with_reducible refine gate_dst (N := 9) rfl ?_); refine ev_alloc rfl rfl _ rec_zero ?_; intro g3 W1 hg3 hsz hbn; have hgr := grown_of_below hbn; have no1g3 := own_new o1 hsz; replace hg3 : Blk W1 g3 _ (Rec.zero.cells none 0) := hg3; have zg3 : w.heap.size ≤ g3 := (by have := HB.size; omega); replace Qo := Qo.kept hgr (by simp); replace o1 := o1.kept hgr (by cases Value.ownBlock _ <;> simp); replace HB := HB.grown hgr (by have := HB.size; omega) (by simp); have hcg3 := hg3.cell; have hfg3 := hg3.frozen; clear hsz hbn hgr)
            | ((with_reducible refine gate_store (p := 9) rfl ?_); refine ev_store_row (cs := r.cells Ar cr) rfl rfl rfl hg3 rfl rfl rec_size rfl (cells_one _ _ _) ?_; intro W2 hgn hgr; replace Qo := Qo.kept hgr (OBs.ne_blk Qo hg3 (by decide)); replace o1 := o1.kept hgr (.inr no1g3); replace HB := HB.grown hgr (by have := HB.size; omega) (by intro k e; injection e with e; omega); replace hg3 := hgn; replace hcg3 := hg3.cell; replace hfg3 := hg3.frozen; clear hgn hgr)
            | ((with_reducible refine gate_dst (N := 23) rfl ?_); refine wpList_load_row rfl _ _ rfl g3 rfl _ _ (0, 0) _ hg3 Tryd.underlying27 rfl rec_size ?_)
            | (go_at_call 38; (with_reducible refine (Cu.out _ (HT.out.next HB) (Ht.out.next HB) (hxd.next HB)).mono ?_); rintro e W3 ⟨A5, c5, rfl, B5, hb⟩; have hgr := grown_of_below hb; have dQoB5 := Qo.apart_new B5 (Nat.le_refl _); replace B5 := B5.mono HB.size; replace Qo := Qo.kept hgr (by simp); replace hg3 := hg3.grown hgr (by simp); replace o1 := o1.kept hgr (by cases Value.ownBlock _ <;> simp); replace HB := HB.grown hgr (by have := HB.size; omega) (by simp); replace hcg3 := hg3.cell; replace hfg3 := hg3.frozen; clear hb hgr)
            | ((with_reducible refine gate_dst (N := 10) rfl ?_); refine ev_alloc rfl rfl _ rec_zero ?_; intro g4 W4 hg4 hsz hbn; have hgr := grown_of_below hbn; have ng3g4 : g3 ≠ g4 := (by have := hg3.lt; omega); have no1g4 := own_new o1 hsz; replace hg4 : Blk W4 g4 _ (Rec.zero.cells none 0) := hg4; have zg4 : w.heap.size ≤ g4 := (by have := HB.size; omega); replace B5 := B5.kept hgr (by simp); replace Qo := Qo.kept hgr (by simp); replace hg3 := hg3.grown hgr (by simp); replace o1 := o1.kept hgr (by cases Value.ownBlock _ <;> simp); replace HB := HB.grown hgr (by have := HB.size; omega) (by simp); have hcg4 := hg4.cell; have hfg4 := hg4.frozen; replace hcg3 := hg3.cell; replace hfg3 := hg3.frozen; clear hsz hbn hgr)
            | ((with_reducible refine gate_store (p := 10) rfl ?_); refine ev_store_row (cs := u.cells A5 c5) rfl rfl rfl hg4 rfl rfl rec_size rfl (cells_one _ _ _) ?_; intro W5 hgn hgr; replace B5 := B5.kept hgr (OB.ne_blk B5 hg4 (by decide)); replace Qo := Qo.kept hgr (OBs.ne_blk Qo hg4 (by decide)); replace hg3 := hg3.grown hgr (by intro e; injection e with e; omega); replace o1 := o1.kept hgr (.inr no1g4); replace HB := HB.grown hgr (by have := HB.size; omega) (by intro k e; injection e with e; omega); replace hg4 := hgn; replace hcg3 := hg3.cell; replace hfg3 := hg3.frozen; replace hcg4 := hg4.cell; replace hfg4 := hg4.frozen; clear hgn hgr)
            | ((with_reducible refine gate_dst (N := 33) rfl ?_); refine wpList_load_row rfl _ _ rfl g4 rfl _ _ (0, 0) _ hg4 Tryd.underlying27 rfl rec_size ?_)
            | ((with_reducible refine gate_dst (N := 34) rfl ?_); refine ev_lit rfl rfl (u.cells A5 c5) 27 1 (by first | (go_simp; done) | (go_simp; rfl)) ?_; intro g5 W6 hg5 hsz hbn; have hgr := grown_of_below hbn; have ng3g5 : g3 ≠ g5 := (by have := hg3.lt; omega); have ng4g5 : g4 ≠ g5 := (by have := hg4.lt; omega); have zg5 : w.heap.size ≤ g5 := (by have := HB.size; omega); replace B5 := B5.kept hgr (by simp); replace Qo := Qo.kept hgr (by simp); replace hg3 := hg3.grown hgr (by simp); replace hg4 := hg4.grown hgr (by simp); replace o1 := o1.kept hgr (by cases Value.ownBlock _ <;> simp); replace HB := HB.grown hgr (by have := HB.size; omega) (by simp); have hcg5 := hg5.cell; have hfg5 := hg5.frozen; replace hcg3 := hg3.cell; replace hfg3 := hg3.frozen; replace hcg4 := hg4.cell; replace hfg4 := hg4.frozen; clear hsz hbn hgr)
            | ((with_reducible refine gate_dst (N := 35) rfl ?_); refine ev_append rfl rfl Tryd.underlying22 info_rec rfl (by omega) rfl o1 rfl (hg5.reads (size := 12) (n := 1) rfl) (recCells_1 (l := [(u, A5, c5)])) (by have := Hok.out; omega) (by omega) (by have := HB.size; omega) ?_; intro A6 c6 W7 on hgr hat; replace B5 := B5.kept hgr (OB.ne_own B5 o1 (by decide)); replace Qo := Qo.kept hgr (OBs.ne_own Qo o1 (by decide)); replace hg3 := hg3.grown hgr (fun e => no1g3 e.symm); replace hg4 := hg4.grown hgr (fun e => no1g4 e.symm); replace HB := HB.grown hgr (by have := HB.size; omega) (own_base o1); replace o1 := on; replace hcg3 := hg3.cell; replace hfg3 := hg3.frozen; replace hcg4 := hg4.cell; replace hfg4 := hg4.frozen; clear on hgr hat))
          go_roundg (gk - 1)
          case measure => omega
          case rel => exact ⟨k + 1, A6, c6, os ++ [(u, A5, c5)], by omega, by go_num, by simp, ⟨by simp [Hok.out], N1.out, N2.out, by rw [List.map_append, Hos.out, N3.out]; rfl, by rw [recCells_append, recCells_one]; simpa [RA.cs] using o1, by rw [bs_snoc]; exact Qo.snoc B5 dQoB5, HB⟩⟩
        · have t0 := int_bne_true hu
          have n1 : upAllAt to (l.map (·.1)) = k := by rw [E1.out, Hat.out, upsAt_drop hxm, if_neg hu]
          have n2 : upAllE to (l.map (·.1)) = upE r to := by rw [E2.out, He.out, upsE_drop hxm, if_neg hu]
          have n3 : upAllR to (l.map (·.1)) = [] := by unfold upAllR; rw [n2, if_neg hu]
          have N1 := Lib.hid n1
          have N2 := Lib.hid n2
          have N3 := Lib.hid n3
          clear n1 n2 n3 hu hxm Hat He
          go_wp2_with (first
            | ((with_reducible refine gate_dst (N := 21) rfl ?_); refine ev_load_at rfl rfl rfl (Hld.out _ HB) Tryd.underlying27 rfl rec_size ?_)
            | ((with_reducible refine gate_dst (N := 9) rfl ?_); refine ev_alloc rfl rfl _ rec_zero ?_; intro g3 W1 hg3 hsz hbn; have hgr := grown_of_below hbn; replace hg3 : Blk W1 g3 _ (Rec.zero.cells none 0) := hg3; have zg3 : w.heap.size ≤ g3 := (by have := HB.size; omega); replace HB := HB.grown hgr (by have := HB.size; omega) (by simp); have hcg3 := hg3.cell; have hfg3 := hg3.frozen; clear hsz hbn hgr)
            | ((with_reducible refine gate_store (p := 9) rfl ?_); refine ev_store_row (cs := r.cells Ar cr) rfl rfl rfl hg3 rfl rfl rec_size rfl (cells_one _ _ _) ?_; intro W2 hgn hgr; replace HB := HB.grown hgr (by have := HB.size; omega) (by intro k e; injection e with e; omega); replace hg3 := hgn; replace hcg3 := hg3.cell; replace hfg3 := hg3.frozen; clear hgn hgr)
            | ((with_reducible refine gate_dst (N := 23) rfl ?_); refine wpList_load_row rfl _ _ rfl g3 rfl _ _ (0, 0) _ hg3 Tryd.underlying27 rfl rec_size ?_)
            | (go_at_call 38; (with_reducible refine (up_calls r Ar cr to hxf _ (HT.out.next HB) (Ht.out.next HB) (hxd.next HB)).mono ?_); rintro e W3 ⟨A5, c5, rfl, hd5, hb⟩; have hgr := grown_of_below hb; replace hg3 := hg3.grown hgr (by simp); replace HB := HB.grown hgr (by have := HB.size; omega) (by simp); replace hcg3 := hg3.cell; replace hfg3 := hg3.frozen; clear hb hgr)
            | ((with_reducible refine gate_dst (N := 10) rfl ?_); refine ev_alloc rfl rfl _ rec_zero ?_; intro g4 W4 hg4 hsz hbn; have hgr := grown_of_below hbn; have ng3g4 : g3 ≠ g4 := (by have := hg3.lt; omega); replace hg4 : Blk W4 g4 _ (Rec.zero.cells none 0) := hg4; have zg4 : w.heap.size ≤ g4 := (by have := HB.size; omega); replace hg3 := hg3.grown hgr (by simp); replace HB := HB.grown hgr (by have := HB.size; omega) (by simp); have hcg4 := hg4.cell; have hfg4 := hg4.frozen; replace hcg3 := hg3.cell; replace hfg3 := hg3.frozen; clear hsz hbn hgr)
            | ((with_reducible refine gate_store (p := 10) rfl ?_); refine ev_store_row (cs := (upR r to).cells A5 c5) rfl rfl rfl hg4 rfl rfl rec_size rfl (cells_one _ _ _) ?_; intro W5 hgn hgr; replace hg3 := hg3.grown hgr (by intro e; injection e with e; omega); replace HB := HB.grown hgr (by have := HB.size; omega) (by intro k e; injection e with e; omega); replace hg4 := hgn; replace hcg3 := hg3.cell; replace hfg3 := hg3.frozen; replace hcg4 := hg4.cell; replace hfg4 := hg4.frozen; clear hgn hgr))
          go_ret3
          exact ⟨none, 0, [], by rw [N1.out, N2.out]; rfl, N3.out.symm, own_nil _ _ _ _, OBs.nil, HB⟩
      · obtain rfl : k = l.length := by omega
        have n1 : upAllAt to (l.map (·.1)) = 0 := by rw [E1.out, Hat.out, List.drop_eq_nil_of_le (by simp)]; rfl
        have n2 : upAllE to (l.map (·.1)) = 0 := by rw [E2.out, He.out, List.drop_eq_nil_of_le (by simp)]; rfl
        have n3 : upAllR to (l.map (·.1)) = os.map (·.1) := by unfold upAllR; rw [n2, if_pos rfl, Hos.out, List.take_of_length_le (by simp)]
        go_wp2
        go_ret3
        exact ⟨A2, c2, os, by rw [n1, n2]; rfl, n3.symm, o1, Qo, HB⟩
theorem upAll_calls (to : Int) (l : List RA) (A : Option Addr) (c : Nat) (hl : l.length * 120 ≤ 140737488351232) (hfit : ∀ y ∈ l, y.1.Fits) (w : World) (hT : Tabs w) (ht : Tab w 1 waysL) (hr : RR w A l) :
    Calls Tryd.prog 23 #[.int .i64 to, .slice A l.length c] w (UpAllSaid to l w) :=
  (upAll_own to l A c hl hfit w hT ht hr).mono fun e w' ⟨A', c', os, he, hos, ho, hS, hb⟩ => ⟨A', c', os, he, hos, ho, hS.recs, hb⟩
end Go.Proofs.YtikodgaomhmbmaaDoor
namespace Go.Proofs.YtikodgaomhmbmaaDoor
open Go.RowKit
attribute [local go_sem] Rec.size_ Rec.g0 Rec.g1 Rec.g2 Rec.g3 Rec.g4 Rec.g5 Rec.g6 Rec.g7 Rec.g8 Rec.g9 Rec.g10 Rec.g11 Rec.fold Rec.lit_fold Rec.same_self

theorem num_calls (v : Int) (w : World) : Calls Tryd.prog 37 #[.int .i64 v] w fun e w' => e = .returned (.int .i64 v) ∧ w = w' := by
  go_enter Tryd.func37, Tryd.ntmps37
  go_wp2
  go_ret
  exact ⟨rfl, rfl⟩

/-- The record that LiftEach asks ahead of all. -/
def endR : Rec := { Rec.zero with V := 2, Kind := 7, Saga := 9 }
theorem endR_chk : endR.chk = 0 := by decide +kernel
theorem endR_up : upE endR 3 = 0 ∧ upR endR 3 = { endR with V := 3 } := by
  have h : upE endR 3 = 0 := by unfold upE; rw [endR_chk]; decide +kernel
  refine ⟨h, ?_⟩
  unfold upR
  rw [if_pos h]
  exact (turn_23 (r := endR) rfl).1
theorem upAll_end (A : Option Addr) (c : Nat) (w : World) (hT : Tabs w) (ht : Tab w 1 waysL) (hr : Reads w w.heap.size 12 A 1 (endR.cells none 0).toList) :
    Calls Tryd.prog 23 #[.int .i64 3, .slice A 1 c] w fun e w' => ∃ g c', e = .returned (.tuple #[.slice (some ⟨g, 0, none⟩) 1 c', .int .i64 0, .int .i64 0]) ∧ w'.cell? ⟨g, 0, none⟩ = some (.int .i64 3) ∧ w'.cell? ⟨g, 2, none⟩ = some (.int .i64 9) ∧ Below w.heap.size w w' := by
  have hone : ∀ x ∈ [((endR, none, 0) : RA)], x = (endR, none, 0) := fun x hx => by simpa using hx
  have hR : RR w A [(endR, none, 0)] := ⟨by rw [recCells_one]; exact hr, fun x hx => by rw [hone x hx]; exact RB.nil⟩
  refine (upAll_calls 3 [(endR, none, 0)] A c (by decide) (fun y hy => by rw [hone y hy]; exact ⟨by decide, by decide⟩) w hT ht hR).mono fun e w' ⟨A', c', os, he, hos, ho, _, hb⟩ => ?_
  have e1 : upAllE 3 ([(endR, none, 0)].map (fun x : RA => x.1)) = 0 := by
    show upAllE 3 [endR] = 0
    unfold upAllE
    rw [if_pos (show known 3 = true by decide)]
    show (if upE endR 3 = 0 then _ else _) = _
    rw [if_pos endR_up.1]
    rfl
  have e2 : upAllAt 3 ([(endR, none, 0)].map (fun x : RA => x.1)) = 0 := by
    show upAllAt 3 [endR] = 0
    unfold upAllAt
    rw [if_pos (show known 3 = true by decide)]
    show (if upE endR 3 = 0 then _ else _) = _
    rw [if_pos endR_up.1]
    rfl
  have e3 : upAllR 3 ([(endR, none, 0)].map (fun x : RA => x.1)) = [{ endR with V := 3 }] := by
    unfold upAllR
    rw [if_pos e1]
    show [upR endR 3] = _
    rw [endR_up.2]
  rw [e1, e2] at he
  rw [e3] at hos
  obtain ⟨x, rfl⟩ : ∃ x, os = [x] := by
    cases os with
    | nil => simp at hos
    | cons x t => cases t with
      | nil => exact ⟨x, rfl⟩
      | cons y t => simp at hos
  have hx : x.1 = { endR with V := 3 } := by simpa using hos
  obtain ⟨g, rfl, _⟩ := own_at ho (by simp)
  refine ⟨g, c', he, ?_, ?_, hb⟩
  · exact ho.cells (g := g) rfl 0 _ (by rw [recCells_one, RA.cs_get, hx]; rfl)
  · exact ho.cells (g := g) rfl 2 _ (by rw [recCells_one, RA.cs_get, hx]; rfl)

/-- The first answer of LiftEach, its error's number and place named. -/
theorem upAll_named (to : Int) (l : List RA) (A : Option Addr) (c : Nat) (hl : l.length * 120 ≤ 140737488351232) (hfit : ∀ y ∈ l, y.1.Fits) :
    ∃ (ua ue : Int), ua = (upAllAt to (l.map (·.1)) : Int) ∧ ue = upAllE to (l.map (·.1)) ∧ ∀ (w : World), Tabs w → Tab w 1 waysL → RR w A l →
      Calls Tryd.prog 23 #[.int .i64 to, .slice A l.length c] w fun e w' => ∃ (A' : Option Addr) (c' : Nat) (os : List RA), e = .returned (.tuple #[.slice A' os.length c', .int .i64 ua, .int .i64 ue]) ∧ Aside (os.map (·.1) = upAllR to (l.map (·.1))) ∧
        w'.ownsRow w.heap.size 27 12 (.slice A' os.length c') os.length (recCells os) ∧ RUs w' os ∧ Below w.heap.size w w' :=
  ⟨_, _, rfl, rfl, fun w hT ht hr => (upAll_calls to l A c hl hfit w hT ht hr).mono fun e w' ⟨A', c', os, he, hos, ho, hS, hb⟩ => ⟨A', c', os, he, hos, ho, hS, hb⟩⟩

theorem os_nil {os : List RA} (h : os.map (·.1) = []) : os = [] := by simpa using h
theorem RUs.next {w w' : World} {os : List RA} (h : RUs w os) (hb : Below w.heap.size w w') : RUs w' os := fun x hx => (h x hx).next hb

end Go.Proofs.YtikodgaomhmbmaaDoor
namespace Go.Proofs.YtikodgaomhmbmaaDoor
open Go.RowKit
attribute [local go_sem] Rec.size_ Rec.g0 Rec.g1 Rec.g2 Rec.g3 Rec.g4 Rec.g5 Rec.g6 Rec.g7 Rec.g8 Rec.g9 Rec.g10 Rec.g11 Rec.fold

theorem take_at {P : Program} {ops : Array Oper} {Q : Exit → Act → World → Prop} {S : World → Prop} {i : Nat} {oi : Oper} {v : Value} {fuel : Nat} {listed : Array Bool} {a : Act} {w : World} (N : Tmp) (hi : ops[i]? = some oi) (hN : oi.dst = some N)
    (hs : Region.noSelect ops = true) (hf : Region.free .any ops listed i = true) (hr : (Region.ready .any ops listed).contains i = true)
    (hQ : ∀ c a w, Q (.panic c) (a.put oi.dst v) w → Q (.panic c) a w) (hy : YieldsIf P ops S oi v a) (hS : S w)
    (h : wpAnyH P .any ops Q S fuel (listed.setIfInBounds i true) (a.put (some N) v) w) : wpAnyH P .any ops Q S (fuel + 1) listed a w :=
  wpAnyH_take hi hs hf hr hQ hy hS (by rw [hN]; exact h)
/-- What a load of a whole row yields, in every world that holds it. -/
theorem yields_row {P : Program} {ops : Array Oper} {S : World → Prop} {o : Oper} {a : Act} (hw : Region.wanted o (yielded ops a.tmps) = true) {ty : TypeId} {x : Operand} (ho : o.op = .load ty x) {g : Nat} {t : TypeId} {cs : Array Value} {d : TypeDesc} (hx : a.eval x = .pointer (some ⟨g, 0, none⟩))
    (hS : ∀ w, S w → Blk w g t cs) (hu : P.underlying ty = some d) (hd : (match d with | .struct _ | .array _ _ => true | _ => false) = true) (hi : (P.info? ty).map (·.size) = some cs.size) : YieldsIf P ops S o (.agg cs) a :=
  .inl ⟨hw, fun w h => by simp [execOp, ho, hx, Instr.loadAt, Instr.sureAddr, run_loadVar_row w g t ty cs (0, 0) d (hS w h) hu hd hi]⟩
theorem held_store {P : Program} {ops : Array Oper} {Q : Exit → Act → World → Prop} {S : World → Prop} {fuel i : Nat} {listed : Array Bool} {a : Act} {W : World} {o : Oper} (hr : Region.ready .any ops listed = [i]) (hi : ops[i]? = some o) (hgd : o.guard = none) (hN : o.dst = none) {t : TypeId} {p x : Operand} (ho : o.op = .store t p x) {g : Nat} {te : TypeId} {old cs : Array Value} (hB : Blk W g te old)
    (hp : a.eval p = .pointer (some ⟨g, 0, none⟩)) (hx : a.eval x = .agg cs) (hz : (P.info? t).map (·.size) = some cs.size) (hs : old.size = cs.size) (h1 : cs.all (·.oneCell') = true)
    (h : ∀ w1, Blk w1 g te cs → W.grownBy w1 (some g) → S w1 ∧ wpAnyH P .any ops Q S fuel (listed.setIfInBounds i true) a w1) : wpAnyH P .any ops Q S (fuel + 1) listed a W := by
  refine wpAnyH_all hr (by simp) fun j hj => ?_
  obtain rfl : j = i := by simpa using hj
  refine wpOp_step hi fun K' hK => ?_
  rw [if_pos (by simp [Region.wanted, hgd])]
  have hrun : (execOp a.eval o).run P W = .ok .skip (W.setRow g cs) := by
    have := run_storeVar_row (P := P) W g te t old cs hB hz hs h1
    simp [execOp, ho, hp, hx, Instr.storeAt, Instr.sureAddr, this]
  unfold Oper.wp
  rw [hrun]
  show K' (a.put o.dst undef) _
  rw [hN]
  exact hK _ _ (h _ (setRow_heap W g old cs te (0, 0) hB) ⟨rfl, rfl, rfl, by simp, fun i _ hne => setRow_other W g i cs (fun e => hne (by rw [e]))⟩)

set_option maxHeartbeats 4000000 in
set_option maxRecDepth 100000 in
theorem plain_calls (r : Rec) (A : Option Addr) (c : Nat) (w : World) (hd : RU w A r.Data) : HopSaid Tryd.prog 97 r (plainF r) r A c w := by
  unfold HopSaid
  have HB := Below.refl w.heap.size w
  have key : ∀ o1 o2 : Bool, (r.Pivot == 0) = o1 → (r.Code == 0) = o2 → Calls Tryd.prog 97 #[.agg (r.cells A c)] w fun e w' => ∃ A' c', e = .returned (.tuple #[.agg (r.cells A' c'), .bool (plainF r)]) ∧ HopData w.heap.size A c r.Data A' c' r.Data w' ∧ Below w.heap.size w w' := by
    intro o1 o2 h1 h2
    have e : plainF r = (o1 && o2) := by unfold plainF; rw [h1, h2]
    rw [e]
    clear e
    cases o1 <;> cases o2
    · go_enter Tryd.func97, Tryd.ntmps97
      go_wp2_with (first
        | ((with_reducible refine gate_dst (N := 1) rfl ?_); refine ev_box rfl rfl (r.cells A c) rfl ?_; intro g1 W1 hg1 hsz hbn; have hgr := grown_of_below hbn; have zg1 : w.heap.size ≤ g1 := (by have := HB.size; omega); replace HB := HB.grown hgr (by have := HB.size; omega) (by simp); have hcg1 := hg1.cell; have hfg1 := hg1.frozen; clear hsz hbn hgr)
        | ((with_reducible refine gate_dst (N := 2) rfl ?_); refine ev_alloc rfl rfl _ rec_zero ?_; intro g2 W2 hg2 hsz hbn; have hgr := grown_of_below hbn; have ng1g2 : g1 ≠ g2 := (by have := hg1.lt; omega); replace hg2 : Blk W2 g2 _ (Rec.zero.cells none 0) := hg2; have zg2 : w.heap.size ≤ g2 := (by have := HB.size; omega); replace hg1 := hg1.grown hgr (by simp); replace HB := HB.grown hgr (by have := HB.size; omega) (by simp); have hcg2 := hg2.cell; have hfg2 := hg2.frozen; replace hcg1 := hg1.cell; replace hfg1 := hg1.frozen; clear hsz hbn hgr))
      refine wp_region_held (S := fun w' => Blk w' g1 27 (r.cells A c)) (by kernel_rfl) ?_
      refine take_at (i := 0) 4 rfl rfl (by kernel_rfl) (by kernel_rfl) (by kernel_rfl) (fun _ _ _ h => h) (yields_row rfl rfl rfl (fun _ h => h) Tryd.underlying27 rfl rec_size) (hg1.drewN 1) ?_
      simp only [Act.put, List.setIfInBounds_toArray, List.set_cons_succ, List.set_cons_zero]
      refine take_at (i := 1) (v := .pointer (some ⟨g1, 9, none⟩)) 5 rfl rfl (by kernel_rfl) (by kernel_rfl) (by kernel_rfl) (fun _ _ _ h => h) (.inl ⟨rfl, fun w h => by simp [go_sem, h.cell, h1, h2]⟩) (hg1.drewN 1) ?_
      simp only [Act.put, List.setIfInBounds_toArray, List.set_cons_succ, List.set_cons_zero]
      refine take_at (i := 2) (v := .int .i64 r.Pivot) 6 rfl rfl (by kernel_rfl) (by kernel_rfl) (by kernel_rfl) (fun _ _ _ h => h) (.inl ⟨rfl, fun w h => by simp [go_sem, h.cell, h1, h2]⟩) (hg1.drewN 1) ?_
      simp only [Act.put, List.setIfInBounds_toArray, List.set_cons_succ, List.set_cons_zero]
      refine take_at (i := 3) (v := .bool false) 7 rfl rfl (by kernel_rfl) (by kernel_rfl) (by kernel_rfl) (fun _ _ _ h => h) (.inl ⟨rfl, fun w h => by simp [go_sem, h.cell, h1, h2]⟩) (hg1.drewN 1) ?_
      simp only [Act.put, List.setIfInBounds_toArray, List.set_cons_succ, List.set_cons_zero]
      refine take_at (i := 4) (v := .bool false) 8 rfl rfl (by kernel_rfl) (by kernel_rfl) (by kernel_rfl) (fun _ _ _ h => h) (.inl ⟨rfl, fun w h => by simp [go_sem, h.cell, h1, h2]⟩) (hg1.drewN 1) ?_
      simp only [Act.put, List.setIfInBounds_toArray, List.set_cons_succ, List.set_cons_zero]
      refine take_at (i := 5) (v := undef) 9 rfl rfl (by kernel_rfl) (by kernel_rfl) (by kernel_rfl) (fun _ _ _ h => h) (.inr ⟨by simp [Region.wanted, yielded], rfl⟩) (hg1.drewN 1) ?_
      simp only [Act.put, List.setIfInBounds_toArray, List.set_cons_succ, List.set_cons_zero]
      refine take_at (i := 6) (v := undef) 10 rfl rfl (by kernel_rfl) (by kernel_rfl) (by kernel_rfl) (fun _ _ _ h => h) (.inr ⟨by simp [Region.wanted, yielded], rfl⟩) (hg1.drewN 1) ?_
      simp only [Act.put, List.setIfInBounds_toArray, List.set_cons_succ, List.set_cons_zero]
      refine take_at (i := 7) (v := undef) 11 rfl rfl (by kernel_rfl) (by kernel_rfl) (by kernel_rfl) (fun _ _ _ h => h) (.inr ⟨by simp [Region.wanted, yielded], rfl⟩) (hg1.drewN 1) ?_
      simp only [Act.put, List.setIfInBounds_toArray, List.set_cons_succ, List.set_cons_zero]
      refine take_at (i := 8) (v := .bool false) 12 rfl rfl (by kernel_rfl) (by kernel_rfl) (by kernel_rfl) (fun _ _ _ h => h) (.inl ⟨by simp [Region.wanted, yielded], fun w h => by simp [go_sem, h.cell, h1, h2]⟩) (hg1.drewN 1) ?_
      simp only [Act.put, List.setIfInBounds_toArray, List.set_cons_succ, List.set_cons_zero]
      refine held_store (S := fun w' => Blk w' g1 27 (r.cells A c)) (P := Tryd.prog) (i := 9) (g := g2) (te := 27) (old := Rec.zero.cells none 0) (cs := r.cells A c) (t := 27) (p := .tmp 2) (x := .tmp 4) (by kernel_rfl) rfl rfl rfl rfl (hg2.drewN 1) (by simp [go_sem]) (by simp [go_sem]) rec_size rfl (cells_one _ _ _) (fun w3 hg2 hgr => ⟨(hg1.drewN 1).grown hgr (by intro e; injection e with e; omega), ?_⟩)
      have hg1' : Blk w3 g1 27 (r.cells A c) := (hg1.drewN 1).grown hgr (by intro e; injection e with e; omega)
      replace HB := (below_drewN HB 1).grown hgr (by have := (below_drewN HB 1).size; omega) (by intro k e; injection e with e; omega)
      refine take_at (i := 10) (v := .bool false) 3 rfl rfl (by kernel_rfl) (by kernel_rfl) (by kernel_rfl) (fun _ _ _ h => h) (.inl ⟨by simp [Region.wanted, yielded], fun w h => by simp [go_sem, h.cell, h1, h2]⟩) hg1' ?_
      simp only [Act.put, List.setIfInBounds_toArray, List.set_cons_succ, List.set_cons_zero]
      refine wpAnyH_done (by kernel_rfl) ?_ _
      go_wp2
      refine ret_row rfl hg2 rfl Tryd.underlying27 rfl rec_size rfl ?_
      exact ⟨A, c, rfl, HopData.stays, HB⟩
    · go_enter Tryd.func97, Tryd.ntmps97
      go_wp2_with (first
        | ((with_reducible refine gate_dst (N := 1) rfl ?_); refine ev_box rfl rfl (r.cells A c) rfl ?_; intro g1 W1 hg1 hsz hbn; have hgr := grown_of_below hbn; have zg1 : w.heap.size ≤ g1 := (by have := HB.size; omega); replace HB := HB.grown hgr (by have := HB.size; omega) (by simp); have hcg1 := hg1.cell; have hfg1 := hg1.frozen; clear hsz hbn hgr)
        | ((with_reducible refine gate_dst (N := 2) rfl ?_); refine ev_alloc rfl rfl _ rec_zero ?_; intro g2 W2 hg2 hsz hbn; have hgr := grown_of_below hbn; have ng1g2 : g1 ≠ g2 := (by have := hg1.lt; omega); replace hg2 : Blk W2 g2 _ (Rec.zero.cells none 0) := hg2; have zg2 : w.heap.size ≤ g2 := (by have := HB.size; omega); replace hg1 := hg1.grown hgr (by simp); replace HB := HB.grown hgr (by have := HB.size; omega) (by simp); have hcg2 := hg2.cell; have hfg2 := hg2.frozen; replace hcg1 := hg1.cell; replace hfg1 := hg1.frozen; clear hsz hbn hgr))
      refine wp_region_held (S := fun w' => Blk w' g1 27 (r.cells A c)) (by kernel_rfl) ?_
      refine take_at (i := 0) 4 rfl rfl (by kernel_rfl) (by kernel_rfl) (by kernel_rfl) (fun _ _ _ h => h) (yields_row rfl rfl rfl (fun _ h => h) Tryd.underlying27 rfl rec_size) (hg1.drewN 1) ?_
      simp only [Act.put, List.setIfInBounds_toArray, List.set_cons_succ, List.set_cons_zero]
      refine take_at (i := 1) (v := .pointer (some ⟨g1, 9, none⟩)) 5 rfl rfl (by kernel_rfl) (by kernel_rfl) (by kernel_rfl) (fun _ _ _ h => h) (.inl ⟨rfl, fun w h => by simp [go_sem, h.cell, h1, h2]⟩) (hg1.drewN 1) ?_
      simp only [Act.put, List.setIfInBounds_toArray, List.set_cons_succ, List.set_cons_zero]
      refine take_at (i := 2) (v := .int .i64 r.Pivot) 6 rfl rfl (by kernel_rfl) (by kernel_rfl) (by kernel_rfl) (fun _ _ _ h => h) (.inl ⟨rfl, fun w h => by simp [go_sem, h.cell, h1, h2]⟩) (hg1.drewN 1) ?_
      simp only [Act.put, List.setIfInBounds_toArray, List.set_cons_succ, List.set_cons_zero]
      refine take_at (i := 3) (v := .bool false) 7 rfl rfl (by kernel_rfl) (by kernel_rfl) (by kernel_rfl) (fun _ _ _ h => h) (.inl ⟨rfl, fun w h => by simp [go_sem, h.cell, h1, h2]⟩) (hg1.drewN 1) ?_
      simp only [Act.put, List.setIfInBounds_toArray, List.set_cons_succ, List.set_cons_zero]
      refine take_at (i := 4) (v := .bool false) 8 rfl rfl (by kernel_rfl) (by kernel_rfl) (by kernel_rfl) (fun _ _ _ h => h) (.inl ⟨rfl, fun w h => by simp [go_sem, h.cell, h1, h2]⟩) (hg1.drewN 1) ?_
      simp only [Act.put, List.setIfInBounds_toArray, List.set_cons_succ, List.set_cons_zero]
      refine take_at (i := 5) (v := undef) 9 rfl rfl (by kernel_rfl) (by kernel_rfl) (by kernel_rfl) (fun _ _ _ h => h) (.inr ⟨by simp [Region.wanted, yielded], rfl⟩) (hg1.drewN 1) ?_
      simp only [Act.put, List.setIfInBounds_toArray, List.set_cons_succ, List.set_cons_zero]
      refine take_at (i := 6) (v := undef) 10 rfl rfl (by kernel_rfl) (by kernel_rfl) (by kernel_rfl) (fun _ _ _ h => h) (.inr ⟨by simp [Region.wanted, yielded], rfl⟩) (hg1.drewN 1) ?_
      simp only [Act.put, List.setIfInBounds_toArray, List.set_cons_succ, List.set_cons_zero]
      refine take_at (i := 7) (v := undef) 11 rfl rfl (by kernel_rfl) (by kernel_rfl) (by kernel_rfl) (fun _ _ _ h => h) (.inr ⟨by simp [Region.wanted, yielded], rfl⟩) (hg1.drewN 1) ?_
      simp only [Act.put, List.setIfInBounds_toArray, List.set_cons_succ, List.set_cons_zero]
      refine take_at (i := 8) (v := .bool false) 12 rfl rfl (by kernel_rfl) (by kernel_rfl) (by kernel_rfl) (fun _ _ _ h => h) (.inl ⟨by simp [Region.wanted, yielded], fun w h => by simp [go_sem, h.cell, h1, h2]⟩) (hg1.drewN 1) ?_
      simp only [Act.put, List.setIfInBounds_toArray, List.set_cons_succ, List.set_cons_zero]
      refine held_store (S := fun w' => Blk w' g1 27 (r.cells A c)) (P := Tryd.prog) (i := 9) (g := g2) (te := 27) (old := Rec.zero.cells none 0) (cs := r.cells A c) (t := 27) (p := .tmp 2) (x := .tmp 4) (by kernel_rfl) rfl rfl rfl rfl (hg2.drewN 1) (by simp [go_sem]) (by simp [go_sem]) rec_size rfl (cells_one _ _ _) (fun w3 hg2 hgr => ⟨(hg1.drewN 1).grown hgr (by intro e; injection e with e; omega), ?_⟩)
      have hg1' : Blk w3 g1 27 (r.cells A c) := (hg1.drewN 1).grown hgr (by intro e; injection e with e; omega)
      replace HB := (below_drewN HB 1).grown hgr (by have := (below_drewN HB 1).size; omega) (by intro k e; injection e with e; omega)
      refine take_at (i := 10) (v := .bool false) 3 rfl rfl (by kernel_rfl) (by kernel_rfl) (by kernel_rfl) (fun _ _ _ h => h) (.inl ⟨by simp [Region.wanted, yielded], fun w h => by simp [go_sem, h.cell, h1, h2]⟩) hg1' ?_
      simp only [Act.put, List.setIfInBounds_toArray, List.set_cons_succ, List.set_cons_zero]
      refine wpAnyH_done (by kernel_rfl) ?_ _
      go_wp2
      refine ret_row rfl hg2 rfl Tryd.underlying27 rfl rec_size rfl ?_
      exact ⟨A, c, rfl, HopData.stays, HB⟩
    · go_enter Tryd.func97, Tryd.ntmps97
      go_wp2_with (first
        | ((with_reducible refine gate_dst (N := 1) rfl ?_); refine ev_box rfl rfl (r.cells A c) rfl ?_; intro g1 W1 hg1 hsz hbn; have hgr := grown_of_below hbn; have zg1 : w.heap.size ≤ g1 := (by have := HB.size; omega); replace HB := HB.grown hgr (by have := HB.size; omega) (by simp); have hcg1 := hg1.cell; have hfg1 := hg1.frozen; clear hsz hbn hgr)
        | ((with_reducible refine gate_dst (N := 2) rfl ?_); refine ev_alloc rfl rfl _ rec_zero ?_; intro g2 W2 hg2 hsz hbn; have hgr := grown_of_below hbn; have ng1g2 : g1 ≠ g2 := (by have := hg1.lt; omega); replace hg2 : Blk W2 g2 _ (Rec.zero.cells none 0) := hg2; have zg2 : w.heap.size ≤ g2 := (by have := HB.size; omega); replace hg1 := hg1.grown hgr (by simp); replace HB := HB.grown hgr (by have := HB.size; omega) (by simp); have hcg2 := hg2.cell; have hfg2 := hg2.frozen; replace hcg1 := hg1.cell; replace hfg1 := hg1.frozen; clear hsz hbn hgr))
      refine wp_region_held (S := fun w' => Blk w' g1 27 (r.cells A c)) (by kernel_rfl) ?_
      refine take_at (i := 0) 4 rfl rfl (by kernel_rfl) (by kernel_rfl) (by kernel_rfl) (fun _ _ _ h => h) (yields_row rfl rfl rfl (fun _ h => h) Tryd.underlying27 rfl rec_size) (hg1.drewN 1) ?_
      simp only [Act.put, List.setIfInBounds_toArray, List.set_cons_succ, List.set_cons_zero]
      refine take_at (i := 1) (v := .pointer (some ⟨g1, 9, none⟩)) 5 rfl rfl (by kernel_rfl) (by kernel_rfl) (by kernel_rfl) (fun _ _ _ h => h) (.inl ⟨rfl, fun w h => by simp [go_sem, h.cell, h1, h2]⟩) (hg1.drewN 1) ?_
      simp only [Act.put, List.setIfInBounds_toArray, List.set_cons_succ, List.set_cons_zero]
      refine take_at (i := 2) (v := .int .i64 r.Pivot) 6 rfl rfl (by kernel_rfl) (by kernel_rfl) (by kernel_rfl) (fun _ _ _ h => h) (.inl ⟨rfl, fun w h => by simp [go_sem, h.cell, h1, h2]⟩) (hg1.drewN 1) ?_
      simp only [Act.put, List.setIfInBounds_toArray, List.set_cons_succ, List.set_cons_zero]
      refine take_at (i := 3) (v := .bool true) 7 rfl rfl (by kernel_rfl) (by kernel_rfl) (by kernel_rfl) (fun _ _ _ h => h) (.inl ⟨rfl, fun w h => by simp [go_sem, h.cell, h1, h2]⟩) (hg1.drewN 1) ?_
      simp only [Act.put, List.setIfInBounds_toArray, List.set_cons_succ, List.set_cons_zero]
      refine take_at (i := 4) (v := .bool true) 8 rfl rfl (by kernel_rfl) (by kernel_rfl) (by kernel_rfl) (fun _ _ _ h => h) (.inl ⟨rfl, fun w h => by simp [go_sem, h.cell, h1, h2]⟩) (hg1.drewN 1) ?_
      simp only [Act.put, List.setIfInBounds_toArray, List.set_cons_succ, List.set_cons_zero]
      refine take_at (i := 5) (v := .pointer (some ⟨g1, 7, none⟩)) 9 rfl rfl (by kernel_rfl) (by kernel_rfl) (by kernel_rfl) (fun _ _ _ h => h) (.inl ⟨by simp [Region.wanted, yielded], fun w h => by simp [go_sem, h.cell, h1, h2]⟩) (hg1.drewN 1) ?_
      simp only [Act.put, List.setIfInBounds_toArray, List.set_cons_succ, List.set_cons_zero]
      refine take_at (i := 6) (v := .int .i64 r.Code) 10 rfl rfl (by kernel_rfl) (by kernel_rfl) (by kernel_rfl) (fun _ _ _ h => h) (.inl ⟨by simp [Region.wanted, yielded], fun w h => by simp [go_sem, h.cell, h1, h2]⟩) (hg1.drewN 1) ?_
      simp only [Act.put, List.setIfInBounds_toArray, List.set_cons_succ, List.set_cons_zero]
      refine take_at (i := 7) (v := .bool false) 11 rfl rfl (by kernel_rfl) (by kernel_rfl) (by kernel_rfl) (fun _ _ _ h => h) (.inl ⟨by simp [Region.wanted, yielded], fun w h => by simp [go_sem, h.cell, h1, h2]⟩) (hg1.drewN 1) ?_
      simp only [Act.put, List.setIfInBounds_toArray, List.set_cons_succ, List.set_cons_zero]
      refine take_at (i := 8) (v := .bool false) 12 rfl rfl (by kernel_rfl) (by kernel_rfl) (by kernel_rfl) (fun _ _ _ h => h) (.inl ⟨by simp [Region.wanted, yielded], fun w h => by simp [go_sem, h.cell, h1, h2]⟩) (hg1.drewN 1) ?_
      simp only [Act.put, List.setIfInBounds_toArray, List.set_cons_succ, List.set_cons_zero]
      refine held_store (S := fun w' => Blk w' g1 27 (r.cells A c)) (P := Tryd.prog) (i := 9) (g := g2) (te := 27) (old := Rec.zero.cells none 0) (cs := r.cells A c) (t := 27) (p := .tmp 2) (x := .tmp 4) (by kernel_rfl) rfl rfl rfl rfl (hg2.drewN 1) (by simp [go_sem]) (by simp [go_sem]) rec_size rfl (cells_one _ _ _) (fun w3 hg2 hgr => ⟨(hg1.drewN 1).grown hgr (by intro e; injection e with e; omega), ?_⟩)
      have hg1' : Blk w3 g1 27 (r.cells A c) := (hg1.drewN 1).grown hgr (by intro e; injection e with e; omega)
      replace HB := (below_drewN HB 1).grown hgr (by have := (below_drewN HB 1).size; omega) (by intro k e; injection e with e; omega)
      refine take_at (i := 10) (v := .bool false) 3 rfl rfl (by kernel_rfl) (by kernel_rfl) (by kernel_rfl) (fun _ _ _ h => h) (.inl ⟨by simp [Region.wanted, yielded], fun w h => by simp [go_sem, h.cell, h1, h2]⟩) hg1' ?_
      simp only [Act.put, List.setIfInBounds_toArray, List.set_cons_succ, List.set_cons_zero]
      refine wpAnyH_done (by kernel_rfl) ?_ _
      go_wp2
      refine ret_row rfl hg2 rfl Tryd.underlying27 rfl rec_size rfl ?_
      exact ⟨A, c, rfl, HopData.stays, HB⟩
    · go_enter Tryd.func97, Tryd.ntmps97
      go_wp2_with (first
        | ((with_reducible refine gate_dst (N := 1) rfl ?_); refine ev_box rfl rfl (r.cells A c) rfl ?_; intro g1 W1 hg1 hsz hbn; have hgr := grown_of_below hbn; have zg1 : w.heap.size ≤ g1 := (by have := HB.size; omega); replace HB := HB.grown hgr (by have := HB.size; omega) (by simp); have hcg1 := hg1.cell; have hfg1 := hg1.frozen; clear hsz hbn hgr)
        | ((with_reducible refine gate_dst (N := 2) rfl ?_); refine ev_alloc rfl rfl _ rec_zero ?_; intro g2 W2 hg2 hsz hbn; have hgr := grown_of_below hbn; have ng1g2 : g1 ≠ g2 := (by have := hg1.lt; omega); replace hg2 : Blk W2 g2 _ (Rec.zero.cells none 0) := hg2; have zg2 : w.heap.size ≤ g2 := (by have := HB.size; omega); replace hg1 := hg1.grown hgr (by simp); replace HB := HB.grown hgr (by have := HB.size; omega) (by simp); have hcg2 := hg2.cell; have hfg2 := hg2.frozen; replace hcg1 := hg1.cell; replace hfg1 := hg1.frozen; clear hsz hbn hgr))
      refine wp_region_held (S := fun w' => Blk w' g1 27 (r.cells A c)) (by kernel_rfl) ?_
      refine take_at (i := 0) 4 rfl rfl (by kernel_rfl) (by kernel_rfl) (by kernel_rfl) (fun _ _ _ h => h) (yields_row rfl rfl rfl (fun _ h => h) Tryd.underlying27 rfl rec_size) (hg1.drewN 1) ?_
      simp only [Act.put, List.setIfInBounds_toArray, List.set_cons_succ, List.set_cons_zero]
      refine take_at (i := 1) (v := .pointer (some ⟨g1, 9, none⟩)) 5 rfl rfl (by kernel_rfl) (by kernel_rfl) (by kernel_rfl) (fun _ _ _ h => h) (.inl ⟨rfl, fun w h => by simp [go_sem, h.cell, h1, h2]⟩) (hg1.drewN 1) ?_
      simp only [Act.put, List.setIfInBounds_toArray, List.set_cons_succ, List.set_cons_zero]
      refine take_at (i := 2) (v := .int .i64 r.Pivot) 6 rfl rfl (by kernel_rfl) (by kernel_rfl) (by kernel_rfl) (fun _ _ _ h => h) (.inl ⟨rfl, fun w h => by simp [go_sem, h.cell, h1, h2]⟩) (hg1.drewN 1) ?_
      simp only [Act.put, List.setIfInBounds_toArray, List.set_cons_succ, List.set_cons_zero]
      refine take_at (i := 3) (v := .bool true) 7 rfl rfl (by kernel_rfl) (by kernel_rfl) (by kernel_rfl) (fun _ _ _ h => h) (.inl ⟨rfl, fun w h => by simp [go_sem, h.cell, h1, h2]⟩) (hg1.drewN 1) ?_
      simp only [Act.put, List.setIfInBounds_toArray, List.set_cons_succ, List.set_cons_zero]
      refine take_at (i := 4) (v := .bool true) 8 rfl rfl (by kernel_rfl) (by kernel_rfl) (by kernel_rfl) (fun _ _ _ h => h) (.inl ⟨rfl, fun w h => by simp [go_sem, h.cell, h1, h2]⟩) (hg1.drewN 1) ?_
      simp only [Act.put, List.setIfInBounds_toArray, List.set_cons_succ, List.set_cons_zero]
      refine take_at (i := 5) (v := .pointer (some ⟨g1, 7, none⟩)) 9 rfl rfl (by kernel_rfl) (by kernel_rfl) (by kernel_rfl) (fun _ _ _ h => h) (.inl ⟨by simp [Region.wanted, yielded], fun w h => by simp [go_sem, h.cell, h1, h2]⟩) (hg1.drewN 1) ?_
      simp only [Act.put, List.setIfInBounds_toArray, List.set_cons_succ, List.set_cons_zero]
      refine take_at (i := 6) (v := .int .i64 r.Code) 10 rfl rfl (by kernel_rfl) (by kernel_rfl) (by kernel_rfl) (fun _ _ _ h => h) (.inl ⟨by simp [Region.wanted, yielded], fun w h => by simp [go_sem, h.cell, h1, h2]⟩) (hg1.drewN 1) ?_
      simp only [Act.put, List.setIfInBounds_toArray, List.set_cons_succ, List.set_cons_zero]
      refine take_at (i := 7) (v := .bool true) 11 rfl rfl (by kernel_rfl) (by kernel_rfl) (by kernel_rfl) (fun _ _ _ h => h) (.inl ⟨by simp [Region.wanted, yielded], fun w h => by simp [go_sem, h.cell, h1, h2]⟩) (hg1.drewN 1) ?_
      simp only [Act.put, List.setIfInBounds_toArray, List.set_cons_succ, List.set_cons_zero]
      refine take_at (i := 8) (v := .bool true) 12 rfl rfl (by kernel_rfl) (by kernel_rfl) (by kernel_rfl) (fun _ _ _ h => h) (.inl ⟨by simp [Region.wanted, yielded], fun w h => by simp [go_sem, h.cell, h1, h2]⟩) (hg1.drewN 1) ?_
      simp only [Act.put, List.setIfInBounds_toArray, List.set_cons_succ, List.set_cons_zero]
      refine held_store (S := fun w' => Blk w' g1 27 (r.cells A c)) (P := Tryd.prog) (i := 9) (g := g2) (te := 27) (old := Rec.zero.cells none 0) (cs := r.cells A c) (t := 27) (p := .tmp 2) (x := .tmp 4) (by kernel_rfl) rfl rfl rfl rfl (hg2.drewN 1) (by simp [go_sem]) (by simp [go_sem]) rec_size rfl (cells_one _ _ _) (fun w3 hg2 hgr => ⟨(hg1.drewN 1).grown hgr (by intro e; injection e with e; omega), ?_⟩)
      have hg1' : Blk w3 g1 27 (r.cells A c) := (hg1.drewN 1).grown hgr (by intro e; injection e with e; omega)
      replace HB := (below_drewN HB 1).grown hgr (by have := (below_drewN HB 1).size; omega) (by intro k e; injection e with e; omega)
      refine take_at (i := 10) (v := .bool true) 3 rfl rfl (by kernel_rfl) (by kernel_rfl) (by kernel_rfl) (fun _ _ _ h => h) (.inl ⟨by simp [Region.wanted, yielded], fun w h => by simp [go_sem, h.cell, h1, h2]⟩) hg1' ?_
      simp only [Act.put, List.setIfInBounds_toArray, List.set_cons_succ, List.set_cons_zero]
      refine wpAnyH_done (by kernel_rfl) ?_ _
      go_wp2
      refine ret_row rfl hg2 rfl Tryd.underlying27 rfl rec_size rfl ?_
      exact ⟨A, c, rfl, HopData.stays, HB⟩
  exact key _ _ rfl rfl
end Go.Proofs.YtikodgaomhmbmaaDoor
namespace Go.Proofs.YtikodgaomhmbmaaDoor
open Go.RowKit
attribute [local go_sem] Rec.size_ Rec.g0 Rec.g1 Rec.g2 Rec.g3 Rec.g4 Rec.g5 Rec.g6 Rec.g7 Rec.g8 Rec.g9 Rec.g10 Rec.g11 Rec.fold

set_option maxHeartbeats 1000000 in
set_option maxRecDepth 100000 in
theorem empty_calls (r : Rec) (A : Option Addr) (c : Nat) (w : World) (hd : RU w A r.Data) : HopSaid Tryd.prog 98 (emptyR r) (emptyF r) r A c w := by
  unfold HopSaid
  have HB := Below.refl w.heap.size w
  by_cases k0 : r.At = 0
  case neg =>
    have e1 : emptyR r = r := if_pos k0
    have e2 : emptyF r = false := if_pos k0
    rw [e1, e2]
    have t0 := int_bne_true k0
    clear e1 e2 k0
    go_enter Tryd.func98, Tryd.ntmps98
    go_wp2_with (first
      | ((with_reducible refine gate_dst (N := 1) rfl ?_); refine ev_box rfl rfl (r.cells A c) rfl ?_; intro g1 W1 hg1 hsz hbn; have hgr := grown_of_below hbn; have zg1 : w.heap.size ≤ g1 := (by have := HB.size; omega); replace HB := HB.grown hgr (by have := HB.size; omega) (by simp); have hcg1 := hg1.cell; have hfg1 := hg1.frozen; clear hsz hbn hgr)
      | ((with_reducible refine gate_dst (N := 2) rfl ?_); refine ev_alloc rfl rfl _ rec_zero ?_; intro g2 W2 hg2 hsz hbn; have hgr := grown_of_below hbn; have ng1g2 : g1 ≠ g2 := (by have := hg1.lt; omega); replace hg2 : Blk W2 g2 _ (Rec.zero.cells none 0) := hg2; have zg2 : w.heap.size ≤ g2 := (by have := HB.size; omega); replace hg1 := hg1.grown hgr (by simp); replace HB := HB.grown hgr (by have := HB.size; omega) (by simp); have hcg2 := hg2.cell; have hfg2 := hg2.frozen; replace hcg1 := hg1.cell; replace hfg1 := hg1.frozen; clear hsz hbn hgr)
      | ((with_reducible refine gate_dst (N := 8) rfl ?_); refine wpList_load_row rfl _ _ rfl g1 rfl _ _ (0, 0) _ hg1 Tryd.underlying27 rfl rec_size ?_)
      | ((with_reducible refine gate_store (p := 2) rfl ?_); refine ev_store_row (cs := r.cells A c) rfl rfl rfl hg2 rfl rfl rec_size rfl (cells_one _ _ _) ?_; intro W3 hgn hgr; replace hg1 := hg1.grown hgr (by intro e; injection e with e; omega); replace HB := HB.grown hgr (by have := HB.size; omega) (by intro k e; injection e with e; omega); replace hg2 := hgn; replace hcg1 := hg1.cell; replace hfg1 := hg1.frozen; replace hcg2 := hg2.cell; replace hfg2 := hg2.frozen; clear hgn hgr))
    refine ret_row rfl hg2 rfl Tryd.underlying27 rfl rec_size rfl ?_
    exact ⟨A, c, rfl, HopData.stays, HB⟩
  have t0 := int_bne_false k0
  have n0 : ¬ r.At ≠ 0 := by simp [k0]
  by_cases k1 : r.Kind = 1
  · have e1 : emptyR r = { r with Data := r.Name.data.toList, Name := ⟨#[]⟩, Step := r.Count, Count := 0 } := by unfold emptyR; rw [if_neg n0, if_pos k1]
    have e2 : emptyF r = decide (r.Data.length = 0) := by unfold emptyF; rw [if_neg n0, if_pos k1]
    rw [e1, e2, ← len_zero]
    have t1 := int_beq_true k1
    clear k1 e1 e2 k0 n0
    generalize hb0 : ((r.Data.length : Int) == 0) = b0
    go_enter Tryd.func98, Tryd.ntmps98
    go_wp2_with (first
      | ((with_reducible refine gate_dst (N := 1) rfl ?_); refine ev_box rfl rfl (r.cells A c) rfl ?_; intro g1 W1 hg1 hsz hbn; have hgr := grown_of_below hbn; have zg1 : w.heap.size ≤ g1 := (by have := HB.size; omega); replace HB := HB.grown hgr (by have := HB.size; omega) (by simp); have hcg1 := hg1.cell; have hfg1 := hg1.frozen; clear hsz hbn hgr)
      | ((with_reducible refine gate_dst (N := 2) rfl ?_); refine ev_alloc rfl rfl _ rec_zero ?_; intro g2 W2 hg2 hsz hbn; have hgr := grown_of_below hbn; have ng1g2 : g1 ≠ g2 := (by have := hg1.lt; omega); replace hg2 : Blk W2 g2 _ (Rec.zero.cells none 0) := hg2; have zg2 : w.heap.size ≤ g2 := (by have := HB.size; omega); replace hg1 := hg1.grown hgr (by simp); replace HB := HB.grown hgr (by have := HB.size; omega) (by simp); have hcg2 := hg2.cell; have hfg2 := hg2.frozen; replace hcg1 := hg1.cell; replace hfg1 := hg1.frozen; clear hsz hbn hgr)
      | ((with_reducible refine gate_dst (N := 19) rfl ?_); refine ev_bytes_ob rfl rfl Tryd.underlying9 Tryd.underlying25 Tryd.underlying5 rfl ?_; intro A5 c5 W3 B5 hb; replace B5 := B5.mono HB.size; have hgr := grown_of_below hb; replace hg1 := hg1.grown hgr (by simp); replace hg2 := hg2.grown hgr (by simp); replace HB := HB.grown hgr (by have := HB.size; omega) (by simp); replace hcg1 := hg1.cell; replace hfg1 := hg1.frozen; replace hcg2 := hg2.cell; replace hfg2 := hg2.frozen; clear hb hgr)
      | ((with_reducible refine gate_store (p := 20) rfl ?_); refine ev_store_cell rfl rfl rfl hg1 rfl (i := 11) (v := .slice A5 r.Name.data.toList.length c5) rfl rfl (by kernel_rfl) (by first | exact (show (11 : Nat) < 12 by decide) | exact (show (11 : Nat) < 16 by decide) | exact (show (11 : Nat) < 6 by decide)) ?_; intro W3 hgn hgr; replace hgn : Blk W3 g1 _ (({ r with Data := r.Name.data.toList } : Rec).cells A5 c5) := hgn; replace B5 := B5.kept hgr (OB.ne_blk B5 hg1 (by decide)); replace hg2 := hg2.grown hgr (by intro e; injection e with e; omega); replace HB := HB.grown hgr (by have := HB.size; omega) (by intro k e; injection e with e; omega); replace hg1 := hgn; replace hcg1 := hg1.cell; replace hfg1 := hg1.frozen; replace hcg2 := hg2.cell; replace hfg2 := hg2.frozen; clear hgn hgr)
      | ((with_reducible refine gate_store (p := 21) rfl ?_); refine ev_store_cell rfl rfl rfl hg1 rfl (i := 10) (v := .string ⟨#[]⟩) rfl rfl (by kernel_rfl) (by first | exact (show (10 : Nat) < 12 by decide) | exact (show (10 : Nat) < 16 by decide) | exact (show (10 : Nat) < 6 by decide)) ?_; intro W4 hgn hgr; replace hgn : Blk W4 g1 _ (({ r with Data := r.Name.data.toList, Name := ⟨#[]⟩ } : Rec).cells A5 c5) := hgn; replace B5 := B5.kept hgr (OB.ne_blk B5 hg1 (by decide)); replace hg2 := hg2.grown hgr (by intro e; injection e with e; omega); replace HB := HB.grown hgr (by have := HB.size; omega) (by intro k e; injection e with e; omega); replace hg1 := hgn; replace hcg1 := hg1.cell; replace hfg1 := hg1.frozen; replace hcg2 := hg2.cell; replace hfg2 := hg2.frozen; clear hgn hgr)
      | ((with_reducible refine gate_store (p := 24) rfl ?_); refine ev_store_cell rfl rfl rfl hg1 rfl (i := 3) (v := .int .i64 r.Count) rfl rfl (by kernel_rfl) (by first | exact (show (3 : Nat) < 12 by decide) | exact (show (3 : Nat) < 16 by decide) | exact (show (3 : Nat) < 6 by decide)) ?_; intro W5 hgn hgr; replace hgn : Blk W5 g1 _ (({ r with Data := r.Name.data.toList, Name := ⟨#[]⟩, Step := r.Count } : Rec).cells A5 c5) := hgn; replace B5 := B5.kept hgr (OB.ne_blk B5 hg1 (by decide)); replace hg2 := hg2.grown hgr (by intro e; injection e with e; omega); replace HB := HB.grown hgr (by have := HB.size; omega) (by intro k e; injection e with e; omega); replace hg1 := hgn; replace hcg1 := hg1.cell; replace hfg1 := hg1.frozen; replace hcg2 := hg2.cell; replace hfg2 := hg2.frozen; clear hgn hgr)
      | ((with_reducible refine gate_store (p := 25) rfl ?_); refine ev_store_cell rfl rfl rfl hg1 rfl (i := 8) (v := .int .i64 0) rfl rfl (by kernel_rfl) (by first | exact (show (8 : Nat) < 12 by decide) | exact (show (8 : Nat) < 16 by decide) | exact (show (8 : Nat) < 6 by decide)) ?_; intro W6 hgn hgr; replace hgn : Blk W6 g1 _ (({ r with Data := r.Name.data.toList, Name := ⟨#[]⟩, Step := r.Count, Count := 0 } : Rec).cells A5 c5) := hgn; replace B5 := B5.kept hgr (OB.ne_blk B5 hg1 (by decide)); replace hg2 := hg2.grown hgr (by intro e; injection e with e; omega); replace HB := HB.grown hgr (by have := HB.size; omega) (by intro k e; injection e with e; omega); replace hg1 := hgn; replace hcg1 := hg1.cell; replace hfg1 := hg1.frozen; replace hcg2 := hg2.cell; replace hfg2 := hg2.frozen; clear hgn hgr)
      | ((with_reducible refine gate_dst (N := 39) rfl ?_); refine wpList_load_row rfl _ _ rfl g1 rfl _ _ (0, 0) _ hg1 Tryd.underlying27 rfl rec_size ?_)
      | ((with_reducible refine gate_store (p := 2) rfl ?_); refine ev_store_row (cs := ({ r with Data := r.Name.data.toList, Name := ⟨#[]⟩, Step := r.Count, Count := 0 } : Rec).cells A5 c5) rfl rfl rfl hg2 rfl rfl rec_size rfl (cells_one _ _ _) ?_; intro W7 hgn hgr; replace B5 := B5.kept hgr (OB.ne_blk B5 hg2 (by decide)); replace hg1 := hg1.grown hgr (by intro e; injection e with e; omega); replace HB := HB.grown hgr (by have := HB.size; omega) (by intro k e; injection e with e; omega); replace hg2 := hgn; replace hcg1 := hg1.cell; replace hfg1 := hg1.frozen; replace hcg2 := hg2.cell; replace hfg2 := hg2.frozen; clear hgn hgr))
    refine ret_row rfl hg2 rfl Tryd.underlying27 rfl rec_size rfl ?_
    exact ⟨A5, c5, rfl, HopData.own B5, HB⟩
  have t1 := int_beq_false k1
  by_cases k2 : r.Kind = 2 ∨ r.Kind = 5
  · have e1 : emptyR r = { r with Try := 0 } := by unfold emptyR; rw [if_neg n0, if_neg k1, if_pos k2]
    have e2 : emptyF r = (r.Try == 1) := by unfold emptyF; rw [if_neg n0, if_neg k1, if_pos k2]
    rw [e1, e2]
    clear e1 e2 k0 n0
    generalize hb0 : (r.Try == 1) = b0
    rcases k2 with k2 | k2
    · have t2 := int_beq_true k2
      clear k1 k2
      go_enter Tryd.func98, Tryd.ntmps98
      go_wp2_with (first
        | ((with_reducible refine gate_dst (N := 1) rfl ?_); refine ev_box rfl rfl (r.cells A c) rfl ?_; intro g1 W1 hg1 hsz hbn; have hgr := grown_of_below hbn; have zg1 : w.heap.size ≤ g1 := (by have := HB.size; omega); replace HB := HB.grown hgr (by have := HB.size; omega) (by simp); have hcg1 := hg1.cell; have hfg1 := hg1.frozen; clear hsz hbn hgr)
        | ((with_reducible refine gate_dst (N := 2) rfl ?_); refine ev_alloc rfl rfl _ rec_zero ?_; intro g2 W2 hg2 hsz hbn; have hgr := grown_of_below hbn; have ng1g2 : g1 ≠ g2 := (by have := hg1.lt; omega); replace hg2 : Blk W2 g2 _ (Rec.zero.cells none 0) := hg2; have zg2 : w.heap.size ≤ g2 := (by have := HB.size; omega); replace hg1 := hg1.grown hgr (by simp); replace HB := HB.grown hgr (by have := HB.size; omega) (by simp); have hcg2 := hg2.cell; have hfg2 := hg2.frozen; replace hcg1 := hg1.cell; replace hfg1 := hg1.frozen; clear hsz hbn hgr)
        | ((with_reducible refine gate_store (p := 32) rfl ?_); refine ev_store_cell rfl rfl rfl hg1 rfl (i := 4) (v := .int .i64 0) rfl rfl (by kernel_rfl) (by first | exact (show (4 : Nat) < 12 by decide) | exact (show (4 : Nat) < 16 by decide) | exact (show (4 : Nat) < 6 by decide)) ?_; intro W3 hgn hgr; replace hgn : Blk W3 g1 _ (({ r with Try := 0 } : Rec).cells A c) := hgn; replace hg2 := hg2.grown hgr (by intro e; injection e with e; omega); replace HB := HB.grown hgr (by have := HB.size; omega) (by intro k e; injection e with e; omega); replace hg1 := hgn; replace hcg1 := hg1.cell; replace hfg1 := hg1.frozen; replace hcg2 := hg2.cell; replace hfg2 := hg2.frozen; clear hgn hgr)
        | ((with_reducible refine gate_dst (N := 39) rfl ?_); refine wpList_load_row rfl _ _ rfl g1 rfl _ _ (0, 0) _ hg1 Tryd.underlying27 rfl rec_size ?_)
        | ((with_reducible refine gate_store (p := 2) rfl ?_); refine ev_store_row (cs := ({ r with Try := 0 } : Rec).cells A c) rfl rfl rfl hg2 rfl rfl rec_size rfl (cells_one _ _ _) ?_; intro W4 hgn hgr; replace hg1 := hg1.grown hgr (by intro e; injection e with e; omega); replace HB := HB.grown hgr (by have := HB.size; omega) (by intro k e; injection e with e; omega); replace hg2 := hgn; replace hcg1 := hg1.cell; replace hfg1 := hg1.frozen; replace hcg2 := hg2.cell; replace hfg2 := hg2.frozen; clear hgn hgr))
      refine ret_row rfl hg2 rfl Tryd.underlying27 rfl rec_size rfl ?_
      exact ⟨A, c, rfl, HopData.stays, HB⟩
    · have t2 : (r.Kind == 2) = false := int_beq_false (by omega)
      have t3 := int_beq_true k2
      clear k1 k2
      go_enter Tryd.func98, Tryd.ntmps98
      go_wp2_with (first
        | ((with_reducible refine gate_dst (N := 1) rfl ?_); refine ev_box rfl rfl (r.cells A c) rfl ?_; intro g1 W1 hg1 hsz hbn; have hgr := grown_of_below hbn; have zg1 : w.heap.size ≤ g1 := (by have := HB.size; omega); replace HB := HB.grown hgr (by have := HB.size; omega) (by simp); have hcg1 := hg1.cell; have hfg1 := hg1.frozen; clear hsz hbn hgr)
        | ((with_reducible refine gate_dst (N := 2) rfl ?_); refine ev_alloc rfl rfl _ rec_zero ?_; intro g2 W2 hg2 hsz hbn; have hgr := grown_of_below hbn; have ng1g2 : g1 ≠ g2 := (by have := hg1.lt; omega); replace hg2 : Blk W2 g2 _ (Rec.zero.cells none 0) := hg2; have zg2 : w.heap.size ≤ g2 := (by have := HB.size; omega); replace hg1 := hg1.grown hgr (by simp); replace HB := HB.grown hgr (by have := HB.size; omega) (by simp); have hcg2 := hg2.cell; have hfg2 := hg2.frozen; replace hcg1 := hg1.cell; replace hfg1 := hg1.frozen; clear hsz hbn hgr)
        | ((with_reducible refine gate_store (p := 32) rfl ?_); refine ev_store_cell rfl rfl rfl hg1 rfl (i := 4) (v := .int .i64 0) rfl rfl (by kernel_rfl) (by first | exact (show (4 : Nat) < 12 by decide) | exact (show (4 : Nat) < 16 by decide) | exact (show (4 : Nat) < 6 by decide)) ?_; intro W3 hgn hgr; replace hgn : Blk W3 g1 _ (({ r with Try := 0 } : Rec).cells A c) := hgn; replace hg2 := hg2.grown hgr (by intro e; injection e with e; omega); replace HB := HB.grown hgr (by have := HB.size; omega) (by intro k e; injection e with e; omega); replace hg1 := hgn; replace hcg1 := hg1.cell; replace hfg1 := hg1.frozen; replace hcg2 := hg2.cell; replace hfg2 := hg2.frozen; clear hgn hgr)
        | ((with_reducible refine gate_dst (N := 39) rfl ?_); refine wpList_load_row rfl _ _ rfl g1 rfl _ _ (0, 0) _ hg1 Tryd.underlying27 rfl rec_size ?_)
        | ((with_reducible refine gate_store (p := 2) rfl ?_); refine ev_store_row (cs := ({ r with Try := 0 } : Rec).cells A c) rfl rfl rfl hg2 rfl rfl rec_size rfl (cells_one _ _ _) ?_; intro W4 hgn hgr; replace hg1 := hg1.grown hgr (by intro e; injection e with e; omega); replace HB := HB.grown hgr (by have := HB.size; omega) (by intro k e; injection e with e; omega); replace hg2 := hgn; replace hcg1 := hg1.cell; replace hfg1 := hg1.frozen; replace hcg2 := hg2.cell; replace hfg2 := hg2.frozen; clear hgn hgr))
      refine ret_row rfl hg2 rfl Tryd.underlying27 rfl rec_size rfl ?_
      exact ⟨A, c, rfl, HopData.stays, HB⟩
  have t2 : (r.Kind == 2) = false := int_beq_false (by omega)
  have t3 : (r.Kind == 5) = false := int_beq_false (by omega)
  by_cases k4 : r.Kind = 4
  · have e1 : emptyR r = { r with Last := 0 } := by unfold emptyR; rw [if_neg n0, if_neg k1, if_neg k2, if_pos k4]
    have e2 : emptyF r = (r.Last == 1) := by unfold emptyF; rw [if_neg n0, if_neg k1, if_neg k2, if_pos k4]
    rw [e1, e2]
    have t4 := int_beq_true k4
    clear k1 k2 k4 e1 e2 k0 n0
    generalize hb0 : (r.Last == 1) = b0
    go_enter Tryd.func98, Tryd.ntmps98
    go_wp2_with (first
      | ((with_reducible refine gate_dst (N := 1) rfl ?_); refine ev_box rfl rfl (r.cells A c) rfl ?_; intro g1 W1 hg1 hsz hbn; have hgr := grown_of_below hbn; have zg1 : w.heap.size ≤ g1 := (by have := HB.size; omega); replace HB := HB.grown hgr (by have := HB.size; omega) (by simp); have hcg1 := hg1.cell; have hfg1 := hg1.frozen; clear hsz hbn hgr)
      | ((with_reducible refine gate_dst (N := 2) rfl ?_); refine ev_alloc rfl rfl _ rec_zero ?_; intro g2 W2 hg2 hsz hbn; have hgr := grown_of_below hbn; have ng1g2 : g1 ≠ g2 := (by have := hg1.lt; omega); replace hg2 : Blk W2 g2 _ (Rec.zero.cells none 0) := hg2; have zg2 : w.heap.size ≤ g2 := (by have := HB.size; omega); replace hg1 := hg1.grown hgr (by simp); replace HB := HB.grown hgr (by have := HB.size; omega) (by simp); have hcg2 := hg2.cell; have hfg2 := hg2.frozen; replace hcg1 := hg1.cell; replace hfg1 := hg1.frozen; clear hsz hbn hgr)
      | ((with_reducible refine gate_store (p := 38) rfl ?_); refine ev_store_cell rfl rfl rfl hg1 rfl (i := 6) (v := .int .i64 0) rfl rfl (by kernel_rfl) (by first | exact (show (6 : Nat) < 12 by decide) | exact (show (6 : Nat) < 16 by decide) | exact (show (6 : Nat) < 6 by decide)) ?_; intro W3 hgn hgr; replace hgn : Blk W3 g1 _ (({ r with Last := 0 } : Rec).cells A c) := hgn; replace hg2 := hg2.grown hgr (by intro e; injection e with e; omega); replace HB := HB.grown hgr (by have := HB.size; omega) (by intro k e; injection e with e; omega); replace hg1 := hgn; replace hcg1 := hg1.cell; replace hfg1 := hg1.frozen; replace hcg2 := hg2.cell; replace hfg2 := hg2.frozen; clear hgn hgr)
      | ((with_reducible refine gate_dst (N := 39) rfl ?_); refine wpList_load_row rfl _ _ rfl g1 rfl _ _ (0, 0) _ hg1 Tryd.underlying27 rfl rec_size ?_)
      | ((with_reducible refine gate_store (p := 2) rfl ?_); refine ev_store_row (cs := ({ r with Last := 0 } : Rec).cells A c) rfl rfl rfl hg2 rfl rfl rec_size rfl (cells_one _ _ _) ?_; intro W4 hgn hgr; replace hg1 := hg1.grown hgr (by intro e; injection e with e; omega); replace HB := HB.grown hgr (by have := HB.size; omega) (by intro k e; injection e with e; omega); replace hg2 := hgn; replace hcg1 := hg1.cell; replace hfg1 := hg1.frozen; replace hcg2 := hg2.cell; replace hfg2 := hg2.frozen; clear hgn hgr))
    refine ret_row rfl hg2 rfl Tryd.underlying27 rfl rec_size rfl ?_
    exact ⟨A, c, rfl, HopData.stays, HB⟩
  · have e1 : emptyR r = r := by unfold emptyR; rw [if_neg n0, if_neg k1, if_neg k2, if_neg k4]
    have e2 : emptyF r = true := by unfold emptyF; rw [if_neg n0, if_neg k1, if_neg k2, if_neg k4]
    rw [e1, e2]
    have t4 := int_beq_false k4
    clear k1 k2 k4 e1 e2 k0 n0
    go_enter Tryd.func98, Tryd.ntmps98
    go_wp2_with (first
      | ((with_reducible refine gate_dst (N := 1) rfl ?_); refine ev_box rfl rfl (r.cells A c) rfl ?_; intro g1 W1 hg1 hsz hbn; have hgr := grown_of_below hbn; have zg1 : w.heap.size ≤ g1 := (by have := HB.size; omega); replace HB := HB.grown hgr (by have := HB.size; omega) (by simp); have hcg1 := hg1.cell; have hfg1 := hg1.frozen; clear hsz hbn hgr)
      | ((with_reducible refine gate_dst (N := 2) rfl ?_); refine ev_alloc rfl rfl _ rec_zero ?_; intro g2 W2 hg2 hsz hbn; have hgr := grown_of_below hbn; have ng1g2 : g1 ≠ g2 := (by have := hg1.lt; omega); replace hg2 : Blk W2 g2 _ (Rec.zero.cells none 0) := hg2; have zg2 : w.heap.size ≤ g2 := (by have := HB.size; omega); replace hg1 := hg1.grown hgr (by simp); replace HB := HB.grown hgr (by have := HB.size; omega) (by simp); have hcg2 := hg2.cell; have hfg2 := hg2.frozen; replace hcg1 := hg1.cell; replace hfg1 := hg1.frozen; clear hsz hbn hgr)
      | ((with_reducible refine gate_dst (N := 39) rfl ?_); refine wpList_load_row rfl _ _ rfl g1 rfl _ _ (0, 0) _ hg1 Tryd.underlying27 rfl rec_size ?_)
      | ((with_reducible refine gate_store (p := 2) rfl ?_); refine ev_store_row (cs := r.cells A c) rfl rfl rfl hg2 rfl rfl rec_size rfl (cells_one _ _ _) ?_; intro W3 hgn hgr; replace hg1 := hg1.grown hgr (by intro e; injection e with e; omega); replace HB := HB.grown hgr (by have := HB.size; omega) (by intro k e; injection e with e; omega); replace hg2 := hgn; replace hcg1 := hg1.cell; replace hfg1 := hg1.frozen; replace hcg2 := hg2.cell; replace hfg2 := hg2.frozen; clear hgn hgr))
    refine ret_row rfl hg2 rfl Tryd.underlying27 rfl rec_size rfl ?_
    exact ⟨A, c, rfl, HopData.stays, HB⟩

theorem hops_all (to : Int) : HopsTo to (fun _ => True) := by
  intro a q A c w _ hv hne hf hd
  obtain rfl | rfl | rfl := hv
  · exact fill_calls q A c w hd
  · by_cases h1 : to = 1
    · have e1 : hopFn 2 to = 98 := by unfold hopFn; rw [if_neg (by decide), if_neg (by decide), if_pos h1]
      have e2 : hopR 2 to q = emptyR q := by unfold hopR; rw [if_neg (by decide), if_neg (by decide), if_pos h1]
      have e3 : hopF 2 to q = emptyF q := by unfold hopF; rw [if_neg (by decide), if_neg (by decide), if_pos h1]
      rw [e1, e2, e3]
      exact empty_calls q A c w hd
    · have e1 : hopFn 2 to = 83 := by unfold hopFn; rw [if_neg (by decide), if_neg (by decide), if_neg h1]
      have e2 : hopR 2 to q = q := by unfold hopR; rw [if_neg (by decide), if_neg (by decide), if_neg h1]
      have e3 : hopF 2 to q = true := by unfold hopF; rw [if_neg (by decide), if_neg (by decide), if_neg h1]
      rw [e1, e2, e3]
      exact stay_calls q A c w hd
  · exact plain_calls q A c w hd
theorem turned_calls (to : Int) (hto : Ver to) (r : Rec) (A : Option Addr) (c : Nat) (hf : r.Fits) (hr : Ver r.V) (w : World) (ht : Tab w 1 waysL) (hd : RB w A r.Data) :
    Calls Tryd.prog 64 #[.agg (r.cells A c), .int .i64 to] w fun e w' => ∃ A' c', e = .returned (.tuple #[.agg ((turnR r to).cells A' c'), .bool (turnF r to)]) ∧ OB w' w.heap.size A' c' (turnR r to).Data ∧ Below w.heap.size w w' :=
  turnedBy_calls to hto (fun _ => True) (hops_all to) (fun _ _ _ _ => trivial) r A c hf hr trivial w ht hd
end Go.Proofs.YtikodgaomhmbmaaDoor
namespace Go.Proofs.YtikodgaomhmbmaaDoor
open Go.RowKit
attribute [local go_sem] Rec.size_ Rec.g0 Rec.g1 Rec.g2 Rec.g3 Rec.g4 Rec.g5 Rec.g6 Rec.g7 Rec.g8 Rec.g9 Rec.g10 Rec.g11 Rec.fold Rec.lit_fold Rec.same_self

set_option maxHeartbeats 2000000 in
set_option maxRecDepth 100000 in
theorem down_own (r : Rec) (A : Option Addr) (c : Nat) (to : Int) (hf : r.Fits) (w : World) (hT : Tabs w) (ht : Tab w 1 waysL) (hd : RB w A r.Data) :
    Calls Tryd.prog 40 #[.agg (r.cells A c), .int .i64 to] w fun e w' => ∃ A' c', e = .returned (.tuple #[.agg ((downR r to).cells A' c'), .int .i64 (downE r to)]) ∧ OB w' w.heap.size A' c' (downR r to).Data ∧ Below w.heap.size w w' := by
  have HB := Below.refl w.heap.size w
  have HT := Lib.hid hT
  have Ht := Lib.hid ht
  clear hT ht
  by_cases hc : r.chk = 0
  · have t1 := int_bne_false hc
    have hv3 : 1 ≤ r.V ∧ r.V ≤ 3 := ((chk_ok r).1 hc).1
    cases hk : known to
    · have e1 : downE r to = 3 := by unfold downE; rw [if_neg (by rw [hc]; simp), hk, if_pos (by decide)]
      have e2 : downR r to = Rec.zero := by unfold downR; rw [e1, if_neg (by decide)]
      rw [e1, e2]
      have hk' : (decide (1 ≤ to) && decide (to ≤ 3)) = false := hk
      clear hc e1 e2 hv3 hk
      go_enter Tryd.func40, Tryd.ntmps40
      go_wp2_with (first
        | ((with_reducible refine gate_dst (N := 2) rfl ?_); refine ev_box rfl rfl (r.cells A c) rfl ?_; intro g1 W1 hg1 hsz hbn; have hgr := grown_of_below hbn; have zg1 : w.heap.size ≤ g1 := (by have := HB.size; omega); replace HB := HB.grown hgr (by have := HB.size; omega) (by simp); have hcg1 := hg1.cell; have hfg1 := hg1.frozen; clear hsz hbn hgr)
        | ((with_reducible refine gate_dst (N := 4) rfl ?_); refine ev_alloc rfl rfl _ rec_zero ?_; intro g2 W2 hg2 hsz hbn; have hgr := grown_of_below hbn; have ng1g2 : g1 ≠ g2 := (by have := hg1.lt; omega); replace hg2 : Blk W2 g2 _ (Rec.zero.cells none 0) := hg2; have zg2 : w.heap.size ≤ g2 := (by have := HB.size; omega); replace hg1 := hg1.grown hgr (by simp); replace HB := HB.grown hgr (by have := HB.size; omega) (by simp); have hcg2 := hg2.cell; have hfg2 := hg2.frozen; replace hcg1 := hg1.cell; replace hfg1 := hg1.frozen; clear hsz hbn hgr)
        | ((with_reducible refine gate_dst (N := 9) rfl ?_); refine wpList_load_row rfl _ _ rfl g1 rfl _ _ (0, 0) _ hg1 Tryd.underlying27 rfl rec_size ?_)
        | (go_at_call 52; (with_reducible refine (check_calls r A c hf _ (HT.out.next HB) (hd.next HB)).mono ?_); rintro e W3 ⟨rfl, hb⟩; have hgr := grown_of_below hb; replace hg1 := hg1.grown hgr (by simp); replace hg2 := hg2.grown hgr (by simp); replace HB := HB.grown hgr (by have := HB.size; omega) (by simp); replace hcg1 := hg1.cell; replace hfg1 := hg1.frozen; replace hcg2 := hg2.cell; replace hfg2 := hg2.frozen; clear hb hgr)
        | (go_at_call 61; (with_reducible refine (known_calls _ _).mono ?_); rintro e w1 ⟨rfl, rfl⟩; rw [hk'])
        | ((with_reducible refine gate_store (p := 4) rfl ?_); refine ev_store_row (cs := Rec.zero.cells none 0) rfl rfl rfl hg2 rfl rfl rec_size rfl (cells_one _ _ _) ?_; intro W4 hgn hgr; replace hg1 := hg1.grown hgr (by intro e; injection e with e; omega); replace HB := HB.grown hgr (by have := HB.size; omega) (by intro k e; injection e with e; omega); replace hg2 := hgn; replace hcg1 := hg1.cell; replace hfg1 := hg1.frozen; replace hcg2 := hg2.cell; replace hfg2 := hg2.frozen; clear hgn hgr))
      refine ret_row rfl hg2 rfl Tryd.underlying27 rfl rec_size rfl ?_
      exact ⟨none, 0, rfl, OB.nil, HB⟩
    · have hk' : (decide (1 ≤ to) && decide (to ≤ 3)) = true := hk
      have hto : Ver to := by
        simp only [Bool.and_eq_true, decide_eq_true_eq] at hk'
        exact Ver.of hk'.1 hk'.2
      by_cases hlt : r.V < to
      · have e1 : downE r to = 41 := by unfold downE; rw [if_neg (by rw [hc]; simp), hk, if_neg (by decide), if_pos hlt]
        have e2 : downR r to = Rec.zero := by unfold downR; rw [e1, if_neg (by decide)]
        rw [e1, e2]
        have t2 : decide (r.V < to) = true := by simp [hlt]
        clear hc e1 e2 hlt hv3 hk hto
        go_enter Tryd.func40, Tryd.ntmps40
        go_wp2_with (first
          | ((with_reducible refine gate_dst (N := 2) rfl ?_); refine ev_box rfl rfl (r.cells A c) rfl ?_; intro g1 W1 hg1 hsz hbn; have hgr := grown_of_below hbn; have zg1 : w.heap.size ≤ g1 := (by have := HB.size; omega); replace HB := HB.grown hgr (by have := HB.size; omega) (by simp); have hcg1 := hg1.cell; have hfg1 := hg1.frozen; clear hsz hbn hgr)
          | ((with_reducible refine gate_dst (N := 4) rfl ?_); refine ev_alloc rfl rfl _ rec_zero ?_; intro g2 W2 hg2 hsz hbn; have hgr := grown_of_below hbn; have ng1g2 : g1 ≠ g2 := (by have := hg1.lt; omega); replace hg2 : Blk W2 g2 _ (Rec.zero.cells none 0) := hg2; have zg2 : w.heap.size ≤ g2 := (by have := HB.size; omega); replace hg1 := hg1.grown hgr (by simp); replace HB := HB.grown hgr (by have := HB.size; omega) (by simp); have hcg2 := hg2.cell; have hfg2 := hg2.frozen; replace hcg1 := hg1.cell; replace hfg1 := hg1.frozen; clear hsz hbn hgr)
          | ((with_reducible refine gate_dst (N := 9) rfl ?_); refine wpList_load_row rfl _ _ rfl g1 rfl _ _ (0, 0) _ hg1 Tryd.underlying27 rfl rec_size ?_)
          | (go_at_call 52; (with_reducible refine (check_calls r A c hf _ (HT.out.next HB) (hd.next HB)).mono ?_); rintro e W3 ⟨rfl, hb⟩; have hgr := grown_of_below hb; replace hg1 := hg1.grown hgr (by simp); replace hg2 := hg2.grown hgr (by simp); replace HB := HB.grown hgr (by have := HB.size; omega) (by simp); replace hcg1 := hg1.cell; replace hfg1 := hg1.frozen; replace hcg2 := hg2.cell; replace hfg2 := hg2.frozen; clear hb hgr)
          | (go_at_call 61; (with_reducible refine (known_calls _ _).mono ?_); rintro e w1 ⟨rfl, rfl⟩; rw [hk'])
          | ((with_reducible refine gate_store (p := 4) rfl ?_); refine ev_store_row (cs := Rec.zero.cells none 0) rfl rfl rfl hg2 rfl rfl rec_size rfl (cells_one _ _ _) ?_; intro W4 hgn hgr; replace hg1 := hg1.grown hgr (by intro e; injection e with e; omega); replace HB := HB.grown hgr (by have := HB.size; omega) (by intro k e; injection e with e; omega); replace hg2 := hgn; replace hcg1 := hg1.cell; replace hfg1 := hg1.frozen; replace hcg2 := hg2.cell; replace hfg2 := hg2.frozen; clear hgn hgr))
        refine ret_row rfl hg2 rfl Tryd.underlying27 rfl rec_size rfl ?_
        exact ⟨none, 0, rfl, OB.nil, HB⟩
      · have t2 : decide (r.V < to) = false := by simp; omega
        have ct := fun (w : World) => turned_calls to hto r A c hf (Ver.of hv3.1 hv3.2) w
        cases hF : turnF r to
        · have e1 : downE r to = 40 := by unfold downE; rw [if_neg (by rw [hc]; simp), hk, if_neg (by decide), if_neg hlt, hF]; rfl
          have e2 : downR r to = Rec.zero := by unfold downR; rw [e1, if_neg (by decide)]
          rw [e1, e2]
          rw [hF] at ct
          generalize turnR r to = u at ct
          have Ct := Lib.hid ct
          clear hc e1 e2 hlt hv3 hk hto ct hF
          go_enter Tryd.func40, Tryd.ntmps40
          go_wp2_with (first
            | ((with_reducible refine gate_dst (N := 2) rfl ?_); refine ev_box rfl rfl (r.cells A c) rfl ?_; intro g1 W1 hg1 hsz hbn; have hgr := grown_of_below hbn; have zg1 : w.heap.size ≤ g1 := (by have := HB.size; omega); replace HB := HB.grown hgr (by have := HB.size; omega) (by simp); have hcg1 := hg1.cell; have hfg1 := hg1.frozen; clear hsz hbn hgr)
            | ((with_reducible refine gate_dst (N := 4) rfl ?_); refine ev_alloc rfl rfl _ rec_zero ?_; intro g2 W2 hg2 hsz hbn; have hgr := grown_of_below hbn; have ng1g2 : g1 ≠ g2 := (by have := hg1.lt; omega); replace hg2 : Blk W2 g2 _ (Rec.zero.cells none 0) := hg2; have zg2 : w.heap.size ≤ g2 := (by have := HB.size; omega); replace hg1 := hg1.grown hgr (by simp); replace HB := HB.grown hgr (by have := HB.size; omega) (by simp); have hcg2 := hg2.cell; have hfg2 := hg2.frozen; replace hcg1 := hg1.cell; replace hfg1 := hg1.frozen; clear hsz hbn hgr)
            | ((with_reducible refine gate_dst (N := 9) rfl ?_); refine wpList_load_row rfl _ _ rfl g1 rfl _ _ (0, 0) _ hg1 Tryd.underlying27 rfl rec_size ?_)
            | (go_at_call 52; (with_reducible refine (check_calls r A c hf _ (HT.out.next HB) (hd.next HB)).mono ?_); rintro e W3 ⟨rfl, hb⟩; have hgr := grown_of_below hb; replace hg1 := hg1.grown hgr (by simp); replace hg2 := hg2.grown hgr (by simp); replace HB := HB.grown hgr (by have := HB.size; omega) (by simp); replace hcg1 := hg1.cell; replace hfg1 := hg1.frozen; replace hcg2 := hg2.cell; replace hfg2 := hg2.frozen; clear hb hgr)
            | (go_at_call 61; (with_reducible refine (known_calls _ _).mono ?_); rintro e w1 ⟨rfl, rfl⟩; rw [hk'])
            | ((with_reducible refine gate_dst (N := 25) rfl ?_); refine wpList_load_row rfl _ _ rfl g1 rfl _ _ (0, 0) _ hg1 Tryd.underlying27 rfl rec_size ?_)
            | (go_at_call 64; (with_reducible refine (Ct.out _ (Ht.out.next HB) (hd.next HB)).mono ?_); rintro e W4 ⟨A5, c5, rfl, B5, hb⟩; have hgr := grown_of_below hb; replace B5 := B5.mono HB.size; replace hg1 := hg1.grown hgr (by simp); replace hg2 := hg2.grown hgr (by simp); replace HB := HB.grown hgr (by have := HB.size; omega) (by simp); replace hcg1 := hg1.cell; replace hfg1 := hg1.frozen; replace hcg2 := hg2.cell; replace hfg2 := hg2.frozen; clear hb hgr)
            | ((with_reducible refine gate_dst (N := 7) rfl ?_); refine ev_alloc rfl rfl _ rec_zero ?_; intro g3 W5 hg3 hsz hbn; have hgr := grown_of_below hbn; have ng1g3 : g1 ≠ g3 := (by have := hg1.lt; omega); have ng2g3 : g2 ≠ g3 := (by have := hg2.lt; omega); replace hg3 : Blk W5 g3 _ (Rec.zero.cells none 0) := hg3; have zg3 : w.heap.size ≤ g3 := (by have := HB.size; omega); replace B5 := B5.kept hgr (by simp); replace hg1 := hg1.grown hgr (by simp); replace hg2 := hg2.grown hgr (by simp); replace HB := HB.grown hgr (by have := HB.size; omega) (by simp); have hcg3 := hg3.cell; have hfg3 := hg3.frozen; replace hcg1 := hg1.cell; replace hfg1 := hg1.frozen; replace hcg2 := hg2.cell; replace hfg2 := hg2.frozen; clear hsz hbn hgr)
            | ((with_reducible refine gate_store (p := 7) rfl ?_); refine ev_store_row (cs := u.cells A5 c5) rfl rfl rfl hg3 rfl rfl rec_size rfl (cells_one _ _ _) ?_; intro W6 hgn hgr; replace B5 := B5.kept hgr (OB.ne_blk B5 hg3 (by decide)); replace hg1 := hg1.grown hgr (by intro e; injection e with e; omega); replace hg2 := hg2.grown hgr (by intro e; injection e with e; omega); replace HB := HB.grown hgr (by have := HB.size; omega) (by intro k e; injection e with e; omega); replace hg3 := hgn; replace hcg1 := hg1.cell; replace hfg1 := hg1.frozen; replace hcg2 := hg2.cell; replace hfg2 := hg2.frozen; replace hcg3 := hg3.cell; replace hfg3 := hg3.frozen; clear hgn hgr)
            | ((with_reducible refine gate_store (p := 4) rfl ?_); refine ev_store_row (cs := Rec.zero.cells none 0) rfl rfl rfl hg2 rfl rfl rec_size rfl (cells_one _ _ _) ?_; intro W7 hgn hgr; replace B5 := B5.kept hgr (OB.ne_blk B5 hg2 (by decide)); replace hg1 := hg1.grown hgr (by intro e; injection e with e; omega); replace hg3 := hg3.grown hgr (by intro e; injection e with e; omega); replace HB := HB.grown hgr (by have := HB.size; omega) (by intro k e; injection e with e; omega); replace hg2 := hgn; replace hcg1 := hg1.cell; replace hfg1 := hg1.frozen; replace hcg2 := hg2.cell; replace hfg2 := hg2.frozen; replace hcg3 := hg3.cell; replace hfg3 := hg3.frozen; clear hgn hgr))
          refine ret_row rfl hg2 rfl Tryd.underlying27 rfl rec_size rfl ?_
          exact ⟨none, 0, rfl, OB.nil, HB⟩
        · have e1 : downE r to = 0 := by unfold downE; rw [if_neg (by rw [hc]; simp), hk, if_neg (by decide), if_neg hlt, hF]; rfl
          have e2 : downR r to = turnR r to := by unfold downR; rw [e1, if_pos rfl]
          rw [e1, e2]
          rw [hF] at ct
          generalize turnR r to = u at ct
          have Ct := Lib.hid ct
          clear hc e1 e2 hlt hv3 hk hto ct hF
          go_enter Tryd.func40, Tryd.ntmps40
          go_wp2_with (first
            | ((with_reducible refine gate_dst (N := 2) rfl ?_); refine ev_box rfl rfl (r.cells A c) rfl ?_; intro g1 W1 hg1 hsz hbn; have hgr := grown_of_below hbn; have zg1 : w.heap.size ≤ g1 := (by have := HB.size; omega); replace HB := HB.grown hgr (by have := HB.size; omega) (by simp); have hcg1 := hg1.cell; have hfg1 := hg1.frozen; clear hsz hbn hgr)
            | ((with_reducible refine gate_dst (N := 4) rfl ?_); refine ev_alloc rfl rfl _ rec_zero ?_; intro g2 W2 hg2 hsz hbn; have hgr := grown_of_below hbn; have ng1g2 : g1 ≠ g2 := (by have := hg1.lt; omega); replace hg2 : Blk W2 g2 _ (Rec.zero.cells none 0) := hg2; have zg2 : w.heap.size ≤ g2 := (by have := HB.size; omega); replace hg1 := hg1.grown hgr (by simp); replace HB := HB.grown hgr (by have := HB.size; omega) (by simp); have hcg2 := hg2.cell; have hfg2 := hg2.frozen; replace hcg1 := hg1.cell; replace hfg1 := hg1.frozen; clear hsz hbn hgr)
            | ((with_reducible refine gate_dst (N := 9) rfl ?_); refine wpList_load_row rfl _ _ rfl g1 rfl _ _ (0, 0) _ hg1 Tryd.underlying27 rfl rec_size ?_)
            | (go_at_call 52; (with_reducible refine (check_calls r A c hf _ (HT.out.next HB) (hd.next HB)).mono ?_); rintro e W3 ⟨rfl, hb⟩; have hgr := grown_of_below hb; replace hg1 := hg1.grown hgr (by simp); replace hg2 := hg2.grown hgr (by simp); replace HB := HB.grown hgr (by have := HB.size; omega) (by simp); replace hcg1 := hg1.cell; replace hfg1 := hg1.frozen; replace hcg2 := hg2.cell; replace hfg2 := hg2.frozen; clear hb hgr)
            | (go_at_call 61; (with_reducible refine (known_calls _ _).mono ?_); rintro e w1 ⟨rfl, rfl⟩; rw [hk'])
            | ((with_reducible refine gate_dst (N := 25) rfl ?_); refine wpList_load_row rfl _ _ rfl g1 rfl _ _ (0, 0) _ hg1 Tryd.underlying27 rfl rec_size ?_)
            | (go_at_call 64; (with_reducible refine (Ct.out _ (Ht.out.next HB) (hd.next HB)).mono ?_); rintro e W4 ⟨A5, c5, rfl, B5, hb⟩; have hgr := grown_of_below hb; replace B5 := B5.mono HB.size; replace hg1 := hg1.grown hgr (by simp); replace hg2 := hg2.grown hgr (by simp); replace HB := HB.grown hgr (by have := HB.size; omega) (by simp); replace hcg1 := hg1.cell; replace hfg1 := hg1.frozen; replace hcg2 := hg2.cell; replace hfg2 := hg2.frozen; clear hb hgr)
            | ((with_reducible refine gate_dst (N := 7) rfl ?_); refine ev_alloc rfl rfl _ rec_zero ?_; intro g3 W5 hg3 hsz hbn; have hgr := grown_of_below hbn; have ng1g3 : g1 ≠ g3 := (by have := hg1.lt; omega); have ng2g3 : g2 ≠ g3 := (by have := hg2.lt; omega); replace hg3 : Blk W5 g3 _ (Rec.zero.cells none 0) := hg3; have zg3 : w.heap.size ≤ g3 := (by have := HB.size; omega); replace B5 := B5.kept hgr (by simp); replace hg1 := hg1.grown hgr (by simp); replace hg2 := hg2.grown hgr (by simp); replace HB := HB.grown hgr (by have := HB.size; omega) (by simp); have hcg3 := hg3.cell; have hfg3 := hg3.frozen; replace hcg1 := hg1.cell; replace hfg1 := hg1.frozen; replace hcg2 := hg2.cell; replace hfg2 := hg2.frozen; clear hsz hbn hgr)
            | ((with_reducible refine gate_store (p := 7) rfl ?_); refine ev_store_row (cs := u.cells A5 c5) rfl rfl rfl hg3 rfl rfl rec_size rfl (cells_one _ _ _) ?_; intro W6 hgn hgr; replace B5 := B5.kept hgr (OB.ne_blk B5 hg3 (by decide)); replace hg1 := hg1.grown hgr (by intro e; injection e with e; omega); replace hg2 := hg2.grown hgr (by intro e; injection e with e; omega); replace HB := HB.grown hgr (by have := HB.size; omega) (by intro k e; injection e with e; omega); replace hg3 := hgn; replace hcg1 := hg1.cell; replace hfg1 := hg1.frozen; replace hcg2 := hg2.cell; replace hfg2 := hg2.frozen; replace hcg3 := hg3.cell; replace hfg3 := hg3.frozen; clear hgn hgr)
            | ((with_reducible refine gate_dst (N := 33) rfl ?_); refine wpList_load_row rfl _ _ rfl g3 rfl _ _ (0, 0) _ hg3 Tryd.underlying27 rfl rec_size ?_)
            | ((with_reducible refine gate_store (p := 4) rfl ?_); refine ev_store_row (cs := u.cells A5 c5) rfl rfl rfl hg2 rfl rfl rec_size rfl (cells_one _ _ _) ?_; intro W7 hgn hgr; replace B5 := B5.kept hgr (OB.ne_blk B5 hg2 (by decide)); replace hg1 := hg1.grown hgr (by intro e; injection e with e; omega); replace hg3 := hg3.grown hgr (by intro e; injection e with e; omega); replace HB := HB.grown hgr (by have := HB.size; omega) (by intro k e; injection e with e; omega); replace hg2 := hgn; replace hcg1 := hg1.cell; replace hfg1 := hg1.frozen; replace hcg2 := hg2.cell; replace hfg2 := hg2.frozen; replace hcg3 := hg3.cell; replace hfg3 := hg3.frozen; clear hgn hgr))
          refine ret_row rfl hg2 rfl Tryd.underlying27 rfl rec_size rfl ?_
          exact ⟨A5, c5, rfl, B5, HB⟩
  · have t1 := int_bne_true hc
    have e1 : downE r to = r.chk := by unfold downE; rw [if_pos hc]
    have e2 : downR r to = Rec.zero := by unfold downR; rw [e1, if_neg hc]
    rw [e1, e2]
    clear hc e1 e2
    go_enter Tryd.func40, Tryd.ntmps40
    go_wp2_with (first
      | ((with_reducible refine gate_dst (N := 2) rfl ?_); refine ev_box rfl rfl (r.cells A c) rfl ?_; intro g1 W1 hg1 hsz hbn; have hgr := grown_of_below hbn; have zg1 : w.heap.size ≤ g1 := (by have := HB.size; omega); replace HB := HB.grown hgr (by have := HB.size; omega) (by simp); have hcg1 := hg1.cell; have hfg1 := hg1.frozen; clear hsz hbn hgr)
      | ((with_reducible refine gate_dst (N := 4) rfl ?_); refine ev_alloc rfl rfl _ rec_zero ?_; intro g2 W2 hg2 hsz hbn; have hgr := grown_of_below hbn; have ng1g2 : g1 ≠ g2 := (by have := hg1.lt; omega); replace hg2 : Blk W2 g2 _ (Rec.zero.cells none 0) := hg2; have zg2 : w.heap.size ≤ g2 := (by have := HB.size; omega); replace hg1 := hg1.grown hgr (by simp); replace HB := HB.grown hgr (by have := HB.size; omega) (by simp); have hcg2 := hg2.cell; have hfg2 := hg2.frozen; replace hcg1 := hg1.cell; replace hfg1 := hg1.frozen; clear hsz hbn hgr)
      | ((with_reducible refine gate_dst (N := 9) rfl ?_); refine wpList_load_row rfl _ _ rfl g1 rfl _ _ (0, 0) _ hg1 Tryd.underlying27 rfl rec_size ?_)
      | (go_at_call 52; (with_reducible refine (check_calls r A c hf _ (HT.out.next HB) (hd.next HB)).mono ?_); rintro e W3 ⟨rfl, hb⟩; have hgr := grown_of_below hb; replace hg1 := hg1.grown hgr (by simp); replace hg2 := hg2.grown hgr (by simp); replace HB := HB.grown hgr (by have := HB.size; omega) (by simp); replace hcg1 := hg1.cell; replace hfg1 := hg1.frozen; replace hcg2 := hg2.cell; replace hfg2 := hg2.frozen; clear hb hgr)
      | ((with_reducible refine gate_store (p := 4) rfl ?_); refine ev_store_row (cs := Rec.zero.cells none 0) rfl rfl rfl hg2 rfl rfl rec_size rfl (cells_one _ _ _) ?_; intro W4 hgn hgr; replace hg1 := hg1.grown hgr (by intro e; injection e with e; omega); replace HB := HB.grown hgr (by have := HB.size; omega) (by intro k e; injection e with e; omega); replace hg2 := hgn; replace hcg1 := hg1.cell; replace hfg1 := hg1.frozen; replace hcg2 := hg2.cell; replace hfg2 := hg2.frozen; clear hgn hgr))
    refine ret_row rfl hg2 rfl Tryd.underlying27 rfl rec_size rfl ?_
    exact ⟨none, 0, rfl, OB.nil, HB⟩

theorem down_calls (r : Rec) (A : Option Addr) (c : Nat) (to : Int) (hf : r.Fits) (w : World) (hT : Tabs w) (ht : Tab w 1 waysL) (hd : RB w A r.Data) :
    Calls Tryd.prog 40 #[.agg (r.cells A c), .int .i64 to] w fun e w' => ∃ A' c', e = .returned (.tuple #[.agg ((downR r to).cells A' c'), .int .i64 (downE r to)]) ∧ RU w' A' (downR r to).Data ∧ Below w.heap.size w w' :=
  (down_own r A c to hf w hT ht hd).mono fun e w' ⟨A', c', he, hB, hb⟩ => ⟨A', c', he, hB.ru, hb⟩

def leastE (r : Rec) : Int := r.chk
def leastN (r : Rec) : Int := if r.chk = 0 then leastR r else 0
theorem turn_lower {r : Rec} (h : r.chk = 0) {v : Int} (h1 : 1 ≤ v) (h2 : v < r.V) : turnF r v = decide (leastR r ≤ v) := (least_ok h).2.2 v h1 (by omega)

/-- What 'started' lifts. -/
def firstR : Rec := { Rec.zero with V := 1, Kind := 7, Saga := 5 }
theorem firstR_chk : firstR.chk = 0 := by decide +kernel
theorem firstR_up : upE firstR 3 = 0 ∧ upR firstR 3 = { firstR with V := 3 } := by
  have h : upE firstR 3 = 0 := by unfold upE; rw [firstR_chk]; decide +kernel
  refine ⟨h, ?_⟩
  unfold upR
  rw [if_pos h, (turn_13 (r := firstR) rfl).1]
  rfl
theorem up_first (w : World) (hT : Tabs w) (ht : Tab w 1 waysL) :
    Calls Tryd.prog 38 #[.agg #[.int .i64 1, .int .i64 7, .int .i64 5, .int .i64 0, .int .i64 0, .int .i64 0, .int .i64 0, .int .i64 0, .int .i64 0, .int .i64 0, .string ⟨#[]⟩, .slice none 0 0], .int .i64 3] w fun e w' => ∃ A' c', e = .returned (.tuple #[.agg (({ firstR with V := 3 } : Rec).cells A' c'), .int .i64 0]) ∧ RU w' A' ({ firstR with V := 3 } : Rec).Data ∧ Below w.heap.size w w' := by
  have := up_calls firstR none 0 3 ⟨by decide, by decide⟩ w hT ht RB.nil
  rw [firstR_up.1, firstR_up.2] at this
  exact this
theorem same_later (a : Rec) (A B : Option Addr) (c d : Nat) (w : World) (ha : RB w A a.Data) (hb : RB w B a.Data) (hl : a.Data.length ≤ 140737488351232) :
    Calls Tryd.prog 42 #[.agg (a.cells A c), .agg (a.cells B d)] w fun e w' => e = .returned (.bool true) ∧ Below w.heap.size w w' := by
  have := refSame_calls a a A B c d w ha hb hl hl
  rwa [Rec.same_self] at this
theorem same_first (A : Option Addr) (c : Nat) (w : World) (ha : RB w A []) :
    Calls Tryd.prog 42 #[.agg (({ firstR with V := 3 } : Rec).cells A c), .agg #[.int .i64 3, .int .i64 7, .int .i64 5, .int .i64 0, .int .i64 0, .int .i64 0, .int .i64 0, .int .i64 0, .int .i64 0, .int .i64 0, .string ⟨#[]⟩, .slice none 0 0]] w fun e w' => e = .returned (.bool true) ∧ Below w.heap.size w w' :=
  same_later { firstR with V := 3 } A none c 0 w ha RB.nil (by decide)
set_option maxHeartbeats 2000000 in
set_option maxRecDepth 100000 in
theorem started_calls (w : World) (hT : Tabs w) (ht : Tab w 1 waysL) :
    Calls Tryd.prog 28 #[] w fun e w' => e = .returned (.bool true) ∧ Below w.heap.size w w' := by
  have HB := Below.refl w.heap.size w
  have HT := Lib.hid hT
  have Ht := Lib.hid ht
  clear hT ht
  go_enter Tryd.func28, Tryd.ntmps28
  go_wp2_with (first
    | (go_at_call 38; (with_reducible refine (up_first _ (HT.out.next HB) (Ht.out.next HB)).mono ?_); rintro e W1 ⟨A5, c5, rfl, hd5, hb⟩; have hgr := grown_of_below hb; replace HB := HB.grown hgr (by have := HB.size; omega) (by simp); clear hb hgr)
    | ((with_reducible refine gate_dst (N := 1) rfl ?_); refine ev_alloc rfl rfl _ rec_zero ?_; intro g1 W2 hg1 hsz hbn; have hgr := grown_of_below hbn; replace hg1 : Blk W2 g1 _ (Rec.zero.cells none 0) := hg1; have zg1 : w.heap.size ≤ g1 := (by have := HB.size; omega); replace hd5 := hd5.kept hgr (by simp); replace HB := HB.grown hgr (by have := HB.size; omega) (by simp); have hcg1 := hg1.cell; have hfg1 := hg1.frozen; clear hsz hbn hgr)
    | ((with_reducible refine gate_store (p := 1) rfl ?_); refine ev_store_row (cs := ({ firstR with V := 3 } : Rec).cells A5 c5) rfl rfl rfl hg1 rfl rfl rec_size rfl (cells_one _ _ _) ?_; intro W3 hgn hgr; replace hd5 := hd5.kept hgr (RU.ne_blk hd5 hg1 (by decide)); replace HB := HB.grown hgr (by have := HB.size; omega) (by intro k e; injection e with e; omega); replace hg1 := hgn; replace hcg1 := hg1.cell; replace hfg1 := hg1.frozen; clear hgn hgr)
    | (go_at_call 37; (with_reducible refine (num_calls _ _).mono ?_); rintro e w1 ⟨rfl, rfl⟩)
    | ((with_reducible refine gate_dst (N := 12) rfl ?_); (first | (refine wpList_ungate ?_ ?_; focus (first | rfl | (simp [Region.wanted, yielded]; done))) | (refine wpList_ungate (by first | rfl | simp [Region.wanted, yielded]) ?_)); refine wpList_load_row rfl _ _ rfl g1 rfl _ _ (0, 0) _ hg1 Tryd.underlying27 rfl rec_size ?_)
    | (go_at_call 42; (with_reducible refine (same_first _ _ _ hd5.rb).mono ?_); rintro e W4 ⟨rfl, hb⟩; have hgr := grown_of_below hb; replace hd5 := hd5.kept hgr (by simp); replace hg1 := hg1.grown hgr (by simp); replace HB := HB.grown hgr (by have := HB.size; omega) (by simp); replace hcg1 := hg1.cell; replace hfg1 := hg1.frozen; clear hb hgr))
  go_ret
  exact ⟨rfl, HB⟩
end Go.Proofs.YtikodgaomhmbmaaDoor
