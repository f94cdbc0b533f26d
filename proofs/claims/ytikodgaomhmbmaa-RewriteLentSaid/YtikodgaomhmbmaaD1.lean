/-
  The walks of lift.fill, stay, plain, empty.
-/
import Derived.Test.YtikodgaomhmbmaaD0
import Derived.Laws.ResultCell
import Derived.Laws.IdiomStrings
import Derived.OrdersHeld
import Derived.RegionTactic
set_option linter.unusedVariables false
set_option linter.unusedSimpArgs false
namespace Go.Proofs.Ytikodgaomhmbmaa
open Go.RowKit
attribute [local go_sem] Rec.size_ Rec.g0 Rec.g1 Rec.g2 Rec.g3 Rec.g4 Rec.g5 Rec.g6 Rec.g7 Rec.g8 Rec.g9 Rec.g10 Rec.g11 Rec.fold

theorem results_row_tmp {P : Program} {fn : Func} {p u : Tmp} {ty : TypeId} (h : fn.results = #[.cell p ty, .tmp u]) (tmps : Array Value) (w : World) (g : Nat) (t : TypeId) (cs : Array Value) (fr : Nat × Nat) (d : TypeDesc)
    (hp : tmps.getD p undef = .pointer (some ⟨g, 0, none⟩)) (hg : w.heap[g]? = some (.cells cs t fr))
    (hu : P.underlying ty = some d) (hd : (match d with | .struct _ | .array _ _ => true | _ => false) = true) (hi : (P.info? ty).map (·.size) = some cs.size) :
    (results fn tmps).run P w = .ok (.tuple #[.agg cs, tmps.getD u undef]) w := by
  rw [results_cell_tmp h tmps P w, hp]
  simp [asAddr, Result.andThen, run_loadVar_row w g t ty cs fr d hg hu hd hi]
theorem ret_row {P : Program} {fn : Func} {R : Ending → World → Prop} {a : Act} {w : World} {p u : Tmp} {ty : TypeId} {g : Nat} {t : TypeId} {cs : Array Value} {d : TypeDesc} (h : fn.results = #[.cell p ty, .tmp u])
    (hg : Blk w g t cs) (hp : a.tmps.getD p undef = .pointer (some ⟨g, 0, none⟩))
    (hu : P.underlying ty = some d) (hd : (match d with | .struct _ | .array _ _ => true | _ => false) = true) (hi : (P.info? ty).map (·.size) = some cs.size) (hdf : a.defers = [])
    (hR : R (.returned (.tuple #[.agg cs, a.tmps.getD u undef])) w) : bodyPost P fn R .ret a w :=
  bodyPost_ret (results_row_tmp h _ _ g _ _ (0, 0) _ hp hg hu hd hi) hdf hR

section
variable {P : Program} {ops : Array Oper} {rest : List Oper} {o : Oper} {a : Act} {Q : Exit → Act → World → Prop} {W : World}
theorem ev_bytes (hgd : o.guard = none) {src dst : TypeId} {x : Operand} (ho : o.op = .convert src dst x) (hs : P.underlying src = some .string) (hd : P.underlying dst = some (.slice 5)) (he : P.underlying 5 = some (.int .u8)) {s : ByteArray} (hx : a.eval x = .string s)
    (h : ∀ A c w1, RU w1 A s.data.toList → Below W.heap.size W w1 → wpList P ops Q rest (a.put o.dst (.slice A s.data.toList.length c)) w1) : wpList P ops Q (o :: rest) a W := by
  refine ev_run hgd (w1 := W.drew.alloc (.cells (bytesRow s (grownCap W s.size 0 5)) 5 ((bytesRow s (grownCap W s.size 0 5)).size, (bytesRow s (grownCap W s.size 0 5)).size + 1))) (v := .slice (some ⟨W.heap.size, 0, none⟩) s.size (grownCap W s.size 0 5)) ?_
    (h (some ⟨W.heap.size, 0, none⟩) (grownCap W s.size 0 5) _ ?_ (below_alloc (Below.refl _ _).drew _))
  · have := run_bytes_of_string (P := P) W src dst 5 s hs hd he
    simp [execOp, ho, hx, this]
  · have hnew : (W.drew.alloc (.cells (bytesRow s (grownCap W s.size 0 5)) 5 ((bytesRow s (grownCap W s.size 0 5)).size, (bytesRow s (grownCap W s.size 0 5)).size + 1))).heap[W.heap.size]? = some (.cells (bytesRow s (grownCap W s.size 0 5)) 5 ((bytesRow s (grownCap W s.size 0 5)).size, (bytesRow s (grownCap W s.size 0 5)).size + 1)) := heap_alloc_new W.drew _
    refine ⟨⟨by simp [u8s], fun _ => ⟨_, rfl, ?_, fun j u hu => ?_⟩⟩, fun _ => ⟨_, _, _, rfl, hnew⟩⟩
    · exact (Array.getElem?_eq_some_iff.1 hnew).1
    · have hj : j < s.data.size := by
        have := (List.getElem?_eq_some_iff.1 hu).1
        simpa [u8s] using this
      have e1 : (⟨W.heap.size, 0, none⟩ : Addr).add j = ⟨W.heap.size, j, none⟩ := by unfold Addr.add; split <;> simp_all
      rw [e1, cell_of_row _ _ _ _ _ _ hnew, bytesRow_at s _ j hj, ← hu, u8s_get (by simpa using hj)]
      simp
theorem ev_bytes_ob (hgd : o.guard = none) {src dst : TypeId} {x : Operand} (ho : o.op = .convert src dst x) (hs : P.underlying src = some .string) (hd : P.underlying dst = some (.slice 5)) (he : P.underlying 5 = some (.int .u8)) {s : ByteArray} (hx : a.eval x = .string s)
    (h : ∀ A c w1, OB w1 W.heap.size A c s.data.toList → Below W.heap.size W w1 → wpList P ops Q rest (a.put o.dst (.slice A s.data.toList.length c)) w1) : wpList P ops Q (o :: rest) a W := by
  refine ev_run hgd (w1 := W.drew.alloc (.cells (bytesRow s (grownCap W s.size 0 5)) 5 ((bytesRow s (grownCap W s.size 0 5)).size, (bytesRow s (grownCap W s.size 0 5)).size + 1))) (v := .slice (some ⟨W.heap.size, 0, none⟩) s.size (grownCap W s.size 0 5)) ?_
    (h (some ⟨W.heap.size, 0, none⟩) (grownCap W s.size 0 5) _ ?_ (below_alloc (Below.refl _ _).drew _))
  · have := run_bytes_of_string (P := P) W src dst 5 s hs hd he
    simp [execOp, ho, hx, this]
  · have hnew : (W.drew.alloc (.cells (bytesRow s (grownCap W s.size 0 5)) 5 ((bytesRow s (grownCap W s.size 0 5)).size, (bytesRow s (grownCap W s.size 0 5)).size + 1))).heap[W.heap.size]? = some (.cells (bytesRow s (grownCap W s.size 0 5)) 5 ((bytesRow s (grownCap W s.size 0 5)).size, (bytesRow s (grownCap W s.size 0 5)).size + 1)) := heap_alloc_new W.drew _
    have hge := grownCap_ge W s.size 0 5
    have hsz : s.size = s.data.toList.length := rfl
    have hz : (bytesRow s (grownCap W s.size 0 5)).size = grownCap W s.size 0 5 := by
      simp only [bytesRow, Array.size_append, Array.size_map, Array.size_replicate]
      have : s.data.size = s.size := rfl
      omega
    refine .inr ⟨W.heap.size, _, _, rfl, Nat.le_refl _, hnew, .inr (Nat.le_refl _), by omega, hz, ?_⟩
    apply List.ext_getElem?
    intro j
    rw [List.getElem?_take]
    by_cases hj : j < s.data.toList.length
    · rw [if_pos hj, Array.getElem?_toList, bytesRow_at s _ j (by simpa using hj), u8s_get hj]
      simp
    · rw [if_neg hj, List.getElem?_eq_none (by simpa [u8s] using hj)]
end

/-- Data that is as it was, or a row of one's own. -/
def HopData (base : Nat) (A : Option Addr) (c : Nat) (l : List UInt8) (A' : Option Addr) (c' : Nat) (l' : List UInt8) (w' : World) : Prop := (A' = A ∧ c' = c ∧ l' = l) ∨ OB w' base A' c' l'
theorem HopData.stays {base : Nat} {A : Option Addr} {c : Nat} {l : List UInt8} {w' : World} : HopData base A c l A c l w' := .inl ⟨rfl, rfl, rfl⟩
theorem HopData.own {base : Nat} {A : Option Addr} {c : Nat} {l : List UInt8} {A' : Option Addr} {c' : Nat} {l' : List UInt8} {w' : World} (h : OB w' base A' c' l') : HopData base A c l A' c' l' w' := .inr h
/-- What a step's function answers: the data is the argument's, or a row of one's own. -/
def HopSaid (P : Program) (f : Nat) (r' : Rec) (b : Bool) (r : Rec) (A : Option Addr) (c : Nat) (w : World) : Prop :=
  Calls P f #[.agg (r.cells A c)] w fun e w' => ∃ A' c', e = .returned (.tuple #[.agg (r'.cells A' c'), .bool b]) ∧ HopData w.heap.size A c r.Data A' c' r'.Data w' ∧ Below w.heap.size w w'
theorem hop_own {P : Program} {f : Nat} {r' : Rec} {b : Bool} {r : Rec} {A : Option Addr} {c base : Nat} {w : World} (h : HopSaid P f r' b r A c w) (hB : OB w base A c r.Data) (hle : base ≤ w.heap.size) :
    Calls P f #[.agg (r.cells A c)] w fun e w' => ∃ A' c', e = .returned (.tuple #[.agg (r'.cells A' c'), .bool b]) ∧ OB w' base A' c' r'.Data ∧ Below w.heap.size w w' :=
  Calls.mono h fun e w' ⟨A', c', he, hd, hb⟩ => ⟨A', c', he, by
    rcases hd with ⟨rfl, rfl, e⟩ | hd
    · rw [e]; exact hB.next hb
    · exact hd.mono hle, hb⟩

end Go.Proofs.Ytikodgaomhmbmaa
