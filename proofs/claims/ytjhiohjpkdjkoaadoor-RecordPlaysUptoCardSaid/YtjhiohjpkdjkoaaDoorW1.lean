/-
  The walks that annalslaw3.started comes to, at its own record and bytes.
-/
import Derived.Test.YtjhiohjpkdjkoaaDoorC3
import Derived.LoopN
import Derived.OwnWalk
set_option linter.unusedVariables false
set_option linter.unusedSimpArgs false
namespace Go.Proofs.YtjhiohjpkdjkoaaDoor
open Go.RowKit
attribute [local go_sem] Rec.size_ Rec.g0 Rec.g1 Rec.g2 Rec.g3 Rec.g4 Rec.g5 Rec.g6 Rec.g7 Rec.g8 Rec.g9 Rec.g10 Rec.g11 Rec.fold

section
variable {P : Program} {ops : Array Oper} {rest : List Oper} {o : Oper} {a : Act} {Q : Exit → Act → World → Prop} {W : World}
theorem ev_make (hgd : o.guard = none) {l c : Operand} {t e : TypeId} (ho : o.op = .makeSlice t l c) {z : Value} {size bytes : Nat} (ht : P.underlying t = some (.slice e)) (hinfo : (P.info? e).map (fun i => (i.zero, i.size, i.bytes)) = some (some z, size, bytes))
    {kl kc : IntKind} {C : Int} {n : Nat} (hl : a.eval l = .int kl 0) (hc : a.eval c = .int kc C) (hC : C = (n : Int)) (hb : bytes * n ≤ 281474976710656) (hm : n ≤ maxLen)
    (h : ∀ g w1, w1.ownsRow W.heap.size e size (.slice (some ⟨g, 0, none⟩) 0 n) 0 [] → W.heap.size ≤ g → Below W.heap.size W w1 → wpList P ops Q rest (a.put o.dst (.slice (some ⟨g, 0, none⟩) 0 n)) w1) : wpList P ops Q (o :: rest) a W := by
  obtain ⟨i, hi, hz0, hz1, hz2⟩ := info_parts hinfo
  subst hz2
  refine wpList_make_own W hgd l c t ho W.heap.size e i z size ht hi hz0 hz1 kl kc C n hl hc hC hb hm (Nat.le_refl _) ?_
  intro w' ho' hg
  exact h _ w' ho' (Nat.le_refl _) ((Below.refl _ _).grown hg (Nat.le_refl _) (by simp))
end

set_option maxHeartbeats 1000000 in
set_option maxRecDepth 100000 in
theorem uint_small (v : Int) (h0 : 0 ≤ v) (hv : v < 128) (w : World) :
    Calls Tryd.prog 103 #[.int .u64 v] w fun e w' => ∃ A c, e = .returned (.slice A 1 c) ∧ w'.ownsRow w.heap.size 5 1 (.slice A 1 c) 1 [.int .u8 v] ∧ Below w.heap.size w w' := by
  have HB := Below.refl w.heap.size w
  have t1 : decide ((128 : Int) ≤ v) = false := by simp; omega
  have t2 : IntKind.u8.wrap v = v := by rw [IntKind.wrap_u8]; omega
  go_enter Tryd.func103, Tryd.ntmps103
  go_wp2_with (first
    | (at_make; refine ev_make rfl rfl Tryd.underlying33 info_u8 rfl rfl (n := 10) rfl (by omega) (by decide) ?_; intro g W1 o1 hge hbn; have hgr := grown_of_below hbn; replace HB := HB.grown hgr (by have := HB.size; omega) (by simp); clear hgr hbn hge))
  refine wp_loop_rounds 1 ?_
  rw [rounds_succ]
  go_wp2_with (first
    | ((with_reducible refine gate_dst (N := 18) rfl ?_); refine ev_lit rfl rfl (#[.int .u8 v]) 5 1 (by first | (go_simp; done) | (go_simp; rfl)) ?_; intro g2 W1 hg2 hsz hbn; have hgr := grown_of_below hbn; have zg2 : w.heap.size ≤ g2 := (by have := HB.size; omega); replace o1 := o1.kept hgr (by cases Value.ownBlock _ <;> simp); replace HB := HB.grown hgr (by have := HB.size; omega) (by simp); have hcg2 := hg2.cell; have hfg2 := hg2.frozen; clear hsz hbn hgr)
    | ((with_reducible refine gate_dst (N := 19) rfl ?_); refine ev_append rfl rfl Tryd.underlying33 info_u8 rfl (by omega) rfl o1 rfl (hg2.reads (size := 1) (n := 1) rfl) (fun u hu => by simp at hu; subst hu; rfl) (by omega) (by omega) (by have := HB.size; omega) ?_; intro A2 c2 W2 on hgr hat; replace HB := HB.grown hgr (by have := HB.size; omega) (own_base o1); replace o1 := on; clear on hgr hat))
  go_ret
  exact ⟨A2, c2, rfl, by simpa using o1, HB⟩
end Go.Proofs.YtjhiohjpkdjkoaaDoor
