/-
  The walk of wire.piece.
-/
import Derived.Test.YtjhiohjpkdjkoaaDoorX2
import Derived.Laws.CopyOwn
set_option linter.unusedVariables false
set_option linter.unusedSimpArgs false
namespace Go.Proofs.YtjhiohjpkdjkoaaDoor
open Go.RowKit

section
variable {P : Program} {ops : Array Oper} {rest : List Oper} {o : Oper} {a : Act} {Q : Exit → Act → World → Prop} {W : World}
/-- make([]T, n): a new row of n cells. -/
theorem ev_made (hgd : o.guard = none) {l c : Operand} {t e : TypeId} (ho : o.op = .makeSlice t l c) {z : Value} {bytes : Nat} (ht : P.underlying t = some (.slice e)) (hinfo : (P.info? e).map (fun i => (i.zero, i.size, i.bytes)) = some (some z, 1, bytes))
    {kl kc : IntKind} {L : Int} {n : Nat} (hl : a.eval l = .int kl L) (hc : a.eval c = .int kc L) (hL : L = (n : Int)) (hb : bytes * n ≤ 281474976710656) (hm : n ≤ maxLen)
    (h : ∀ g w1 (cur : Array Value), Blk w1 g e cur → cur.size = n → W.heap.size ≤ g → Below W.heap.size W w1 → wpList P ops Q rest (a.put o.dst (.slice (some ⟨g, 0, none⟩) n n)) w1) : wpList P ops Q (o :: rest) a W := by
  obtain ⟨i, hi, hz0, hz1, hz2⟩ := info_parts hinfo
  subst hz2
  refine wpList_make_full W hgd l c t ho W.heap.size e i z 1 ht hi hz0 hz1 kl kc L L n hl hc hL hL hb hm (Nat.le_refl _) ?_
  intro w' ho' hg
  rcases ho'.2 with ⟨hv, _⟩ | ⟨g, cap, cur, hv, hge, hh, _, _, hs, _⟩
  · cases hv
  · injection hv with e1 _ e2
    injection e1 with e1
    injection e1 with e1
    subst e1
    subst e2
    exact h _ w' cur hh (by omega) (Nat.le_refl _) ((Below.refl _ _).grown hg (Nat.le_refl _) (by simp))
end

theorem piece_src {w : World} {l : List UInt8} {ad : Addr} {f n : Nat} (hd : RB w (some ad) l) (hn : 0 < l.length) : ∀ j v, (u8s ((l.drop f).take n))[j]? = some v → w.cell? ((ad.add f).add j) = some v := by
  intro j v hv
  obtain ⟨ad', e, _, hcell⟩ := hd.2 hn
  injection e with e
  subst e
  rw [add_of_add]
  refine hcell (f + j) v ?_
  have hj : j < n := by
    have := (List.getElem?_eq_some_iff.1 hv).1
    rw [u8s_length, List.length_take] at this
    omega
  rw [← hv]
  unfold u8s
  rw [List.map_take, List.map_drop, List.getElem?_take, if_pos hj, List.getElem?_drop]

set_option maxHeartbeats 1000000 in
set_option maxRecDepth 100000 in
/-- A copy of the n bytes from f on. -/
theorem wpiece_calls (l : List UInt8) (ad : Addr) (c f n : Nat) (h0 : 0 < l.length) (hf : f + n ≤ l.length) (hc : l.length ≤ c) (hl : l.length ≤ 140737488351232) (w : World) (hd : RB w (some ad) l) :
    Calls Tryd.prog 129 #[.slice (some ad) l.length c, .int .i64 f, .int .i64 ((f + n : Nat) : Int)] w fun e w' => ∃ A' c', e = .returned (.slice A' n c') ∧ w'.ownsRow w.heap.size 5 1 (.slice A' n c') n (u8s ((l.drop f).take n)) ∧ Below w.heap.size w w' := by
  have HB := Below.refl w.heap.size w
  have hlt : f + n ≤ c := by omega
  have hcs : (u8s ((l.drop f).take n)).length = n := by rw [u8s_length, List.length_take, List.length_drop]; omega
  have h1 : ∀ v ∈ u8s ((l.drop f).take n), v.oneCell' = true := u8s_one
  have hsrc := fun W1 (h : RB W1 (some ad) l) => piece_src (f := f) (n := n) h h0
  generalize u8s ((l.drop f).take n) = cs at hsrc hcs h1 ⊢
  generalize hT : f + n = T at hf hlt
  have hTf : (T : Int) - (f : Int) = (n : Int) := by omega
  have hT1 : f ≤ T := by omega
  have hmin := Lib.hid (show n = Nat.min (T - f) n by show n = min (T - f) n; omega)
  have Hsrc := Lib.hid hsrc
  have Hcs := Lib.hid hcs
  have H1 := Lib.hid h1
  clear hsrc hcs h1
  cases hcf : decide (c = f)
  case' false => have hcf2 := of_decide_eq_false hcf
  case' true =>
    have hcf2 := of_decide_eq_true hcf
    have Hn0 := Lib.hid (show n = 0 by omega)
  all_goals
    clear hcf
    go_enter Tryd.func129, Tryd.ntmps129
    go_wp2_with (first
      | (at_make; refine ev_made rfl rfl Tryd.underlying33 info_u8 rfl rfl (n := n) (by omega) (by omega) (by unfold maxLen; omega) ?_; intro g W1 cur hg hsz hge hbn; have hgr := grown_of_below hbn; replace HB := HB.grown hgr (by have := HB.size; omega) (by simp); have hd1 := hd.next hbn; have hfit : 0 + cs.length ≤ cur.toList.length := (by rw [Hcs.out]; simp; omega); have hg' : W1.heap[g]? = some (.cells cur.toList.toArray 5 (0, 0)) := (by simpa using (show W1.heap[g]? = some (.cells cur 5 (0, 0)) from hg)); clear hgr hbn)
      | ((with_reducible refine gate_dst (N := 17) rfl ?_); refine wpList_copy_splice rfl _ _ _ _ rfl 5 Tryd.underlying33 (by kernel_rfl) _ _ n n (T - f) _ rfl rfl g 0 cur.toList 5 hg' cs (Hcs.out.trans hmin.out) (fun hp => ⟨rfl, _, rfl, by first | exact Hsrc.out _ hd1 | (exfalso; have := Hcs.out; have := Hn0.out; omega)⟩) hfit H1.out w.heap.size w HB hge ?_; intro W2 hh hb2))
    go_ret
    have e := Hcs.out
    have e2 : cur.toList.length = cs.length := by rw [e, Array.length_toList]; exact hsz
    have hsp : splice cur.toList 0 cs = cs := by
      unfold splice
      simp only [Nat.zero_add, ← e2, List.drop_length, List.take_zero, List.nil_append, List.append_nil]
    have hh2 := hh.out
    rw [hsp] at hh2
    exact ⟨some ⟨g, 0, none⟩, n, rfl, ⟨by omega, .inr ⟨g, n, cs.toArray, rfl, hge, hh2, Nat.le_refl _, by unfold maxLen; omega, by simp only [List.size_toArray, e]; omega, by simp only [Nat.mul_one, ← e, List.take_length]⟩⟩, hb2⟩
end Go.Proofs.YtjhiohjpkdjkoaaDoor
