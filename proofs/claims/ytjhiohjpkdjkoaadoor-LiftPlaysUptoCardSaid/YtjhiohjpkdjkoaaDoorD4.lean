/-
  The walk of lift.UpAll.
-/
import Derived.Test.YtjhiohjpkdjkoaaDoorD3
set_option linter.unusedVariables false
set_option linter.unusedSimpArgs false
namespace Go.Proofs.YtjhiohjpkdjkoaaDoor
open Go.RowKit
attribute [local go_sem] Rec.size_ Rec.g0 Rec.g1 Rec.g2 Rec.g3 Rec.g4 Rec.g5 Rec.g6 Rec.g7 Rec.g8 Rec.g9 Rec.g10 Rec.g11 Rec.fold

theorem Rec.lit_fold (r : Rec) (A : Option Addr) (c : Nat) : Array.foldl (fun (cs : Array Value) (x : Value × Nat) => cs.setIfInBounds x.snd x.fst) #[Value.int IntKind.i64 0, Value.int IntKind.i64 0, Value.int IntKind.i64 0, Value.int IntKind.i64 0, Value.int IntKind.i64 0, Value.int IntKind.i64 0, Value.int IntKind.i64 0, Value.int IntKind.i64 0, Value.int IntKind.i64 0, Value.int IntKind.i64 0, Value.string { data := #[] }, Value.slice none 0 0] (r.cells A c).zipIdx 0 12 = r.cells A c := by
  unfold Rec.cells
  simp [Array.zipIdx]
attribute [local go_sem] Rec.lit_fold
/-! ### A load of a struct from whatever address -/
section
variable {P : Program} {ops : Array Oper} {rest : List Oper} {o : Oper} {a : Act} {Q : Exit → Act → World → Prop} {W : World}
theorem run_loadVar_at (w : World) (ad : Addr) (ty : TypeId) (cs : Array Value) (d : TypeDesc) (hc : ∀ j v, cs[j]? = some v → w.cell? (ad.add j) = some v)
    (hu : P.underlying ty = some d) (hd : (match d with | .struct _ | .array _ _ => true | _ => false) = true) (hi : (P.info? ty).map (·.size) = some cs.size) :
    (loadVar ty ad).run P w = .ok (.agg cs) w := by
  have hl : (loadCells ad cs.toList.length).run P w = .ok cs.toList.toArray w := run_loadCells_list (P := P) w ad cs.toList (fun j v hv => hc j v (by simpa using hv))
  cases hq : P.info? ty with
  | none => simp [hq] at hi
  | some i =>
    have hs : i.size = cs.size := by simpa [hq] using hi
    have hz : (sizeOf ty).run P w = .ok cs.size w := by simp [sizeOf, typeInfo, hq, hs]
    have ha : (isAgg ty).run P w = .ok true w := by
      cases d <;> simp at hd <;> simp [isAgg, run_underlying hu]
    have hl' : (loadCells ad cs.size).run P w = .ok cs w := by simpa using hl
    simp [loadVar, ha, hz, hl', Sem.run_bind, Result.andThen]
theorem ev_load_at (hgd : o.guard = none) {ty : TypeId} {x : Operand} (ho : o.op = .load ty x) {ad : Addr} (hx : a.eval x = .pointer (some ad)) {cs : Array Value} {d : TypeDesc} (hc : ∀ j v, cs[j]? = some v → W.cell? (ad.add j) = some v)
    (hu : P.underlying ty = some d) (hd : (match d with | .struct _ | .array _ _ => true | _ => false) = true) (hi : (P.info? ty).map (·.size) = some cs.size)
    (h : wpList P ops Q rest (a.put o.dst (.agg cs)) W) : wpList P ops Q (o :: rest) a W := by
  refine ev_run hgd (w1 := W) (v := .agg cs) ?_ h
  simp [execOp, ho, hx, Instr.loadAt, Instr.sureAddr, run_loadVar_at W ad ty cs d hc hu hd hi]
end
theorem RR.load {w : World} {A : Option Addr} {l : List RA} (h : RR w A l) {k : Nat} {x : RA} (hx : l[k]? = some x) {ad : Addr} (he : A = some ad) : ∀ j v, (x.1.cells x.2.1 x.2.2)[j]? = some v → w.cell? ((ad.add (k * 12)).add j) = some v := by
  obtain ⟨ad', e, _, hc⟩ := h.get hx
  rw [he] at e
  injection e with e
  subst e
  intro j v hv
  rw [add_of_add]
  exact hc j v hv

/-- The Data of records that were made. -/
def RUs (w : World) (os : List RA) : Prop := ∀ x ∈ os, RU w x.2.1 x.1.Data
section
variable {w w' : World} {os : List RA}
theorem RUs.kept {row : Option Nat} (h : RUs w os) (hgr : w.grownBy w' row) (hne : ∀ x ∈ os, x.1.Data ≠ [] → ∀ ad, x.2.1 = some ad → some ad.block ≠ row) : RUs w' os := fun x hx => (h x hx).kept hgr (hne x hx)
theorem RUs.ne_blk {g : Nat} {t : TypeId} {cs : Array Value} (h : RUs w os) (hg : Blk w g t cs) (hne : 5 ≠ t) : ∀ x ∈ os, x.1.Data ≠ [] → ∀ ad, x.2.1 = some ad → some ad.block ≠ some g := fun x hx => (h x hx).ne_blk hg hne
theorem RUs.ne_own {base size n : Nat} {e : TypeId} {v : Value} {xs : List Value} (h : RUs w os) (ho : w.ownsRow base e size v n xs) (hne : 5 ≠ e) : ∀ x ∈ os, x.1.Data ≠ [] → ∀ ad, x.2.1 = some ad → some ad.block ≠ v.ownBlock := fun x hx => (h x hx).ne_own ho hne
theorem RUs.nil : RUs w [] := fun x hx => by cases hx
theorem RUs.snoc {y : RA} (h : RUs w os) (hy : RU w y.2.1 y.1.Data) : RUs w (os ++ [y]) := fun x hx => by
  rcases List.mem_append.1 hx with hx | hx
  · exact h x hx
  · obtain rfl : x = y := by simpa using hx
    exact hy
end

/-! ### What UpAll answers -/
def upsE (to : Int) : List Rec → Int
  | [] => 0
  | r :: l => if upE r to = 0 then upsE to l else upE r to
def upsAt (to : Int) : List Rec → Nat → Nat
  | [], _ => 0
  | r :: l, i => if upE r to = 0 then upsAt to l (i + 1) else i
theorem upsE_drop {to : Int} : ∀ {l : List Rec} {k : Nat} {r : Rec}, l[k]? = some r → upsE to (l.drop k) = if upE r to = 0 then upsE to (l.drop (k + 1)) else upE r to
  | [], k, r, h => by simp at h
  | x :: l, 0, r, h => by
    simp at h
    subst h
    rfl
  | x :: l, k + 1, r, h => by
    simpa using upsE_drop (l := l) (k := k) (r := r) (by simpa using h)
theorem upsAt_drop {to : Int} {i : Nat} : ∀ {l : List Rec} {k : Nat} {r : Rec}, l[k]? = some r → upsAt to (l.drop k) i = if upE r to = 0 then upsAt to (l.drop (k + 1)) (i + 1) else i
  | [], k, r, h => by simp at h
  | x :: l, 0, r, h => by
    simp at h
    subst h
    rfl
  | x :: l, k + 1, r, h => by
    simpa using upsAt_drop (l := l) (k := k) (r := r) (by simpa using h)
def upAllE (to : Int) (l : List Rec) : Int := if known to then upsE to l else 3
def upAllAt (to : Int) (l : List Rec) : Nat := if known to then upsAt to l 0 else 0
noncomputable def upAllR (to : Int) (l : List Rec) : List Rec := if upAllE to l = 0 then l.map fun r => upR r to else []

/-- What UpAll said. -/
def UpAllSaid (to : Int) (l : List RA) (w : World) (e : Ending) (w' : World) : Prop :=
  ∃ (A' : Option Addr) (c' : Nat) (os : List RA), e = .returned (.tuple #[.slice A' os.length c', .int .i64 (upAllAt to (l.map (·.1))), .int .i64 (upAllE to (l.map (·.1)))]) ∧ os.map (·.1) = upAllR to (l.map (·.1)) ∧
    w'.ownsRow w.heap.size 35 12 (.slice A' os.length c') os.length (recCells os) ∧ RUs w' os ∧ Below w.heap.size w w'

set_option maxHeartbeats 2000000 in
set_option maxRecDepth 100000 in
theorem upAll_calls (to : Int) (l : List RA) (A : Option Addr) (c : Nat) (hl : l.length * 120 ≤ 140737488351232) (hfit : ∀ y ∈ l, y.1.Fits) (w : World) (hT : Tabs w) (ht : Tab w 2 waysL) (hr : RR w A l) :
    Calls Tryd.prog 32 #[.int .i64 to, .slice A l.length c] w (UpAllSaid to l w) := by
  have HB := Below.refl w.heap.size w
  have HT := Lib.hid hT
  have Ht := Lib.hid ht
  have Hr := Lib.hid hr
  have Hfit := Lib.hid hfit
  clear hT ht hr hfit
  cases hk : known to
  · have hk' : (decide (1 ≤ to) && decide (to ≤ 3)) = false := hk
    have e1 : upAllAt to (l.map (·.1)) = 0 := by unfold upAllAt; rw [hk]; rfl
    have e2 : upAllE to (l.map (·.1)) = 3 := by unfold upAllE; rw [hk]; rfl
    have e3 : upAllR to (l.map (·.1)) = [] := by unfold upAllR; rw [e2]; rfl
    unfold UpAllSaid
    rw [e1, e2, e3]
    clear e1 e2 e3 hk
    go_enter Tryd.func32, Tryd.ntmps32
    go_wp2_with (first
      | (go_at_call 86; (with_reducible refine (known_calls _ _).mono ?_); rintro e w1 ⟨rfl, rfl⟩; rw [hk']))
    go_ret3
    exact ⟨none, 0, [], rfl, rfl, own_nil _ _ _ _, RUs.nil, HB⟩
  · have hk' : (decide (1 ≤ to) && decide (to ≤ 3)) = true := hk
    have e1 : upAllAt to (l.map (·.1)) = upsAt to (l.map (·.1)) 0 := by unfold upAllAt; rw [hk]; rfl
    have e2 : upAllE to (l.map (·.1)) = upsE to (l.map (·.1)) := by unfold upAllE; rw [hk]; rfl
    have E1 := Lib.hid e1
    have E2 := Lib.hid e2
    clear e1 e2 hk
    go_enter Tryd.func32, Tryd.ntmps32
    go_wp2_with (first
      | (go_at_call 86; (with_reducible refine (known_calls _ _).mono ?_); rintro e w1 ⟨rfl, rfl⟩; rw [hk']))
    go_loopg [7, 17] l.length (fun n v7 v17 wr => ∃ (k : Nat) (A' : Option Addr) (c' : Nat) (os : List RA), n + k = l.length ∧ v17 = .int .i64 k ∧ v7 = .slice A' os.length c' ∧
      Aside (os.length = k ∧ upsAt to (l.map (·.1)) 0 = upsAt to ((l.map (·.1)).drop k) k ∧ upsE to (l.map (·.1)) = upsE to ((l.map (·.1)).drop k) ∧ os.map (·.1) = ((l.map (·.1)).take k).map (fun r => upR r to) ∧
        wr.ownsRow w.heap.size 35 12 (.slice A' os.length c') os.length (recCells os) ∧ RUs wr os ∧ Below w.heap.size w wr))
    case atStart => exact ⟨0, none, 0, [], by omega, rfl, rfl, ⟨rfl, rfl, rfl, by simp, own_nil _ _ _ _, RUs.nil, HB⟩⟩
    case round =>
      clear HB
      obtain ⟨k, A2, c2, os, hn, rfl, rfl, HA⟩ := hrel
      obtain ⟨hok, hat, he, hos, o1, So, HB⟩ := HA.out
      clear HA
      have Hat := Lib.hid hat
      have Hok := Lib.hid hok
      have He := Lib.hid he
      have Hos := Lib.hid hos
      clear hat he hos hok
      by_cases hlt : k < l.length
      · obtain ⟨x, hx⟩ : ∃ x, l[k]? = some x := ⟨l[k], List.getElem?_eq_getElem hlt⟩
        obtain ⟨r, Ar, cr⟩ := x
        have hxm : (l.map (·.1))[k]? = some r := by rw [List.getElem?_map, hx]; rfl
        have hxf : r.Fits := Hfit.out _ (List.mem_of_getElem? hx)
        have hxd : RB w Ar r.Data := Hr.out.data _ (List.mem_of_getElem? hx)
        obtain ⟨ad, had, hadlt, _⟩ := Hr.out.get hx
        have hld := fun (W : World) (hb : Below w.heap.size w W) => (Hr.out.next hb).load hx had
        have Hld := Lib.hid hld
        subst had
        clear hx hld
        by_cases hu : upE r to = 0
        · have cu := fun (W : World) => up_calls r Ar cr to hxf W
          generalize hgu : upR r to = u at cu
          have t0 := int_bne_false hu
          have n1 : upsAt to (l.map (·.1)) 0 = upsAt to ((l.map (·.1)).drop (k + 1)) (k + 1) := by rw [Hat.out, upsAt_drop hxm, if_pos hu]
          have n2 : upsE to (l.map (·.1)) = upsE to ((l.map (·.1)).drop (k + 1)) := by rw [He.out, upsE_drop hxm, if_pos hu]
          have n3 : ((l.map (·.1)).take (k + 1)).map (fun r => upR r to) = ((l.map (·.1)).take k).map (fun r => upR r to) ++ [u] := by rw [List.take_add_one, hxm]; simp [hgu]
          have N1 := Lib.hid n1
          have N2 := Lib.hid n2
          have N3 := Lib.hid n3
          have Cu := Lib.hid cu
          clear n1 n2 n3 hu hxm Hat He cu hgu
          go_wp2_with (first
            | ((with_reducible refine gate_dst (N := 21) rfl ?_); refine ev_load_at rfl rfl rfl (Hld.out _ HB) Tryd.underlying35 rfl rec_size ?_)
            | ((with_reducible refine gate_dst (N := 9) rfl ?_); refine ev_alloc rfl rfl _ rec_zero ?_; intro g3 W1 hg3 hsz hbn; have hgr := grown_of_below hbn; have no1g3 := own_new o1 hsz; replace hg3 : Blk W1 g3 _ (Rec.zero.cells none 0) := hg3; have zg3 : w.heap.size ≤ g3 := (by have := HB.size; omega); replace So := So.kept hgr (by simp); replace o1 := o1.kept hgr (by cases Value.ownBlock _ <;> simp); replace HB := HB.grown hgr (by have := HB.size; omega) (by simp); have hcg3 := hg3.cell; have hfg3 := hg3.frozen; clear hsz hbn hgr)
            | ((with_reducible refine gate_store (p := 9) rfl ?_); refine ev_store_row (cs := r.cells Ar cr) rfl rfl rfl hg3 rfl rfl rec_size rfl (cells_one _ _ _) ?_; intro W2 hgn hgr; replace So := So.kept hgr (RUs.ne_blk So hg3 (by decide)); replace o1 := o1.kept hgr (.inr no1g3); replace HB := HB.grown hgr (by have := HB.size; omega) (by intro k e; injection e with e; omega); replace hg3 := hgn; replace hcg3 := hg3.cell; replace hfg3 := hg3.frozen; clear hgn hgr)
            | ((with_reducible refine gate_dst (N := 23) rfl ?_); refine wpList_load_row rfl _ _ rfl g3 rfl _ _ (0, 0) _ hg3 Tryd.underlying35 rfl rec_size ?_)
            | (go_at_call 34; (with_reducible refine (Cu.out _ (HT.out.next HB) (Ht.out.next HB) (hxd.next HB)).mono ?_); rintro e W3 ⟨A5, c5, rfl, hd5, hb⟩; have hgr := grown_of_below hb; replace So := So.kept hgr (by simp); replace hg3 := hg3.grown hgr (by simp); replace o1 := o1.kept hgr (by cases Value.ownBlock _ <;> simp); replace HB := HB.grown hgr (by have := HB.size; omega) (by simp); replace hcg3 := hg3.cell; replace hfg3 := hg3.frozen; clear hb hgr)
            | ((with_reducible refine gate_dst (N := 10) rfl ?_); refine ev_alloc rfl rfl _ rec_zero ?_; intro g4 W4 hg4 hsz hbn; have hgr := grown_of_below hbn; have ng3g4 : g3 ≠ g4 := (by have := hg3.lt; omega); have no1g4 := own_new o1 hsz; replace hg4 : Blk W4 g4 _ (Rec.zero.cells none 0) := hg4; have zg4 : w.heap.size ≤ g4 := (by have := HB.size; omega); replace hd5 := hd5.kept hgr (by simp); replace So := So.kept hgr (by simp); replace hg3 := hg3.grown hgr (by simp); replace o1 := o1.kept hgr (by cases Value.ownBlock _ <;> simp); replace HB := HB.grown hgr (by have := HB.size; omega) (by simp); have hcg4 := hg4.cell; have hfg4 := hg4.frozen; replace hcg3 := hg3.cell; replace hfg3 := hg3.frozen; clear hsz hbn hgr)
            | ((with_reducible refine gate_store (p := 10) rfl ?_); refine ev_store_row (cs := u.cells A5 c5) rfl rfl rfl hg4 rfl rfl rec_size rfl (cells_one _ _ _) ?_; intro W5 hgn hgr; replace hd5 := hd5.kept hgr (RU.ne_blk hd5 hg4 (by decide)); replace So := So.kept hgr (RUs.ne_blk So hg4 (by decide)); replace hg3 := hg3.grown hgr (by intro e; injection e with e; omega); replace o1 := o1.kept hgr (.inr no1g4); replace HB := HB.grown hgr (by have := HB.size; omega) (by intro k e; injection e with e; omega); replace hg4 := hgn; replace hcg3 := hg3.cell; replace hfg3 := hg3.frozen; replace hcg4 := hg4.cell; replace hfg4 := hg4.frozen; clear hgn hgr)
            | ((with_reducible refine gate_dst (N := 33) rfl ?_); refine wpList_load_row rfl _ _ rfl g4 rfl _ _ (0, 0) _ hg4 Tryd.underlying35 rfl rec_size ?_)
            | ((with_reducible refine gate_dst (N := 34) rfl ?_); refine ev_lit rfl rfl (u.cells A5 c5) 35 1 (by first | (go_simp; done) | (go_simp; rfl)) ?_; intro g5 W6 hg5 hsz hbn; have hgr := grown_of_below hbn; have ng3g5 : g3 ≠ g5 := (by have := hg3.lt; omega); have ng4g5 : g4 ≠ g5 := (by have := hg4.lt; omega); have zg5 : w.heap.size ≤ g5 := (by have := HB.size; omega); replace hd5 := hd5.kept hgr (by simp); replace So := So.kept hgr (by simp); replace hg3 := hg3.grown hgr (by simp); replace hg4 := hg4.grown hgr (by simp); replace o1 := o1.kept hgr (by cases Value.ownBlock _ <;> simp); replace HB := HB.grown hgr (by have := HB.size; omega) (by simp); have hcg5 := hg5.cell; have hfg5 := hg5.frozen; replace hcg3 := hg3.cell; replace hfg3 := hg3.frozen; replace hcg4 := hg4.cell; replace hfg4 := hg4.frozen; clear hsz hbn hgr)
            | ((with_reducible refine gate_dst (N := 35) rfl ?_); refine ev_append rfl rfl Tryd.underlying29 info_rec rfl (by omega) rfl o1 rfl (hg5.reads (size := 12) (n := 1) rfl) (recCells_1 (l := [(u, A5, c5)])) (by have := Hok.out; omega) (by omega) (by have := HB.size; omega) ?_; intro A6 c6 W7 on hgr hat; replace hd5 := hd5.kept hgr (RU.ne_own hd5 o1 (by decide)); replace So := So.kept hgr (RUs.ne_own So o1 (by decide)); replace hg3 := hg3.grown hgr (fun e => no1g3 e.symm); replace hg4 := hg4.grown hgr (fun e => no1g4 e.symm); replace HB := HB.grown hgr (by have := HB.size; omega) (own_base o1); replace o1 := on; replace hcg3 := hg3.cell; replace hfg3 := hg3.frozen; replace hcg4 := hg4.cell; replace hfg4 := hg4.frozen; clear on hgr hat))
          go_roundg (gk - 1)
          case measure => omega
          case rel => exact ⟨k + 1, A6, c6, os ++ [(u, A5, c5)], by omega, by go_num, by simp, ⟨by simp [Hok.out], N1.out, N2.out, by rw [List.map_append, Hos.out, N3.out]; rfl, by rw [recCells_append, recCells_one]; simpa [RA.cs] using o1, So.snoc hd5, HB⟩⟩
        · have t0 := int_bne_true hu
          have n1 : upAllAt to (l.map (·.1)) = k := by rw [E1.out, Hat.out, upsAt_drop hxm, if_neg hu]
          have n2 : upAllE to (l.map (·.1)) = upE r to := by rw [E2.out, He.out, upsE_drop hxm, if_neg hu]
          have n3 : upAllR to (l.map (·.1)) = [] := by unfold upAllR; rw [n2, if_neg hu]
          have N1 := Lib.hid n1
          have N2 := Lib.hid n2
          have N3 := Lib.hid n3
          clear n1 n2 n3 hu hxm Hat He
          go_wp2_with (first
            | ((with_reducible refine gate_dst (N := 21) rfl ?_); refine ev_load_at rfl rfl rfl (Hld.out _ HB) Tryd.underlying35 rfl rec_size ?_)
            | ((with_reducible refine gate_dst (N := 9) rfl ?_); refine ev_alloc rfl rfl _ rec_zero ?_; intro g3 W1 hg3 hsz hbn; have hgr := grown_of_below hbn; replace hg3 : Blk W1 g3 _ (Rec.zero.cells none 0) := hg3; have zg3 : w.heap.size ≤ g3 := (by have := HB.size; omega); replace HB := HB.grown hgr (by have := HB.size; omega) (by simp); have hcg3 := hg3.cell; have hfg3 := hg3.frozen; clear hsz hbn hgr)
            | ((with_reducible refine gate_store (p := 9) rfl ?_); refine ev_store_row (cs := r.cells Ar cr) rfl rfl rfl hg3 rfl rfl rec_size rfl (cells_one _ _ _) ?_; intro W2 hgn hgr; replace HB := HB.grown hgr (by have := HB.size; omega) (by intro k e; injection e with e; omega); replace hg3 := hgn; replace hcg3 := hg3.cell; replace hfg3 := hg3.frozen; clear hgn hgr)
            | ((with_reducible refine gate_dst (N := 23) rfl ?_); refine wpList_load_row rfl _ _ rfl g3 rfl _ _ (0, 0) _ hg3 Tryd.underlying35 rfl rec_size ?_)
            | (go_at_call 34; (with_reducible refine (up_calls r Ar cr to hxf _ (HT.out.next HB) (Ht.out.next HB) (hxd.next HB)).mono ?_); rintro e W3 ⟨A5, c5, rfl, hd5, hb⟩; have hgr := grown_of_below hb; replace hg3 := hg3.grown hgr (by simp); replace HB := HB.grown hgr (by have := HB.size; omega) (by simp); replace hcg3 := hg3.cell; replace hfg3 := hg3.frozen; clear hb hgr)
            | ((with_reducible refine gate_dst (N := 10) rfl ?_); refine ev_alloc rfl rfl _ rec_zero ?_; intro g4 W4 hg4 hsz hbn; have hgr := grown_of_below hbn; have ng3g4 : g3 ≠ g4 := (by have := hg3.lt; omega); replace hg4 : Blk W4 g4 _ (Rec.zero.cells none 0) := hg4; have zg4 : w.heap.size ≤ g4 := (by have := HB.size; omega); replace hg3 := hg3.grown hgr (by simp); replace HB := HB.grown hgr (by have := HB.size; omega) (by simp); have hcg4 := hg4.cell; have hfg4 := hg4.frozen; replace hcg3 := hg3.cell; replace hfg3 := hg3.frozen; clear hsz hbn hgr)
            | ((with_reducible refine gate_store (p := 10) rfl ?_); refine ev_store_row (cs := (upR r to).cells A5 c5) rfl rfl rfl hg4 rfl rfl rec_size rfl (cells_one _ _ _) ?_; intro W5 hgn hgr; replace hg3 := hg3.grown hgr (by intro e; injection e with e; omega); replace HB := HB.grown hgr (by have := HB.size; omega) (by intro k e; injection e with e; omega); replace hg4 := hgn; replace hcg3 := hg3.cell; replace hfg3 := hg3.frozen; replace hcg4 := hg4.cell; replace hfg4 := hg4.frozen; clear hgn hgr))
          go_ret3
          exact ⟨none, 0, [], by rw [N1.out, N2.out]; rfl, N3.out.symm, own_nil _ _ _ _, RUs.nil, HB⟩
      · obtain rfl : k = l.length := by omega
        have n1 : upAllAt to (l.map (·.1)) = 0 := by rw [E1.out, Hat.out, List.drop_eq_nil_of_le (by simp)]; rfl
        have n2 : upAllE to (l.map (·.1)) = 0 := by rw [E2.out, He.out, List.drop_eq_nil_of_le (by simp)]; rfl
        have n3 : upAllR to (l.map (·.1)) = os.map (·.1) := by unfold upAllR; rw [n2, if_pos rfl, Hos.out, List.take_of_length_le (by simp)]
        go_wp2
        go_ret3
        exact ⟨A2, c2, os, by rw [n1, n2]; rfl, n3.symm, o1, So, HB⟩
end Go.Proofs.YtjhiohjpkdjkoaaDoor
