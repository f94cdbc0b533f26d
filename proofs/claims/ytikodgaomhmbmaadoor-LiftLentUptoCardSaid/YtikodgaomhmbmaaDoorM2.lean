/-
  What the laws of layer 4 ask of the reference and of copies, walked.
-/
import Derived.Test.YtikodgaomhmbmaaDoorM1
import Derived.Deep.MidRow
import Derived.Test.YtikodgaomhmbmaaDoorFU
set_option linter.unusedVariables false
set_option linter.unusedSimpArgs false
namespace Go.Proofs.YtikodgaomhmbmaaDoor
open Go.RowKit
attribute [local go_sem] Rec.size_ Rec.g0 Rec.g1 Rec.g2 Rec.g3 Rec.g4 Rec.g5 Rec.g6 Rec.g7 Rec.g8 Rec.g9 Rec.g10 Rec.g11 Rec.fold Rec.lit_fold

theorem same_any (a : Rec) (A B : Option Addr) (c d : Nat) (w : World) (ha : RB w A a.Data) (hb : RB w B a.Data) (hl : a.Data.length ≤ 140737488351232) :
    Calls Tryd.prog 42 #[.agg (a.cells A c), .agg (a.cells B d)] w fun e w' => e = .returned (.bool true) ∧ Below w.heap.size w w' := by
  have := refSame_calls a a A B c d w ha hb hl hl
  rwa [Rec.same_self] at this
set_option maxHeartbeats 2000000 in
set_option maxRecDepth 100000 in
/-- Two lists of the same records. -/
theorem sameAll_calls (l m : List RA) (A B : Option Addr) (c d : Nat) (hlm : l.map (·.1) = m.map (·.1)) (hl : l.length ≤ 140737488351232) (hfit : ∀ y ∈ l, y.1.Fits) (w : World) (ha : RR w A l) (hb : RR w B m) :
    Calls Tryd.prog 32 #[.slice A l.length c, .slice B m.length d] w fun e w' => e = .returned (.bool true) ∧ Below w.heap.size w w' := by
  have HB := Below.refl w.heap.size w
  have hlen : m.length = l.length := by have := congrArg List.length hlm; simpa using this.symm
  rw [hlen]
  have t1 : ((l.length : Int) != (l.length : Int)) = false := by simp
  have Hlm := Lib.hid hlm
  have Ha := Lib.hid ha
  have Hb := Lib.hid hb
  have Hfit := Lib.hid hfit
  have Hlen := Lib.hid hlen
  clear hlm ha hb hfit hlen
  go_enter Tryd.func32, Tryd.ntmps32
  go_wp2
  go_loopg [5] l.length (fun n v5 wr => ∃ k : Nat, n + k = l.length ∧ v5 = .int .i64 k ∧ Aside (Below w.heap.size w wr))
  case atStart => exact ⟨0, by omega, rfl, HB⟩
  case round =>
    clear HB
    obtain ⟨k, hn, rfl, HA⟩ := hrel
    have HB := HA.out
    clear HA
    by_cases hlt : k < l.length
    · have s1 : decide ((k : Int) < (l.length : Int)) = true := by rw [decide_eq_true_eq]; omega
      have s1' : decide (k < l.length) = true := by rw [decide_eq_true_eq]; exact hlt
      obtain ⟨x, hx⟩ : ∃ x, l[k]? = some x := ⟨l[k], List.getElem?_eq_getElem hlt⟩
      obtain ⟨y, hy⟩ : ∃ y, m[k]? = some y := ⟨_, List.getElem?_eq_getElem (by rw [Hlen.out]; exact hlt)⟩
      have hxy : x.1 = y.1 := by
        have h := congrArg (fun z => z[k]?) Hlm.out
        simp only [List.getElem?_map, hx, hy, Option.map_some, Option.some.injEq] at h
        exact h
      obtain ⟨r, Ar, cr⟩ := x
      obtain ⟨r', Br, dr⟩ := y
      simp only at hxy
      subst hxy
      have hxf : r.Fits := Hfit.out _ (List.mem_of_getElem? hx)
      have hxd : RB w Ar r.Data := Ha.out.data _ (List.mem_of_getElem? hx)
      have hyd : RB w Br r.Data := Hb.out.data _ (List.mem_of_getElem? hy)
      have hrl := hxf.data
      obtain ⟨ad, had, _, _⟩ := Ha.out.get hx
      obtain ⟨bd, hbd, _, _⟩ := Hb.out.get hy
      have hld := fun (W : World) (hb : Below w.heap.size w W) => (Ha.out.next hb).load hx had
      have hmd := fun (W : World) (hb' : Below w.heap.size w W) => (Hb.out.next hb').load hy hbd
      have Hld := Lib.hid hld
      have Hmd := Lib.hid hmd
      subst had
      subst hbd
      clear hx hy hld hmd hxf
      go_wp2
      refine held_start (fun w' => Below w.heap.size w w') (by kernel_rfl) (fun wd hbd => ?_)
      replace HB := below_go HB hbd
      refine take_at (i := 0) (v := .slice (some ad) l.length c) 18 rfl rfl (by kernel_rfl) (by kernel_rfl) (by kernel_rfl) (fun _ _ _ h => h) (.inl ⟨rfl, fun w h => by simp [go_sem]⟩) HB ?_
      simp only [Act.put, List.getElem_toArray, List.getElem_cons_succ, List.getElem_cons_zero, List.setIfInBounds_toArray, List.set_cons_succ, List.set_cons_zero]
      refine take_at (i := 1) (v := .int .i64 k) 19 rfl rfl (by kernel_rfl) (by kernel_rfl) (by kernel_rfl) (fun _ _ _ h => h) (.inl ⟨rfl, fun w h => by simp [go_sem]⟩) HB ?_
      simp only [Act.put, List.getElem_toArray, List.getElem_cons_succ, List.getElem_cons_zero, List.setIfInBounds_toArray, List.set_cons_succ, List.set_cons_zero]
      refine take_at (i := 2) (v := .pointer (some (ad.add (k * 12)))) 20 rfl rfl (by kernel_rfl) (by kernel_rfl) (by kernel_rfl) (fun _ _ _ h => h) (.inl ⟨rfl, fun w h => by simp [go_sem, hlt]⟩) HB ?_
      simp only [Act.put, List.getElem_toArray, List.getElem_cons_succ, List.getElem_cons_zero, List.setIfInBounds_toArray, List.set_cons_succ, List.set_cons_zero]
      refine take_at (i := 3) (v := .agg (r.cells Ar cr)) 21 rfl rfl (by kernel_rfl) (by kernel_rfl) (by kernel_rfl) (fun _ _ _ h => h) (yields_at rfl rfl rfl (fun w h => Hld.out w h) Tryd.underlying27 rfl rec_size) HB ?_
      simp only [Act.put, List.getElem_toArray, List.getElem_cons_succ, List.getElem_cons_zero, List.setIfInBounds_toArray, List.set_cons_succ, List.set_cons_zero]
      refine take_at (i := 4) (v := .slice (some bd) l.length d) 22 rfl rfl (by kernel_rfl) (by kernel_rfl) (by kernel_rfl) (fun _ _ _ h => h) (.inl ⟨rfl, fun w h => by simp [go_sem]⟩) HB ?_
      simp only [Act.put, List.getElem_toArray, List.getElem_cons_succ, List.getElem_cons_zero, List.setIfInBounds_toArray, List.set_cons_succ, List.set_cons_zero]
      refine take_at (i := 5) (v := .int .i64 k) 23 rfl rfl (by kernel_rfl) (by kernel_rfl) (by kernel_rfl) (fun _ _ _ h => h) (.inl ⟨rfl, fun w h => by simp [go_sem]⟩) HB ?_
      simp only [Act.put, List.getElem_toArray, List.getElem_cons_succ, List.getElem_cons_zero, List.setIfInBounds_toArray, List.set_cons_succ, List.set_cons_zero]
      refine take_at (i := 6) (v := .pointer (some (bd.add (k * 12)))) 24 rfl rfl (by kernel_rfl) (by kernel_rfl) (by kernel_rfl) (fun _ _ _ h => h) (.inl ⟨rfl, fun w h => by simp [go_sem, hlt]⟩) HB ?_
      simp only [Act.put, List.getElem_toArray, List.getElem_cons_succ, List.getElem_cons_zero, List.setIfInBounds_toArray, List.set_cons_succ, List.set_cons_zero]
      refine take_at (i := 7) (v := .agg (r.cells Br dr)) 25 rfl rfl (by kernel_rfl) (by kernel_rfl) (by kernel_rfl) (fun _ _ _ h => h) (yields_at rfl rfl rfl (fun w h => Hmd.out w h) Tryd.underlying27 rfl rec_size) HB ?_
      simp only [Act.put, List.getElem_toArray, List.getElem_cons_succ, List.getElem_cons_zero, List.setIfInBounds_toArray, List.set_cons_succ, List.set_cons_zero]
      refine held_one (i := 8) (by kernel_rfl) rfl ?_
      (refine ev_call2 rfl rfl ⟨_, _, Tryd.func42, by kernel_rfl, rfl⟩ rfl rfl ?_; refine Calls.mono (same_any r Ar Br cr dr _ (hxd.next HB) (hyd.next HB) hrl) ?_; rintro e W1 ⟨rfl, hb⟩; refine ⟨_, rfl, ?_⟩; have hgr := grown_of_below hb; replace HB := HB.grown hgr (by have := HB.size; omega) (by simp); clear hb hgr)
      refine ⟨HB, ?_⟩
      try simp only [Act.put, List.getElem_toArray, List.getElem_cons_succ, List.getElem_cons_zero, List.setIfInBounds_toArray, List.set_cons_succ, List.set_cons_zero]
      refine held_one (i := 9) (by kernel_rfl) rfl ?_
      refine ev_run rfl (w1 := W1) (v := .bool true) (by simp [go_sem]) ?_
      refine ⟨HB, ?_⟩
      simp only [Act.put, List.setIfInBounds_toArray, List.set_cons_succ, List.set_cons_zero]
      refine wpAnyH_done (by kernel_rfl) ?_ _
      go_wp2
      go_roundg (gk - 1)
      case measure => omega
      case rel => exact ⟨k + 1, by omega, by go_num, HB⟩
    · have s1 : decide ((k : Int) < (l.length : Int)) = false := by rw [decide_eq_false_iff_not]; omega
      have s1' : decide (k < l.length) = false := by rw [decide_eq_false_iff_not]; exact hlt
      go_wp2
      go_ret
      exact ⟨rfl, HB⟩

/-- What copies hands out. -/
def CopySaid (l : List RA) (w : World) (e : Ending) (w' : World) : Prop :=
  ∃ (A' : Option Addr) (c' : Nat) (os : List RA), e = .returned (.slice A' os.length c') ∧ os.map (·.1) = l.map (·.1) ∧ w'.ownsRow w.heap.size 27 12 (.slice A' os.length c') os.length (recCells os) ∧ RUs w' os ∧ Below w.heap.size w w'
set_option maxHeartbeats 2000000 in
set_option maxRecDepth 100000 in
theorem copies_calls (l : List RA) (A : Option Addr) (c : Nat) (hl : l.length * 120 ≤ 140737488351232) (hfit : ∀ y ∈ l, y.1.Fits) (w : World) (hr : RR w A l) :
    Calls Tryd.prog 30 #[.slice A l.length c] w (CopySaid l w) := by
  have HB := Below.refl w.heap.size w
  have Hr := Lib.hid hr
  have Hfit := Lib.hid hfit
  clear hr hfit
  unfold CopySaid
  go_enter Tryd.func30, Tryd.ntmps30
  go_wp2
  go_loopg [3, 4] l.length (fun n v3 v4 wr => ∃ (k : Nat) (A' : Option Addr) (c' : Nat) (os : List RA), n + k = l.length ∧ v4 = .int .i64 k ∧ v3 = .slice A' os.length c' ∧
    Aside (os.length = k ∧ os.map (·.1) = (l.map (·.1)).take k ∧ wr.ownsRow w.heap.size 27 12 (.slice A' os.length c') os.length (recCells os) ∧ RUs wr os ∧ Below w.heap.size w wr))
  case atStart => exact ⟨0, none, 0, [], by omega, rfl, rfl, ⟨rfl, rfl, own_nil _ _ _ _, RUs.nil, HB⟩⟩
  case round =>
    clear HB
    obtain ⟨k, A2, c2, os, hn, rfl, rfl, HA⟩ := hrel
    obtain ⟨hok, hos, o1, So, HB⟩ := HA.out
    clear HA
    have Hok := Lib.hid hok
    have Hos := Lib.hid hos
    clear hos hok
    by_cases hlt : k < l.length
    · have s1 : decide ((k : Int) < (l.length : Int)) = true := by rw [decide_eq_true_eq]; omega
      have s1' : decide (k < l.length) = true := by rw [decide_eq_true_eq]; exact hlt
      obtain ⟨x, hx⟩ : ∃ x, l[k]? = some x := ⟨l[k], List.getElem?_eq_getElem hlt⟩
      obtain ⟨r, Ar, cr⟩ := x
      have hxm : (l.map (·.1))[k]? = some r := by rw [List.getElem?_map, hx]; rfl
      have hxf : r.Fits := Hfit.out _ (List.mem_of_getElem? hx)
      have hrl := hxf.data
      have hxd : RB w Ar r.Data := Hr.out.data _ (List.mem_of_getElem? hx)
      obtain ⟨ad, had, hadlt, _⟩ := Hr.out.get hx
      have hld := fun (W : World) (hb : Below w.heap.size w W) => (Hr.out.next hb).load hx had
      have Hld := Lib.hid hld
      subst had
      have n3 : (l.map (·.1)).take (k + 1) = (l.map (·.1)).take k ++ [r] := by rw [List.take_add_one, hxm]; rfl
      have N3 := Lib.hid n3
      clear hx hld n3 hxm
      go_wp2_with (first
        | ((with_reducible refine gate_dst (N := 15) rfl ?_); refine ev_load_at rfl rfl rfl (Hld.out _ HB) Tryd.underlying27 rfl rec_size ?_)
        | (go_at_call 46; (with_reducible refine (refClone_calls r Ar cr _ (hxd.next HB) hrl).mono ?_); rintro e W1 ⟨A5, c5, rfl, o5, hb⟩; have hgr := grown_of_below hb; replace So := So.kept hgr (by simp); replace o1 := o1.kept hgr (by cases Value.ownBlock _ <;> simp); replace HB := HB.grown hgr (by have := HB.size; omega) (by simp); clear hb hgr; have hd5 := RU.of_own o5)
        | ((with_reducible refine gate_dst (N := 17) rfl ?_); refine ev_lit rfl rfl (r.cells A5 c5) 27 1 (by first | (go_simp; done) | (go_simp; rfl)) ?_; intro g5 W2 hg5 hsz hbn; have hgr := grown_of_below hbn; have zg5 : w.heap.size ≤ g5 := (by have := HB.size; omega); replace hd5 := hd5.kept hgr (by simp); replace So := So.kept hgr (by simp); replace o1 := o1.kept hgr (by cases Value.ownBlock _ <;> simp); replace HB := HB.grown hgr (by have := HB.size; omega) (by simp); have hcg5 := hg5.cell; have hfg5 := hg5.frozen; clear hsz hbn hgr)
        | ((with_reducible refine gate_dst (N := 18) rfl ?_); refine ev_append rfl rfl Tryd.underlying22 info_rec rfl (by omega) rfl o1 rfl (hg5.reads (size := 12) (n := 1) rfl) (recCells_1 (l := [(r, A5, c5)])) (by have := Hok.out; omega) (by omega) (by have := HB.size; omega) ?_; intro A6 c6 W3 on hgr hat; replace hd5 := hd5.kept hgr (RU.ne_own hd5 o1 (by decide)); replace So := So.kept hgr (RUs.ne_own So o1 (by decide)); replace HB := HB.grown hgr (by have := HB.size; omega) (own_base o1); replace o1 := on; clear on hgr hat))
      go_roundg (gk - 1)
      case measure => omega
      case rel => exact ⟨k + 1, A6, c6, os ++ [(r, A5, c5)], by omega, by go_num, by simp, ⟨by simp [Hok.out], by rw [List.map_append, Hos.out, N3.out]; rfl, by rw [recCells_append, recCells_one]; simpa [RA.cs] using o1, So.snoc hd5, HB⟩⟩
    · have s1 : decide ((k : Int) < (l.length : Int)) = false := by rw [decide_eq_false_iff_not]; omega
      have s1' : decide (k < l.length) = false := by rw [decide_eq_false_iff_not]; exact hlt
      obtain rfl : k = l.length := by omega
      have n3 : os.map (·.1) = l.map (·.1) := by rw [Hos.out, List.take_of_length_le (by simp)]
      go_wp2
      go_ret
      exact ⟨A2, c2, os, rfl, n3, o1, So, HB⟩

/-- The marks behind the data. -/
def roomL : Nat → List UInt8
  | 0 => []
  | n + 1 => roomL n ++ [UInt8.ofNat (201 + n % 5)]
theorem roomL_len : ∀ n, (roomL n).length = n
  | 0 => rfl
  | n + 1 => by simp [roomL, roomL_len n]
def roomy (l : List UInt8) : List UInt8 := l ++ roomL 75
theorem roomy_len (l : List UInt8) : (roomy l).length = l.length + 75 := by simp [roomy, roomL_len]
end Go.Proofs.YtikodgaomhmbmaaDoor
namespace Go.Proofs.YtikodgaomhmbmaaDoor
open Go.RowKit
attribute [local go_sem] Rec.size_ Rec.g0 Rec.g1 Rec.g2 Rec.g3 Rec.g4 Rec.g5 Rec.g6 Rec.g7 Rec.g8 Rec.g9 Rec.g10 Rec.g11 Rec.fold Rec.lit_fold

theorem RU.prefix {w : World} {A : Option Addr} {l m : List UInt8} (h : RU w A (l ++ m)) : RU w A l := by
  refine ⟨⟨by simp [u8s], fun hn => ?_⟩, fun hl => h.ty (by simp [hl])⟩
  obtain ⟨ad, e, hb, hc⟩ := h.rb.2 (by rw [List.length_append]; omega)
  refine ⟨ad, e, hb, fun j u hu => hc j u ?_⟩
  have hj : j < (u8s l).length := (List.getElem?_eq_some_iff.1 hu).1
  rw [u8s_append, List.getElem?_append_left hj]
  exact hu

theorem own_cap8 {w : World} {base c n : Nat} {A : Option Addr} {e : TypeId} {xs : List Value} (h : w.ownsRow base e 1 (.slice A n c) n xs) (d : List UInt8) : n ≤ c := by
  rcases h.2 with ⟨hv, h0⟩ | ⟨g', cap, cur, hv, _, _, h1, h2, _⟩
  · omega
  · injection hv with _ _ hc
    omega
/-- What laid hands out. -/
def LaidSaid (l : List RA) (w : World) (e : Ending) (w' : World) : Prop :=
  ∃ (A1 : Option Addr) (c1 : Nat) (os : List RA) (A2 : Option Addr) (c2 : Nat) (ws : List BA), e = .returned (.tuple #[.slice A1 os.length c1, .slice A2 ws.length c2]) ∧ os.map (·.1) = l.map (·.1) ∧ ws.map (·.1) = l.map (fun x => roomy x.1.Data) ∧
    w'.ownsRow w.heap.size 27 12 (.slice A1 os.length c1) os.length (recCells os) ∧ RUs w' os ∧ w'.ownsRow w.heap.size 25 1 (.slice A2 ws.length c2) ws.length (baCells ws) ∧ RZs w' ws ∧ Below w.heap.size w w'
end Go.Proofs.YtikodgaomhmbmaaDoor
namespace Go.Proofs.YtikodgaomhmbmaaDoor
open Go.RowKit
attribute [local go_sem] Rec.size_ Rec.g0 Rec.g1 Rec.g2 Rec.g3 Rec.g4 Rec.g5 Rec.g6 Rec.g7 Rec.g8 Rec.g9 Rec.g10 Rec.g11 Rec.fold Rec.lit_fold Rec.same_self

theorem refAlike_same (l : List UInt8) (A B : Option Addr) (c d : Nat) (w : World) (ha : RB w A l) (hb : RB w B l) (hl : l.length ≤ 140737488351232) :
    Calls Tryd.prog 57 #[.slice A l.length c, .slice B l.length d] w fun e w' => e = .returned (.bool true) ∧ Below w.heap.size w w' := by
  have := refAlike_calls l l A B c d w ha hb hl hl
  simpa using this
/-! ### Op -/
/-- The sixteen cells of a step. -/
def opC (k : Int) (r : Rec) (A : Option Addr) (c : Nat) (to fr : Int) (B : Option Addr) (n d : Nat) : Array Value :=
  #[.int .i64 k, .int .i64 r.V, .int .i64 r.Kind, .int .i64 r.Saga, .int .i64 r.Step, .int .i64 r.Try, .int .i64 r.At, .int .i64 r.Last, .int .i64 r.Code, .int .i64 r.Count, .int .i64 r.Pivot, .string r.Name, .slice A r.Data.length c, .int .i64 to, .int .i64 fr, .slice B n d]
section
variable (k : Int) (r : Rec) (A : Option Addr) (c : Nat) (to fr : Int) (B : Option Addr) (n d : Nat)
theorem opC_size : (opC k r A c to fr B n d).size = 16 := rfl
theorem opC_0 : (opC k r A c to fr B n d)[0]? = some (.int .i64 k) := rfl
theorem opC_13 : (opC k r A c to fr B n d)[13]? = some (.int .i64 to) := rfl
theorem opC_14 : (opC k r A c to fr B n d)[14]? = some (.int .i64 fr) := rfl
theorem opC_15 : (opC k r A c to fr B n d)[15]? = some (.slice B n d) := rfl
theorem opC_one : (opC k r A c to fr B n d).all (·.oneCell') = true := by simp [opC, Value.oneCell']
theorem opC_rec : ∀ j v, (r.cells A c)[j]? = some v → (opC k r A c to fr B n d)[1 + j]? = some v := by
  intro j v h
  have hj : j < 12 := (Array.getElem?_eq_some_iff.1 h).1
  obtain rfl | rfl | rfl | rfl | rfl | rfl | rfl | rfl | rfl | rfl | rfl | rfl : j = 0 ∨ j = 1 ∨ j = 2 ∨ j = 3 ∨ j = 4 ∨ j = 5 ∨ j = 6 ∨ j = 7 ∨ j = 8 ∨ j = 9 ∨ j = 10 ∨ j = 11 := by omega
  all_goals exact h
end
theorem op_load {w : World} {g : Nat} {t : TypeId} {k : Int} {r : Rec} {A : Option Addr} {c : Nat} {to fr : Int} {B : Option Addr} {n d : Nat} (h : Blk w g t (opC k r A c to fr B n d)) : ∀ j v, (r.cells A c)[j]? = some v → w.cell? ((⟨g, 1, none⟩ : Addr).add j) = some v := by
  intro j v hv
  rw [show (⟨g, 1, none⟩ : Addr).add j = ⟨g, 1 + j, none⟩ by unfold Addr.add; split <;> simp_all, h.cell]
  exact opC_rec k r A c to fr B n d j v hv
attribute [local go_sem] opC_size opC_0 opC_13 opC_14 opC_15

end Go.Proofs.YtikodgaomhmbmaaDoor
namespace Go.Proofs.YtikodgaomhmbmaaDoor
open Go.RowKit

theorem map_len {l m : List RA} (h : m.map (·.1) = l.map (·.1)) : m.length = l.length := by have := congrArg List.length h; simpa using this
theorem map_fits {l m : List RA} (h : m.map (·.1) = l.map (·.1)) (hf : ∀ y ∈ l, y.1.Fits) : ∀ y ∈ m, y.1.Fits := fun y hy => by
  have : y.1 ∈ l.map (·.1) := h ▸ List.mem_map.2 ⟨y, hy, rfl⟩
  obtain ⟨z, hz, e⟩ := List.mem_map.1 this
  rw [← e]
  exact hf z hz
theorem map_name {l m : List RA} {n : Nat} (h : m.map (·.1) = l.map (·.1)) (hf : ∀ y ∈ l, y.1.Name.size ≤ n) : ∀ y ∈ m, y.1.Name.size ≤ n := fun y hy => by
  have : y.1 ∈ l.map (·.1) := h ▸ List.mem_map.2 ⟨y, hy, rfl⟩
  obtain ⟨z, hz, e⟩ := List.mem_map.1 this
  rw [← e]
  exact hf z hz
theorem map_data {l m : List RA} {n : Nat} (h : m.map (·.1) = l.map (·.1)) (hf : ∀ y ∈ l, y.1.Data.length ≤ n) : ∀ y ∈ m, y.1.Data.length ≤ n := fun y hy => by
  have : y.1 ∈ l.map (·.1) := h ▸ List.mem_map.2 ⟨y, hy, rfl⟩
  obtain ⟨z, hz, e⟩ := List.mem_map.1 this
  rw [← e]
  exact hf z hz
theorem map_room {l m : List RA} (h : m.map (·.1) = l.map (·.1)) : l.map (fun x => roomy x.1.Data) = m.map (fun x => roomy x.1.Data) := by
  have := congrArg (List.map fun r : Rec => roomy r.Data) h
  simpa [List.map_map, Function.comp_def] using this.symm
theorem RR.of_own {w : World} {base n c : Nat} {A : Option Addr} {e : TypeId} {os : List RA} (h : w.ownsRow base e 12 (.slice A n c) n (recCells os)) (hn : os.length = n) (hS : RUs w os) : RR w A os :=
  ⟨by subst hn; exact Reads.of_own h, fun x hx => (hS x hx).rb⟩
theorem RR.prefix {w : World} {A : Option Addr} {os ps : List RA} (h : RR w A (os ++ ps)) : RR w A os := by
  refine ⟨⟨by rw [recCells_length], fun hn => ?_⟩, fun x hx => h.data x (List.mem_append_left _ hx)⟩
  obtain ⟨ad, e, hb, hc⟩ := h.row.2 (by rw [List.length_append]; omega)
  refine ⟨ad, e, hb, fun j u hu => hc j u ?_⟩
  have hj : j < (recCells os).length := (List.getElem?_eq_some_iff.1 hu).1
  rw [recCells_append, List.getElem?_append_left hj]
  exact hu
theorem mem_one {α : Type} {x a : α} (h : x ∈ [a]) : x = a := by simpa using h
theorem RR.one {w : World} {g : Nat} {t : TypeId} {r : Rec} {A : Option Addr} {c : Nat} (hg : Blk w g t (r.cells A c)) (hd : RB w A r.Data) : RR w (some ⟨g, 0, none⟩) [(r, A, c)] :=
  ⟨by rw [recCells_one]; exact hg.reads (size := 12) (n := 1) rfl, fun x hx => by rw [mem_one hx]; exact hd⟩
theorem one_of_map {os : List RA} {r : Rec} (h : os.map (·.1) = [r]) : ∃ A c, os = [(r, A, c)] := by
  cases os with
  | nil => cases h
  | cons x t =>
    cases t with
    | nil =>
      obtain ⟨r', A, c⟩ := x
      have : r' = r := by simpa using h
      exact ⟨A, c, by rw [this]⟩
    | cons y t => simp at h
theorem one_of_mapB {os : List BA} {b : List UInt8} (h : os.map (·.1) = [b]) : ∃ A c, os = [(b, A, c)] := by
  cases os with
  | nil => cases h
  | cons x t =>
    cases t with
    | nil =>
      obtain ⟨b', A, c⟩ := x
      have : b' = b := by simpa using h
      exact ⟨A, c, by rw [this]⟩
    | cons y t => simp at h

theorem copies_n (l : List RA) (n : Nat) (hn : l.length = n) (A : Option Addr) (c : Nat) (hl : n * 120 ≤ 140737488351232) (hfit : ∀ y ∈ l, y.1.Fits) (w : World) (hr : RR w A l) :
    Calls Tryd.prog 30 #[.slice A n c] w fun e w' => ∃ (A' : Option Addr) (c' : Nat) (os : List RA), e = .returned (.slice A' n c') ∧ Aside (os.map (·.1) = l.map (·.1)) ∧ w'.ownsRow w.heap.size 27 12 (.slice A' n c') n (recCells os) ∧ RUs w' os ∧ Below w.heap.size w w' := by
  subst hn
  refine (copies_calls l A c hl hfit w hr).mono fun e w' ⟨A', c', os, he, hos, ho, hS, hb⟩ => ?_
  rw [map_len hos] at he ho
  exact ⟨A', c', os, he, hos, ho, hS, hb⟩
/-- The cells of a row of records. -/
theorem own_load {w : World} {base n g c : Nat} {e : TypeId} {os : List RA} {k : Nat} {x : RA} (h : w.ownsRow base e 12 (.slice (some ⟨g, 0, none⟩) n c) n (recCells os)) (hx : os[k]? = some x) : ∀ j v, (x.1.cells x.2.1 x.2.2)[j]? = some v → w.cell? (((⟨g, 0, none⟩ : Addr).add (k * 12)).add j) = some v := by
  intro j v hv
  have hj : j < 12 := (Array.getElem?_eq_some_iff.1 hv).1
  rw [add_of_add]
  exact h.cells (g := g) rfl _ _ (by rw [recCells_get hx j hj]; exact hv)
/-- The record behind the list. -/
def padR : Rec := { Rec.zero with V := -201 }
def pads (j : Nat) : List RA := List.replicate j (padR, none, 0)
theorem pads_succ (j : Nat) : pads (j + 1) = pads j ++ [(padR, none, 0)] := by unfold pads; exact List.replicate_succ'
theorem pads_RU (w : World) (j : Nat) : RUs w (pads j) := fun x hx => by
  obtain ⟨_, rfl⟩ := List.mem_replicate.1 hx
  exact RU.nil
theorem pads_at {os : List RA} {n i : Nat} (hn : os.length = n) (hi : i < 20) : (os ++ pads 20)[n + i]? = some (padR, none, 0) := by
  rw [List.getElem?_append_right (by omega), hn, Nat.add_sub_cancel_left]
  unfold pads
  rw [List.getElem?_replicate, if_pos hi]
theorem pad_same (A : Option Addr) (c : Nat) (w : World) :
    Calls Tryd.prog 42 #[.agg (padR.cells A c), .agg #[.int .i64 (-201), .int .i64 0, .int .i64 0, .int .i64 0, .int .i64 0, .int .i64 0, .int .i64 0, .int .i64 0, .int .i64 0, .int .i64 0, .string ⟨#[]⟩, .slice none 0 0]] w fun e w' => e = .returned (.bool true) ∧ Below w.heap.size w w' :=
  same_any padR A none c 0 w RB.nil RB.nil (by decide)
/-- What lies apart from a row lies apart from what it grows to. -/
theorem own_apart_app {w : World} {b s n : Nat} {e : TypeId} {v v7 v7' : Value} {xs : List Value} (h : w.ownsRow b e s v n xs) (d : v.ownBlock = none ∨ v.ownBlock ≠ v7.ownBlock) (hat : v7'.ownBlock = v7.ownBlock ∨ v7'.ownBlock = some w.heap.size) : v.ownBlock = none ∨ v.ownBlock ≠ v7'.ownBlock := by
  rcases hat with e | e
  · rw [e]; exact d
  · rw [e]
    cases hv : v.ownBlock with
    | none => exact .inl rfl
    | some k =>
      refine .inr fun h' => ?_
      have := own_lt h k hv
      injection h' with h'
      omega

theorem own_blk_far {w : World} {b s n g : Nat} {e : TypeId} {v : Value} {xs : List Value} (h : w.ownsRow b e s v n xs) (hg : g < b) : v.ownBlock ≠ some g := fun he => by
  have := own_base h g he
  omega
theorem own_blk_app {w : World} {v7 v7' : Value} {g : Nat} (d : v7.ownBlock ≠ some g) (hg : g < w.heap.size) (hat : v7'.ownBlock = v7.ownBlock ∨ v7'.ownBlock = some w.heap.size) : v7'.ownBlock ≠ some g := by
  rcases hat with e | e
  · rw [e]; exact d
  · rw [e]
    intro h
    injection h with h
    omega

/-! ### UpAll and Steps, both at once -/
theorem upAllR_fits {to : Int} {l : List Rec} (h : ∀ r ∈ l, r.Fits) : (∀ r ∈ upAllR to l, r.Fits) ∧ (upAllR to l).length ≤ l.length := by
  unfold upAllR
  split
  · refine ⟨(fun r hr => ?_), by simp⟩
    obtain ⟨x, hx, rfl⟩ := List.mem_map.1 hr
    exact (h x hx).up to
  · exact ⟨(fun r hr => by cases hr), by simp⟩
theorem mapped {l : List RA} (h : ∀ y ∈ l, y.1.Fits) : ∀ r ∈ l.map (fun x : RA => x.1), r.Fits := fun r hr => by
  obtain ⟨x, hx, rfl⟩ := List.mem_map.1 hr
  exact h x hx
theorem upAll_pair (to : Int) (l : List RA) (n : Nat) (hn : l.length = n) (A : Option Addr) (c : Nat) (hl : n * 120 ≤ 140737488351232) (hfit : ∀ y ∈ l, y.1.Fits) (hnm : ∀ y ∈ l, y.1.Name.size ≤ 1099511627776) :
    ∃ (ua ue : Int) (X : List Rec), (∀ r ∈ X, r.Fits) ∧ X.length ≤ n ∧
      (∀ w, Tabs w → Tab w 1 waysL → RR w A l → Calls Tryd.prog 23 #[.int .i64 to, .slice A n c] w fun e w' => ∃ (A' : Option Addr) (c' : Nat) (os : List RA), e = .returned (.tuple #[.slice A' os.length c', .int .i64 ua, .int .i64 ue]) ∧ Aside (os.map (·.1) = X) ∧
        w'.ownsRow w.heap.size 27 12 (.slice A' os.length c') os.length (recCells os) ∧ RUs w' os ∧ Below w.heap.size w w') ∧
      (∀ w, RTabs w → RR w A l → Calls Tryd.prog 22 #[.int .i64 to, .slice A n c] w fun e w' => ∃ (A' : Option Addr) (c' : Nat) (os : List RA), e = .returned (.tuple #[.slice A' os.length c', .int .i64 ua, .int .i64 ue]) ∧ Aside (os.map (·.1) = X) ∧
        w'.ownsRow w.heap.size 27 12 (.slice A' os.length c') os.length (recCells os) ∧ RUs w' os ∧ Below w.heap.size w w') := by
  subst hn
  obtain ⟨f1, f2⟩ := upAllR_fits (to := to) (l := l.map (·.1)) (mapped hfit)
  refine ⟨upAllAt to (l.map (·.1)), upAllE to (l.map (·.1)), upAllR to (l.map (·.1)), f1, by simpa using f2, fun w hT ht hr => ?_, fun w hR hr => ?_⟩
  · exact (upAll_calls to l A c hl hfit w hT ht hr).mono fun e w' ⟨A', c', os, he, hos, ho, hS, hb⟩ => ⟨A', c', os, he, hos, ho, hS, hb⟩
  · exact (refUpAll_calls to l A c hl hfit hnm w hR hr).mono fun e w' ⟨A', c', os, he, hos, ho, hS, hb⟩ => ⟨A', c', os, he, hos, ho, hS, hb⟩
theorem fits_of_map {os : List RA} {X : List Rec} (h : os.map (·.1) = X) (hX : ∀ r ∈ X, r.Fits) : ∀ y ∈ os, y.1.Fits := fun y hy => hX _ (h ▸ List.mem_map.2 ⟨y, hy, rfl⟩)
theorem len_of_map {os : List RA} {X : List Rec} (h : os.map (·.1) = X) : os.length = X.length := by have := congrArg List.length h; simpa using this
theorem sameAll_n (l m : List RA) (n : Nat) (hn : l.length = n) (A B : Option Addr) (c d : Nat) (hlm : l.map (·.1) = m.map (·.1)) (hl : n ≤ 140737488351232) (hfit : ∀ y ∈ l, y.1.Fits) (w : World) (ha : RR w A l) (hb : RR w B m) :
    Calls Tryd.prog 32 #[.slice A n c, .slice B n d] w fun e w' => e = .returned (.bool true) ∧ Below w.heap.size w w' := by
  subst hn
  have := sameAll_calls l m A B c d hlm hl hfit w ha hb
  rwa [map_len hlm.symm] at this
end Go.Proofs.YtikodgaomhmbmaaDoor
namespace Go.Proofs.YtikodgaomhmbmaaDoor
open Go.RowKit
attribute [local go_sem] Rec.size_ Rec.g0 Rec.g1 Rec.g2 Rec.g3 Rec.g4 Rec.g5 Rec.g6 Rec.g7 Rec.g8 Rec.g9 Rec.g10 Rec.g11 Rec.fold Rec.lit_fold opC_size opC_0 opC_13 opC_14 opC_15

theorem own_capS {w : World} {base c n s : Nat} {A : Option Addr} {e : TypeId} {xs : List Value} (h : w.ownsRow base e s (.slice A n c) n xs) : n ≤ c := by
  rcases h.2 with ⟨hv, h0⟩ | ⟨g', cap, cur, hv, _, _, h1, h2, _⟩
  · omega
  · injection hv with _ _ hc
    omega
theorem rr7 {w : World} {base n c g : Nat} {e : TypeId} {os : List RA} (h : w.ownsRow base e 12 (.slice (some ⟨g, 0, none⟩) (n + 20) c) (n + 20) (recCells (os ++ pads 20))) (hn : os.length = n) (hS : RUs w os) : RR w (some ⟨g, 0, none⟩) os :=
  RR.prefix (RR.of_own h (by rw [List.length_append, hn]; simp [pads]) (fun x hx => by
    rcases List.mem_append.1 hx with hx | hx
    · exact hS x hx
    · exact pads_RU w 20 x hx))
theorem own_load2 {w : World} {base n g c : Nat} {e : TypeId} {os : List RA} {k : Nat} {x : RA} (h : w.ownsRow base e 12 (.slice (some ⟨g, 0, none⟩) n c) n (recCells os)) (hx : os[k]? = some x) : ∀ j v, (x.1.cells x.2.1 x.2.2)[j]? = some v → w.cell? ((⟨g, k * 12, none⟩ : Addr).add j) = some v := by
  intro j v hv
  have := own_load h hx j v hv
  simp only [Addr.add_mid, Nat.zero_add] at this ⊢
  exact this
theorem words_self (l : List ByteArray) (A B : Option Addr) (c d : Nat) (w : World) (ha : RS w A l) (hb : RS w B l) (hl : l.length ≤ 140737488351232) :
    Calls Tryd.prog 24 #[.slice A l.length c, .slice B l.length d] w fun e w' => e = .returned (.bool true) ∧ Below w.heap.size w w' := by
  have := sameWords_calls l l A B c d w ha hb hl hl
  simpa using this
/-- What a step asks of its record and its records. -/
structure Plays (r : Rec) (l : List RA) (n : Nat) : Prop where
  fits : r.Fits
  name : r.Name.size ≤ 1099511627776
  data : r.Data.length ≤ 1099511627776
  len : l.length = n
  small : n ≤ 1099511627776
  lfits : ∀ y ∈ l, y.1.Fits
  lname : ∀ y ∈ l, y.1.Name.size ≤ 1099511627776
  ldata : ∀ y ∈ l, y.1.Data.length ≤ 1099511627776

/-- Which call a step is. -/
def KindIs (j : Nat) (k : Int) : Prop := if j = 0 then k ≠ 1 ∧ k ≠ 2 ∧ k ≠ 3 ∧ k ≠ 4 ∧ k ≠ 5 else k = (j : Int)
end Go.Proofs.YtikodgaomhmbmaaDoor
namespace Go.Proofs.YtikodgaomhmbmaaDoor
open Go.ChangeShapes Go.WideShapes Go.ChangeAt Go.RowKit Go.Deep

/-- A step: its call, its record, its versions, its records. -/
structure Step where
  k : Int
  r : Rec
  A : Option Addr
  c : Nat
  to : Int
  fr : Int
  B : Option Addr
  l : List RA
  d : Nat
def Step.cells (s : Step) : Array Value := opC s.k s.r s.A s.c s.to s.fr s.B s.l.length s.d
def opCells (l : List Step) : List Value := l.flatMap fun s => s.cells.toList
theorem opCells_length (l : List Step) : (opCells l).length = l.length * 16 := by
  unfold opCells
  induction l with
  | nil => rfl
  | cons x l ih => simp only [List.flatMap_cons, List.length_append, ih, List.length_cons]; simp [Step.cells, opC]; omega
theorem opCells_at : ∀ {l : List Step} {k : Nat} {x : Step}, l[k]? = some x → ((opCells l).drop (k * 16)).take 16 = x.cells.toList
  | [], k, x, h => by simp at h
  | y :: l, 0, x, h => by
    simp at h
    subst h
    simp [opCells, Step.cells, opC]
  | y :: l, k + 1, x, h => by
    have := opCells_at (l := l) (k := k) (x := x) (by simpa using h)
    rw [← this]
    have e : opCells (y :: l) = y.cells.toList ++ opCells l := by simp [opCells]
    have hy : y.cells.toList.length = 16 := by simp [Step.cells, opC]
    rw [e, List.drop_append, hy, List.drop_eq_nil_of_le (by omega), show (k + 1) * 16 - 16 = k * 16 by omega]
    rfl
theorem opCells_get {l : List Step} {k : Nat} {x : Step} (h : l[k]? = some x) (i : Nat) (hi : i < 16) : (opCells l)[k * 16 + i]? = x.cells[i]? := by
  have := opCells_at h
  rw [show x.cells[i]? = x.cells.toList[i]? by simp, ← this, List.getElem?_take, if_pos hi, List.getElem?_drop]
/-- The steps lie at A. -/
structure OR (w : World) (A : Option Addr) (l : List Step) : Prop where
  row : Reads w w.heap.size 16 A l.length (opCells l)
  data : ∀ x ∈ l, RB w x.A x.r.Data
  recs : ∀ x ∈ l, RR w x.B x.l
theorem OR.next {w w' : World} {A : Option Addr} {l : List Step} (h : OR w A l) (hb : Below w.heap.size w w') : OR w' A l := ⟨Reads.next h.row hb, fun x hx => (h.data x hx).next hb, fun x hx => (h.recs x hx).next hb⟩
theorem OR.load {w : World} {A : Option Addr} {l : List Step} (h : OR w A l) {k : Nat} {x : Step} (hx : l[k]? = some x) {ad : Addr} (he : A = some ad) : ∀ j v, x.cells[j]? = some v → w.cell? ((ad.add (k * 16)).add j) = some v := by
  have hk : k < l.length := (List.getElem?_eq_some_iff.1 hx).1
  obtain ⟨ad', e, _, hc⟩ := h.row.2 (by omega)
  rw [he] at e
  injection e with e
  subst e
  intro j v hv
  have hj : j < 16 := by have := (Array.getElem?_eq_some_iff.1 hv).1; simpa [Step.cells, opC] using this
  rw [add_of_add]
  exact hc _ _ (by rw [opCells_get hx j hj]; exact hv)

section
variable {H : Type} {enc : TypeId × Value → H} {w : World} {base : Nat} {spare : Nat → Bool} {held : Bool}
theorem bulk_pos (d : DataW H) : 1 ≤ Rows.uptoBulk d := by
  cases d with
  | lit v => cases v <;> simp [Rows.uptoBulk]
  | _ => simp [Rows.uptoBulk]
theorem bulk_len : ∀ ds : List (DataW H), ds.length ≤ Rows.uptoBulkAll ds
  | [] => by simp
  | d :: ds => by
    have := bulk_len ds
    have := bulk_pos d
    simp only [Rows.uptoBulkAll, List.length_cons]
    omega
/-- A record is not larger than its bulk. -/
theorem rec_bulk {r : Rec} {dd : DataW H} {N : Nat} (hd : (dd = .nil ∧ r.Data = []) ∨ ∃ sp, dd = .slice (u8d r.Data) sp) (h : Rows.uptoBulk (recd r dd) ≤ N) : r.Name.size ≤ N ∧ r.Data.length ≤ N := by
  have h3 : r.Name.data.toList.length ≤ Rows.uptoBulk (recd r dd) := by
    simp only [recd, Rows.uptoBulk, Rows.uptoBulkAll]
    omega
  have h4 : Rows.uptoBulk dd ≤ Rows.uptoBulk (recd r dd) := by
    simp only [recd, Rows.uptoBulk, Rows.uptoBulkAll]
    omega
  have e : r.Name.size = r.Name.data.toList.length := rfl
  refine ⟨by omega, ?_⟩
  rcases hd with ⟨_, h0⟩ | ⟨sp, rfl⟩
  · rw [h0]
    simp
  · have := bulk_len (u8d (H := H) r.Data)
    rw [u8d_length] at this
    simp only [Rows.uptoBulk] at h4
    omega
/-- A []api.Record, by its bulk. -/
theorem trod_recs_bulk {fuel : Nat} {cs : List Value} {x : DataW H × List MemPlace} (h : DataW.trod enc Tryd.prog w base spare held fuel 22 cs = some x) :
    ∃ (A : Option Addr) (l : List RA) (c : Nat), cs = [.slice A l.length c] ∧ RR w A l ∧ l.length ≤ c ∧ ∀ N, Rows.uptoBulk x.1 ≤ N → l.length ≤ N ∧ ∀ y ∈ l, y.1.Name.size ≤ N ∧ y.1.Data.length ≤ N := by
  rcases open_slice Tryd.underlying22 h with ⟨rfl, rfl⟩ | ⟨a, len, cap, m, n, D, Pl, rfl, hb, hl, hm, hmm, rfl, hx⟩
  · exact ⟨none, [], 0, rfl, RR.nil, by simp, fun N _ => ⟨by simp, fun y hy => by cases hy⟩⟩
  · have hlm : len ≤ m := by rw [hmm]; split <;> omega
    have hall : ∀ i, i < len → ∃ y : RA, w.cells? base (a.add (i * 12)) 12 = some y.cs ∧ RB w y.2.1 y.1.Data ∧ ∃ dd, D i = recd y.1 dd ∧ ((dd = .nil ∧ y.1.Data = []) ∨ ∃ sp, dd = .slice (u8d y.1.Data) sp) := by
      intro i hi
      obtain ⟨cs', h1, h2⟩ := hx i (by omega)
      rw [cells_rec] at h1
      obtain ⟨r, A, c, dd, rfl, hrb, _, _, he, hd⟩ := trod_rec h2
      exact ⟨(r, A, c), h1, hrb, dd, he, hd⟩
    haveI : Inhabited RA := ⟨(Rec.zero, none, 0)⟩
    obtain ⟨f, hf⟩ := choose_lt hall
    refine ⟨some a, (List.range len).map f, cap, by simp, ⟨⟨by rw [recCells_length], fun hn => ⟨a, rfl, ?_, ?_⟩⟩, ?_⟩, by simpa using hl, ?_⟩
    · simp at hn
      obtain ⟨h1, _⟩ := hf 0 hn
      obtain ⟨_, _, h3⟩ := World.cells?_some h1
      have := World.block_lt_of_cell? w _ ((h3 0 (by omega)).trans (by rw [RA.cs_get]; exact Rec.g0 _ _ _))
      rw [block_of_add, block_of_add] at this
      exact this
    · intro j u hu
      have hj : j < len * 12 := by
        have := (List.getElem?_eq_some_iff.1 hu).1
        rw [recCells_length] at this
        simpa using this
      have hk : j / 12 < len := by omega
      have hg : ((List.range len).map f)[j / 12]? = some (f (j / 12)) := by rw [List.getElem?_map, List.getElem?_range hk]; rfl
      have hr := recCells_get hg (j % 12) (by omega)
      rw [show j / 12 * 12 + j % 12 = j by omega, hu] at hr
      obtain ⟨h1, _⟩ := hf _ hk
      obtain ⟨_, _, h3⟩ := World.cells?_some h1
      have := h3 (j % 12) (by omega)
      rw [add_of_add, show j / 12 * 12 + j % 12 = j by omega, RA.cs_get, ← hr] at this
      exact this
    · intro x hx
      obtain ⟨i, hi, rfl⟩ := List.mem_map.1 hx
      exact (hf i (by simpa using hi)).2.1
    · intro N hN
      have hD : Rows.uptoBulkAll ((List.range len).map D) ≤ N := by
        simp only [Rows.uptoBulk] at hN
        omega
      constructor
      · have := bulk_len ((List.range len).map D)
        simp at this ⊢
        omega
      · intro y hy
        obtain ⟨i, hi, rfl⟩ := List.mem_map.1 hy
        have hi' : i < len := by simpa using hi
        obtain ⟨_, _, dd, he, hd⟩ := hf i hi'
        refine rec_bulk hd ?_
        rw [← he]
        have := bulk_mem (ds := (List.range len).map D) (d := D i) (List.mem_map.2 ⟨i, by simpa using hi', rfl⟩)
        omega
theorem list16 {α : Type} {l : List α} (h : l.length = 16) : ∃ a b c d e f g i j k m n o p q r, l = [a, b, c, d, e, f, g, i, j, k, m, n, o, p, q, r] := by
  match l, h with
  | [a, b, c, d, e, f, g, i, j, k, m, n, o, p, q, r], _ => exact ⟨a, b, c, d, e, f, g, i, j, k, m, n, o, p, q, r, rfl⟩
theorem list5 {α : Type} {l : List α} (h : l.length = 5) : ∃ a b c d e, l = [a, b, c, d, e] := by
  match l, h with
  | [a, b, c, d, e], _ => exact ⟨a, b, c, d, e, rfl⟩
theorem plays_small {r : Rec} {l : List RA} (h1 : r.Name.size ≤ 1048576 ∧ r.Data.length ≤ 1048576) (h2 : l.length ≤ 1048576 ∧ ∀ y ∈ l, y.1.Name.size ≤ 1048576 ∧ y.1.Data.length ≤ 1048576) : Plays r l l.length :=
  ⟨⟨by omega, by omega⟩, by omega, by omega, rfl, by omega, fun y hy => ⟨by have := h2.2 y hy; omega, by have := h2.2 y hy; omega⟩, fun y hy => by have := h2.2 y hy; omega, fun y hy => by have := h2.2 y hy; omega⟩
end
end Go.Proofs.YtikodgaomhmbmaaDoor
