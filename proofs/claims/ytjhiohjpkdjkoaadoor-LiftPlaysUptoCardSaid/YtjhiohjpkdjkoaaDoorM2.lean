/-
  The helpers of annalslaw4.plays, walked.
-/
import Derived.Test.YtjhiohjpkdjkoaaDoorM1
set_option linter.unusedVariables false
set_option linter.unusedSimpArgs false
namespace Go.Proofs.YtjhiohjpkdjkoaaDoor
open Go.RowKit
attribute [local go_sem] Rec.size_ Rec.g0 Rec.g1 Rec.g2 Rec.g3 Rec.g4 Rec.g5 Rec.g6 Rec.g7 Rec.g8 Rec.g9 Rec.g10 Rec.g11 Rec.fold Rec.lit_fold

theorem same_any (a : Rec) (A B : Option Addr) (c d : Nat) (w : World) (ha : RB w A a.Data) (hb : RB w B a.Data) (hl : a.Data.length ≤ 140737488351232) :
    Calls Tryd.prog 35 #[.agg (a.cells A c), .agg (a.cells B d)] w fun e w' => e = .returned (.bool true) ∧ Below w.heap.size w w' := by
  have := refSame_calls a a A B c d w ha hb hl hl
  rwa [Rec.same_self] at this
set_option maxHeartbeats 2000000 in
set_option maxRecDepth 100000 in
/-- Two lists of the same records. -/
theorem sameAll_calls (l m : List RA) (A B : Option Addr) (c d : Nat) (hlm : l.map (·.1) = m.map (·.1)) (hl : l.length ≤ 140737488351232) (hfit : ∀ y ∈ l, y.1.Fits) (w : World) (ha : RR w A l) (hb : RR w B m) :
    Calls Tryd.prog 63 #[.slice A l.length c, .slice B m.length d] w fun e w' => e = .returned (.bool true) ∧ Below w.heap.size w w' := by
  have HB := Below.refl w.heap.size w
  have hlen : m.length = l.length := by have := congrArg List.length hlm; simpa using this.symm
  rw [hlen]
  have t1 : ((l.length : Int) != (l.length : Int)) = false := by simp
  have Hlm := Lib.hid hlm
  have Ha := Lib.hid ha
  have Hb := Lib.hid hb
  have Hfit := Lib.hid hfit
  have Hlen := Lib.hid hlen
  clear hlm ha hb hfit hlen
  go_enter Tryd.func63, Tryd.ntmps63
  go_wp2
  go_loopg [5] l.length (fun n v5 wr => ∃ k : Nat, n + k = l.length ∧ v5 = .int .i64 k ∧ Aside (Below w.heap.size w wr))
  case atStart => exact ⟨0, by omega, rfl, HB⟩
  case round =>
    clear HB
    obtain ⟨k, hn, rfl, HA⟩ := hrel
    have HB := HA.out
    clear HA
    by_cases hlt : k < l.length
    · have s1 : decide ((k : Int) < (l.length : Int)) = true := by rw [decide_eq_true_eq]; omega
      have s1' : decide (k < l.length) = true := by rw [decide_eq_true_eq]; exact hlt
      obtain ⟨x, hx⟩ : ∃ x, l[k]? = some x := ⟨l[k], List.getElem?_eq_getElem hlt⟩
      obtain ⟨y, hy⟩ : ∃ y, m[k]? = some y := ⟨_, List.getElem?_eq_getElem (by rw [Hlen.out]; exact hlt)⟩
      have hxy : x.1 = y.1 := by
        have h := congrArg (fun z => z[k]?) Hlm.out
        simp only [List.getElem?_map, hx, hy, Option.map_some, Option.some.injEq] at h
        exact h
      obtain ⟨r, Ar, cr⟩ := x
      obtain ⟨r', Br, dr⟩ := y
      simp only at hxy
      subst hxy
      have hxf : r.Fits := Hfit.out _ (List.mem_of_getElem? hx)
      have hxd : RB w Ar r.Data := Ha.out.data _ (List.mem_of_getElem? hx)
      have hyd : RB w Br r.Data := Hb.out.data _ (List.mem_of_getElem? hy)
      have hrl := hxf.data
      obtain ⟨ad, had, _, _⟩ := Ha.out.get hx
      obtain ⟨bd, hbd, _, _⟩ := Hb.out.get hy
      have hld := fun (W : World) (hb : Below w.heap.size w W) => (Ha.out.next hb).load hx had
      have hmd := fun (W : World) (hb' : Below w.heap.size w W) => (Hb.out.next hb').load hy hbd
      have Hld := Lib.hid hld
      have Hmd := Lib.hid hmd
      subst had
      subst hbd
      clear hx hy hld hmd hxf
      go_wp2
      refine held_start (fun w' => Below w.heap.size w w') (by kernel_rfl) (fun wd hbd => ?_)
      replace HB := below_go HB hbd
      refine take_at (i := 0) (v := .slice (some ad) l.length c) 18 rfl rfl (by kernel_rfl) (by kernel_rfl) (by kernel_rfl) (fun _ _ _ h => h) (.inl ⟨rfl, fun w h => by simp [go_sem]⟩) HB ?_
      simp only [Act.put, List.setIfInBounds_toArray, List.set_cons_succ, List.set_cons_zero]
      refine take_at (i := 1) (v := .int .i64 k) 19 rfl rfl (by kernel_rfl) (by kernel_rfl) (by kernel_rfl) (fun _ _ _ h => h) (.inl ⟨rfl, fun w h => by simp [go_sem]⟩) HB ?_
      simp only [Act.put, List.setIfInBounds_toArray, List.set_cons_succ, List.set_cons_zero]
      refine take_at (i := 2) (v := .pointer (some (ad.add (k * 12)))) 20 rfl rfl (by kernel_rfl) (by kernel_rfl) (by kernel_rfl) (fun _ _ _ h => h) (.inl ⟨rfl, fun w h => by simp [go_sem, hlt]⟩) HB ?_
      simp only [Act.put, List.setIfInBounds_toArray, List.set_cons_succ, List.set_cons_zero]
      refine take_at (i := 3) (v := .agg (r.cells Ar cr)) 21 rfl rfl (by kernel_rfl) (by kernel_rfl) (by kernel_rfl) (fun _ _ _ h => h) (yields_at rfl rfl rfl (fun w h => Hld.out w h) Tryd.underlying35 rfl rec_size) HB ?_
      simp only [Act.put, List.setIfInBounds_toArray, List.set_cons_succ, List.set_cons_zero]
      refine take_at (i := 4) (v := .slice (some bd) l.length d) 22 rfl rfl (by kernel_rfl) (by kernel_rfl) (by kernel_rfl) (fun _ _ _ h => h) (.inl ⟨rfl, fun w h => by simp [go_sem]⟩) HB ?_
      simp only [Act.put, List.setIfInBounds_toArray, List.set_cons_succ, List.set_cons_zero]
      refine take_at (i := 5) (v := .int .i64 k) 23 rfl rfl (by kernel_rfl) (by kernel_rfl) (by kernel_rfl) (fun _ _ _ h => h) (.inl ⟨rfl, fun w h => by simp [go_sem]⟩) HB ?_
      simp only [Act.put, List.setIfInBounds_toArray, List.set_cons_succ, List.set_cons_zero]
      refine take_at (i := 6) (v := .pointer (some (bd.add (k * 12)))) 24 rfl rfl (by kernel_rfl) (by kernel_rfl) (by kernel_rfl) (fun _ _ _ h => h) (.inl ⟨rfl, fun w h => by simp [go_sem, hlt]⟩) HB ?_
      simp only [Act.put, List.setIfInBounds_toArray, List.set_cons_succ, List.set_cons_zero]
      refine take_at (i := 7) (v := .agg (r.cells Br dr)) 25 rfl rfl (by kernel_rfl) (by kernel_rfl) (by kernel_rfl) (fun _ _ _ h => h) (yields_at rfl rfl rfl (fun w h => Hmd.out w h) Tryd.underlying35 rfl rec_size) HB ?_
      simp only [Act.put, List.setIfInBounds_toArray, List.set_cons_succ, List.set_cons_zero]
      refine held_one (i := 8) (by kernel_rfl) rfl ?_
      (refine ev_call2 rfl rfl ⟨_, _, Tryd.func35, by kernel_rfl, rfl⟩ rfl rfl ?_; refine Calls.mono (same_any r Ar Br cr dr _ (hxd.next HB) (hyd.next HB) hrl) ?_; rintro e W1 ⟨rfl, hb⟩; refine ⟨_, rfl, ?_⟩; have hgr := grown_of_below hb; replace HB := HB.grown hgr (by have := HB.size; omega) (by simp); clear hb hgr)
      refine ⟨HB, ?_⟩
      try simp only [Act.put, List.setIfInBounds_toArray, List.set_cons_succ, List.set_cons_zero]
      refine held_one (i := 9) (by kernel_rfl) rfl ?_
      refine ev_run rfl (w1 := W1) (v := .bool true) (by simp [go_sem]) ?_
      refine ⟨HB, ?_⟩
      simp only [Act.put, List.setIfInBounds_toArray, List.set_cons_succ, List.set_cons_zero]
      refine wpAnyH_done (by kernel_rfl) ?_ _
      go_wp2
      go_roundg (gk - 1)
      case measure => omega
      case rel => exact ⟨k + 1, by omega, by go_num, HB⟩
    · have s1 : decide ((k : Int) < (l.length : Int)) = false := by rw [decide_eq_false_iff_not]; omega
      have s1' : decide (k < l.length) = false := by rw [decide_eq_false_iff_not]; exact hlt
      go_wp2
      go_ret
      exact ⟨rfl, HB⟩

/-- What copies hands out. -/
def CopySaid (l : List RA) (w : World) (e : Ending) (w' : World) : Prop :=
  ∃ (A' : Option Addr) (c' : Nat) (os : List RA), e = .returned (.slice A' os.length c') ∧ os.map (·.1) = l.map (·.1) ∧ w'.ownsRow w.heap.size 35 12 (.slice A' os.length c') os.length (recCells os) ∧ RUs w' os ∧ Below w.heap.size w w'
set_option maxHeartbeats 2000000 in
set_option maxRecDepth 100000 in
theorem copies_calls (l : List RA) (A : Option Addr) (c : Nat) (hl : l.length * 120 ≤ 140737488351232) (hfit : ∀ y ∈ l, y.1.Fits) (w : World) (hr : RR w A l) :
    Calls Tryd.prog 61 #[.slice A l.length c] w (CopySaid l w) := by
  have HB := Below.refl w.heap.size w
  have Hr := Lib.hid hr
  have Hfit := Lib.hid hfit
  clear hr hfit
  unfold CopySaid
  go_enter Tryd.func61, Tryd.ntmps61
  go_wp2
  go_loopg [3, 4] l.length (fun n v3 v4 wr => ∃ (k : Nat) (A' : Option Addr) (c' : Nat) (os : List RA), n + k = l.length ∧ v4 = .int .i64 k ∧ v3 = .slice A' os.length c' ∧
    Aside (os.length = k ∧ os.map (·.1) = (l.map (·.1)).take k ∧ wr.ownsRow w.heap.size 35 12 (.slice A' os.length c') os.length (recCells os) ∧ RUs wr os ∧ Below w.heap.size w wr))
  case atStart => exact ⟨0, none, 0, [], by omega, rfl, rfl, ⟨rfl, rfl, own_nil _ _ _ _, RUs.nil, HB⟩⟩
  case round =>
    clear HB
    obtain ⟨k, A2, c2, os, hn, rfl, rfl, HA⟩ := hrel
    obtain ⟨hok, hos, o1, So, HB⟩ := HA.out
    clear HA
    have Hok := Lib.hid hok
    have Hos := Lib.hid hos
    clear hos hok
    by_cases hlt : k < l.length
    · have s1 : decide ((k : Int) < (l.length : Int)) = true := by rw [decide_eq_true_eq]; omega
      have s1' : decide (k < l.length) = true := by rw [decide_eq_true_eq]; exact hlt
      obtain ⟨x, hx⟩ : ∃ x, l[k]? = some x := ⟨l[k], List.getElem?_eq_getElem hlt⟩
      obtain ⟨r, Ar, cr⟩ := x
      have hxm : (l.map (·.1))[k]? = some r := by rw [List.getElem?_map, hx]; rfl
      have hxf : r.Fits := Hfit.out _ (List.mem_of_getElem? hx)
      have hrl := hxf.data
      have hxd : RB w Ar r.Data := Hr.out.data _ (List.mem_of_getElem? hx)
      obtain ⟨ad, had, hadlt, _⟩ := Hr.out.get hx
      have hld := fun (W : World) (hb : Below w.heap.size w W) => (Hr.out.next hb).load hx had
      have Hld := Lib.hid hld
      subst had
      have n3 : (l.map (·.1)).take (k + 1) = (l.map (·.1)).take k ++ [r] := by rw [List.take_add_one, hxm]; rfl
      have N3 := Lib.hid n3
      clear hx hld n3 hxm
      go_wp2_with (first
        | ((with_reducible refine gate_dst (N := 15) rfl ?_); refine ev_load_at rfl rfl rfl (Hld.out _ HB) Tryd.underlying35 rfl rec_size ?_)
        | (go_at_call 74; (with_reducible refine (refClone_calls r Ar cr _ (hxd.next HB) hrl).mono ?_); rintro e W1 ⟨A5, c5, rfl, o5, hb⟩; have hgr := grown_of_below hb; replace So := So.kept hgr (by simp); replace o1 := o1.kept hgr (by cases Value.ownBlock _ <;> simp); replace HB := HB.grown hgr (by have := HB.size; omega) (by simp); clear hb hgr; have hd5 := RU.of_own o5)
        | ((with_reducible refine gate_dst (N := 17) rfl ?_); refine ev_lit rfl rfl (r.cells A5 c5) 35 1 (by first | (go_simp; done) | (go_simp; rfl)) ?_; intro g5 W2 hg5 hsz hbn; have hgr := grown_of_below hbn; have zg5 : w.heap.size ≤ g5 := (by have := HB.size; omega); replace hd5 := hd5.kept hgr (by simp); replace So := So.kept hgr (by simp); replace o1 := o1.kept hgr (by cases Value.ownBlock _ <;> simp); replace HB := HB.grown hgr (by have := HB.size; omega) (by simp); have hcg5 := hg5.cell; have hfg5 := hg5.frozen; clear hsz hbn hgr)
        | ((with_reducible refine gate_dst (N := 18) rfl ?_); refine ev_append rfl rfl Tryd.underlying29 info_rec rfl (by omega) rfl o1 rfl (hg5.reads (size := 12) (n := 1) rfl) (recCells_1 (l := [(r, A5, c5)])) (by have := Hok.out; omega) (by omega) (by have := HB.size; omega) ?_; intro A6 c6 W3 on hgr hat; replace hd5 := hd5.kept hgr (RU.ne_own hd5 o1 (by decide)); replace So := So.kept hgr (RUs.ne_own So o1 (by decide)); replace HB := HB.grown hgr (by have := HB.size; omega) (own_base o1); replace o1 := on; clear on hgr hat))
      go_roundg (gk - 1)
      case measure => omega
      case rel => exact ⟨k + 1, A6, c6, os ++ [(r, A5, c5)], by omega, by go_num, by simp, ⟨by simp [Hok.out], by rw [List.map_append, Hos.out, N3.out]; rfl, by rw [recCells_append, recCells_one]; simpa [RA.cs] using o1, So.snoc hd5, HB⟩⟩
    · have s1 : decide ((k : Int) < (l.length : Int)) = false := by rw [decide_eq_false_iff_not]; omega
      have s1' : decide (k < l.length) = false := by rw [decide_eq_false_iff_not]; exact hlt
      obtain rfl : k = l.length := by omega
      have n3 : os.map (·.1) = l.map (·.1) := by rw [Hos.out, List.take_of_length_le (by simp)]
      go_wp2
      go_ret
      exact ⟨A2, c2, os, rfl, n3, o1, So, HB⟩

/-- The marks behind the data. -/
def roomL : Nat → List UInt8
  | 0 => []
  | n + 1 => roomL n ++ [UInt8.ofNat (201 + n % 5)]
theorem roomL_len : ∀ n, (roomL n).length = n
  | 0 => rfl
  | n + 1 => by simp [roomL, roomL_len n]
def roomy (l : List UInt8) : List UInt8 := l ++ roomL 75
theorem roomy_len (l : List UInt8) : (roomy l).length = l.length + 75 := by simp [roomy, roomL_len]
set_option maxHeartbeats 2000000 in
set_option maxRecDepth 100000 in
theorem roomy_calls (l : List UInt8) (A : Option Addr) (c : Nat) (hl : l.length ≤ 140737488351232) (w : World) (hd : RB w A l) :
    Calls Tryd.prog 130 #[.slice A l.length c] w fun e w' => ∃ A' c', e = .returned (.slice A' (roomy l).length c') ∧ w'.ownsRow w.heap.size 5 1 (.slice A' (roomy l).length c') (roomy l).length (u8s (roomy l)) ∧ Below w.heap.size w w' := by
  have HB := Below.refl w.heap.size w
  go_enter Tryd.func130, Tryd.ntmps130
  go_wp2_with (first
    | ((with_reducible refine gate_dst (N := 7) rfl ?_); refine ev_append_nil rfl rfl Tryd.underlying33 info_u8 rfl (by omega) rfl rfl hd u8s_one (by omega) (by omega) ?_; intro A3 c3 W1 o3 hbn; have hgr := grown_of_below hbn; replace o3 := own_mono o3 HB.size; replace HB := HB.grown hgr (by have := HB.size; omega) (by simp); clear hbn hgr))
  go_loopg [3, 4] 75 (fun n v3 v4 wr => ∃ (k : Nat) (A' : Option Addr) (c' : Nat) (acc : List UInt8), n + k = 75 ∧ v4 = .int .i64 k ∧ v3 = .slice A' acc.length c' ∧
    Aside (acc = l ++ roomL k ∧ wr.ownsRow w.heap.size 5 1 (.slice A' acc.length c') acc.length (u8s acc) ∧ Below w.heap.size w wr))
  case atStart => exact ⟨0, A3, c3, l, by omega, rfl, rfl, ⟨by simp [roomL], o3, HB⟩⟩
  case round =>
    clear HB o3
    obtain ⟨k, A2, c2, acc, hn, rfl, rfl, HA⟩ := hrel
    obtain ⟨hacc, o1, HB⟩ := HA.out
    clear HA
    have hal : acc.length ≤ 140737488351307 := by rw [hacc, List.length_append, roomL_len]; omega
    have Hacc := Lib.hid hacc
    clear hacc
    by_cases hlt : k < 75
    · have s1 : decide ((k : Int) < 75) = true := by rw [decide_eq_true_eq]; omega
      have s1' : decide (k < 75) = true := by rw [decide_eq_true_eq]; exact hlt
      have hm : 201 + k % 5 < 256 := by omega
      have e1 : (201 : Int) + (k : Int) % 5 = ((201 + k % 5 : Nat) : Int) := by omega
      have tw : IntKind.u8.wrap ((201 : Int) + (k : Int) % 5) = ((201 + k % 5 : Nat) : Int) := by rw [IntKind.wrap_u8]; omega
      have tm : (k : Int).tmod 5 = (k : Int) % 5 := by rw [Int.tmod_eq_emod_of_nonneg (by omega)]
      have ub := u8_cell (UInt8.ofNat (201 + k % 5))
      have en : (UInt8.ofNat (201 + k % 5)).toNat = 201 + k % 5 := by rw [UInt8.toNat_ofNat']; exact Nat.mod_eq_of_lt hm
      rw [en] at ub
      have hnext : l ++ roomL (k + 1) = acc ++ [UInt8.ofNat (201 + k % 5)] := by rw [Hacc.out, List.append_assoc]; rfl
      have Hnext := Lib.hid hnext
      have Ub := Lib.hid ub
      clear hnext ub en hm e1
      generalize 201 + k % 5 = b at Hnext Ub tw
      go_wp2_with (first
        | ((with_reducible refine gate_dst (N := 17) rfl ?_); refine ev_lit rfl rfl (#[.int .u8 (b : Int)]) 5 1 (by first | (go_simp; done) | (go_simp; rfl)) ?_; intro g5 W1 hg5 hsz hbn; have hgr := grown_of_below hbn; have zg5 : w.heap.size ≤ g5 := (by have := HB.size; omega); replace o1 := o1.kept hgr (by cases Value.ownBlock _ <;> simp); replace HB := HB.grown hgr (by have := HB.size; omega) (by simp); have hcg5 := hg5.cell; have hfg5 := hg5.frozen; clear hsz hbn hgr)
        | ((with_reducible refine gate_dst (N := 18) rfl ?_); refine ev_append rfl rfl Tryd.underlying33 info_u8 rfl (by omega) rfl o1 rfl (hg5.reads (size := 1) (n := 1) rfl) (fun u hu => by simp at hu; subst hu; rfl) (by omega) (by omega) (by have := HB.size; omega) ?_; intro A6 c6 W2 on hgr hat; replace HB := HB.grown hgr (by have := HB.size; omega) (own_base o1); replace o1 := on; clear on hgr hat))
      go_roundg (gk - 1)
      case measure => omega
      case rel => exact ⟨k + 1, A6, c6, acc ++ [UInt8.ofNat b], by omega, by go_num, by simp, ⟨Hnext.out.symm, by rw [u8s_append, Ub.out]; simpa using o1, HB⟩⟩
    · have s1 : decide ((k : Int) < 75) = false := by rw [decide_eq_false_iff_not]; omega
      have s1' : decide (k < 75) = false := by rw [decide_eq_false_iff_not]; exact hlt
      obtain rfl : k = 75 := by omega
      obtain rfl : acc = roomy l := Hacc.out
      go_wp2
      go_ret
      exact ⟨A2, c2, rfl, o1, HB⟩
end Go.Proofs.YtjhiohjpkdjkoaaDoor
namespace Go.Proofs.YtjhiohjpkdjkoaaDoor
open Go.RowKit
attribute [local go_sem] Rec.size_ Rec.g0 Rec.g1 Rec.g2 Rec.g3 Rec.g4 Rec.g5 Rec.g6 Rec.g7 Rec.g8 Rec.g9 Rec.g10 Rec.g11 Rec.fold Rec.lit_fold

/-- Rows of two sorts are not in one block. -/
theorem own_ty_ne {w : World} {base base' size size' n n' : Nat} {e e' : TypeId} {v v' : Value} {xs xs' : List Value} (h : w.ownsRow base e size v n xs) (h' : w.ownsRow base' e' size' v' n' xs') (hne : e ≠ e') : v.ownBlock = none ∨ v.ownBlock ≠ v'.ownBlock := by
  rcases h.2 with ⟨rfl, _⟩ | ⟨g, cap, cur, rfl, _, hh, _⟩
  · exact .inl rfl
  · refine .inr fun he => ?_
    rcases h'.2 with ⟨rfl, _⟩ | ⟨g', cap', cur', rfl, _, hh', _⟩
    · simp [Value.ownBlock] at he
    · have : g = g' := by simpa [Value.ownBlock] using he
      subst this
      rw [hh] at hh'
      injection hh' with h1
      injection h1 with _ h2
      exact hne h2
/-- Bytes with their address and room. -/
abbrev BA := List UInt8 × Option Addr × Nat
def baCells (l : List BA) : List Value := l.map fun x => .slice x.2.1 x.1.length x.2.2
theorem baCells_length (l : List BA) : (baCells l).length = l.length := by simp [baCells]
theorem baCells_append (l m : List BA) : baCells (l ++ m) = baCells l ++ baCells m := by simp [baCells]
theorem baCells_get {l : List BA} {k : Nat} {x : BA} (h : l[k]? = some x) : (baCells l)[k]? = some (.slice x.2.1 x.1.length x.2.2) := by simp [baCells, h]
def RZs (w : World) (os : List BA) : Prop := ∀ x ∈ os, RU w x.2.1 x.1
section
variable {w w' : World} {os : List BA}
theorem RZs.kept {row : Option Nat} (h : RZs w os) (hgr : w.grownBy w' row) (hne : ∀ x ∈ os, x.1 ≠ [] → ∀ ad, x.2.1 = some ad → some ad.block ≠ row) : RZs w' os := fun x hx => (h x hx).kept hgr (hne x hx)
theorem RZs.ne_blk {g : Nat} {t : TypeId} {cs : Array Value} (h : RZs w os) (hg : Blk w g t cs) (hne : 5 ≠ t) : ∀ x ∈ os, x.1 ≠ [] → ∀ ad, x.2.1 = some ad → some ad.block ≠ some g := fun x hx => (h x hx).ne_blk hg hne
theorem RZs.ne_own {base size n : Nat} {e : TypeId} {v : Value} {xs : List Value} (h : RZs w os) (ho : w.ownsRow base e size v n xs) (hne : 5 ≠ e) : ∀ x ∈ os, x.1 ≠ [] → ∀ ad, x.2.1 = some ad → some ad.block ≠ v.ownBlock := fun x hx => (h x hx).ne_own ho hne
theorem RZs.nil : RZs w [] := fun x hx => by cases hx
theorem RZs.next (h : RZs w os) (hb : Below w.heap.size w w') : RZs w' os := fun x hx => (h x hx).next hb
theorem RZs.snoc {y : BA} (h : RZs w os) (hy : RU w y.2.1 y.1) : RZs w (os ++ [y]) := fun x hx => by
  rcases List.mem_append.1 hx with hx | hx
  · exact h x hx
  · obtain rfl : x = y := by simpa using hx
    exact hy
end
theorem RU.prefix {w : World} {A : Option Addr} {l m : List UInt8} (h : RU w A (l ++ m)) : RU w A l := by
  refine ⟨⟨by simp [u8s], fun hn => ?_⟩, fun hl => h.ty (by simp [hl])⟩
  obtain ⟨ad, e, hb, hc⟩ := h.rb.2 (by rw [List.length_append]; omega)
  refine ⟨ad, e, hb, fun j u hu => hc j u ?_⟩
  have hj : j < (u8s l).length := (List.getElem?_eq_some_iff.1 hu).1
  rw [u8s_append, List.getElem?_append_left hj]
  exact hu

theorem own_cap8 {w : World} {base c n : Nat} {A : Option Addr} {e : TypeId} {xs : List Value} (h : w.ownsRow base e 1 (.slice A n c) n xs) (d : List UInt8) : n ≤ c := by
  rcases h.2 with ⟨hv, h0⟩ | ⟨g', cap, cur, hv, _, _, h1, h2, _⟩
  · omega
  · injection hv with _ _ hc
    omega
/-- What laid hands out. -/
def LaidSaid (l : List RA) (w : World) (e : Ending) (w' : World) : Prop :=
  ∃ (A1 : Option Addr) (c1 : Nat) (os : List RA) (A2 : Option Addr) (c2 : Nat) (ws : List BA), e = .returned (.tuple #[.slice A1 os.length c1, .slice A2 ws.length c2]) ∧ os.map (·.1) = l.map (·.1) ∧ ws.map (·.1) = l.map (fun x => roomy x.1.Data) ∧
    w'.ownsRow w.heap.size 35 12 (.slice A1 os.length c1) os.length (recCells os) ∧ RUs w' os ∧ w'.ownsRow w.heap.size 33 1 (.slice A2 ws.length c2) ws.length (baCells ws) ∧ RZs w' ws ∧ Below w.heap.size w w'
set_option maxHeartbeats 4000000 in
set_option maxRecDepth 100000 in
theorem laid_calls (l : List RA) (A : Option Addr) (c : Nat) (hl : l.length * 120 ≤ 140737488351232) (hfit : ∀ y ∈ l, y.1.Fits) (w : World) (hr : RR w A l) :
    Calls Tryd.prog 114 #[.slice A l.length c] w (LaidSaid l w) := by
  have HB := Below.refl w.heap.size w
  have Hr := Lib.hid hr
  have Hfit := Lib.hid hfit
  clear hr hfit
  unfold LaidSaid
  go_enter Tryd.func114, Tryd.ntmps114
  go_wp2
  go_loopg [4, 5, 6] l.length (fun n v4 v5 v6 wr => ∃ (k : Nat) (A1 : Option Addr) (c1 : Nat) (os : List RA) (A2 : Option Addr) (c2 : Nat) (ws : List BA), n + k = l.length ∧ v6 = .int .i64 k ∧ v4 = .slice A1 os.length c1 ∧ v5 = .slice A2 ws.length c2 ∧
    Aside (os.length = k ∧ ws.length = k ∧ os.map (·.1) = (l.map (·.1)).take k ∧ ws.map (·.1) = (l.map (fun x => roomy x.1.Data)).take k ∧ wr.ownsRow w.heap.size 35 12 (.slice A1 os.length c1) os.length (recCells os) ∧ RUs wr os ∧
      wr.ownsRow w.heap.size 33 1 (.slice A2 ws.length c2) ws.length (baCells ws) ∧ RZs wr ws ∧ Below w.heap.size w wr))
  case atStart => exact ⟨0, none, 0, [], none, 0, [], by omega, rfl, rfl, rfl, ⟨rfl, rfl, rfl, rfl, own_nil _ _ _ _, RUs.nil, own_nil _ _ _ _, RZs.nil, HB⟩⟩
  case round =>
    clear HB
    obtain ⟨k, A1, c1, os, A2, c2, ws, hn, rfl, rfl, rfl, HA⟩ := hrel
    obtain ⟨hok, hwk, hos, hws, o1, So, o2, Zo, HB⟩ := HA.out
    clear HA
    have Hok := Lib.hid (And.intro hok hwk)
    have Hos := Lib.hid hos
    have Hws := Lib.hid hws
    clear hos hok hws hwk
    by_cases hlt : k < l.length
    · have s1 : decide ((k : Int) < (l.length : Int)) = true := by rw [decide_eq_true_eq]; omega
      have s1' : decide (k < l.length) = true := by rw [decide_eq_true_eq]; exact hlt
      obtain ⟨x, hx⟩ : ∃ x, l[k]? = some x := ⟨l[k], List.getElem?_eq_getElem hlt⟩
      obtain ⟨r, Ar, cr⟩ := x
      have hxm : (l.map (·.1))[k]? = some r := by rw [List.getElem?_map, hx]; rfl
      have hxw : (l.map (fun x : RA => roomy x.1.Data))[k]? = some (roomy r.Data) := by rw [List.getElem?_map, hx]; rfl
      have hxf : r.Fits := Hfit.out _ (List.mem_of_getElem? hx)
      have hrl := hxf.data
      have hxd : RB w Ar r.Data := Hr.out.data _ (List.mem_of_getElem? hx)
      obtain ⟨ad, had, hadlt, _⟩ := Hr.out.get hx
      have hld := fun (W : World) (hb : Below w.heap.size w W) => (Hr.out.next hb).load hx had
      have Hld := Lib.hid hld
      subst had
      have n3 : (l.map (·.1)).take (k + 1) = (l.map (·.1)).take k ++ [r] := by rw [List.take_add_one, hxm]; rfl
      have n4 : (l.map (fun x : RA => roomy x.1.Data)).take (k + 1) = (l.map (fun x : RA => roomy x.1.Data)).take k ++ [roomy r.Data] := by rw [List.take_add_one, hxw]; rfl
      have N3 := Lib.hid n3
      have N4 := Lib.hid n4
      have hrm := roomy_len r.Data
      clear hx hld n3 n4 hxm hxw
      by_cases h0 : 0 < r.Data.length
      · have s2 : decide ((0 : Int) < (r.Data.length : Int)) = true := by rw [decide_eq_true_eq]; omega
        have s2' : decide (0 < r.Data.length) = true := by rw [decide_eq_true_eq]; exact h0
        go_wp2_with (first
          | ((with_reducible refine gate_dst (N := 18) rfl ?_); refine ev_load_at rfl rfl rfl (Hld.out _ HB) Tryd.underlying35 rfl rec_size ?_)
          | ((with_reducible refine gate_dst (N := 7) rfl ?_); refine ev_alloc rfl rfl _ rec_zero ?_; intro g7 W1 hg7 hsz hbn; have hgr := grown_of_below hbn; have no1g7 := own_new o1 hsz; have no2g7 := own_new o2 hsz; replace hg7 : Blk W1 g7 _ (Rec.zero.cells none 0) := hg7; have zg7 : w.heap.size ≤ g7 := (by have := HB.size; omega); replace Zo := Zo.kept hgr (by simp); replace So := So.kept hgr (by simp); replace o1 := o1.kept hgr (by cases Value.ownBlock _ <;> simp); replace o2 := o2.kept hgr (by cases Value.ownBlock _ <;> simp); replace HB := HB.grown hgr (by have := HB.size; omega) (by simp); have hcg7 := hg7.cell; have hfg7 := hg7.frozen; clear hsz hbn hgr)
          | ((with_reducible refine gate_store (p := 7) rfl ?_); refine ev_store_row (cs := r.cells Ar cr) rfl rfl rfl hg7 rfl rfl rec_size rfl (cells_one _ _ _) ?_; intro W2 hgn hgr; replace Zo := Zo.kept hgr (RZs.ne_blk Zo hg7 (by decide)); replace So := So.kept hgr (RUs.ne_blk So hg7 (by decide)); replace o1 := o1.kept hgr (.inr no1g7); replace o2 := o2.kept hgr (.inr no2g7); replace HB := HB.grown hgr (by have := HB.size; omega) (by intro k e; injection e with e; omega); replace hg7 := hgn; replace hcg7 := hg7.cell; replace hfg7 := hg7.frozen; clear hgn hgr)
          | (go_at_call 130; (with_reducible refine (roomy_calls r.Data Ar cr hrl _ (hxd.next HB)).mono ?_); rintro e W3 ⟨A8, c8, rfl, o8, hb⟩; have hgr := grown_of_below hb; replace Zo := Zo.kept hgr (by simp); replace So := So.kept hgr (by simp); replace hg7 := hg7.grown hgr (by simp); replace o1 := o1.kept hgr (by cases Value.ownBlock _ <;> simp); replace o2 := o2.kept hgr (by cases Value.ownBlock _ <;> simp); replace HB := HB.grown hgr (by have := HB.size; omega) (by simp); replace hcg7 := hg7.cell; replace hfg7 := hg7.frozen; clear hb hgr; have hd8 := RU.of_own o8; have hcap := own_cap8 o8 r.Data)
          | ((with_reducible refine gate_store (p := 31) rfl ?_); refine ev_store_cell rfl rfl rfl hg7 rfl (i := 11) (v := .slice A8 r.Data.length c8) rfl rfl (by kernel_rfl) (by first | exact (show (11 : Nat) < 12 by decide) | exact (show (11 : Nat) < 16 by decide)) ?_; intro W4 hgn hgr; replace hgn : Blk W4 g7 _ (r.cells A8 c8) := hgn; replace hd8 := hd8.kept hgr (RU.ne_blk hd8 hg7 (by decide)); replace Zo := Zo.kept hgr (RZs.ne_blk Zo hg7 (by decide)); replace So := So.kept hgr (RUs.ne_blk So hg7 (by decide)); replace o1 := o1.kept hgr (.inr no1g7); replace o2 := o2.kept hgr (.inr no2g7); replace HB := HB.grown hgr (by have := HB.size; omega) (by intro k e; injection e with e; omega); replace hg7 := hgn; replace hcg7 := hg7.cell; replace hfg7 := hg7.frozen; clear hgn hgr)
          | ((with_reducible refine gate_dst (N := 33) rfl ?_); refine wpList_load_row rfl _ _ rfl g7 rfl _ _ (0, 0) _ hg7 Tryd.underlying35 rfl rec_size ?_)
          | ((with_reducible refine gate_dst (N := 34) rfl ?_); refine ev_lit rfl rfl (r.cells A8 c8) 35 1 (by first | (go_simp; done) | (go_simp; rfl)) ?_; intro g5 W5 hg5 hsz hbn; have hgr := grown_of_below hbn; have ng7g5 : g7 ≠ g5 := (by have := hg7.lt; omega); have zg5 : w.heap.size ≤ g5 := (by have := HB.size; omega); replace hd8 := hd8.kept hgr (by simp); replace Zo := Zo.kept hgr (by simp); replace So := So.kept hgr (by simp); replace hg7 := hg7.grown hgr (by simp); replace o1 := o1.kept hgr (by cases Value.ownBlock _ <;> simp); replace o2 := o2.kept hgr (by cases Value.ownBlock _ <;> simp); replace HB := HB.grown hgr (by have := HB.size; omega) (by simp); have hcg5 := hg5.cell; have hfg5 := hg5.frozen; replace hcg7 := hg7.cell; replace hfg7 := hg7.frozen; clear hsz hbn hgr)
          | ((with_reducible refine gate_dst (N := 35) rfl ?_); refine ev_append rfl rfl Tryd.underlying29 info_rec rfl (by omega) rfl o1 rfl (hg5.reads (size := 12) (n := 1) rfl) (recCells_1 (l := [(r, A8, c8)])) (by have := Hok.out.1; omega) (by omega) (by have := HB.size; omega) ?_; intro A6 c6 W6 on hgr hat; replace hd8 := hd8.kept hgr (RU.ne_own hd8 o1 (by decide)); replace Zo := Zo.kept hgr (RZs.ne_own Zo o1 (by decide)); replace So := So.kept hgr (RUs.ne_own So o1 (by decide)); replace hg7 := hg7.grown hgr (fun e => no1g7 e.symm); replace o2 := o2.kept hgr (by first | assumption | exact own_ty_ne o2 o1 (by decide)); replace HB := HB.grown hgr (by have := HB.size; omega) (own_base o1); replace o1 := on; replace hcg7 := hg7.cell; replace hfg7 := hg7.frozen; clear on hgr hat)
          | ((with_reducible refine gate_dst (N := 38) rfl ?_); refine ev_lit rfl rfl (#[.slice A8 (roomy r.Data).length c8]) 33 1 (by first | (go_simp; done) | (go_simp; rfl)) ?_; intro g9 W7 hg9 hsz hbn; have hgr := grown_of_below hbn; have ng7g9 : g7 ≠ g9 := (by have := hg7.lt; omega); have zg9 : w.heap.size ≤ g9 := (by have := HB.size; omega); replace hd8 := hd8.kept hgr (by simp); replace Zo := Zo.kept hgr (by simp); replace So := So.kept hgr (by simp); replace hg7 := hg7.grown hgr (by simp); replace o1 := o1.kept hgr (by cases Value.ownBlock _ <;> simp); replace o2 := o2.kept hgr (by cases Value.ownBlock _ <;> simp); replace HB := HB.grown hgr (by have := HB.size; omega) (by simp); have hcg9 := hg9.cell; have hfg9 := hg9.frozen; replace hcg7 := hg7.cell; replace hfg7 := hg7.frozen; clear hsz hbn hgr)
          | ((with_reducible refine gate_dst (N := 39) rfl ?_); refine ev_append rfl rfl Tryd.underlying42 info_bytes rfl (by omega) rfl o2 rfl (hg9.reads (size := 1) (n := 1) rfl) (fun u hu => by simp at hu; subst hu; rfl) (by have := Hok.out.2; omega) (by omega) (by have := HB.size; omega) ?_; intro A9 c9 W8 on hgr hat; replace hd8 := hd8.kept hgr (RU.ne_own hd8 o2 (by decide)); replace Zo := Zo.kept hgr (RZs.ne_own Zo o2 (by decide)); replace So := So.kept hgr (RUs.ne_own So o2 (by decide)); replace hg7 := hg7.grown hgr (fun e => no2g7 e.symm); replace o1 := o1.kept hgr (by first | assumption | exact own_ty_ne o1 o2 (by decide)); replace HB := HB.grown hgr (by have := HB.size; omega) (own_base o2); replace o2 := on; replace hcg7 := hg7.cell; replace hfg7 := hg7.frozen; clear on hgr hat))
        have He := RU.prefix (l := r.Data) (m := roomL 75) hd8
        go_roundg (gk - 1)
        case measure => omega
        case rel => exact ⟨k + 1, A6, c6, os ++ [(r, A8, c8)], A9, c9, ws ++ [(roomy r.Data, A8, c8)], by omega, by go_num, by simp, by simp, ⟨by simp [Hok.out.1], by simp [Hok.out.2], by rw [List.map_append, Hos.out, N3.out]; rfl, by rw [List.map_append, Hws.out, N4.out]; rfl, by rw [recCells_append, recCells_one]; simpa [RA.cs] using o1, So.snoc He, by rw [baCells_append]; simpa [baCells] using o2, Zo.snoc hd8, HB⟩⟩
      · have s2 : decide ((0 : Int) < (r.Data.length : Int)) = false := by rw [decide_eq_false_iff_not]; omega
        have s2' : decide (0 < r.Data.length) = false := by rw [decide_eq_false_iff_not]; exact h0
        have hdn : r.Data = [] := List.eq_nil_of_length_eq_zero (by omega)
        have Hdn := Lib.hid hdn
        clear hdn
        go_wp2_with (first
          | ((with_reducible refine gate_dst (N := 18) rfl ?_); refine ev_load_at rfl rfl rfl (Hld.out _ HB) Tryd.underlying35 rfl rec_size ?_)
          | ((with_reducible refine gate_dst (N := 7) rfl ?_); refine ev_alloc rfl rfl _ rec_zero ?_; intro g7 W1 hg7 hsz hbn; have hgr := grown_of_below hbn; have no1g7 := own_new o1 hsz; have no2g7 := own_new o2 hsz; replace hg7 : Blk W1 g7 _ (Rec.zero.cells none 0) := hg7; have zg7 : w.heap.size ≤ g7 := (by have := HB.size; omega); replace Zo := Zo.kept hgr (by simp); replace So := So.kept hgr (by simp); replace o1 := o1.kept hgr (by cases Value.ownBlock _ <;> simp); replace o2 := o2.kept hgr (by cases Value.ownBlock _ <;> simp); replace HB := HB.grown hgr (by have := HB.size; omega) (by simp); have hcg7 := hg7.cell; have hfg7 := hg7.frozen; clear hsz hbn hgr)
          | ((with_reducible refine gate_store (p := 7) rfl ?_); refine ev_store_row (cs := r.cells Ar cr) rfl rfl rfl hg7 rfl rfl rec_size rfl (cells_one _ _ _) ?_; intro W2 hgn hgr; replace Zo := Zo.kept hgr (RZs.ne_blk Zo hg7 (by decide)); replace So := So.kept hgr (RUs.ne_blk So hg7 (by decide)); replace o1 := o1.kept hgr (.inr no1g7); replace o2 := o2.kept hgr (.inr no2g7); replace HB := HB.grown hgr (by have := HB.size; omega) (by intro k e; injection e with e; omega); replace hg7 := hgn; replace hcg7 := hg7.cell; replace hfg7 := hg7.frozen; clear hgn hgr)
          | (go_at_call 130; (with_reducible refine (roomy_calls r.Data Ar cr hrl _ (hxd.next HB)).mono ?_); rintro e W3 ⟨A8, c8, rfl, o8, hb⟩; have hgr := grown_of_below hb; replace Zo := Zo.kept hgr (by simp); replace So := So.kept hgr (by simp); replace hg7 := hg7.grown hgr (by simp); replace o1 := o1.kept hgr (by cases Value.ownBlock _ <;> simp); replace o2 := o2.kept hgr (by cases Value.ownBlock _ <;> simp); replace HB := HB.grown hgr (by have := HB.size; omega) (by simp); replace hcg7 := hg7.cell; replace hfg7 := hg7.frozen; clear hb hgr; have hd8 := RU.of_own o8; have hcap := own_cap8 o8 r.Data)
          | ((with_reducible refine gate_dst (N := 33) rfl ?_); refine wpList_load_row rfl _ _ rfl g7 rfl _ _ (0, 0) _ hg7 Tryd.underlying35 rfl rec_size ?_)
          | ((with_reducible refine gate_dst (N := 34) rfl ?_); refine ev_lit rfl rfl (r.cells Ar cr) 35 1 (by first | (go_simp; done) | (go_simp; rfl)) ?_; intro g5 W4 hg5 hsz hbn; have hgr := grown_of_below hbn; have ng7g5 : g7 ≠ g5 := (by have := hg7.lt; omega); have zg5 : w.heap.size ≤ g5 := (by have := HB.size; omega); replace hd8 := hd8.kept hgr (by simp); replace Zo := Zo.kept hgr (by simp); replace So := So.kept hgr (by simp); replace hg7 := hg7.grown hgr (by simp); replace o1 := o1.kept hgr (by cases Value.ownBlock _ <;> simp); replace o2 := o2.kept hgr (by cases Value.ownBlock _ <;> simp); replace HB := HB.grown hgr (by have := HB.size; omega) (by simp); have hcg5 := hg5.cell; have hfg5 := hg5.frozen; replace hcg7 := hg7.cell; replace hfg7 := hg7.frozen; clear hsz hbn hgr)
          | ((with_reducible refine gate_dst (N := 35) rfl ?_); refine ev_append rfl rfl Tryd.underlying29 info_rec rfl (by omega) rfl o1 rfl (hg5.reads (size := 12) (n := 1) rfl) (recCells_1 (l := [(r, Ar, cr)])) (by have := Hok.out.1; omega) (by omega) (by have := HB.size; omega) ?_; intro A6 c6 W5 on hgr hat; replace hd8 := hd8.kept hgr (RU.ne_own hd8 o1 (by decide)); replace Zo := Zo.kept hgr (RZs.ne_own Zo o1 (by decide)); replace So := So.kept hgr (RUs.ne_own So o1 (by decide)); replace hg7 := hg7.grown hgr (fun e => no1g7 e.symm); replace o2 := o2.kept hgr (by first | assumption | exact own_ty_ne o2 o1 (by decide)); replace HB := HB.grown hgr (by have := HB.size; omega) (own_base o1); replace o1 := on; replace hcg7 := hg7.cell; replace hfg7 := hg7.frozen; clear on hgr hat)
          | ((with_reducible refine gate_dst (N := 38) rfl ?_); refine ev_lit rfl rfl (#[.slice A8 (roomy r.Data).length c8]) 33 1 (by first | (go_simp; done) | (go_simp; rfl)) ?_; intro g9 W6 hg9 hsz hbn; have hgr := grown_of_below hbn; have ng7g9 : g7 ≠ g9 := (by have := hg7.lt; omega); have zg9 : w.heap.size ≤ g9 := (by have := HB.size; omega); replace hd8 := hd8.kept hgr (by simp); replace Zo := Zo.kept hgr (by simp); replace So := So.kept hgr (by simp); replace hg7 := hg7.grown hgr (by simp); replace o1 := o1.kept hgr (by cases Value.ownBlock _ <;> simp); replace o2 := o2.kept hgr (by cases Value.ownBlock _ <;> simp); replace HB := HB.grown hgr (by have := HB.size; omega) (by simp); have hcg9 := hg9.cell; have hfg9 := hg9.frozen; replace hcg7 := hg7.cell; replace hfg7 := hg7.frozen; clear hsz hbn hgr)
          | ((with_reducible refine gate_dst (N := 39) rfl ?_); refine ev_append rfl rfl Tryd.underlying42 info_bytes rfl (by omega) rfl o2 rfl (hg9.reads (size := 1) (n := 1) rfl) (fun u hu => by simp at hu; subst hu; rfl) (by have := Hok.out.2; omega) (by omega) (by have := HB.size; omega) ?_; intro A9 c9 W7 on hgr hat; replace hd8 := hd8.kept hgr (RU.ne_own hd8 o2 (by decide)); replace Zo := Zo.kept hgr (RZs.ne_own Zo o2 (by decide)); replace So := So.kept hgr (RUs.ne_own So o2 (by decide)); replace hg7 := hg7.grown hgr (fun e => no2g7 e.symm); replace o1 := o1.kept hgr (by first | assumption | exact own_ty_ne o1 o2 (by decide)); replace HB := HB.grown hgr (by have := HB.size; omega) (own_base o2); replace o2 := on; replace hcg7 := hg7.cell; replace hfg7 := hg7.frozen; clear on hgr hat))
        go_roundg (gk - 1)
        case measure => omega
        case rel => exact ⟨k + 1, A6, c6, os ++ [(r, Ar, cr)], A9, c9, ws ++ [(roomy r.Data, A8, c8)], by omega, by go_num, by simp, by simp, ⟨by simp [Hok.out.1], by simp [Hok.out.2], by rw [List.map_append, Hos.out, N3.out]; rfl, by rw [List.map_append, Hws.out, N4.out]; rfl, by rw [recCells_append, recCells_one]; simpa [RA.cs] using o1, So.snoc (show RU _ Ar r.Data by rw [Hdn.out]; exact RU.nil), by rw [baCells_append]; simpa [baCells] using o2, Zo.snoc hd8, HB⟩⟩
    · have s1 : decide ((k : Int) < (l.length : Int)) = false := by rw [decide_eq_false_iff_not]; omega
      have s1' : decide (k < l.length) = false := by rw [decide_eq_false_iff_not]; exact hlt
      obtain rfl : k = l.length := by omega
      have n3 : os.map (·.1) = l.map (·.1) := by rw [Hos.out, List.take_of_length_le (by simp)]
      have n4 : ws.map (·.1) = l.map (fun x => roomy x.1.Data) := by rw [Hws.out, List.take_of_length_le (by simp)]
      go_wp2
      go_ret2
      exact ⟨A1, c1, os, A2, c2, ws, rfl, n3, n4, o1, So, o2, Zo, HB⟩
end Go.Proofs.YtjhiohjpkdjkoaaDoor
namespace Go.Proofs.YtjhiohjpkdjkoaaDoor
open Go.RowKit
attribute [local go_sem] Rec.size_ Rec.g0 Rec.g1 Rec.g2 Rec.g3 Rec.g4 Rec.g5 Rec.g6 Rec.g7 Rec.g8 Rec.g9 Rec.g10 Rec.g11 Rec.fold Rec.lit_fold Rec.same_self

theorem refAlike_same (l : List UInt8) (A B : Option Addr) (c d : Nat) (w : World) (ha : RB w A l) (hb : RB w B l) (hl : l.length ≤ 140737488351232) :
    Calls Tryd.prog 79 #[.slice A l.length c, .slice B l.length d] w fun e w' => e = .returned (.bool true) ∧ Below w.heap.size w w' := by
  have := refAlike_calls l l A B c d w ha hb hl hl
  simpa using this
set_option maxHeartbeats 4000000 in
set_option maxRecDepth 100000 in
theorem untouched_calls (ws : List BA) (l : List RA) (W0 A : Option Addr) (c0 c : Nat) (hmap : ws.map (·.1) = l.map (fun x => roomy x.1.Data)) (hl : l.length ≤ 140737488351232) (hfit : ∀ y ∈ l, y.1.Fits) (hsm : ∀ y ∈ l, y.1.Data.length ≤ 1099511627776) (w : World)
    (hw : Reads w w.heap.size 1 W0 ws.length (baCells ws)) (hz : RZs w ws) (hr : RR w A l) :
    Calls Tryd.prog 117 #[.slice W0 ws.length c0, .slice A l.length c] w fun e w' => e = .returned (.bool true) ∧ Below w.heap.size w w' := by
  have HB := Below.refl w.heap.size w
  have hlen : ws.length = l.length := by have := congrArg List.length hmap; simpa using this
  rw [hlen]
  have Hmap := Lib.hid hmap
  have Hlen := Lib.hid hlen
  have Hw := Lib.hid hw
  have Hz := Lib.hid hz
  have Hr := Lib.hid hr
  have Hfit := Lib.hid hfit
  have Hsm := Lib.hid hsm
  clear hmap hw hz hr hfit hlen hsm
  go_enter Tryd.func117, Tryd.ntmps117
  go_wp2
  go_loopg [5] l.length (fun n v5 wr => ∃ k : Nat, n + k = l.length ∧ v5 = .int .i64 k ∧ Aside (Below w.heap.size w wr))
  case atStart => exact ⟨0, by omega, rfl, HB⟩
  case round =>
    clear HB
    obtain ⟨k, hn, rfl, HA⟩ := hrel
    have HB := HA.out
    clear HA
    by_cases hlt : k < l.length
    · have s1 : decide ((k : Int) < (l.length : Int)) = true := by rw [decide_eq_true_eq]; omega
      have s1' : decide (k < l.length) = true := by rw [decide_eq_true_eq]; exact hlt
      obtain ⟨x, hx⟩ : ∃ x, l[k]? = some x := ⟨l[k], List.getElem?_eq_getElem hlt⟩
      obtain ⟨y, hy⟩ : ∃ y, ws[k]? = some y := ⟨_, List.getElem?_eq_getElem (by rw [Hlen.out]; exact hlt)⟩
      have hxy : y.1 = roomy x.1.Data := by
        have h := congrArg (fun z => z[k]?) Hmap.out
        simp only [List.getElem?_map, hx, hy, Option.map_some, Option.some.injEq] at h
        exact h
      obtain ⟨r, Ar, cr⟩ := x
      obtain ⟨b, Ab, cb⟩ := y
      simp only at hxy
      subst hxy
      have hxf : r.Fits := Hfit.out _ (List.mem_of_getElem? hx)
      have hxd : RB w Ar r.Data := Hr.out.data _ (List.mem_of_getElem? hx)
      have hyd : RB w Ab (roomy r.Data) := (Hz.out _ (List.mem_of_getElem? hy)).rb
      have hrl := hxf.data
      have hrm := roomy_len r.Data
      have hr40 : r.Data.length ≤ 1099511627776 := Hsm.out _ (List.mem_of_getElem? hx)
      obtain ⟨ad, had, _, _⟩ := Hr.out.get hx
      obtain ⟨bd, hbd, _, hbc⟩ := Hw.out.2 (by rw [Hlen.out]; omega)
      have hld := fun (W : World) (hb : Below w.heap.size w W) => (Hr.out.next hb).load hx had
      have hmd : ∀ (W : World), Below w.heap.size w W → W.cell? (bd.add k) = some (.slice Ab (roomy r.Data).length cb) := fun W hb => by
        obtain ⟨bd', e, hbl, _⟩ := Hw.out.2 (by rw [Hlen.out]; omega)
        rw [hbd] at e
        injection e with e
        subst e
        rw [hb.cell (by rw [block_of_add]; exact hbl)]
        exact hbc k _ (baCells_get hy)
      have hfd : ∀ (W : World), Below w.heap.size w W → W.cell? { block := (ad.add (k * 12)).block, off := (ad.add (k * 12)).off + 11 } = some (.slice Ar r.Data.length cr) := fun W hb => hld W hb 11 _ rfl
      have Hmd := Lib.hid hmd
      have Hfd := Lib.hid hfd
      have ca := fun A c w ha hb => refAlike_same (roomy r.Data) Ab A cb c w ha hb (by omega)
      have cr' := fun w h => roomy_calls r.Data Ar cr hrl w h
      generalize roomy r.Data = b at hyd Hmd ca cr'
      have Ca := Lib.hid ca
      have Cr := Lib.hid cr'
      subst had
      subst hbd
      clear hx hy hld hmd hfd hxf hbc ca cr' hrm
      go_wp2
      refine held_start (fun w' => Below w.heap.size w w') (by kernel_rfl) (fun wd hbd => ?_)
      replace HB := below_go HB hbd
      refine take_at (i := 0) (v := .slice (some bd) l.length c0) 13 rfl rfl (by kernel_rfl) (by kernel_rfl) (by kernel_rfl) (fun _ _ _ h => h) (.inl ⟨rfl, fun w h => by simp [go_sem]⟩) HB ?_
      simp only [Act.put, List.setIfInBounds_toArray, List.set_cons_succ, List.set_cons_zero]
      refine take_at (i := 1) (v := .int .i64 k) 14 rfl rfl (by kernel_rfl) (by kernel_rfl) (by kernel_rfl) (fun _ _ _ h => h) (.inl ⟨rfl, fun w h => by simp [go_sem]⟩) HB ?_
      simp only [Act.put, List.setIfInBounds_toArray, List.set_cons_succ, List.set_cons_zero]
      refine take_at (i := 2) (v := .pointer (some (bd.add k))) 15 rfl rfl (by kernel_rfl) (by kernel_rfl) (by kernel_rfl) (fun _ _ _ h => h) (.inl ⟨rfl, fun w h => by simp [go_sem, hlt]⟩) HB ?_
      simp only [Act.put, List.setIfInBounds_toArray, List.set_cons_succ, List.set_cons_zero]
      refine take_at (i := 3) (v := .slice Ab b.length cb) 16 rfl rfl (by kernel_rfl) (by kernel_rfl) (by kernel_rfl) (fun _ _ _ h => h) (.inl ⟨rfl, fun w h => by simp [go_sem, Hmd.out w h]⟩) HB ?_
      simp only [Act.put, List.setIfInBounds_toArray, List.set_cons_succ, List.set_cons_zero]
      refine take_at (i := 4) (v := .slice (some ad) l.length c) 17 rfl rfl (by kernel_rfl) (by kernel_rfl) (by kernel_rfl) (fun _ _ _ h => h) (.inl ⟨rfl, fun w h => by simp [go_sem]⟩) HB ?_
      simp only [Act.put, List.setIfInBounds_toArray, List.set_cons_succ, List.set_cons_zero]
      refine take_at (i := 5) (v := .int .i64 k) 18 rfl rfl (by kernel_rfl) (by kernel_rfl) (by kernel_rfl) (fun _ _ _ h => h) (.inl ⟨rfl, fun w h => by simp [go_sem]⟩) HB ?_
      simp only [Act.put, List.setIfInBounds_toArray, List.set_cons_succ, List.set_cons_zero]
      refine take_at (i := 6) (v := .pointer (some (ad.add (k * 12)))) 19 rfl rfl (by kernel_rfl) (by kernel_rfl) (by kernel_rfl) (fun _ _ _ h => h) (.inl ⟨rfl, fun w h => by simp [go_sem, hlt]⟩) HB ?_
      simp only [Act.put, List.setIfInBounds_toArray, List.set_cons_succ, List.set_cons_zero]
      refine take_at (i := 7) (v := .pointer (some ((ad.add (k * 12)).add 11))) 20 rfl rfl (by kernel_rfl) (by kernel_rfl) (by kernel_rfl) (fun _ _ _ h => h) (.inl ⟨rfl, fun w h => by simp [go_sem]⟩) HB ?_
      simp only [Act.put, List.setIfInBounds_toArray, List.set_cons_succ, List.set_cons_zero]
      refine take_at (i := 8) (v := .slice Ar r.Data.length cr) 21 rfl rfl (by kernel_rfl) (by kernel_rfl) (by kernel_rfl) (fun _ _ _ h => h) (.inl ⟨rfl, fun w h => by simp [go_sem, Hfd.out w h]⟩) HB ?_
      simp only [Act.put, List.setIfInBounds_toArray, List.set_cons_succ, List.set_cons_zero]
      refine held_one (i := 9) (by kernel_rfl) rfl ?_
      (refine ev_call1 rfl rfl ⟨_, _, Tryd.func130, by kernel_rfl, rfl⟩ rfl ?_; refine Calls.mono (Cr.out _ (hxd.next HB)) ?_; rintro e W1 ⟨A8, c8, rfl, o8, hb⟩; refine ⟨_, rfl, ?_⟩; have hgr := grown_of_below hb; replace o8 := own_mono o8 HB.size; replace HB := HB.grown hgr (by have := HB.size; omega) (by simp); clear hb hgr)
      refine ⟨HB, ?_⟩
      try simp only [Act.put, List.setIfInBounds_toArray, List.set_cons_succ, List.set_cons_zero]
      refine held_one (i := 10) (by kernel_rfl) rfl ?_
      (refine ev_call2 rfl rfl ⟨_, _, Tryd.func79, by kernel_rfl, rfl⟩ rfl rfl ?_; refine Calls.mono (Ca.out _ _ _ (hyd.next HB) (own_rb o8)) ?_; rintro e W2 ⟨rfl, hb⟩; refine ⟨_, rfl, ?_⟩; have hgr := grown_of_below hb; replace o8 := o8.kept hgr (by cases Value.ownBlock _ <;> simp); replace HB := HB.grown hgr (by have := HB.size; omega) (by simp); clear hb hgr)
      refine ⟨HB, ?_⟩
      try simp only [Act.put, List.setIfInBounds_toArray, List.set_cons_succ, List.set_cons_zero]
      refine held_one (i := 11) (by kernel_rfl) rfl ?_
      refine ev_run rfl (w1 := W2) (v := .bool true) (by simp [go_sem]) ?_
      refine ⟨HB, ?_⟩
      simp only [Act.put, List.setIfInBounds_toArray, List.set_cons_succ, List.set_cons_zero]
      refine wpAnyH_done (by kernel_rfl) ?_ _
      go_wp2
      go_roundg (gk - 1)
      case measure => omega
      case rel => exact ⟨k + 1, by omega, by go_num, HB⟩
    · have s1 : decide ((k : Int) < (l.length : Int)) = false := by rw [decide_eq_false_iff_not]; omega
      have s1' : decide (k < l.length) = false := by rw [decide_eq_false_iff_not]; exact hlt
      go_wp2
      go_ret
      exact ⟨rfl, HB⟩

/-! ### Op -/
/-- The sixteen cells of a step. -/
def opC (k : Int) (r : Rec) (A : Option Addr) (c : Nat) (to fr : Int) (B : Option Addr) (n d : Nat) : Array Value :=
  #[.int .i64 k, .int .i64 r.V, .int .i64 r.Kind, .int .i64 r.Saga, .int .i64 r.Step, .int .i64 r.Try, .int .i64 r.At, .int .i64 r.Last, .int .i64 r.Code, .int .i64 r.Count, .int .i64 r.Pivot, .string r.Name, .slice A r.Data.length c, .int .i64 to, .int .i64 fr, .slice B n d]
section
variable (k : Int) (r : Rec) (A : Option Addr) (c : Nat) (to fr : Int) (B : Option Addr) (n d : Nat)
theorem opC_size : (opC k r A c to fr B n d).size = 16 := rfl
theorem opC_0 : (opC k r A c to fr B n d)[0]? = some (.int .i64 k) := rfl
theorem opC_13 : (opC k r A c to fr B n d)[13]? = some (.int .i64 to) := rfl
theorem opC_14 : (opC k r A c to fr B n d)[14]? = some (.int .i64 fr) := rfl
theorem opC_15 : (opC k r A c to fr B n d)[15]? = some (.slice B n d) := rfl
theorem opC_one : (opC k r A c to fr B n d).all (·.oneCell') = true := by simp [opC, Value.oneCell']
theorem opC_rec : ∀ j v, (r.cells A c)[j]? = some v → (opC k r A c to fr B n d)[1 + j]? = some v := by
  intro j v h
  have hj : j < 12 := (Array.getElem?_eq_some_iff.1 h).1
  obtain rfl | rfl | rfl | rfl | rfl | rfl | rfl | rfl | rfl | rfl | rfl | rfl : j = 0 ∨ j = 1 ∨ j = 2 ∨ j = 3 ∨ j = 4 ∨ j = 5 ∨ j = 6 ∨ j = 7 ∨ j = 8 ∨ j = 9 ∨ j = 10 ∨ j = 11 := by omega
  all_goals exact h
theorem op_size_ : (Tryd.prog.info? 129).map (·.size) = some 16 := by kernel_rfl
end
theorem op_load {w : World} {g : Nat} {t : TypeId} {k : Int} {r : Rec} {A : Option Addr} {c : Nat} {to fr : Int} {B : Option Addr} {n d : Nat} (h : Blk w g t (opC k r A c to fr B n d)) : ∀ j v, (r.cells A c)[j]? = some v → w.cell? ((⟨g, 1, none⟩ : Addr).add j) = some v := by
  intro j v hv
  rw [show (⟨g, 1, none⟩ : Addr).add j = ⟨g, 1 + j, none⟩ by unfold Addr.add; split <;> simp_all, h.cell]
  exact opC_rec k r A c to fr B n d j v hv
attribute [local go_sem] opC_size opC_0 opC_13 opC_14 opC_15

set_option maxHeartbeats 2000000 in
set_option maxRecDepth 100000 in
theorem oneUp (r : Rec) (A : Option Addr) (c : Nat) (to fr : Int) (B : Option Addr) (n d : Nat) (hf : r.Fits) (hz : r.Name.size ≤ 1099511627776) (w : World) (hT : Tabs w) (ht : Tab w 2 waysL) (hR : RTabs w) (hd : RB w A r.Data) :
    Calls Tryd.prog 115 #[.agg (opC 1 r A c to fr B n d)] w fun e w' => e = .returned (.bool true) ∧ Below w.heap.size w w' := by
  have HB := Below.refl w.heap.size w
  have HT := Lib.hid hT
  have Ht := Lib.hid ht
  have HR := Lib.hid hR
  have cu := fun w => up_calls r A c to hf w
  have cr := fun w => refUp_calls r A c to hf hz w
  unfold MoveSaid at cr
  have huf : (upR r to).Fits := hf.up to
  generalize upR r to = u at cu cr huf
  generalize upE r to = e at cu cr
  have hul := huf.data
  have Cu := Lib.hid cu
  have Cr := Lib.hid cr
  clear cu cr huf hT ht hR
  go_enter Tryd.func115, Tryd.ntmps115
  go_wp2_with (first
    | ((with_reducible refine gate_dst (N := 1) rfl ?_); refine ev_box rfl rfl (opC 1 r A c to fr B n d) rfl ?_; intro g1 W1 hg1 hsz hbn; have hgr := grown_of_below hbn; have zg1 : w.heap.size ≤ g1 := (by have := HB.size; omega); replace HB := HB.grown hgr (by have := HB.size; omega) (by simp); have hcg1 := hg1.cell; have hfg1 := hg1.frozen; clear hsz hbn hgr)
    | ((with_reducible refine gate_dst (N := 21) rfl ?_); refine ev_load_at rfl rfl rfl (op_load hg1) Tryd.underlying35 rfl rec_size ?_)
    | (go_at_call 34; (with_reducible refine (Cu.out _ (HT.out.next HB) (Ht.out.next HB) (hd.next HB)).mono ?_); rintro e W2 ⟨A5, c5, rfl, hd5, hb⟩; have hgr := grown_of_below hb; replace hg1 := hg1.grown hgr (by simp); replace HB := HB.grown hgr (by have := HB.size; omega) (by simp); replace hcg1 := hg1.cell; replace hfg1 := hg1.frozen; clear hb hgr)
    | ((with_reducible refine gate_dst (N := 3) rfl ?_); refine ev_alloc rfl rfl _ rec_zero ?_; intro g3 W3 hg3 hsz hbn; have hgr := grown_of_below hbn; have ng1g3 : g1 ≠ g3 := (by have := hg1.lt; omega); replace hg3 : Blk W3 g3 _ (Rec.zero.cells none 0) := hg3; have zg3 : w.heap.size ≤ g3 := (by have := HB.size; omega); replace hd5 := hd5.kept hgr (by simp); replace hg1 := hg1.grown hgr (by simp); replace HB := HB.grown hgr (by have := HB.size; omega) (by simp); have hcg3 := hg3.cell; have hfg3 := hg3.frozen; replace hcg1 := hg1.cell; replace hfg1 := hg1.frozen; clear hsz hbn hgr)
    | ((with_reducible refine gate_store (p := 3) rfl ?_); refine ev_store_row (cs := u.cells A5 c5) rfl rfl rfl hg3 rfl rfl rec_size rfl (cells_one _ _ _) ?_; intro W4 hgn hgr; replace hd5 := hd5.kept hgr (RU.ne_blk hd5 hg3 (by decide)); replace hg1 := hg1.grown hgr (by intro e; injection e with e; omega); replace HB := HB.grown hgr (by have := HB.size; omega) (by intro k e; injection e with e; omega); replace hg3 := hgn; replace hcg1 := hg1.cell; replace hfg1 := hg1.frozen; replace hcg3 := hg3.cell; replace hfg3 := hg3.frozen; clear hgn hgr)
    | ((with_reducible refine gate_dst (N := 29) rfl ?_); refine ev_load_at rfl rfl rfl (op_load hg1) Tryd.underlying35 rfl rec_size ?_)
    | (go_at_call 68; (with_reducible refine (Cr.out _ (HR.out.next HB) (hd.next HB)).mono ?_); rintro e W5 ⟨A6, c6, rfl, hd6, hb⟩; have hgr := grown_of_below hb; replace hd5 := hd5.kept hgr (by simp); replace hg1 := hg1.grown hgr (by simp); replace hg3 := hg3.grown hgr (by simp); replace HB := HB.grown hgr (by have := HB.size; omega) (by simp); replace hcg1 := hg1.cell; replace hfg1 := hg1.frozen; replace hcg3 := hg3.cell; replace hfg3 := hg3.frozen; clear hb hgr)
    | ((with_reducible refine gate_dst (N := 5) rfl ?_); refine ev_alloc rfl rfl _ rec_zero ?_; intro g5 W6 hg5 hsz hbn; have hgr := grown_of_below hbn; have ng1g5 : g1 ≠ g5 := (by have := hg1.lt; omega); have ng3g5 : g3 ≠ g5 := (by have := hg3.lt; omega); replace hg5 : Blk W6 g5 _ (Rec.zero.cells none 0) := hg5; have zg5 : w.heap.size ≤ g5 := (by have := HB.size; omega); replace hd6 := hd6.kept hgr (by simp); replace hd5 := hd5.kept hgr (by simp); replace hg1 := hg1.grown hgr (by simp); replace hg3 := hg3.grown hgr (by simp); replace HB := HB.grown hgr (by have := HB.size; omega) (by simp); have hcg5 := hg5.cell; have hfg5 := hg5.frozen; replace hcg1 := hg1.cell; replace hfg1 := hg1.frozen; replace hcg3 := hg3.cell; replace hfg3 := hg3.frozen; clear hsz hbn hgr)
    | ((with_reducible refine gate_store (p := 5) rfl ?_); refine ev_store_row (cs := u.cells A6 c6) rfl rfl rfl hg5 rfl rfl rec_size rfl (cells_one _ _ _) ?_; intro W7 hgn hgr; replace hd6 := hd6.kept hgr (RU.ne_blk hd6 hg5 (by decide)); replace hd5 := hd5.kept hgr (RU.ne_blk hd5 hg5 (by decide)); replace hg1 := hg1.grown hgr (by intro e; injection e with e; omega); replace hg3 := hg3.grown hgr (by intro e; injection e with e; omega); replace HB := HB.grown hgr (by have := HB.size; omega) (by intro k e; injection e with e; omega); replace hg5 := hgn; replace hcg1 := hg1.cell; replace hfg1 := hg1.frozen; replace hcg3 := hg3.cell; replace hfg3 := hg3.frozen; replace hcg5 := hg5.cell; replace hfg5 := hg5.frozen; clear hgn hgr)
    | ((with_reducible refine gate_dst (N := 35) rfl ?_); refine wpList_load_row rfl _ _ rfl g3 rfl _ _ (0, 0) _ hg3 Tryd.underlying35 rfl rec_size ?_)
    | ((with_reducible refine gate_dst (N := 36) rfl ?_); refine wpList_load_row rfl _ _ rfl g5 rfl _ _ (0, 0) _ hg5 Tryd.underlying35 rfl rec_size ?_)
    | (go_at_call 35; (with_reducible refine (same_any u A5 A6 c5 c6 _ hd5.rb hd6.rb hul).mono ?_); rintro e W8 ⟨rfl, hb⟩; have hgr := grown_of_below hb; replace hd6 := hd6.kept hgr (by simp); replace hd5 := hd5.kept hgr (by simp); replace hg1 := hg1.grown hgr (by simp); replace hg3 := hg3.grown hgr (by simp); replace hg5 := hg5.grown hgr (by simp); replace HB := HB.grown hgr (by have := HB.size; omega) (by simp); replace hcg1 := hg1.cell; replace hfg1 := hg1.frozen; replace hcg3 := hg3.cell; replace hfg3 := hg3.frozen; replace hcg5 := hg5.cell; replace hfg5 := hg5.frozen; clear hb hgr)
    | (go_at_call 33; (with_reducible refine (num_calls _ _).mono ?_); rintro e w1 ⟨rfl, rfl⟩))
  go_ret
  exact ⟨rfl, HB⟩
set_option maxHeartbeats 2000000 in
set_option maxRecDepth 100000 in
theorem oneDown (r : Rec) (A : Option Addr) (c : Nat) (to fr : Int) (B : Option Addr) (n d : Nat) (hf : r.Fits) (hz : r.Name.size ≤ 1099511627776) (w : World) (hT : Tabs w) (ht : Tab w 2 waysL) (hR : RTabs w) (hd : RB w A r.Data) :
    Calls Tryd.prog 115 #[.agg (opC 2 r A c to fr B n d)] w fun e w' => e = .returned (.bool true) ∧ Below w.heap.size w w' := by
  have HB := Below.refl w.heap.size w
  have HT := Lib.hid hT
  have Ht := Lib.hid ht
  have HR := Lib.hid hR
  have cu := fun w => down_calls r A c to hf w
  have cr := fun w => refDown_calls r A c to hf hz w
  unfold MoveSaid at cr
  have huf : (downR r to).Fits := hf.down to
  generalize downR r to = u at cu cr huf
  generalize downE r to = e at cu cr
  have hul := huf.data
  have Cu := Lib.hid cu
  have Cr := Lib.hid cr
  clear cu cr huf hT ht hR
  go_enter Tryd.func115, Tryd.ntmps115
  go_wp2_with (first
    | ((with_reducible refine gate_dst (N := 1) rfl ?_); refine ev_box rfl rfl (opC 2 r A c to fr B n d) rfl ?_; intro g1 W1 hg1 hsz hbn; have hgr := grown_of_below hbn; have zg1 : w.heap.size ≤ g1 := (by have := HB.size; omega); replace HB := HB.grown hgr (by have := HB.size; omega) (by simp); have hcg1 := hg1.cell; have hfg1 := hg1.frozen; clear hsz hbn hgr)
    | ((with_reducible refine gate_dst (N := 48) rfl ?_); refine ev_load_at rfl rfl rfl (op_load hg1) Tryd.underlying35 rfl rec_size ?_)
    | (go_at_call 50; (with_reducible refine (Cu.out _ (HT.out.next HB) (Ht.out.next HB) (hd.next HB)).mono ?_); rintro e W2 ⟨A5, c5, rfl, hd5, hb⟩; have hgr := grown_of_below hb; replace hg1 := hg1.grown hgr (by simp); replace HB := HB.grown hgr (by have := HB.size; omega) (by simp); replace hcg1 := hg1.cell; replace hfg1 := hg1.frozen; clear hb hgr)
    | ((with_reducible refine gate_dst (N := 7) rfl ?_); refine ev_alloc rfl rfl _ rec_zero ?_; intro g3 W3 hg3 hsz hbn; have hgr := grown_of_below hbn; have ng1g3 : g1 ≠ g3 := (by have := hg1.lt; omega); replace hg3 : Blk W3 g3 _ (Rec.zero.cells none 0) := hg3; have zg3 : w.heap.size ≤ g3 := (by have := HB.size; omega); replace hd5 := hd5.kept hgr (by simp); replace hg1 := hg1.grown hgr (by simp); replace HB := HB.grown hgr (by have := HB.size; omega) (by simp); have hcg3 := hg3.cell; have hfg3 := hg3.frozen; replace hcg1 := hg1.cell; replace hfg1 := hg1.frozen; clear hsz hbn hgr)
    | ((with_reducible refine gate_store (p := 7) rfl ?_); refine ev_store_row (cs := u.cells A5 c5) rfl rfl rfl hg3 rfl rfl rec_size rfl (cells_one _ _ _) ?_; intro W4 hgn hgr; replace hd5 := hd5.kept hgr (RU.ne_blk hd5 hg3 (by decide)); replace hg1 := hg1.grown hgr (by intro e; injection e with e; omega); replace HB := HB.grown hgr (by have := HB.size; omega) (by intro k e; injection e with e; omega); replace hg3 := hgn; replace hcg1 := hg1.cell; replace hfg1 := hg1.frozen; replace hcg3 := hg3.cell; replace hfg3 := hg3.frozen; clear hgn hgr)
    | ((with_reducible refine gate_dst (N := 56) rfl ?_); refine ev_load_at rfl rfl rfl (op_load hg1) Tryd.underlying35 rfl rec_size ?_)
    | (go_at_call 69; (with_reducible refine (Cr.out _ (HR.out.next HB) (hd.next HB)).mono ?_); rintro e W5 ⟨A6, c6, rfl, hd6, hb⟩; have hgr := grown_of_below hb; replace hd5 := hd5.kept hgr (by simp); replace hg1 := hg1.grown hgr (by simp); replace hg3 := hg3.grown hgr (by simp); replace HB := HB.grown hgr (by have := HB.size; omega) (by simp); replace hcg1 := hg1.cell; replace hfg1 := hg1.frozen; replace hcg3 := hg3.cell; replace hfg3 := hg3.frozen; clear hb hgr)
    | ((with_reducible refine gate_dst (N := 9) rfl ?_); refine ev_alloc rfl rfl _ rec_zero ?_; intro g5 W6 hg5 hsz hbn; have hgr := grown_of_below hbn; have ng1g5 : g1 ≠ g5 := (by have := hg1.lt; omega); have ng3g5 : g3 ≠ g5 := (by have := hg3.lt; omega); replace hg5 : Blk W6 g5 _ (Rec.zero.cells none 0) := hg5; have zg5 : w.heap.size ≤ g5 := (by have := HB.size; omega); replace hd6 := hd6.kept hgr (by simp); replace hd5 := hd5.kept hgr (by simp); replace hg1 := hg1.grown hgr (by simp); replace hg3 := hg3.grown hgr (by simp); replace HB := HB.grown hgr (by have := HB.size; omega) (by simp); have hcg5 := hg5.cell; have hfg5 := hg5.frozen; replace hcg1 := hg1.cell; replace hfg1 := hg1.frozen; replace hcg3 := hg3.cell; replace hfg3 := hg3.frozen; clear hsz hbn hgr)
    | ((with_reducible refine gate_store (p := 9) rfl ?_); refine ev_store_row (cs := u.cells A6 c6) rfl rfl rfl hg5 rfl rfl rec_size rfl (cells_one _ _ _) ?_; intro W7 hgn hgr; replace hd6 := hd6.kept hgr (RU.ne_blk hd6 hg5 (by decide)); replace hd5 := hd5.kept hgr (RU.ne_blk hd5 hg5 (by decide)); replace hg1 := hg1.grown hgr (by intro e; injection e with e; omega); replace hg3 := hg3.grown hgr (by intro e; injection e with e; omega); replace HB := HB.grown hgr (by have := HB.size; omega) (by intro k e; injection e with e; omega); replace hg5 := hgn; replace hcg1 := hg1.cell; replace hfg1 := hg1.frozen; replace hcg3 := hg3.cell; replace hfg3 := hg3.frozen; replace hcg5 := hg5.cell; replace hfg5 := hg5.frozen; clear hgn hgr)
    | ((with_reducible refine gate_dst (N := 62) rfl ?_); refine wpList_load_row rfl _ _ rfl g3 rfl _ _ (0, 0) _ hg3 Tryd.underlying35 rfl rec_size ?_)
    | ((with_reducible refine gate_dst (N := 63) rfl ?_); refine wpList_load_row rfl _ _ rfl g5 rfl _ _ (0, 0) _ hg5 Tryd.underlying35 rfl rec_size ?_)
    | (go_at_call 35; (with_reducible refine (same_any u A5 A6 c5 c6 _ hd5.rb hd6.rb hul).mono ?_); rintro e W8 ⟨rfl, hb⟩; have hgr := grown_of_below hb; replace hd6 := hd6.kept hgr (by simp); replace hd5 := hd5.kept hgr (by simp); replace hg1 := hg1.grown hgr (by simp); replace hg3 := hg3.grown hgr (by simp); replace hg5 := hg5.grown hgr (by simp); replace HB := HB.grown hgr (by have := HB.size; omega) (by simp); replace hcg1 := hg1.cell; replace hfg1 := hg1.frozen; replace hcg3 := hg3.cell; replace hfg3 := hg3.frozen; replace hcg5 := hg5.cell; replace hfg5 := hg5.frozen; clear hb hgr)
    | (go_at_call 33; (with_reducible refine (num_calls _ _).mono ?_); rintro e w1 ⟨rfl, rfl⟩))
  go_ret
  exact ⟨rfl, HB⟩
set_option maxHeartbeats 2000000 in
set_option maxRecDepth 100000 in
theorem oneLeast (k : Int) (h1 : k ≠ 1) (h2 : k ≠ 2) (r : Rec) (A : Option Addr) (c : Nat) (to fr : Int) (B : Option Addr) (n d : Nat) (hf : r.Fits) (hz : r.Name.size ≤ 1099511627776) (w : World) (hT : Tabs w) (ht : Tab w 2 waysL) (hR : RTabs w) (hd : RB w A r.Data) :
    Calls Tryd.prog 115 #[.agg (opC k r A c to fr B n d)] w fun e w' => e = .returned (.bool true) ∧ Below w.heap.size w w' := by
  have HB := Below.refl w.heap.size w
  have HT := Lib.hid hT
  have Ht := Lib.hid ht
  have HR := Lib.hid hR
  have cu := fun w => least_calls r A c hf w
  have cr := fun w => refLeast_calls r A c hf hz w
  generalize leastN r = u at cu cr
  generalize r.chk = e at cu cr
  have Cu := Lib.hid cu
  have Cr := Lib.hid cr
  have t1 := int_beq_false h1
  have t2 := int_beq_false h2
  have t3 : (u == u) = true := by simp
  have t4 : (e == e) = true := by simp
  clear cu cr hT ht hR h1 h2
  go_enter Tryd.func115, Tryd.ntmps115
  go_wp2_with (first
    | ((with_reducible refine gate_dst (N := 1) rfl ?_); refine ev_box rfl rfl (opC k r A c to fr B n d) rfl ?_; intro g1 W1 hg1 hsz hbn; have hgr := grown_of_below hbn; have zg1 : w.heap.size ≤ g1 := (by have := HB.size; omega); replace HB := HB.grown hgr (by have := HB.size; omega) (by simp); have hcg1 := hg1.cell; have hfg1 := hg1.frozen; clear hsz hbn hgr)
    | ((with_reducible refine gate_dst (N := 73) rfl ?_); refine ev_load_at rfl rfl rfl (op_load hg1) Tryd.underlying35 rfl rec_size ?_)
    | (go_at_call 59; (with_reducible refine (Cu.out _ (HT.out.next HB) (Ht.out.next HB) (hd.next HB)).mono ?_); rintro e W2 ⟨rfl, hb⟩; have hgr := grown_of_below hb; replace hg1 := hg1.grown hgr (by simp); replace HB := HB.grown hgr (by have := HB.size; omega) (by simp); replace hcg1 := hg1.cell; replace hfg1 := hg1.frozen; clear hb hgr)
    | ((with_reducible refine gate_dst (N := 79) rfl ?_); refine ev_load_at rfl rfl rfl (op_load hg1) Tryd.underlying35 rfl rec_size ?_)
    | (go_at_call 131; (with_reducible refine (Cr.out _ (HR.out.next HB) (hd.next HB)).mono ?_); rintro e W3 ⟨rfl, hb⟩; have hgr := grown_of_below hb; replace hg1 := hg1.grown hgr (by simp); replace HB := HB.grown hgr (by have := HB.size; omega) (by simp); replace hcg1 := hg1.cell; replace hfg1 := hg1.frozen; clear hb hgr)
    | (go_at_call 33; (with_reducible refine (num_calls _ _).mono ?_); rintro e w1 ⟨rfl, rfl⟩))
  go_ret
  exact ⟨rfl, HB⟩
theorem one_calls (k : Int) (r : Rec) (A : Option Addr) (c : Nat) (to fr : Int) (B : Option Addr) (n d : Nat) (hf : r.Fits) (hz : r.Name.size ≤ 1099511627776) (w : World) (hT : Tabs w) (ht : Tab w 2 waysL) (hR : RTabs w) (hd : RB w A r.Data) :
    Calls Tryd.prog 115 #[.agg (opC k r A c to fr B n d)] w fun e w' => e = .returned (.bool true) ∧ Below w.heap.size w w' := by
  by_cases h1 : k = 1
  · subst h1
    exact oneUp r A c to fr B n d hf hz w hT ht hR hd
  by_cases h2 : k = 2
  · subst h2
    exact oneDown r A c to fr B n d hf hz w hT ht hR hd
  exact oneLeast k h1 h2 r A c to fr B n d hf hz w hT ht hR hd
end Go.Proofs.YtjhiohjpkdjkoaaDoor
namespace Go.Proofs.YtjhiohjpkdjkoaaDoor
open Go.RowKit

theorem map_len {l m : List RA} (h : m.map (·.1) = l.map (·.1)) : m.length = l.length := by have := congrArg List.length h; simpa using this
theorem map_fits {l m : List RA} (h : m.map (·.1) = l.map (·.1)) (hf : ∀ y ∈ l, y.1.Fits) : ∀ y ∈ m, y.1.Fits := fun y hy => by
  have : y.1 ∈ l.map (·.1) := h ▸ List.mem_map.2 ⟨y, hy, rfl⟩
  obtain ⟨z, hz, e⟩ := List.mem_map.1 this
  rw [← e]
  exact hf z hz
theorem map_name {l m : List RA} {n : Nat} (h : m.map (·.1) = l.map (·.1)) (hf : ∀ y ∈ l, y.1.Name.size ≤ n) : ∀ y ∈ m, y.1.Name.size ≤ n := fun y hy => by
  have : y.1 ∈ l.map (·.1) := h ▸ List.mem_map.2 ⟨y, hy, rfl⟩
  obtain ⟨z, hz, e⟩ := List.mem_map.1 this
  rw [← e]
  exact hf z hz
theorem map_data {l m : List RA} {n : Nat} (h : m.map (·.1) = l.map (·.1)) (hf : ∀ y ∈ l, y.1.Data.length ≤ n) : ∀ y ∈ m, y.1.Data.length ≤ n := fun y hy => by
  have : y.1 ∈ l.map (·.1) := h ▸ List.mem_map.2 ⟨y, hy, rfl⟩
  obtain ⟨z, hz, e⟩ := List.mem_map.1 this
  rw [← e]
  exact hf z hz
theorem map_room {l m : List RA} (h : m.map (·.1) = l.map (·.1)) : l.map (fun x => roomy x.1.Data) = m.map (fun x => roomy x.1.Data) := by
  have := congrArg (List.map fun r : Rec => roomy r.Data) h
  simpa [List.map_map, Function.comp_def] using this.symm
theorem RR.of_own {w : World} {base n c : Nat} {A : Option Addr} {e : TypeId} {os : List RA} (h : w.ownsRow base e 12 (.slice A n c) n (recCells os)) (hn : os.length = n) (hS : RUs w os) : RR w A os :=
  ⟨by subst hn; exact Reads.of_own h, fun x hx => (hS x hx).rb⟩
theorem RR.prefix {w : World} {A : Option Addr} {os ps : List RA} (h : RR w A (os ++ ps)) : RR w A os := by
  refine ⟨⟨by rw [recCells_length], fun hn => ?_⟩, fun x hx => h.data x (List.mem_append_left _ hx)⟩
  obtain ⟨ad, e, hb, hc⟩ := h.row.2 (by rw [List.length_append]; omega)
  refine ⟨ad, e, hb, fun j u hu => hc j u ?_⟩
  have hj : j < (recCells os).length := (List.getElem?_eq_some_iff.1 hu).1
  rw [recCells_append, List.getElem?_append_left hj]
  exact hu
theorem mem_one {α : Type} {x a : α} (h : x ∈ [a]) : x = a := by simpa using h
theorem RR.one {w : World} {g : Nat} {t : TypeId} {r : Rec} {A : Option Addr} {c : Nat} (hg : Blk w g t (r.cells A c)) (hd : RB w A r.Data) : RR w (some ⟨g, 0, none⟩) [(r, A, c)] :=
  ⟨by rw [recCells_one]; exact hg.reads (size := 12) (n := 1) rfl, fun x hx => by rw [mem_one hx]; exact hd⟩
theorem one_of_map {os : List RA} {r : Rec} (h : os.map (·.1) = [r]) : ∃ A c, os = [(r, A, c)] := by
  cases os with
  | nil => cases h
  | cons x t =>
    cases t with
    | nil =>
      obtain ⟨r', A, c⟩ := x
      have : r' = r := by simpa using h
      exact ⟨A, c, by rw [this]⟩
    | cons y t => simp at h
theorem one_of_mapB {os : List BA} {b : List UInt8} (h : os.map (·.1) = [b]) : ∃ A c, os = [(b, A, c)] := by
  cases os with
  | nil => cases h
  | cons x t =>
    cases t with
    | nil =>
      obtain ⟨b', A, c⟩ := x
      have : b' = b := by simpa using h
      exact ⟨A, c, by rw [this]⟩
    | cons y t => simp at h

theorem copies_n (l : List RA) (n : Nat) (hn : l.length = n) (A : Option Addr) (c : Nat) (hl : n * 120 ≤ 140737488351232) (hfit : ∀ y ∈ l, y.1.Fits) (w : World) (hr : RR w A l) :
    Calls Tryd.prog 61 #[.slice A n c] w fun e w' => ∃ (A' : Option Addr) (c' : Nat) (os : List RA), e = .returned (.slice A' n c') ∧ Aside (os.map (·.1) = l.map (·.1)) ∧ w'.ownsRow w.heap.size 35 12 (.slice A' n c') n (recCells os) ∧ RUs w' os ∧ Below w.heap.size w w' := by
  subst hn
  refine (copies_calls l A c hl hfit w hr).mono fun e w' ⟨A', c', os, he, hos, ho, hS, hb⟩ => ?_
  rw [map_len hos] at he ho
  exact ⟨A', c', os, he, hos, ho, hS, hb⟩
theorem laid_n (l : List RA) (n : Nat) (hn : l.length = n) (A : Option Addr) (c : Nat) (hl : n * 120 ≤ 140737488351232) (hfit : ∀ y ∈ l, y.1.Fits) (w : World) (hr : RR w A l) :
    Calls Tryd.prog 114 #[.slice A n c] w fun e w' => ∃ (A1 : Option Addr) (c1 : Nat) (os : List RA) (A2 : Option Addr) (c2 : Nat) (ws : List BA), e = .returned (.tuple #[.slice A1 n c1, .slice A2 n c2]) ∧ Aside (os.map (·.1) = l.map (·.1) ∧ ws.map (·.1) = l.map (fun x => roomy x.1.Data)) ∧
      w'.ownsRow w.heap.size 35 12 (.slice A1 n c1) n (recCells os) ∧ RUs w' os ∧ w'.ownsRow w.heap.size 33 1 (.slice A2 n c2) n (baCells ws) ∧ RZs w' ws ∧ Below w.heap.size w w' := by
  subst hn
  refine (laid_calls l A c hl hfit w hr).mono fun e w' ⟨A1, c1, os, A2, c2, ws, he, hos, hws, ho, hS, ho2, hZ, hb⟩ => ?_
  have hwl : ws.length = l.length := by have := congrArg List.length hws; simpa using this
  rw [map_len hos, hwl] at he
  rw [map_len hos] at ho
  rw [hwl] at ho2
  exact ⟨A1, c1, os, A2, c2, ws, he, ⟨hos, hws⟩, ho, hS, ho2, hZ, hb⟩
theorem laid_one (r : Rec) (g : Nat) (t : TypeId) (A : Option Addr) (c : Nat) (hfit : r.Fits) (w : World) (hg : Blk w g t (r.cells A c)) (hd : RB w A r.Data) :
    Calls Tryd.prog 114 #[.slice (some ⟨g, 0, none⟩) 1 1] w fun e w' => ∃ (g1 c1 : Nat) (Ad : Option Addr) (cd : Nat) (A2 : Option Addr) (c2 : Nat) (Aw : Option Addr) (cw : Nat), e = .returned (.tuple #[.slice (some ⟨g1, 0, none⟩) 1 c1, .slice A2 1 c2]) ∧
      w'.ownsRow w.heap.size 35 12 (.slice (some ⟨g1, 0, none⟩) 1 c1) 1 (recCells [(r, Ad, cd)]) ∧ RU w' Ad r.Data ∧ w'.ownsRow w.heap.size 33 1 (.slice A2 1 c2) 1 (baCells [(roomy r.Data, Aw, cw)]) ∧ RU w' Aw (roomy r.Data) ∧ Below w.heap.size w w' := by
  refine (laid_n [(r, A, c)] 1 rfl (some ⟨g, 0, none⟩) 1 (by decide) (fun y hy => by rw [mem_one hy]; exact hfit) w (RR.one hg hd)).mono fun e w' ⟨A1, c1, os, A2, c2, ws, he, hm, ho, hS, ho2, hZ, hb⟩ => ?_
  obtain ⟨hos, hws⟩ := hm.out
  obtain ⟨Ad, cd, rfl⟩ := one_of_map (r := r) hos
  obtain ⟨Aw, cw, rfl⟩ := one_of_mapB (b := roomy r.Data) hws
  obtain ⟨g1, rfl, _⟩ := own_at ho (by decide)
  exact ⟨g1, c1, Ad, cd, A2, c2, Aw, cw, he, ho, hS (r, Ad, cd) (List.mem_singleton.2 rfl), ho2, hZ (roomy r.Data, Aw, cw) (List.mem_singleton.2 rfl), hb⟩
/-- The cells of a row of records. -/
theorem own_load {w : World} {base n g c : Nat} {e : TypeId} {os : List RA} {k : Nat} {x : RA} (h : w.ownsRow base e 12 (.slice (some ⟨g, 0, none⟩) n c) n (recCells os)) (hx : os[k]? = some x) : ∀ j v, (x.1.cells x.2.1 x.2.2)[j]? = some v → w.cell? (((⟨g, 0, none⟩ : Addr).add (k * 12)).add j) = some v := by
  intro j v hv
  have hj : j < 12 := (Array.getElem?_eq_some_iff.1 hv).1
  rw [add_of_add]
  exact h.cells (g := g) rfl _ _ (by rw [recCells_get hx j hj]; exact hv)
/-- The record behind the list. -/
def padR : Rec := { Rec.zero with V := -201 }
def pads (j : Nat) : List RA := List.replicate j (padR, none, 0)
theorem pads_succ (j : Nat) : pads (j + 1) = pads j ++ [(padR, none, 0)] := by unfold pads; exact List.replicate_succ'
theorem pads_RU (w : World) (j : Nat) : RUs w (pads j) := fun x hx => by
  obtain ⟨_, rfl⟩ := List.mem_replicate.1 hx
  exact RU.nil
theorem pads_at {os : List RA} {n i : Nat} (hn : os.length = n) (hi : i < 20) : (os ++ pads 20)[n + i]? = some (padR, none, 0) := by
  rw [List.getElem?_append_right (by omega), hn, Nat.add_sub_cancel_left]
  unfold pads
  rw [List.getElem?_replicate, if_pos hi]
theorem pad_same (A : Option Addr) (c : Nat) (w : World) :
    Calls Tryd.prog 35 #[.agg (padR.cells A c), .agg #[.int .i64 (-201), .int .i64 0, .int .i64 0, .int .i64 0, .int .i64 0, .int .i64 0, .int .i64 0, .int .i64 0, .int .i64 0, .int .i64 0, .string ⟨#[]⟩, .slice none 0 0]] w fun e w' => e = .returned (.bool true) ∧ Below w.heap.size w w' :=
  same_any padR A none c 0 w RB.nil RB.nil (by decide)
/-- What lies apart from a row lies apart from what it grows to. -/
theorem own_apart_app {w : World} {b s n : Nat} {e : TypeId} {v v7 v7' : Value} {xs : List Value} (h : w.ownsRow b e s v n xs) (d : v.ownBlock = none ∨ v.ownBlock ≠ v7.ownBlock) (hat : v7'.ownBlock = v7.ownBlock ∨ v7'.ownBlock = some w.heap.size) : v.ownBlock = none ∨ v.ownBlock ≠ v7'.ownBlock := by
  rcases hat with e | e
  · rw [e]; exact d
  · rw [e]
    cases hv : v.ownBlock with
    | none => exact .inl rfl
    | some k =>
      refine .inr fun h' => ?_
      have := own_lt h k hv
      injection h' with h'
      omega

theorem own_blk_far {w : World} {b s n g : Nat} {e : TypeId} {v : Value} {xs : List Value} (h : w.ownsRow b e s v n xs) (hg : g < b) : v.ownBlock ≠ some g := fun he => by
  have := own_base h g he
  omega
theorem own_blk_app {w : World} {v7 v7' : Value} {g : Nat} (d : v7.ownBlock ≠ some g) (hg : g < w.heap.size) (hat : v7'.ownBlock = v7.ownBlock ∨ v7'.ownBlock = some w.heap.size) : v7'.ownBlock ≠ some g := by
  rcases hat with e | e
  · rw [e]; exact d
  · rw [e]
    intro h
    injection h with h
    omega

/-! ### UpAll and Steps, both at once -/
theorem upAllR_fits {to : Int} {l : List Rec} (h : ∀ r ∈ l, r.Fits) : (∀ r ∈ upAllR to l, r.Fits) ∧ (upAllR to l).length ≤ l.length := by
  unfold upAllR
  split
  · refine ⟨(fun r hr => ?_), by simp⟩
    obtain ⟨x, hx, rfl⟩ := List.mem_map.1 hr
    exact (h x hx).up to
  · exact ⟨(fun r hr => by cases hr), by simp⟩
theorem mapped {l : List RA} (h : ∀ y ∈ l, y.1.Fits) : ∀ r ∈ l.map (fun x : RA => x.1), r.Fits := fun r hr => by
  obtain ⟨x, hx, rfl⟩ := List.mem_map.1 hr
  exact h x hx
theorem upAll_pair (to : Int) (l : List RA) (n : Nat) (hn : l.length = n) (A : Option Addr) (c : Nat) (hl : n * 120 ≤ 140737488351232) (hfit : ∀ y ∈ l, y.1.Fits) (hnm : ∀ y ∈ l, y.1.Name.size ≤ 1099511627776) :
    ∃ (ua ue : Int) (X : List Rec), (∀ r ∈ X, r.Fits) ∧ X.length ≤ n ∧
      (∀ w, Tabs w → Tab w 2 waysL → RR w A l → Calls Tryd.prog 32 #[.int .i64 to, .slice A n c] w fun e w' => ∃ (A' : Option Addr) (c' : Nat) (os : List RA), e = .returned (.tuple #[.slice A' os.length c', .int .i64 ua, .int .i64 ue]) ∧ Aside (os.map (·.1) = X) ∧
        w'.ownsRow w.heap.size 35 12 (.slice A' os.length c') os.length (recCells os) ∧ RUs w' os ∧ Below w.heap.size w w') ∧
      (∀ w, RTabs w → RR w A l → Calls Tryd.prog 55 #[.int .i64 to, .slice A n c] w fun e w' => ∃ (A' : Option Addr) (c' : Nat) (os : List RA), e = .returned (.tuple #[.slice A' os.length c', .int .i64 ua, .int .i64 ue]) ∧ Aside (os.map (·.1) = X) ∧
        w'.ownsRow w.heap.size 35 12 (.slice A' os.length c') os.length (recCells os) ∧ RUs w' os ∧ Below w.heap.size w w') := by
  subst hn
  obtain ⟨f1, f2⟩ := upAllR_fits (to := to) (l := l.map (·.1)) (mapped hfit)
  refine ⟨upAllAt to (l.map (·.1)), upAllE to (l.map (·.1)), upAllR to (l.map (·.1)), f1, by simpa using f2, fun w hT ht hr => ?_, fun w hR hr => ?_⟩
  · exact (upAll_calls to l A c hl hfit w hT ht hr).mono fun e w' ⟨A', c', os, he, hos, ho, hS, hb⟩ => ⟨A', c', os, he, hos, ho, hS, hb⟩
  · exact (refUpAll_calls to l A c hl hfit hnm w hR hr).mono fun e w' ⟨A', c', os, he, hos, ho, hS, hb⟩ => ⟨A', c', os, he, hos, ho, hS, hb⟩
theorem fits_of_map {os : List RA} {X : List Rec} (h : os.map (·.1) = X) (hX : ∀ r ∈ X, r.Fits) : ∀ y ∈ os, y.1.Fits := fun y hy => hX _ (h ▸ List.mem_map.2 ⟨y, hy, rfl⟩)
theorem len_of_map {os : List RA} {X : List Rec} (h : os.map (·.1) = X) : os.length = X.length := by have := congrArg List.length h; simpa using this
theorem sameAll_n (l m : List RA) (n : Nat) (hn : l.length = n) (A B : Option Addr) (c d : Nat) (hlm : l.map (·.1) = m.map (·.1)) (hl : n ≤ 140737488351232) (hfit : ∀ y ∈ l, y.1.Fits) (w : World) (ha : RR w A l) (hb : RR w B m) :
    Calls Tryd.prog 63 #[.slice A n c, .slice B n d] w fun e w' => e = .returned (.bool true) ∧ Below w.heap.size w w' := by
  subst hn
  have := sameAll_calls l m A B c d hlm hl hfit w ha hb
  rwa [map_len hlm.symm] at this
theorem untouched_n (ws : List BA) (l : List RA) (n : Nat) (hn : l.length = n) (W0 A : Option Addr) (c0 c base : Nat) (hmap : ws.map (·.1) = l.map (fun x => roomy x.1.Data)) (hl : n ≤ 140737488351232) (hfit : ∀ y ∈ l, y.1.Fits) (hsm : ∀ y ∈ l, y.1.Data.length ≤ 1099511627776) (w : World)
    (hw : w.ownsRow base 33 1 (.slice W0 n c0) n (baCells ws)) (hz : RZs w ws) (hr : RR w A l) :
    Calls Tryd.prog 117 #[.slice W0 n c0, .slice A n c] w fun e w' => e = .returned (.bool true) ∧ Below w.heap.size w w' := by
  subst hn
  have hwl : ws.length = l.length := by have := congrArg List.length hmap; simpa using this
  rw [← hwl] at hw
  have := untouched_calls ws l W0 A c0 c hmap hl hfit hsm w (Reads.of_own hw) hz hr
  rwa [hwl] at this
end Go.Proofs.YtjhiohjpkdjkoaaDoor
