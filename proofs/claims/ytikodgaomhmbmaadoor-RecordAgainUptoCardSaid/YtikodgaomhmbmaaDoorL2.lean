/-
  The walks of lift.Steps and annalslaw4.sameWords.
-/
import Derived.Test.YtikodgaomhmbmaaDoorL1
set_option linter.unusedVariables false
set_option linter.unusedSimpArgs false
namespace Go.Proofs.YtikodgaomhmbmaaDoor
open Go.RowKit

/-- An operation whose guard is met is one without a guard. -/
theorem wpList_ungate {P : Program} {ops : Array Oper} {Q : Exit → Act → World → Prop} {a : Act} {w : World} {rest : List Oper} {o : Oper} (hw : Region.wanted o (yielded ops a.tmps) = true)
    (h : wpList P ops Q ({ o with guard := none } :: rest) a w) : wpList P ops Q (o :: rest) a w := by
  unfold wpList at h ⊢
  rw [if_pos hw]
  rw [if_pos (by simp [Region.wanted])] at h
  cases o
  exact h

/-- Strings as cells. -/
def strs (l : List ByteArray) : List Value := l.map .string
theorem strs_length (l : List ByteArray) : (strs l).length = l.length := by simp [strs]
theorem strs_get {l : List ByteArray} {k : Nat} (h : k < l.length) : (strs l)[k]? = some (.string l[k]) := by simp [strs, h]
theorem strs_append (l m : List ByteArray) : strs (l ++ m) = strs l ++ strs m := by simp [strs]
theorem strs_one {l : List ByteArray} : ∀ u ∈ strs l, u.oneCell' = true := by
  intro u hu
  obtain ⟨b, _, rfl⟩ := List.mem_map.1 hu
  rfl
/-- The slice value (A, l.length, whatever) reads as the strings l. -/
def RS (w : World) (A : Option Addr) (l : List ByteArray) : Prop := Reads w w.heap.size 1 A l.length (strs l)
theorem RS.next {w w' : World} {A : Option Addr} {l : List ByteArray} (h : RS w A l) (hb : Below w.heap.size w w') : RS w' A l := Reads.next h hb
theorem RS.get {w : World} {A : Option Addr} {l : List ByteArray} (h : RS w A l) {k : Nat} (hk : k < l.length) : ∃ ad, A = some ad ∧ w.cell? (ad.add k) = some (.string l[k]) := by
  obtain ⟨ad, u, e, _, hx, hc⟩ := Reads.at_ h hk
  rw [strs_get hk] at hx
  injection hx with hx
  exact ⟨ad, e, hx ▸ hc⟩
theorem own_rs {w : World} {base : Nat} {A : Option Addr} {c : Nat} {l : List ByteArray} {e : TypeId} (h : w.ownsRow base e 1 (.slice A l.length c) l.length (strs l)) : RS w A l := Reads.of_own h

section
variable (a b : Int) (s : ByteArray) (f : Nat)
theorem stepCells_size : (stepCells a b s f).size = 4 := rfl
theorem stepCells_0 : (stepCells a b s f)[0]? = some (.int .i64 a) := rfl
theorem stepCells_1 : (stepCells a b s f)[1]? = some (.int .i64 b) := rfl
theorem stepCells_2 : (stepCells a b s f)[2]? = some (.string s) := rfl
theorem stepCells_3 : (stepCells a b s f)[3]? = some (.func (.func f) #[] #[]) := rfl
theorem stepCells_one : (stepCells a b s f).all (·.oneCell') = true := by simp [stepCells, Value.oneCell']
end

/-- The first step from a to b: where it leads, its name, its function. -/
def hopTo (a b : Int) : Int := if a = 1 then 2 else if a = 3 then 2 else b
def hopNm (a b : Int) : ByteArray := if a = 1 then nm1to2 else if a = 3 then nm3to2 else if b = 1 then nm2to1 else nm2to3
def hopFn (a b : Int) : Nat := if a = 1 then 96 else if a = 3 then 97 else if b = 1 then 98 else 83
def stepsL (a b : Int) : List ByteArray :=
  if a = 1 ∧ b = 2 then [nm1to2] else if a = 1 ∧ b = 3 then [nm1to2, nm2to3] else if a = 2 ∧ b = 3 then [nm2to3] else
  if a = 2 ∧ b = 1 then [nm2to1] else if a = 3 ∧ b = 1 then [nm3to2, nm2to1] else if a = 3 ∧ b = 2 then [nm3to2] else []
/-- One of the three versions. -/
def Ver (a : Int) : Prop := a = 1 ∨ a = 2 ∨ a = 3
theorem Ver.of {a : Int} (h1 : 1 ≤ a) (h3 : a ≤ 3) : Ver a := by unfold Ver; omega
theorem Ver.hop {a b : Int} (ha : Ver a) (hb : Ver b) : Ver (hopTo a b) := by
  unfold hopTo Ver at *
  split <;> (try split) <;> omega
theorem hop_steps {a b : Int} (ha : Ver a) (hb : Ver b) (hne : a ≠ b) : stepsL a b = hopNm a b :: stepsL (hopTo a b) b := by
  obtain rfl | rfl | rfl := ha <;> obtain rfl | rfl | rfl := hb <;> first | exact absurd rfl hne | rfl
theorem steps_self (a : Int) : stepsL a a = [] := by
  unfold stepsL
  repeat' (split; omega)
  rfl
theorem steps_len (a b : Int) : (stepsL a b).length ≤ 2 := by
  unfold stepsL
  repeat' split
  all_goals simp
theorem next_calls {a b : Int} (ha : Ver a) (hb : Ver b) (hne : a ≠ b) (w : World) (ht : Tab w 1 waysL) :
    Calls Tryd.prog 62 #[.int .i64 a, .int .i64 b] w fun e w' => e = .returned (.agg (stepCells a (hopTo a b) (hopNm a b) (hopFn a b))) ∧ Below w.heap.size w w' := by
  obtain rfl | rfl | rfl := ha <;> obtain rfl | rfl | rfl := hb <;> first | exact absurd rfl hne | skip
  · exact next12_calls w ht
  · exact next13_calls w ht
  · exact next21_calls w ht
  · exact next23_calls w ht
  · exact next31_calls w ht
  · exact next32_calls w ht

attribute [local go_sem] stepCells_size stepCells_0 stepCells_1 stepCells_2 stepCells_3
set_option maxHeartbeats 1000000 in
set_option maxRecDepth 100000 in
theorem steps_calls (a b : Int) (w : World) (ht : Tab w 1 waysL) :
    Calls Tryd.prog 21 #[.int .i64 a, .int .i64 b] w fun e w' => ∃ A c, e = .returned (.slice A (stepsL a b).length c) ∧ w'.ownsRow w.heap.size 9 1 (.slice A (stepsL a b).length c) (stepsL a b).length (strs (stepsL a b)) ∧ Below w.heap.size w w' := by
  have HB := Below.refl w.heap.size w
  by_cases ha : Ver a
  · have h1 : (decide (1 ≤ a) && decide (a ≤ 3)) = true := by unfold Ver at ha; simp; omega
    by_cases hb : Ver b
    · have h2 : (decide (1 ≤ b) && decide (b ≤ 3)) = true := by unfold Ver at hb; simp; omega
      have Ha := Lib.hid ha
      have Hb := Lib.hid hb
      have Ht := Lib.hid ht
      clear ha hb ht
      go_enter Tryd.func21, Tryd.ntmps21
      go_wp2_with (first
        | (go_at_call 61; (with_reducible refine (known_calls _ _).mono ?_); rintro e w1 ⟨rfl, rfl⟩; rw [h1])
        | (go_at_call 61; (with_reducible refine (known_calls _ _).mono ?_); rintro e w1 ⟨rfl, rfl⟩; rw [h2]))
      go_loopg [0, 5] (stepsL a b).length (fun n v0 v5 wr => ∃ (a' : Int) (A : Option Addr) (c : Nat) (acc : List ByteArray), v0 = .int .i64 a' ∧ v5 = .slice A acc.length c ∧ n = (stepsL a' b).length ∧
        Aside (Ver a' ∧ acc ++ stepsL a' b = stepsL a b ∧ wr.ownsRow w.heap.size 9 1 (.slice A acc.length c) acc.length (strs acc) ∧ Below w.heap.size w wr))
      case atStart => exact ⟨a, none, 0, [], rfl, rfl, rfl, ⟨Ha.out, rfl, own_nil _ _ _ _, HB⟩⟩
      case round =>
        obtain ⟨a', A, c, acc, rfl, rfl, hn, HA⟩ := hrel
        obtain ⟨hv, hacc, o1, HB⟩ := HA.out
        by_cases hab : a' = b
        · subst hab
          rw [steps_self, List.append_nil] at hacc
          subst hacc
          have e1 : (a' != a') = false := by simp
          clear h1 h2 hv
          go_wp2
          go_ret
          exact ⟨_, _, rfl, o1, HB⟩
        · have e1 := int_bne_true hab
          have e2 := int_beq_false hab
          have Hab := Lib.hid hab
          have Hv := Lib.hid hv
          have Hacc := Lib.hid hacc
          have hlen : acc.length + (stepsL a' b).length ≤ 2 := by
            have := congrArg List.length hacc
            rw [List.length_append] at this
            have := steps_len a b
            omega
          have hs := hop_steps hv Hb.out hab
          have hlen1 : acc.length + 1 ≤ 2 := by rw [hs, List.length_cons] at hlen; omega
          have Hs := Lib.hid hs
          clear hab hv hacc HA hs h1 h2 hlen
          go_wp2_with (first
            | (go_at_call 62; (with_reducible refine (next_calls Hv.out Hb.out Hab.out _ (Ht.out.next HB)).mono ?_); rintro e W1 ⟨rfl, hb⟩; have hgr := grown_of_below hb; replace o1 := o1.kept hgr (by cases Value.ownBlock _ <;> simp); replace HB := HB.grown hgr (by have := HB.size; omega) (by simp); clear hb hgr)
            | ((with_reducible refine gate_dst (N := 6) rfl ?_); refine ev_alloc rfl rfl _ step_zero ?_; intro g1 W2 hg1 hsz hbn; have hgr := grown_of_below hbn; replace hg1 : Blk W2 g1 _ (#[.int .i64 0, .int .i64 0, .string ⟨#[]⟩, .nilFunc]) := hg1; have zg1 : w.heap.size ≤ g1 := (by have := HB.size; omega); replace o1 := o1.kept hgr (by cases Value.ownBlock _ <;> simp); replace HB := HB.grown hgr (by have := HB.size; omega) (by simp); have hcg1 := hg1.cell; have hfg1 := hg1.frozen; clear hsz hbn hgr)
            | ((with_reducible refine gate_store (p := 6) rfl ?_); refine ev_store_row (cs := stepCells a' (hopTo a' b) (hopNm a' b) (hopFn a' b)) rfl rfl rfl hg1 rfl rfl step_size rfl (stepCells_one _ _ _ _) ?_; intro W3 hgn hgr; replace o1 := o1.kept hgr (.inr (own_blk_ne o1 hg1 (by decide))); replace HB := HB.grown hgr (by have := HB.size; omega) (by intro k e; injection e with e; omega); replace hg1 := hgn; replace hcg1 := hg1.cell; replace hfg1 := hg1.frozen; clear hgn hgr)
            | ((with_reducible refine gate_dst (N := 25) rfl ?_); refine ev_lit rfl rfl (#[.string (hopNm a' b)]) 9 1 (by first | (go_simp; done) | (go_simp; rfl)) ?_; intro g2 W4 hg2 hsz hbn; have hgr := grown_of_below hbn; have ng1g2 : g1 ≠ g2 := (by have := hg1.lt; omega); have zg2 : w.heap.size ≤ g2 := (by have := HB.size; omega); replace hg1 := hg1.grown hgr (by simp); replace o1 := o1.kept hgr (by cases Value.ownBlock _ <;> simp); replace HB := HB.grown hgr (by have := HB.size; omega) (by simp); have hcg2 := hg2.cell; have hfg2 := hg2.frozen; replace hcg1 := hg1.cell; replace hfg1 := hg1.frozen; clear hsz hbn hgr)
            | ((with_reducible refine gate_dst (N := 26) rfl ?_); refine ev_append rfl rfl Tryd.underlying38 info_str rfl (by omega) rfl o1 rfl (hg2.reads (size := 1) (n := 1) rfl) (strs_one (l := [hopNm a' b])) (by omega) (by omega) (by have := HB.size; omega) ?_; intro A2 c2 W5 on hgr hat; replace hg1 := hg1.grown hgr (fun e => own_blk_ne o1 hg1 (by decide) e.symm); replace HB := HB.grown hgr (by have := HB.size; omega) (own_base o1); replace o1 := on; replace hcg1 := hg1.cell; replace hfg1 := hg1.frozen; clear on hgr hat))
          go_roundg (stepsL (hopTo a' b) b).length
          case measure => rw [Hs.out]; simp
          case rel => exact ⟨hopTo a' b, A2, c2, acc ++ [hopNm a' b], rfl, by simp, rfl, ⟨Hv.out.hop Hb.out, by rw [← Hacc.out, Hs.out]; simp, by rw [strs_append]; simpa [strs] using o1, HB⟩⟩
    · have h2 : (decide (1 ≤ b) && decide (b ≤ 3)) = false := by unfold Ver at hb; simp; omega
      have e : stepsL a b = [] := by unfold stepsL; unfold Ver at hb; repeat' (split; omega); 
                                     rfl
      rw [e]
      clear ha hb ht e
      go_enter Tryd.func21, Tryd.ntmps21
      go_wp2_with (first
        | (go_at_call 61; (with_reducible refine (known_calls _ _).mono ?_); rintro e w1 ⟨rfl, rfl⟩; rw [h1])
        | (go_at_call 61; (with_reducible refine (known_calls _ _).mono ?_); rintro e w1 ⟨rfl, rfl⟩; rw [h2]))
      go_ret
      exact ⟨none, 0, rfl, own_nil _ _ _ _, HB⟩
  · have h1 : (decide (1 ≤ a) && decide (a ≤ 3)) = false := by unfold Ver at ha; simp; omega
    have e : stepsL a b = [] := by unfold stepsL; unfold Ver at ha; repeat' (split; omega); 
                                   rfl
    rw [e]
    clear ha ht e
    go_enter Tryd.func21, Tryd.ntmps21
    go_wp2_with (first
      | (go_at_call 61; (with_reducible refine (known_calls _ _).mono ?_); rintro e w1 ⟨rfl, rfl⟩; rw [h1]))
    go_ret
    exact ⟨none, 0, rfl, own_nil _ _ _ _, HB⟩
end Go.Proofs.YtikodgaomhmbmaaDoor
