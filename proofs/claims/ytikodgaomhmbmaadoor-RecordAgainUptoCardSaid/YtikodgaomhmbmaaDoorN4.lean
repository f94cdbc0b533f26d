/-
  The walk of text.Name.
-/
import Derived.Test.YtikodgaomhmbmaaDoorN3
set_option linter.unusedVariables false
set_option linter.unusedSimpArgs false
namespace Go.Proofs.YtikodgaomhmbmaaDoor
open Go.RowKit

theorem Utf8Tabs.next {a b : Nat} {w w' : World} (ha : a < w.heap.size) (hb : b < w.heap.size) (h : Lib.Utf8Tabs a b w) (hw : Below w.heap.size w w') : Lib.Utf8Tabs a b w' := by
  obtain ⟨h1, h2⟩ := h
  refine ⟨fun c hc => (hw.cell (p := ⟨a, _, none⟩) ha).trans (h1 c hc), fun i hi => ⟨(hw.cell (p := ⟨b, _, none⟩) hb).trans (h2 i hi).1, (hw.cell (p := ⟨b, _, none⟩) hb).trans (h2 i hi).2⟩⟩
theorem nameL_false_of_bad {l pre rest : List Int} {r : Int} (he : l = pre ++ r :: rest) (h : nameRune r = false) : nameL l = false := by
  subst he
  simp [nameL, h]
theorem nameL_false_of_long {l pre rest : List Int} {r : Int} (he : l = pre ++ r :: rest) (h : pre.length = 48) : nameL l = false := by
  subst he
  simp [nameL, h]
  omega
theorem nameL_false_of_head {l rest : List Int} {r : Int} (he : l = r :: rest) (h : isLetter r = false) : nameL l = false := by
  subst he
  simp [nameL, h]
/-- What holds of the runes before the one at hand. -/
def GoodPre (pre : List Int) : Prop := pre.length ≤ 48 ∧ pre.all nameRune = true ∧ (pre ≠ [] → (pre.head?.map isLetter).getD false = true)
theorem GoodPre.nil : GoodPre [] := ⟨by simp, rfl, fun h => absurd rfl h⟩
theorem GoodPre.snoc {pre : List Int} {r : Int} (h : GoodPre pre) (hl : pre.length < 48) (hr : nameRune r = true) (h0 : pre = [] → isLetter r = true) : GoodPre (pre ++ [r]) := by
  refine ⟨by simp; omega, by simp [h.2.1, hr], fun _ => ?_⟩
  cases pre with
  | nil => simpa using h0 rfl
  | cons a t => simpa using h.2.2 (by simp)
theorem GoodPre.done {pre : List Int} (h : GoodPre pre) : nameL pre = decide (1 ≤ pre.length) := by
  by_cases hp : pre = []
  · subst hp; rfl
  · have h1 : 1 ≤ pre.length := by cases pre <;> simp_all
    simp [nameL, h.1, h.2.1, h.2.2 hp, h1]
theorem not_name_65533 : nameRune 65533 = false := by decide

set_option maxHeartbeats 4000000 in
set_option maxRecDepth 100000 in
theorem textName_calls (s : ByteArray) (hs : s.size ≤ 140737488351232) (w : World) (ht : Tab w 3 (letCells .i32)) (hT : Lib.Utf8Tabs 5 6 w) (hg5 : 5 < w.heap.size) (hg6 : 6 < w.heap.size) :
    Calls Tryd.prog 103 #[.string s] w fun e w' => ∃ c p : Int, e = .returned (.tuple #[.int .i64 c, .int .i64 p]) ∧ (c == 0) = isName s ∧ Below w.heap.size w w' := by
  have HB := Below.refl w.heap.size w
  have Ht := Lib.hid ht
  have HT := Lib.hid hT
  clear ht hT
  go_enter Tryd.func103, Tryd.ntmps103
  go_wp2_with (first
    | ((with_reducible refine gate_dst (N := 8) rfl ?_); refine ev_range rfl rfl Tryd.underlying9 rfl ?_; intro g1 W1 hg1 zg1 hb; replace HB := HB.grown (grown_of_below hb) (by have := HB.size; omega) (by simp); clear hb))
  simp only [Act.put, List.setIfInBounds_toArray, List.set_cons_succ, List.set_cons_zero]
  go_loopg [4] s.size (fun n v4 wr => ∃ (pre : List Int) (pos : Nat), v4 = .int .i64 pre.length ∧ Aside (s.size ≤ pos + n ∧ runes s s.size 0 = pre ++ runes s n pos ∧ GoodPre pre ∧ It wr g1 s pos ∧ Below w.heap.size w wr))
  case atStart => exact ⟨[], 0, rfl, ⟨by omega, rfl, GoodPre.nil, hg1, HB⟩⟩
  case round =>
    clear hg1 HB
    obtain ⟨pre, pos, rfl, HA⟩ := hrel
    obtain ⟨hfuel, hrun, hgood, hg1, HB⟩ := HA.out
    have Hrun := Lib.hid hrun
    have Hgood := Lib.hid hgood
    have hl48 := hgood.1
    clear HA hrun hgood
    by_cases hlt : pos < s.size
    · have hmore := runes_more hlt hfuel
      have hw1 := decode_wide s pos
      have Hmore := Lib.hid hmore
      clear hmore
      by_cases h48 : pre.length = 48
      · have t1 : ((pre.length : Int) == 48) = true := by simp [h48]
        have H48 := Lib.hid h48
        clear h48
        go_wp2_with (first
          | ((with_reducible refine gate_dst (N := 9) rfl ?_); refine ev_next_more rfl rfl rfl hg1 hlt ?_; intro W1 hgn hgr; replace HB := HB.grown hgr (by have := HB.size; omega) (by intro k e; injection e with e; omega); replace hg1 := hgn; clear hgn hgr))
        go_ret2
        exact ⟨_, _, rfl, (nameL_false_of_long (Hrun.out.trans (congrArg (pre ++ ·) Hmore.out)) H48.out).symm, HB⟩
      have t1 : ((pre.length : Int) == 48) = false := int_beq_false (by omega)
      have hl47 : pre.length < 48 := by omega
      clear h48 hl48
      have cn := inName_calls ((Utf8.decode s pos).1 : Int)
      have cl := letter_calls ((Utf8.decode s pos).1 : Int)
      by_cases hnr : nameRune ((Utf8.decode s pos).1 : Int) = true
      · rw [hnr] at cn
        have Cn := Lib.hid cn
        have Hnr := Lib.hid hnr
        have Hs : ((Utf8.decode s pos).1 : Int) ≠ 65533 := by
          intro e
          rw [e, not_name_65533] at hnr
          cases hnr
        have Hs := Lib.hid Hs
        clear cn hnr
        by_cases h0 : pre.length = 0
        · have t2 : ((pre.length : Int) == 0) = true := by simp [h0]
          have hp : pre = [] := List.eq_nil_of_length_eq_zero h0
          have Hp := Lib.hid hp
          clear h0 hp
          by_cases hil : isLetter ((Utf8.decode s pos).1 : Int) = true
          · rw [hil] at cl
            have Cl := Lib.hid cl
            have Hil := Lib.hid hil
            clear cl hil
            go_wp2_with (first
              | ((with_reducible refine gate_dst (N := 9) rfl ?_); refine ev_next_more rfl rfl rfl hg1 hlt ?_; intro W1 hgn hgr; replace HB := HB.grown hgr (by have := HB.size; omega) (by intro k e; injection e with e; omega); replace hg1 := hgn; clear hgn hgr)
              | (go_at_call 105; (with_reducible refine (stray_calls s pos (by omega) _ _ (Utf8Tabs.next hg5 hg6 HT.out HB)).mono ?_); rintro e W1 ⟨b, rfl, hbt, hb⟩; have hgr := grown_of_below hb; replace hg1 := hg1.grown hgr (by simp); replace HB := HB.grown hgr (by have := HB.size; omega) (by simp); replace hcg1 := hg1.cell; replace hfg1 := hg1.frozen; clear hb hgr)
              | (go_at_call 106; (with_reducible refine (Cn.out _ (Ht.out.next HB)).mono ?_); rintro e W2 ⟨rfl, hb⟩; have hgr := grown_of_below hb; replace hg1 := hg1.grown hgr (by simp); replace HB := HB.grown hgr (by have := HB.size; omega) (by simp); replace hcg1 := hg1.cell; replace hfg1 := hg1.frozen; clear hb hgr)
              | (go_at_call 107; (with_reducible refine (Cl.out _ (Ht.out.next HB)).mono ?_); rintro e W3 ⟨rfl, hb⟩; have hgr := grown_of_below hb; replace hg1 := hg1.grown hgr (by simp); replace HB := HB.grown hgr (by have := HB.size; omega) (by simp); replace hcg1 := hg1.cell; replace hfg1 := hg1.frozen; clear hb hgr))
            · rename_i hb1
              exact absurd (hbt hb1) Hs.out
            · go_roundg (gk - 1)
              case measure => omega
              case rel => exact ⟨pre ++ [((Utf8.decode s pos).1 : Int)], _, by simp, ⟨by omega, by rw [Hrun.out, Hmore.out]; simp, Hgood.out.snoc hl47 Hnr.out fun _ => Hil.out, hg1, HB⟩⟩
          · have hil0 : isLetter ((Utf8.decode s pos).1 : Int) = false := by simpa using hil
            rw [hil0] at cl
            have Cl := Lib.hid cl
            have Hil := Lib.hid hil0
            clear cl hil hil0
            go_wp2_with (first
              | ((with_reducible refine gate_dst (N := 9) rfl ?_); refine ev_next_more rfl rfl rfl hg1 hlt ?_; intro W1 hgn hgr; replace HB := HB.grown hgr (by have := HB.size; omega) (by intro k e; injection e with e; omega); replace hg1 := hgn; clear hgn hgr)
              | (go_at_call 105; (with_reducible refine (stray_calls s pos (by omega) _ _ (Utf8Tabs.next hg5 hg6 HT.out HB)).mono ?_); rintro e W1 ⟨b, rfl, hbt, hb⟩; have hgr := grown_of_below hb; replace hg1 := hg1.grown hgr (by simp); replace HB := HB.grown hgr (by have := HB.size; omega) (by simp); replace hcg1 := hg1.cell; replace hfg1 := hg1.frozen; clear hb hgr)
              | (go_at_call 106; (with_reducible refine (Cn.out _ (Ht.out.next HB)).mono ?_); rintro e W2 ⟨rfl, hb⟩; have hgr := grown_of_below hb; replace hg1 := hg1.grown hgr (by simp); replace HB := HB.grown hgr (by have := HB.size; omega) (by simp); replace hcg1 := hg1.cell; replace hfg1 := hg1.frozen; clear hb hgr)
              | (go_at_call 107; (with_reducible refine (Cl.out _ (Ht.out.next HB)).mono ?_); rintro e W3 ⟨rfl, hb⟩; have hgr := grown_of_below hb; replace hg1 := hg1.grown hgr (by simp); replace HB := HB.grown hgr (by have := HB.size; omega) (by simp); replace hcg1 := hg1.cell; replace hfg1 := hg1.frozen; clear hb hgr))
            · rename_i hb1
              exact absurd (hbt hb1) Hs.out
            · go_ret2
              have he : runes s s.size 0 = ((Utf8.decode s pos).1 : Int) :: runes s (gk - 1) (pos + (Utf8.decode s pos).2) := by
                rw [Hrun.out, Hmore.out, Hp.out]
                rfl
              exact ⟨_, _, rfl, (nameL_false_of_head he Hil.out).symm, HB⟩
        · have t2 : ((pre.length : Int) == 0) = false := int_beq_false (by omega)
          have hp : pre ≠ [] := fun e => h0 (by rw [e]; rfl)
          have Hp := Lib.hid hp
          have Cl := Lib.hid cl
          clear h0 hp cl
          go_wp2_with (first
            | ((with_reducible refine gate_dst (N := 9) rfl ?_); refine ev_next_more rfl rfl rfl hg1 hlt ?_; intro W1 hgn hgr; replace HB := HB.grown hgr (by have := HB.size; omega) (by intro k e; injection e with e; omega); replace hg1 := hgn; clear hgn hgr)
            | (go_at_call 105; (with_reducible refine (stray_calls s pos (by omega) _ _ (Utf8Tabs.next hg5 hg6 HT.out HB)).mono ?_); rintro e W1 ⟨b, rfl, hbt, hb⟩; have hgr := grown_of_below hb; replace hg1 := hg1.grown hgr (by simp); replace HB := HB.grown hgr (by have := HB.size; omega) (by simp); replace hcg1 := hg1.cell; replace hfg1 := hg1.frozen; clear hb hgr)
            | (go_at_call 106; (with_reducible refine (Cn.out _ (Ht.out.next HB)).mono ?_); rintro e W2 ⟨rfl, hb⟩; have hgr := grown_of_below hb; replace hg1 := hg1.grown hgr (by simp); replace HB := HB.grown hgr (by have := HB.size; omega) (by simp); replace hcg1 := hg1.cell; replace hfg1 := hg1.frozen; clear hb hgr)
            | (go_at_call 107; (with_reducible refine (Cl.out _ (Ht.out.next HB)).mono ?_); rintro e W3 ⟨rfl, hb⟩; have hgr := grown_of_below hb; replace hg1 := hg1.grown hgr (by simp); replace HB := HB.grown hgr (by have := HB.size; omega) (by simp); replace hcg1 := hg1.cell; replace hfg1 := hg1.frozen; clear hb hgr))
          · rename_i hb1
            exact absurd (hbt hb1) Hs.out
          · go_roundg (gk - 1)
            case measure => omega
            case rel => exact ⟨pre ++ [((Utf8.decode s pos).1 : Int)], _, by simp, ⟨by omega, by rw [Hrun.out, Hmore.out]; simp, Hgood.out.snoc hl47 Hnr.out fun h => absurd h Hp.out, hg1, HB⟩⟩
      · have hnr0 : nameRune ((Utf8.decode s pos).1 : Int) = false := by simpa using hnr
        rw [hnr0] at cn
        have Cn := Lib.hid cn
        have Cl := Lib.hid cl
        have Hnr := Lib.hid hnr0
        clear cn cl hnr hnr0
        go_wp2_with (first
          | ((with_reducible refine gate_dst (N := 9) rfl ?_); refine ev_next_more rfl rfl rfl hg1 hlt ?_; intro W1 hgn hgr; replace HB := HB.grown hgr (by have := HB.size; omega) (by intro k e; injection e with e; omega); replace hg1 := hgn; clear hgn hgr)
          | (go_at_call 105; (with_reducible refine (stray_calls s pos (by omega) _ _ (Utf8Tabs.next hg5 hg6 HT.out HB)).mono ?_); rintro e W1 ⟨b, rfl, hbt, hb⟩; have hgr := grown_of_below hb; replace hg1 := hg1.grown hgr (by simp); replace HB := HB.grown hgr (by have := HB.size; omega) (by simp); replace hcg1 := hg1.cell; replace hfg1 := hg1.frozen; clear hb hgr)
          | (go_at_call 106; (with_reducible refine (Cn.out _ (Ht.out.next HB)).mono ?_); rintro e W2 ⟨rfl, hb⟩; have hgr := grown_of_below hb; replace hg1 := hg1.grown hgr (by simp); replace HB := HB.grown hgr (by have := HB.size; omega) (by simp); replace hcg1 := hg1.cell; replace hfg1 := hg1.frozen; clear hb hgr)
          | (go_at_call 107; (with_reducible refine (Cl.out _ (Ht.out.next HB)).mono ?_); rintro e W3 ⟨rfl, hb⟩; have hgr := grown_of_below hb; replace hg1 := hg1.grown hgr (by simp); replace HB := HB.grown hgr (by have := HB.size; omega) (by simp); replace hcg1 := hg1.cell; replace hfg1 := hg1.frozen; clear hb hgr))
        all_goals
          go_ret2
          exact ⟨_, _, rfl, (nameL_false_of_bad (Hrun.out.trans (congrArg (pre ++ ·) Hmore.out)) Hnr.out).symm, HB⟩
    · by_cases h0 : pre.length = 0
      · have t1 : ((pre.length : Int) == 0) = true := by simp [h0]
        go_wp2_with (first
          | ((with_reducible refine gate_dst (N := 9) rfl ?_); refine ev_next_end rfl rfl rfl hg1 hlt ?_))
        go_ret2
        refine ⟨_, _, rfl, ?_, HB⟩
        have e := Hrun.out
        rw [runes_end hlt, List.append_nil] at e
        rw [isName, e, Hgood.out.done, h0]
        rfl
      · have t1 : ((pre.length : Int) == 0) = false := int_beq_false (by omega)
        go_wp2_with (first
          | ((with_reducible refine gate_dst (N := 9) rfl ?_); refine ev_next_end rfl rfl rfl hg1 hlt ?_))
        go_ret2
        refine ⟨_, _, rfl, ?_, HB⟩
        have e := Hrun.out
        rw [runes_end hlt, List.append_nil] at e
        rw [isName, e, Hgood.out.done]
        symm
        show decide (1 ≤ pre.length) = true
        rw [decide_eq_true_iff]
        omega
end Go.Proofs.YtikodgaomhmbmaaDoor
