/-
  The walk of annalslaw4.stand.
-/
import Derived.Test.YtikodgaomhmbmaaDoorH8
set_option linter.unusedVariables false
set_option linter.unusedSimpArgs false
namespace Go.Proofs.YtikodgaomhmbmaaDoor
open Go.RowKit

theorem MK_get {i n j : Nat} (h : j < n) : (MK i n)[j]? = some (UInt8.ofNat (1 + i % 250)) := by simp [MK, h]
theorem MT_get1 {i n k j : Nat} (h : j < n) : (MK i n ++ TL i k)[j]? = some (UInt8.ofNat (1 + i % 250)) := by rw [List.getElem?_append_left (by rw [MK_len]; exact h), MK_get h]
theorem MT_get2 {i n k j : Nat} (h : n ≤ j) (hj : j < n + k) : (MK i n ++ TL i k)[j]? = some (UInt8.ofNat (251 + i % 5)) := by
  rw [List.getElem?_append_right (by rw [MK_len]; exact h), MK_len]
  unfold TL
  rw [List.getElem?_replicate, if_pos (by omega)]
theorem RB.cell_at {w : World} {A : Option Addr} {l : List UInt8} (h : RB w A l) {k : Nat} {b : UInt8} (hk : l[k]? = some b) : ∃ ad, A = some ad ∧ w.cell? (ad.add k) = some (.int .u8 b.toNat) := by
  obtain ⟨hl, e⟩ := List.getElem?_eq_some_iff.1 hk
  obtain ⟨ad, e1, hc⟩ := h.get hl
  rw [e] at hc
  exact ⟨ad, e1, hc⟩
theorem Reads.cell_at {w : World} {B n : Nat} {A : Option Addr} {xs : List Value} (h : Reads w B 1 A n xs) {k : Nat} {u : Value} (hk : xs[k]? = some u) {ad : Addr} (hA : A = some ad) : w.cell? (ad.add k) = some u := by
  have hl : k < xs.length := (List.getElem?_eq_some_iff.1 hk).1
  obtain ⟨ad', e, _, hc⟩ := h.2 (by have := h.1; omega)
  rw [hA] at e
  injection e with e
  subst e
  exact hc k u hk
/-- The lengthened lists at the three places of a list. -/
theorem More.three {l : List BA} {n : Nat} {ts : List (Nat × BA)} (h : More l n ts) {i : Nat} {x : BA} (hi : i < n) (hx : l[i]? = some x) (q : Nat) (hq : q < 3) : ∃ (y : Nat × BA) (k : Nat), ts[3 * i + q]? = some y ∧ y.2.1 = MK i x.1.length ++ TL i k := by
  obtain ⟨y1, y2, y3, h1, h2, h3, e1, e2, e3⟩ := h.at_ i x hi hx
  obtain rfl | rfl | rfl : q = 0 ∨ q = 1 ∨ q = 2 := by omega
  · exact ⟨y1, 1, h1, e1⟩
  · exact ⟨y2, 2, h2, e2⟩
  · exact ⟨y3, 70, h3, e3⟩
/-- What stand is asked of reads as it should. -/
structure Stands (w : World) (l : List BA) (n : Nat) (A B : Option Addr) (ts : List (Nat × BA)) : Prop where
  more : More l n ts
  len : l.length = n
  rowA : Reads w w.heap.size 1 A n (baCells l)
  rowB : Reads w w.heap.size 1 B (3 * n) (baCells (ts.map (·.2)))
  marks : ∀ i x, l[i]? = some x → RB w x.2.1 (MK i x.1.length)
  longs : ∀ y ∈ ts, RB w y.2.2.1 y.2.1
  short : n ≤ 1048576 ∧ ∀ x ∈ l, x.1.length ≤ 140737488351232
theorem stands_of_fam {w : World} {base b1 b2 n c d : Nat} {l : List BA} {A B : Option Addr} {ts : List (Nat × BA)} (hm : More l n ts) (hn : l.length = n) (hA : w.ownsRow b1 25 1 (.slice A n c) n (baCells l)) (hB : w.ownsRow b2 25 1 (.slice B (3 * n) d) (3 * n) (baCells (ts.map (·.2))))
    (hV : Fam (F4 l) w base (tagged (marks l) ++ ts)) (hs : n ≤ 1048576) (hs2 : ∀ x ∈ l, x.1.length ≤ 140737488351232) : Stands w l n A B ts := by
  refine ⟨hm, hn, Reads.of_own hA, Reads.of_own hB, fun i x hx => ?_, fun y hy => (hV.all y (List.mem_append_right _ hy)).rb, hs, hs2⟩
  have h1 : (i, MK i x.1.length, x.2) ∈ tagged (marks l) ++ ts := List.mem_append_left _ (tagged_mem.2 (by rw [marks_get, hx]; rfl))
  exact (hV.all _ h1).rb
theorem Stands.next {w w' : World} {l : List BA} {n : Nat} {A B : Option Addr} {ts : List (Nat × BA)} (h : Stands w l n A B ts) (hb : Below w.heap.size w w') : Stands w' l n A B ts :=
  ⟨h.more, h.len, Reads.next h.rowA hb, Reads.next h.rowB hb, fun i x hx => (h.marks i x hx).next hb, fun y hy => (h.longs y hy).next hb, h.short⟩
theorem wrap_mul3 (i p : Nat) (h : p = 3 * i) (hi : i ≤ 1048576) : wrap64 (3 * (i : Int)) = (p : Int) := by subst h; unfold wrap64; omega
theorem wrap_add (a m k : Nat) (h : m = a + k) (hm : m ≤ 9000000000000000000) : wrap64 ((a : Int) + (k : Int)) = (m : Int) := by subst h; unfold wrap64; omega
theorem mark_wrap (i : Nat) : IntKind.u8.wrap ((1 : Int) + (i : Int) % 250) = ((UInt8.ofNat (1 + i % 250)).toNat : Int) := by rw [mk_num, IntKind.wrap_u8]; omega
theorem tail_wrap (i : Nat) : IntKind.u8.wrap ((251 : Int) + (i : Int) % 5) = ((UInt8.ofNat (251 + i % 5)).toNat : Int) := by rw [tl_num, IntKind.wrap_u8]; omega
theorem More.tl_le {l : List BA} {n : Nat} {ts : List (Nat × BA)} (h : More l n ts) {i : Nat} {x : BA} (hi : i < n) (hx : l[i]? = some x) {kk nb tl : Nat} {y : Nat × BA} (hy : ts[kk]? = some y) (ey : y.2.1 = MK i nb ++ TL i tl) (h1 : 3 * i ≤ kk) (h2 : kk < 3 * i + 3) (hnb : x.1.length = nb) : tl ≤ 70 := by
  obtain ⟨y1, y2, y3, e1, e2, e3, f1, f2, f3⟩ := h.at_ i x hi hx
  have hl : y.2.1.length = nb + tl := by rw [ey, List.length_append, MK_len, TL_len]
  obtain rfl | rfl | rfl : kk = 3 * i ∨ kk = 3 * i + 1 ∨ kk = 3 * i + 2 := by omega
  · rw [e1] at hy; injection hy with hy; rw [← hy, f1, List.length_append, MK_len, TL_len] at hl; omega
  · rw [e2] at hy; injection hy with hy; rw [← hy, f2, List.length_append, MK_len, TL_len] at hl; omega
  · rw [e3] at hy; injection hy with hy; rw [← hy, f3, List.length_append, MK_len, TL_len] at hl; omega
theorem wrap_nat (n : Nat) (h : n ≤ 9000000000000000000) : wrap64 (n : Int) = (n : Int) := by unfold wrap64; omega

set_option maxHeartbeats 4000000 in
set_option maxRecDepth 100000 in
theorem stand4_calls (l : List BA) (n n3 : Nat) (hn3 : n3 = 3 * n) (A B : Option Addr) (c d : Nat) (ts : List (Nat × BA)) (w : World) (hS : Stands w l n A B ts) :
    Calls Tryd.prog 35 #[.slice A n c, .slice B n3 d] w fun e w' => e = .returned (.bool true) ∧ Below w.heap.size w w' := by
  have HB := Below.refl w.heap.size w
  have HS := Lib.hid hS
  have Hn3 := Lib.hid hn3
  have hl := hS.short.1
  clear hS hn3
  go_enter Tryd.func35, Tryd.ntmps35
  go_wp2
  go_loopg [5] n (fun m v5 wr => ∃ i : Nat, m + i = n ∧ v5 = .int .i64 i ∧ Aside (Below w.heap.size w wr))
  case atStart => exact ⟨0, by omega, rfl, HB⟩
  case round =>
    clear HB
    obtain ⟨gm, rfl⟩ : ∃ gm, gm = gk := ⟨_, rfl⟩
    obtain ⟨i, hm, rfl, HA⟩ := hrel
    have HB := HA.out
    clear HA
    by_cases hi : i < n
    · have s1 : decide ((i : Int) < (n : Int)) = true := by rw [decide_eq_true_eq]; omega
      have s1' : decide (i < n) = true := by rw [decide_eq_true_eq]; exact hi
      obtain ⟨x, hx⟩ : ∃ x, l[i]? = some x := ⟨_, List.getElem?_eq_getElem (by rw [HS.out.len]; exact hi)⟩
      obtain ⟨b, Ai, ci⟩ := x
      have hbl := HS.out.short.2 _ (List.mem_of_getElem? hx)
      obtain ⟨nb, hnb⟩ : ∃ nb, b.length = nb := ⟨_, rfl⟩
      simp only [hnb] at hbl
      obtain ⟨ad, had, _, _⟩ := HS.out.rowA.2 (by omega)
      obtain ⟨bd, hbd, _, _⟩ := HS.out.rowB.2 (by omega)
      obtain ⟨y1, y2, y3, hy1, hy2, hy3, e1, e2, e3⟩ := HS.out.more.at_ i _ hi hx
      simp only [hnb] at e1 e2 e3
      have b1 : 3 * i < n3 := by have := Hn3.out; omega
      have b2 : 3 * i + 1 < n3 := by have := Hn3.out; omega
      have b3 : 3 * i + 2 < n3 := by have := Hn3.out; omega
      have lc : ∀ (y : Nat × BA) (k m : Nat), y.2.1 = MK i nb ++ TL i k → m = nb + k → y.2.1.length = m := fun y k m h1 h2 => by rw [h1, List.length_append, MK_len, TL_len, h2]
      have Hc0 := Lib.hid (fun (W : World) (hb : Below w.heap.size w W) => show W.cell? (ad.add i) = some (.slice Ai nb ci) from by
        have := (HS.out.next hb).rowA.cell_at (baCells_get hx) had
        rwa [show ((b, Ai, ci) : BA).1.length = nb from hnb] at this)
      have Hc1 := Lib.hid (fun (W : World) (hb : Below w.heap.size w W) => show W.cell? (bd.add (3 * i)) = some (.slice y1.2.2.1 (nb + 1) y1.2.2.2) from by
        have := (HS.out.next hb).rowB.cell_at (k := 3 * i) (baCells_get (by rw [List.getElem?_map, hy1]; rfl)) hbd
        rwa [lc y1 1 (nb + 1) e1 rfl] at this)
      have Hc2 := Lib.hid (fun (W : World) (hb : Below w.heap.size w W) => show W.cell? { block := bd.block, off := bd.off + (3 * i + 1) } = some (.slice y2.2.2.1 (nb + 2) y2.2.2.2) from by
        have := (HS.out.next hb).rowB.cell_at (k := 3 * i + 1) (baCells_get (by rw [List.getElem?_map, hy2]; rfl)) hbd
        rw [lc y2 2 (nb + 2) e2 rfl] at this
        exact this)
      have Hc3 := Lib.hid (fun (W : World) (hb : Below w.heap.size w W) => show W.cell? { block := bd.block, off := bd.off + (3 * i + 2) } = some (.slice y3.2.2.1 (nb + 70) y3.2.2.2) from by
        have := (HS.out.next hb).rowB.cell_at (k := 3 * i + 2) (baCells_get (by rw [List.getElem?_map, hy3]; rfl)) hbd
        rw [lc y3 70 (nb + 70) e3 rfl] at this
        exact this)
      have hc0 := Hc0.out _ HB
      have hc1 := Hc1.out _ HB
      have hc2 := Hc2.out _ HB
      have hc3 := Hc3.out _ HB
      have Hx := Lib.hid hx
      have Hnb := Lib.hid hnb
      have Had := Lib.hid had
      have Hbd := Lib.hid hbd
      subst had
      subst hbd
      clear hx hnb hy1 hy2 hy3 e1 e2 e3 lc
      have tm1 : (i : Int).tmod 250 = (i : Int) % 250 := by rw [Int.tmod_eq_emod_of_nonneg (by omega)]
      have tw1 : IntKind.u8.wrap ((1 : Int) + (i : Int) % 250) = ((UInt8.ofNat (1 + i % 250)).toNat : Int) := mark_wrap i
      have tm2 : (i : Int).tmod 5 = (i : Int) % 5 := by rw [Int.tmod_eq_emod_of_nonneg (by omega)]
      have tw2 : IntKind.u8.wrap ((251 : Int) + (i : Int) % 5) = ((UInt8.ofNat (251 + i % 5)).toNat : Int) := tail_wrap i
      go_wp2
      clear hc0 hc1 hc2 hc3 b1 b2 b3
      go_loopg [7] 3 (fun m v7 wr => ∃ kk : Nat, m + kk = 3 * i + 3 ∧ 3 * i ≤ kk ∧ v7 = .int .i64 kk ∧ Aside (Below w.heap.size w wr))
      case atStart => exact ⟨3 * i, by omega, by omega, by simp, HB⟩
      case round =>
        clear HB
        obtain ⟨gm2, rfl⟩ : ∃ gm2, gm2 = gk := ⟨_, rfl⟩
        obtain ⟨kk, hmk, hk3, rfl, HA⟩ := hrel
        have HB := HA.out
        clear HA
        by_cases hkk : kk < 3 * i + 3
        · have r1 : decide ((kk : Int) < 3 * (i : Int) + 3) = true := by rw [decide_eq_true_eq]; omega
          have r1' : decide (kk < 3 * i + 3) = true := by rw [decide_eq_true_eq]; exact hkk
          obtain ⟨y, tl, hy, ey⟩ := HS.out.more.three hi Hx.out (kk - 3 * i) (by omega)
          rw [show 3 * i + (kk - 3 * i) = kk by omega] at hy
          rw [show ((b, Ai, ci) : BA).1.length = nb from Hnb.out] at ey
          have hyr := HS.out.longs y (List.mem_of_getElem? hy)
          have hlen : y.2.1.length = nb + tl := by rw [ey, List.length_append, MK_len, TL_len]
          have Hck := Lib.hid (fun (W : World) (hb : Below w.heap.size w W) => show W.cell? (bd.add kk) = some (.slice y.2.2.1 (nb + tl) y.2.2.2) from by
            have := (HS.out.next hb).rowB.cell_at (k := kk) (baCells_get (by rw [List.getElem?_map, hy]; rfl)) rfl
            rwa [hlen] at this)
          have bk : kk < n3 := by have := Hn3.out; omega
          obtain ⟨my, hmy⟩ : ∃ my, my = nb + tl := ⟨_, rfl⟩
          have hmyl : my ≤ 140737488351400 := by
            have htl : tl ≤ 70 := HS.out.more.tl_le hi Hx.out hy ey hk3 hkk Hnb.out
            omega
          rw [← hmy] at Hck
          have Hey := Lib.hid ey
          have Hyr := Lib.hid hyr
          have Hmy := Lib.hid hmy
          clear hy ey hyr hlen hmy
          go_wp2
          go_loopg [8] my (fun m v8 wr => ∃ j : Nat, m + j = my ∧ v8 = .int .i64 j ∧ Aside (Below w.heap.size w wr))
          case atStart => exact ⟨0, by omega, rfl, HB⟩
          case round =>
            clear HB
            obtain ⟨j, hmj, rfl, HA⟩ := hrel
            have HB := HA.out
            clear HA
            have hck := Hck.out _ HB
            have hc0 := Hc0.out _ HB
            by_cases hj : j < my
            · have q1 : decide ((j : Int) < (my : Int)) = true := by rw [decide_eq_true_eq]; omega
              have q1' : decide (j < my) = true := by rw [decide_eq_true_eq]; exact hj
              by_cases hjn : j < nb
              · have q2 : decide ((nb : Int) ≤ (j : Int)) = false := by rw [decide_eq_false_iff_not]; omega
                have q2' : decide (nb ≤ j) = false := by rw [decide_eq_false_iff_not]; omega
                have q3 : decide ((j : Int) < (nb : Int)) = true := by rw [decide_eq_true_eq]; omega
                have q3' : decide (j < nb) = true := by rw [decide_eq_true_eq]; exact hjn
                obtain ⟨yd, hyd, hc5⟩ := (Hyr.out.next HB).cell_at (k := j) (b := UInt8.ofNat (1 + i % 250)) (by rw [Hey.out]; exact MT_get1 hjn)
                obtain ⟨xd, hxd, hc6⟩ := ((HS.out.marks i _ Hx.out).next HB).cell_at (k := j) (b := UInt8.ofNat (1 + i % 250)) (by rw [show ((b, Ai, ci) : BA).1.length = nb from Hnb.out]; exact MK_get hjn)
                rw [hyd] at hck
                simp only at hxd
                rw [hxd] at hc0
                clear Hc0 Hc1 Hc2 Hc3 Hck
                go_wp2
                go_roundg (gk - 1)
                case measure => omega
                case rel => exact ⟨j + 1, by omega, by go_num, HB⟩
              · have q2 : decide ((nb : Int) ≤ (j : Int)) = true := by rw [decide_eq_true_eq]; omega
                have q2' : decide (nb ≤ j) = true := by rw [decide_eq_true_eq]; omega
                have q3 : decide ((j : Int) < (nb : Int)) = false := by rw [decide_eq_false_iff_not]; omega
                have q3' : decide (j < nb) = false := by rw [decide_eq_false_iff_not]; exact hjn
                obtain ⟨yd, hyd, hc5⟩ := (Hyr.out.next HB).cell_at (k := j) (b := UInt8.ofNat (251 + i % 5)) (by rw [Hey.out]; exact MT_get2 (by omega) (by have := Hmy.out; omega))
                rw [hyd] at hck
                clear Hc0 Hc1 Hc2 Hc3 Hck
                go_wp2
                go_roundg (gk - 1)
                case measure => omega
                case rel => exact ⟨j + 1, by omega, by go_num, HB⟩
            · have q1 : decide ((j : Int) < (my : Int)) = false := by rw [decide_eq_false_iff_not]; omega
              have q1' : decide (j < my) = false := by rw [decide_eq_false_iff_not]; exact hj
              go_wp2
              go_roundg (gm2 - 1)
              case measure => omega
              case rel => exact ⟨kk + 1, by omega, by omega, by go_num, HB⟩
        · have r1 : decide ((kk : Int) < 3 * (i : Int) + 3) = false := by rw [decide_eq_false_iff_not]; omega
          have r1' : decide (kk < 3 * i + 3) = false := by rw [decide_eq_false_iff_not]; exact hkk
          go_wp2
          go_roundg (gm - 1)
          case measure => omega
          case rel => exact ⟨i + 1, by omega, by go_num, HB⟩
    · obtain rfl : i = n := by omega
      have s1 : decide ((i : Int) < (i : Int)) = false := by simp
      have s1' : decide (i < i) = false := by simp
      go_wp2
      go_ret
      exact ⟨rfl, HB⟩
end Go.Proofs.YtikodgaomhmbmaaDoor
