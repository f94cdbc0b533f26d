/-
  What one call hands out is its own: filled, stand, copied, alikeAll and the calls that hand out, walked.
-/
import Derived.Test.YtikodgaomhmbmaaDoorMHr
import Derived.Test.YtikodgaomhmbmaaDoorMWbr
import Derived.Test.YtikodgaomhmbmaaDoorM6r
set_option linter.unusedVariables false
set_option linter.unusedSimpArgs false
namespace Go.Proofs.YtikodgaomhmbmaaDoor
open Go.RowKit

theorem MK_add (i j k : Nat) : MK i j ++ MK i k = MK i (j + k) := by unfold MK; rw [List.replicate_append_replicate]
/-- What may stand in a row and behind it. -/
def F3 (l : List BA) (i : Nat) : List UInt8 := MK i (2 * (((l[i]?).map fun x => x.1.length).getD 0) + 70)
theorem F3_pre {l : List BA} {i : Nat} {x : BA} (h : l[i]? = some x) {j : Nat} (hj : j ≤ x.1.length + 70) : MK i (x.1.length + j) <+: F3 l i := by
  have e : F3 l i = MK i (2 * x.1.length + 70) := by simp [F3, h]
  rw [e]
  refine ⟨MK i (x.1.length + 70 - j), ?_⟩
  rw [MK_add, show x.1.length + j + (x.1.length + 70 - j) = 2 * x.1.length + 70 by omega]
/-- What filled hands out for the rows l. -/
structure More3 (l : List BA) (k : Nat) (ms : List (Nat × BA)) : Prop where
  len : ms.length = k
  at_ : ∀ i x, i < k → l[i]? = some x → ∃ y : Nat × BA, ms[i]? = some y ∧ y.2.1 = MK i (2 * x.1.length + 70)
theorem More3.nil {l : List BA} : More3 l 0 [] := ⟨rfl, fun i x h => by omega⟩
theorem More3.snoc {l : List BA} {k : Nat} {ms : List (Nat × BA)} (h : More3 l k ms) {x : BA} (hx : l[k]? = some x) {y : Nat × BA} (h1 : y.2.1 = MK k (2 * x.1.length + 70)) : More3 l (k + 1) (ms ++ [y]) := by
  refine ⟨by simp [h.len], fun i z hi hz => ?_⟩
  rcases Nat.lt_or_ge i k with hik | hik
  · obtain ⟨a, ha, r⟩ := h.at_ i z hik hz
    exact ⟨a, by rw [List.getElem?_append_left (by rw [h.len]; omega)]; exact ha, r⟩
  · obtain rfl : i = k := by omega
    rw [hx] at hz
    injection hz with hz
    subst hz
    exact ⟨y, by rw [List.getElem?_append_right (by rw [h.len]; omega), h.len, Nat.sub_self]; rfl, h1⟩
theorem blk_bytes {w : World} {g : Nat} {t : TypeId} {b : UInt8} (h : Blk w g t #[.int .u8 b.toNat]) : ∀ j u, (u8s [b])[j]? = some u → w.cell? ((⟨g, 0, none⟩ : Addr).add j) = some u := by
  intro j u hu
  have e : (⟨g, 0, none⟩ : Addr).add j = ⟨g, j, none⟩ := by unfold Addr.add; split <;> simp_all
  rw [e, h.cell]
  simpa [u8s] using hu
theorem fill_start3 {w wr : World} {l : List BA} {base i j : Nat} (hQ : OBs w base l) (h : Filling w l base wr i j (marks l)) (hbase : base ≤ w.heap.size) : Fill (F3 l) w l base wr (tagged (marks l)) := by
  refine Fill.start h.rows h.sp (fun x hx => ?_) (fun k x hx => ?_) hbase
  · obtain ⟨k, hk⟩ := List.mem_iff_getElem?.1 hx
    rw [marks_get] at hk
    obtain ⟨y, hy, rfl⟩ := Option.map_eq_some_iff.1 hk
    exact ⟨y, List.mem_of_getElem? hy, rfl⟩
  · rw [marks_get] at hx
    obtain ⟨y, hy, rfl⟩ := Option.map_eq_some_iff.1 hx
    exact F3_pre hy (j := 0) (by omega)
/-- What filled says. -/
def FillSaid3 (l : List BA) (n base : Nat) (w : World) (e : Ending) (w' : World) : Prop :=
  ∃ (A' : Option Addr) (c' : Nat) (ts : List (Nat × BA)), e = .returned (.slice A' n c') ∧ Aside (More3 l n ts) ∧ w'.ownsRow w.heap.size 25 1 (.slice A' n c') n (baCells (ts.map (·.2))) ∧ Fill (F3 l) w l base w' (tagged (marks l) ++ ts)

set_option maxHeartbeats 4000000 in
set_option maxRecDepth 100000 in
theorem filled3_calls (l : List BA) (n : Nat) (hn : l.length = n) (A : Option Addr) (c b0 base : Nat) (hl : n ≤ 1000000000) (hs : ∀ x ∈ l, x.1.length ≤ 70368744170000) (w : World) (hbase : base ≤ w.heap.size) (hQ : OBs w base l) (ho : w.ownsRow b0 25 1 (.slice A n c) n (baCells l)) :
    Calls Tryd.prog 15 #[.slice A n c] w (FillSaid3 l n base w) := by
  have Hn := Lib.hid hn
  have Hs := Lib.hid hs
  have Hf := Lib.hid (Filling.start hQ)
  have HQ := Lib.hid hQ
  have Ho := Lib.hid ho
  clear hn hs hQ ho
  go_enter Tryd.func15, Tryd.ntmps15
  go_wp2
  go_loopg [4] n (fun m v4 wr => ∃ i : Nat, m + i = n ∧ v4 = .int .i64 i ∧ Aside (∃ cur, Filling w l base wr i 0 cur))
  case atStart => exact ⟨0, by omega, rfl, ⟨_, Hf.out⟩⟩
  case round =>
    clear Hf
    obtain ⟨gm, rfl⟩ : ∃ gm, gm = gk := ⟨_, rfl⟩
    obtain ⟨i, hm, rfl, HA⟩ := hrel
    obtain ⟨cur, HF⟩ := HA.out
    clear HA
    by_cases hlt : i < n
    · have s1 : decide ((i : Int) < (n : Int)) = true := by rw [decide_eq_true_eq]; omega
      have s1' : decide (i < n) = true := by rw [decide_eq_true_eq]; exact hlt
      obtain ⟨gB, rfl, _⟩ := own_at Ho.out (by omega)
      obtain ⟨x, hx⟩ : ∃ x, l[i]? = some x := ⟨_, List.getElem?_eq_getElem (by rw [Hn.out]; exact hlt)⟩
      obtain ⟨b, Ai, ci⟩ := x
      have Hx := Lib.hid hx
      have hcell : ∀ (W : World), Spared w W l → W.cell? ⟨gB, i, none⟩ = some (.slice Ai b.length ci) := fun W h => own_cellN (own_spared Ho.out h HQ.out (by decide)) i (baCells_get Hx.out)
      have Hcell := Lib.hid hcell
      have tm : (i : Int).tmod 250 = (i : Int) % 250 := by rw [Int.tmod_eq_emod_of_nonneg (by omega)]
      have tw : IntKind.u8.wrap ((1 : Int) + (i : Int) % 250) = ((UInt8.ofNat (1 + i % 250)).toNat : Int) := by rw [mk_num, IntKind.wrap_u8]; omega
      obtain ⟨nb, hnb⟩ : ∃ nb, b.length = nb := ⟨_, rfl⟩
      rw [hnb] at Hcell
      have hnbl : nb ≤ 70368744170000 := by have := Hs.out _ (List.mem_of_getElem? hx); simp only at this; omega
      have Hnb := Lib.hid hnb
      clear hx hcell hnb
      go_wp2
      go_loopg [5] nb (fun m v5 wr => ∃ (j : Nat), m + j = nb ∧ v5 = .int .i64 j ∧ Aside (∃ cur, Filling w l base wr i j cur))
      case atStart => exact ⟨0, by omega, rfl, ⟨_, HF⟩⟩
      case round =>
        clear HF
        obtain ⟨j, hm2, rfl, HA⟩ := hrel
        obtain ⟨cur, HF⟩ := HA.out
        clear HA
        have hcw := Hcell.out _ HF.sp
        by_cases hj : j < nb
        · have r1 : decide ((j : Int) < (nb : Int)) = true := by rw [decide_eq_true_eq]; omega
          have r1' : decide (j < nb) = true := by rw [decide_eq_true_eq]; exact hj
          obtain ⟨b', hb', hbl⟩ := HF.get Hx.out
          have hB := HF.rows.all _ (List.mem_of_getElem? hb')
          have hjb : j < b.length := by rw [Hnb.out]; exact hj
          obtain ⟨gi, hgi, _⟩ := hB.at_ (by simp only [hbl]; omega)
          simp only at hgi
          subst hgi
          have hjb' : j < b'.length := by omega
          have Hb' := Lib.hid hb'
          have HFF := Lib.hid HF
          clear hb' HF hbl
          go_wp2_with (first
            | ((with_reducible refine gate_store (p := 33) rfl ?_); refine ev_store_ob (b := UInt8.ofNat (1 + i % 250)) rfl rfl rfl hB (k := j) hjb' rfl rfl (by kernel_rfl) ?_; intro W2 B9 hgr))
          go_roundg (gk - 1)
          case measure => omega
          case rel => exact ⟨j + 1, by omega, by go_num, ⟨_, HFF.out.byte Hx.out Hb'.out hjb B9 hgr⟩⟩
        · have r1 : decide ((j : Int) < (nb : Int)) = false := by rw [decide_eq_false_iff_not]; omega
          have r1' : decide (j < nb) = false := by rw [decide_eq_false_iff_not]; exact hj
          obtain rfl : j = nb := by omega
          go_wp2
          go_roundg (gm - 1)
          case measure => omega
          case rel => exact ⟨i + 1, by omega, by go_num, ⟨cur, HF.next_row Hx.out Hnb.out.symm⟩⟩
    · have hin : l.length = i := by rw [Hn.out]; omega
      have s1 : decide ((i : Int) < (n : Int)) = false := by rw [decide_eq_false_iff_not]; omega
      have s1' : decide (i < n) = false := by rw [decide_eq_false_iff_not]; exact hlt
      rw [← hin] at HF
      have hcur := HF.done
      subst hcur
      have X0 := fill_start3 HQ.out HF hbase
      have HX0 := Lib.hid X0
      clear HF hin X0
      go_wp2
      go_loopg [3, 6] n (fun m v3 v6 wr => ∃ (k : Nat) (A5 : Option Addr) (c5 : Nat) (ts : List (Nat × BA)), m + k = n ∧ v6 = .int .i64 k ∧ v3 = .slice A5 k c5 ∧ Aside (More3 l k ts ∧ wr.ownsRow w.heap.size 25 1 (.slice A5 k c5) k (baCells (ts.map (·.2))) ∧ Fill (F3 l) w l base wr (tagged (marks l) ++ ts)))
      case atStart => exact ⟨0, none, 0, [], by omega, rfl, rfl, ⟨More3.nil, own_nil _ _ _ _, by simpa using HX0.out⟩⟩
      case round =>
        clear HX0
        obtain ⟨gm2, rfl⟩ : ∃ gm2, gm2 = gk := ⟨_, rfl⟩
        obtain ⟨k, A5, c5, ts, hm2, rfl, rfl, HA⟩ := hrel
        obtain ⟨hmore, o5, X1⟩ := HA.out
        clear HA
        have Hmore := Lib.hid hmore
        clear hmore
        by_cases hk : k < n
        · have r1 : decide ((k : Int) < (n : Int)) = true := by rw [decide_eq_true_eq]; omega
          have r1' : decide (k < n) = true := by rw [decide_eq_true_eq]; exact hk
          obtain ⟨gB, rfl, _⟩ := own_at Ho.out (by omega)
          obtain ⟨x, hx⟩ : ∃ x, l[k]? = some x := ⟨_, List.getElem?_eq_getElem (by rw [Hn.out]; exact hk)⟩
          obtain ⟨b, Ai, ci⟩ := x
          have Hx := Lib.hid hx
          have hcell : ∀ (W : World), Spared w W l → W.cell? ⟨gB, k, none⟩ = some (.slice Ai b.length ci) := fun W h => own_cellN (own_spared Ho.out h HQ.out (by decide)) k (baCells_get Hx.out)
          have Hcell := Lib.hid hcell
          have hmem : (k, MK k b.length, Ai, ci) ∈ tagged (marks l) ++ ts := List.mem_append_left _ (tagged_mem.2 (by rw [marks_get, Hx.out]; rfl))
          have hpj : ∀ j, j < b.length + 70 → MK k (b.length + j) ++ MK k 1 <+: F3 l k := fun j hj => by
            rw [MK_add]
            exact F3_pre Hx.out (j := j + 1) (by simp only; omega)
          obtain ⟨nb, hnb⟩ : ∃ nb, b.length = nb := ⟨_, rfl⟩
          have hnbl : nb ≤ 70368744170000 := by have := Hs.out _ (List.mem_of_getElem? hx); simp only at this; omega
          rw [hnb] at Hcell hmem hpj
          have Hnb := Lib.hid hnb
          have Hmem := Lib.hid hmem
          have Hpj := Lib.hid hpj
          have hcw := Hcell.out _ X1.sp
          have X2 := X1.sub (qs := (k, MK k (nb + 0), Ai, ci) :: (tagged (marks l) ++ ts)) (fun x hx => by
            rcases List.mem_cons.1 hx with rfl | hx
            · exact Hmem.out
            · exact hx)
          have tm : (k : Int).tmod 250 = (k : Int) % 250 := by rw [Int.tmod_eq_emod_of_nonneg (by omega)]
          have tw := mark_wrap k
          have hone : MK k 1 = [UInt8.ofNat (1 + k % 250)] := rfl
          have Hone := Lib.hid hone
          clear X1 hone
          have HX2 := Lib.hid X2
          clear X2 hx hcell hnb hmem hpj
          go_wp2
          go_loopg [7, 8] (nb + 70) (fun m v7 v8 wr => ∃ (j : Nat) (A3 : Option Addr) (c3 : Nat), m + j = nb + 70 ∧ v8 = .int .i64 j ∧ v7 = .slice A3 (nb + j) c3 ∧ Aside (wr.ownsRow w.heap.size 25 1 (.slice A5 k c5) k (baCells (ts.map (·.2))) ∧ Fill (F3 l) w l base wr ((k, MK k (nb + j), A3, c3) :: (tagged (marks l) ++ ts))))
          case atStart => exact ⟨0, Ai, ci, by omega, rfl, rfl, ⟨o5, HX2.out⟩⟩
          case round =>
            clear o5 HX2 hcw
            obtain ⟨j, A3, c3, hm3, rfl, rfl, HA⟩ := hrel
            obtain ⟨o5, X1⟩ := HA.out
            clear HA
            have hcw := Hcell.out _ X1.sp
            by_cases hj : j < nb + 70
            · have q1 : decide ((j : Int) < (nb : Int) + 70) = true := by rw [decide_eq_true_eq]; omega
              have q1' : decide (j < nb + 70) = true := by rw [decide_eq_true_eq]; exact hj
              have Hpp := Lib.hid (Hpj.out j hj)
              have hlen : (MK k (nb + j)).length = nb + j := MK_len _ _
              have Hlen := Lib.hid hlen
              clear hlen
              generalize hmb : UInt8.ofNat (1 + k % 250) = mb at tw Hone
              go_wp2_with (first
                | ((with_reducible refine gate_dst (N := 59) rfl ?_); refine ev_lit rfl rfl (#[.int .u8 mb.toNat]) 5 1 (by first | (go_simp; done) | (go_simp; rfl)) ?_; intro g5 W1 hg5 hsz hbn; have hgr := grown_of_below hbn; have zg5 : w.heap.size ≤ g5 := (by have := X1.size; omega); replace o5 := o5.kept hgr (by cases Value.ownBlock _ <;> simp); replace X1 := X1.grown hgr; have hcg5 := hg5.cell; have hfg5 := hg5.frozen; clear hsz hbn hgr)
                | ((with_reducible refine gate_dst (N := 60) rfl ?_); refine ev_append_ob rfl rfl rfl Hlen.out (X1.fam.all _ List.mem_cons_self) (by have := X1.ok; have := X1.size; omega) rfl (MK_len k 1) (by rw [Hone.out]; exact blk_bytes hg5) (by omega) ?_; intro A4 c4 W2 hG; replace o5 := own_fam o5 X1.fam List.mem_cons_self hG.grown (by decide); replace X1 := X1.append List.mem_cons_self Hpp.out hG; clear hG))
              have X3 := X1.sub (qs := (k, MK k (nb + (j + 1)), A4, c4) :: (tagged (marks l) ++ ts)) (fun x hx => by
                rcases List.mem_cons.1 hx with rfl | hx
                · rw [show MK k (nb + (j + 1)) = MK k (nb + j) ++ MK k 1 from (MK_add k (nb + j) 1).symm]
                  exact List.mem_cons_self
                · exact List.mem_cons_of_mem _ (List.mem_cons_of_mem _ hx))
              go_roundg (gk - 1)
              case measure => omega
              case rel => exact ⟨j + 1, A4, c4, by omega, by go_num, rfl, ⟨o5, X3⟩⟩
            · have q1 : decide ((j : Int) < (nb : Int) + 70) = false := by rw [decide_eq_false_iff_not]; omega
              have q1' : decide (j < nb + 70) = false := by rw [decide_eq_false_iff_not]; exact hj
              obtain ⟨nz, hnz⟩ : ∃ nz, nz = nb + j := ⟨_, rfl⟩
              have hnz2 : nz = 2 * nb + 70 := by omega
              rw [← hnz] at X1 ⊢
              have X3 := X1.sub (qs := tagged (marks l) ++ (ts ++ [(k, MK k nz, A3, c3)])) (fun x hx => by
                simp only [List.mem_append, List.mem_cons, List.not_mem_nil, or_false] at hx ⊢
                rcases hx with h | h | h <;> simp [h])
              have Hm2 := Lib.hid (Hmore.out.snoc Hx.out (y := (k, MK k nz, A3, c3)) (by simp only [Hnb.out, hnz2]))
              clear X1 hnz hnz2
              go_wp2_with (first
                | ((with_reducible refine gate_dst (N := 63) rfl ?_); refine ev_lit rfl rfl (#[.slice A3 nz c3]) 25 1 (by first | (go_simp; done) | (go_simp; rfl)) ?_; intro g5 W1 hg5 hsz hbn; have hgr := grown_of_below hbn; have zg5 : w.heap.size ≤ g5 := (by have := X3.size; omega); replace o5 := o5.kept hgr (by cases Value.ownBlock _ <;> simp); replace X3 := X3.grown hgr; have hcg5 := hg5.cell; have hfg5 := hg5.frozen; clear hsz hbn hgr)
                | ((with_reducible refine gate_dst (N := 64) rfl ?_); refine ev_append rfl rfl Tryd.underlying24 info_bytes rfl (by omega) rfl o5 rfl (hg5.reads (size := 1) (n := 1) rfl) (fun u hu => by simp at hu; subst hu; rfl) (by omega) (by omega) (by have := X3.size; omega) ?_; intro A6 c6 W2 on hgr hat; replace X3 := X3.kept hgr (X3.ne_own o5 (by decide)); replace o5 := on; clear on hgr hat))
              go_roundg (gm2 - 1)
              case measure => omega
              case rel => exact ⟨k + 1, A6, c6, _, by omega, by go_num, rfl, ⟨Hm2.out, by rw [List.map_append, baCells_append]; simpa [baCells, MK_len] using o5, X3⟩⟩
        · obtain rfl : k = n := by omega
          have r1 : decide ((k : Int) < (k : Int)) = false := by simp
          have r1' : decide (k < k) = false := by simp
          go_wp2
          go_ret
          exact ⟨A5, c5, ts, rfl, Hmore.out, o5, X1⟩
end Go.Proofs.YtikodgaomhmbmaaDoor
namespace Go.Proofs.YtikodgaomhmbmaaDoor
open Go.RowKit

/-- What stand is asked of reads as it should. -/
structure Stands3 (w : World) (l : List BA) (n : Nat) (A B : Option Addr) (ts : List (Nat × BA)) : Prop where
  more : More3 l n ts
  len : l.length = n
  rowA : Reads w w.heap.size 1 A n (baCells l)
  rowB : Reads w w.heap.size 1 B n (baCells (ts.map (·.2)))
  marks : ∀ i x, l[i]? = some x → RB w x.2.1 (MK i x.1.length)
  longs : ∀ y ∈ ts, RB w y.2.2.1 y.2.1
  short : n ≤ 1000000000 ∧ ∀ x ∈ l, x.1.length ≤ 70368744170000
theorem stands3_of_fam {w : World} {base b1 b2 n c d : Nat} {l : List BA} {A B : Option Addr} {ts : List (Nat × BA)} (hm : More3 l n ts) (hn : l.length = n) (hA : w.ownsRow b1 25 1 (.slice A n c) n (baCells l)) (hB : w.ownsRow b2 25 1 (.slice B n d) n (baCells (ts.map (·.2))))
    (hV : Fam (F3 l) w base (tagged (marks l) ++ ts)) (hs : n ≤ 1000000000) (hs2 : ∀ x ∈ l, x.1.length ≤ 70368744170000) : Stands3 w l n A B ts := by
  refine ⟨hm, hn, Reads.of_own hA, Reads.of_own hB, fun i x hx => ?_, fun y hy => (hV.all y (List.mem_append_right _ hy)).rb, hs, hs2⟩
  have h1 : (i, MK i x.1.length, x.2) ∈ tagged (marks l) ++ ts := List.mem_append_left _ (tagged_mem.2 (by rw [marks_get, hx]; rfl))
  exact (hV.all _ h1).rb
theorem Stands3.next {w w' : World} {l : List BA} {n : Nat} {A B : Option Addr} {ts : List (Nat × BA)} (h : Stands3 w l n A B ts) (hb : Below w.heap.size w w') : Stands3 w' l n A B ts :=
  ⟨h.more, h.len, Reads.next h.rowA hb, Reads.next h.rowB hb, fun i x hx => (h.marks i x hx).next hb, fun y hy => (h.longs y hy).next hb, h.short⟩

set_option maxHeartbeats 4000000 in
set_option maxRecDepth 100000 in
theorem stand3_calls (l : List BA) (n : Nat) (A B : Option Addr) (c d : Nat) (ts : List (Nat × BA)) (w : World) (hS : Stands3 w l n A B ts) :
    Calls Tryd.prog 17 #[.slice A n c, .slice B n d] w fun e w' => e = .returned (.bool true) ∧ Below w.heap.size w w' := by
  have HB := Below.refl w.heap.size w
  have HS := Lib.hid hS
  have hl := hS.short.1
  clear hS
  go_enter Tryd.func17, Tryd.ntmps17
  go_wp2
  go_loopg [5] n (fun m v5 wr => ∃ i : Nat, m + i = n ∧ v5 = .int .i64 i ∧ Aside (Below w.heap.size w wr))
  case atStart => exact ⟨0, by omega, rfl, HB⟩
  case round =>
    clear HB
    obtain ⟨gm, rfl⟩ : ∃ gm, gm = gk := ⟨_, rfl⟩
    obtain ⟨i, hm, rfl, HA⟩ := hrel
    have HB := HA.out
    clear HA
    by_cases hi : i < n
    · have s1 : decide ((i : Int) < (n : Int)) = true := by rw [decide_eq_true_eq]; omega
      have s1' : decide (i < n) = true := by rw [decide_eq_true_eq]; exact hi
      obtain ⟨x, hx⟩ : ∃ x, l[i]? = some x := ⟨_, List.getElem?_eq_getElem (by rw [HS.out.len]; exact hi)⟩
      obtain ⟨b, Ai, ci⟩ := x
      have hbl := HS.out.short.2 _ (List.mem_of_getElem? hx)
      obtain ⟨nb, hnb⟩ : ∃ nb, b.length = nb := ⟨_, rfl⟩
      simp only [hnb] at hbl
      obtain ⟨ad, had, _, _⟩ := HS.out.rowA.2 (by omega)
      obtain ⟨bd, hbd, _, _⟩ := HS.out.rowB.2 (by omega)
      obtain ⟨y, hy, ey⟩ := HS.out.more.at_ i _ hi hx
      simp only [hnb] at ey
      have hlen : y.2.1.length = 2 * nb + 70 := by rw [ey, MK_len]
      have Hyr := Lib.hid (HS.out.longs y (List.mem_of_getElem? hy))
      have Hc0 := Lib.hid (fun (W : World) (hb : Below w.heap.size w W) => show W.cell? (ad.add i) = some (.slice Ai nb ci) from by
        have := (HS.out.next hb).rowA.cell_at (baCells_get hx) had
        rwa [show ((b, Ai, ci) : BA).1.length = nb from hnb] at this)
      have Hc1 := Lib.hid (fun (W : World) (hb : Below w.heap.size w W) => show W.cell? (bd.add i) = some (.slice y.2.2.1 (2 * nb + 70) y.2.2.2) from by
        have := (HS.out.next hb).rowB.cell_at (k := i) (baCells_get (by rw [List.getElem?_map, hy]; rfl)) hbd
        rwa [hlen] at this)
      have hc0 := Hc0.out _ HB
      have hc1 := Hc1.out _ HB
      have Hx := Lib.hid hx
      have Hnb := Lib.hid hnb
      have Hey := Lib.hid ey
      subst had
      subst hbd
      clear hx hnb hy ey hlen
      have tm1 : (i : Int).tmod 250 = (i : Int) % 250 := by rw [Int.tmod_eq_emod_of_nonneg (by omega)]
      have tw1 := mark_wrap i
      go_wp2
      clear hc0 hc1
      go_loopg [8] (2 * nb + 70) (fun m v8 wr => ∃ j : Nat, m + j = 2 * nb + 70 ∧ v8 = .int .i64 j ∧ Aside (Below w.heap.size w wr))
      case atStart => exact ⟨0, by omega, rfl, HB⟩
      case round =>
        clear HB
        obtain ⟨j, hmj, rfl, HA⟩ := hrel
        have HB := HA.out
        clear HA
        have hc1 := Hc1.out _ HB
        have hc0 := Hc0.out _ HB
        by_cases hj : j < 2 * nb + 70
        · have q1 : decide ((j : Int) < 2 * (nb : Int) + 70) = true := by rw [decide_eq_true_eq]; omega
          have q1' : decide (j < 2 * nb + 70) = true := by rw [decide_eq_true_eq]; exact hj
          obtain ⟨yd, hyd, hc5⟩ := (Hyr.out.next HB).cell_at (k := j) (b := UInt8.ofNat (1 + i % 250)) (by rw [Hey.out]; exact MK_get hj)
          rw [hyd] at hc1
          by_cases hjn : j < nb
          · have q3 : decide ((j : Int) < (nb : Int)) = true := by rw [decide_eq_true_eq]; omega
            have q3' : decide (j < nb) = true := by rw [decide_eq_true_eq]; exact hjn
            obtain ⟨xd, hxd, hc6⟩ := ((HS.out.marks i _ Hx.out).next HB).cell_at (k := j) (b := UInt8.ofNat (1 + i % 250)) (by rw [show ((b, Ai, ci) : BA).1.length = nb from Hnb.out]; exact MK_get hjn)
            simp only at hxd
            rw [hxd] at hc0
            clear Hc0 Hc1
            go_wp2
            go_roundg (gk - 1)
            case measure => omega
            case rel => exact ⟨j + 1, by omega, by go_num, HB⟩
          · have q3 : decide ((j : Int) < (nb : Int)) = false := by rw [decide_eq_false_iff_not]; omega
            have q3' : decide (j < nb) = false := by rw [decide_eq_false_iff_not]; exact hjn
            clear Hc0 Hc1
            go_wp2
            go_roundg (gk - 1)
            case measure => omega
            case rel => exact ⟨j + 1, by omega, by go_num, HB⟩
        · have q1 : decide ((j : Int) < 2 * (nb : Int) + 70) = false := by rw [decide_eq_false_iff_not]; omega
          have q1' : decide (j < 2 * nb + 70) = false := by rw [decide_eq_false_iff_not]; exact hj
          go_wp2
          go_roundg (gm - 1)
          case measure => omega
          case rel => exact ⟨i + 1, by omega, by go_num, HB⟩
    · obtain rfl : i = n := by omega
      have s1 : decide ((i : Int) < (i : Int)) = false := by simp
      have s1' : decide (i < i) = false := by simp
      go_wp2
      go_ret
      exact ⟨rfl, HB⟩
end Go.Proofs.YtikodgaomhmbmaaDoor
namespace Go.Proofs.YtikodgaomhmbmaaDoor
open Go.RowKit
attribute [local go_sem] Rec.size_ Rec.g0 Rec.g1 Rec.g2 Rec.g3 Rec.g4 Rec.g5 Rec.g6 Rec.g7 Rec.g8 Rec.g9 Rec.g10 Rec.g11 Rec.fold Rec.lit_fold

theorem copied_ob (l : List UInt8) (n : Nat) (hn : l.length = n) (A : Option Addr) (c : Nat) (hl : n ≤ 140737488351232) (w : World) (hd : RB w A l) :
    Calls Tryd.prog 12 #[.slice A n c] w fun e w' => ∃ A' c', e = .returned (.slice A' n c') ∧ OB w' w.heap.size A' c' l ∧ Below w.heap.size w w' := by
  subst hn
  exact (copied_calls l A c hl w hd).mono fun e w' ⟨A', c', he, ho, hb⟩ => ⟨A', c', he, OB.of_own ho, hb⟩
theorem RZs.get {w : World} {os : List BA} (h : RZs w os) {k : Nat} {b : List UInt8} {A : Option Addr} {c : Nat} (hx : os[k]? = some (b, A, c)) : RU w A b := h _ (List.mem_of_getElem? hx)
set_option maxHeartbeats 2000000 in
set_option maxRecDepth 100000 in
theorem bytes2_calls (l : List BA) (n : Nat) (hn : l.length = n) (A : Option Addr) (c : Nat) (hl : n ≤ 1000000000) (hs : ∀ x ∈ l, x.1.length ≤ 140737488351232) (w : World) (hr : Reads w w.heap.size 1 A n (baCells l)) (hz : RZs w l) :
    Calls Tryd.prog 14 #[.slice A n c] w fun e w' => ∃ (A' : Option Addr) (c' : Nat) (os : List BA), e = .returned (.slice A' n c') ∧ Aside (os.map (·.1) = l.map (·.1)) ∧ w'.ownsRow w.heap.size 25 1 (.slice A' n c') n (baCells os) ∧ OBs w' w.heap.size os ∧ Below w.heap.size w w' := by
  have HB := Below.refl w.heap.size w
  have Hr := Lib.hid hr
  have Hz := Lib.hid hz
  have Hn := Lib.hid hn
  have Hs := Lib.hid hs
  clear hr hz hn hs
  go_enter Tryd.func14, Tryd.ntmps14
  go_wp2
  go_loopg [3, 4] n (fun m v3 v4 wr => ∃ (k : Nat) (A' : Option Addr) (c' : Nat) (os : List BA), m + k = n ∧ v4 = .int .i64 k ∧ v3 = .slice A' k c' ∧
    Aside (os.map (·.1) = (l.map (·.1)).take k ∧ wr.ownsRow w.heap.size 25 1 (.slice A' k c') k (baCells os) ∧ OBs wr w.heap.size os ∧ Below w.heap.size w wr))
  case atStart => exact ⟨0, none, 0, [], by omega, rfl, rfl, ⟨rfl, own_nil _ _ _ _, OBs.nil, HB⟩⟩
  case round =>
    clear HB
    obtain ⟨k, A2, c2, os, hm, rfl, rfl, HA⟩ := hrel
    obtain ⟨hos, o1, Qo, HB⟩ := HA.out
    clear HA
    have Hos := Lib.hid hos
    clear hos
    by_cases hlt : k < n
    · have s1 : decide ((k : Int) < (n : Int)) = true := by rw [decide_eq_true_eq]; omega
      have s1' : decide (k < n) = true := by rw [decide_eq_true_eq]; exact hlt
      obtain ⟨x, hx⟩ : ∃ x, l[k]? = some x := ⟨_, List.getElem?_eq_getElem (by rw [Hn.out]; exact hlt)⟩
      obtain ⟨b, Ab, cb⟩ := x
      have hbl := Hs.out _ (List.mem_of_getElem? hx)
      have hxd := (Hz.out.get hx).rb
      obtain ⟨ad, had, hadlt, _⟩ := Hr.out.2 (by omega)
      have hcell : wr.cell? (ad.add k) = some (.slice Ab b.length cb) := by
        rw [HB.cell (by rw [block_of_add]; exact hadlt)]
        exact Hr.out.cell_at (baCells_get hx) had
      have n3 : (l.map (·.1)).take (k + 1) = (l.map (·.1)).take k ++ [b] := by rw [List.take_add_one, List.getElem?_map, hx]; rfl
      have N3 := Lib.hid n3
      subst had
      clear hx n3
      obtain ⟨nb, hnb⟩ : ∃ nb, b.length = nb := ⟨_, rfl⟩
      simp only [hnb] at hbl hcell
      have Hnb := Lib.hid hnb
      clear hnb
      go_wp2_with (first
        | (go_at_call 12; (with_reducible refine (copied_ob b nb Hnb.out Ab cb hbl _ (hxd.next HB)).mono ?_); rintro e W1 ⟨A5, c5, rfl, B5, hb⟩; have hgr := grown_of_below hb; have dQoB5 := Qo.apart_new B5 (Nat.le_refl _); replace B5 := B5.mono HB.size; replace Qo := Qo.kept hgr (by simp); replace o1 := o1.kept hgr (by cases Value.ownBlock _ <;> simp); replace HB := HB.grown hgr (by have := HB.size; omega) (by simp); clear hb hgr)
        | ((with_reducible refine gate_dst (N := 17) rfl ?_); refine ev_lit rfl rfl (#[.slice A5 nb c5]) 25 1 (by first | (go_simp; done) | (go_simp; rfl)) ?_; intro g5 W2 hg5 hsz hbn; have hgr := grown_of_below hbn; have zg5 : w.heap.size ≤ g5 := (by have := HB.size; omega); replace B5 := B5.kept hgr (by simp); replace Qo := Qo.kept hgr (by simp); replace o1 := o1.kept hgr (by cases Value.ownBlock _ <;> simp); replace HB := HB.grown hgr (by have := HB.size; omega) (by simp); have hcg5 := hg5.cell; have hfg5 := hg5.frozen; clear hsz hbn hgr)
        | ((with_reducible refine gate_dst (N := 18) rfl ?_); refine ev_append rfl rfl Tryd.underlying24 info_bytes rfl (by omega) rfl o1 rfl (hg5.reads (size := 1) (n := 1) rfl) (fun u hu => by simp at hu; subst hu; rfl) (by omega) (by omega) (by have := HB.size; omega) ?_; intro A6 c6 W3 on hgr hat; replace B5 := B5.kept hgr (OB.ne_own B5 o1 (by decide)); replace Qo := Qo.kept hgr (OBs.ne_own Qo o1 (by decide)); replace HB := HB.grown hgr (by have := HB.size; omega) (own_base o1); replace o1 := on; clear on hgr hat))
      go_roundg (gk - 1)
      case measure => omega
      case rel => exact ⟨k + 1, A6, c6, os ++ [(b, A5, c5)], by omega, by go_num, rfl, ⟨by rw [List.map_append, Hos.out, N3.out]; rfl, by rw [baCells_append]; simpa [baCells, Hnb.out] using o1, Qo.snoc B5 dQoB5, HB⟩⟩
    · have s1 : decide ((k : Int) < (n : Int)) = false := by rw [decide_eq_false_iff_not]; omega
      have s1' : decide (k < n) = false := by rw [decide_eq_false_iff_not]; exact hlt
      obtain rfl : k = n := by omega
      have n3 : os.map (·.1) = l.map (·.1) := by rw [Hos.out, List.take_of_length_le (by rw [List.length_map, Hn.out]; omega)]
      go_wp2
      go_ret
      first | exact ⟨A2, c2, os, rfl, n3, o1, Qo, HB⟩ | exact ⟨A2, c2, rfl, os, n3, o1, Qo, HB⟩

set_option maxHeartbeats 2000000 in
set_option maxRecDepth 100000 in
theorem alikeAll_calls (l m : List BA) (n : Nat) (hn : l.length = n) (hlm : l.map (·.1) = m.map (·.1)) (A B : Option Addr) (c d : Nat) (hl : n ≤ 1000000000) (hs : ∀ x ∈ l, x.1.length ≤ 140737488351232) (w : World) (hra : Reads w w.heap.size 1 A n (baCells l)) (hrb : Reads w w.heap.size 1 B n (baCells m)) (hza : RZs w l) (hzb : RZs w m) :
    Calls Tryd.prog 16 #[.slice A n c, .slice B n d] w fun e w' => e = .returned (.bool true) ∧ Below w.heap.size w w' := by
  have HB := Below.refl w.heap.size w
  have hlen : m.length = n := by have := congrArg List.length hlm; simp at this; omega
  have t1 : ((n : Int) != (n : Int)) = false := by simp
  have Hlm := Lib.hid hlm
  have Ha := Lib.hid hra
  have Hb := Lib.hid hrb
  have Hza := Lib.hid hza
  have Hzb := Lib.hid hzb
  have Hn := Lib.hid hn
  have Hlen := Lib.hid hlen
  have Hs := Lib.hid hs
  clear hlm hra hrb hza hzb hn hlen hs
  go_enter Tryd.func16, Tryd.ntmps16
  go_wp2
  go_loopg [5] n (fun q v5 wr => ∃ k : Nat, q + k = n ∧ v5 = .int .i64 k ∧ Aside (Below w.heap.size w wr))
  case atStart => exact ⟨0, by omega, rfl, HB⟩
  case round =>
    clear HB
    obtain ⟨k, hq, rfl, HA⟩ := hrel
    have HB := HA.out
    clear HA
    by_cases hlt : k < n
    · have s1 : decide ((k : Int) < (n : Int)) = true := by rw [decide_eq_true_eq]; omega
      have s1' : decide (k < n) = true := by rw [decide_eq_true_eq]; exact hlt
      obtain ⟨x, hx⟩ : ∃ x, l[k]? = some x := ⟨_, List.getElem?_eq_getElem (by rw [Hn.out]; exact hlt)⟩
      obtain ⟨y, hy⟩ : ∃ y, m[k]? = some y := ⟨_, List.getElem?_eq_getElem (by rw [Hlen.out]; exact hlt)⟩
      have hxy : x.1 = y.1 := by
        have h := congrArg (fun z => z[k]?) Hlm.out
        simp only [List.getElem?_map, hx, hy, Option.map_some, Option.some.injEq] at h
        exact h
      obtain ⟨b, Ar, cr⟩ := x
      obtain ⟨b', Br, dr⟩ := y
      simp only at hxy
      subst hxy
      have hbl := Hs.out _ (List.mem_of_getElem? hx)
      simp only at hbl
      have hxd := (Hza.out.get hx).rb
      have hyd := (Hzb.out.get hy).rb
      obtain ⟨ad, had, hal, _⟩ := Ha.out.2 (by omega)
      obtain ⟨bd, hbd, hbdl, _⟩ := Hb.out.2 (by omega)
      have hca : ∀ (W : World), Below w.heap.size w W → W.cell? (ad.add k) = some (.slice Ar b.length cr) := fun W hb => by
        rw [hb.cell (by rw [block_of_add]; exact hal)]
        exact Ha.out.cell_at (baCells_get hx) had
      have hcb : ∀ (W : World), Below w.heap.size w W → W.cell? (bd.add k) = some (.slice Br b.length dr) := fun W hb => by
        rw [hb.cell (by rw [block_of_add]; exact hbdl)]
        exact Hb.out.cell_at (baCells_get hy) hbd
      have Hca := Lib.hid hca
      have Hcb := Lib.hid hcb
      have ca := fun w h1 h2 => alike_same b Ar Br cr dr w h1 h2 hbl
      have Ca := Lib.hid ca
      subst had
      subst hbd
      clear hx hy hca hcb ca
      go_wp2
      refine held_start (fun w' => Below w.heap.size w w') (by kernel_rfl) (fun wd hbd => ?_)
      replace HB := below_go HB hbd
      refine take_at (i := 0) (v := .slice (some ad) n c) 17 rfl rfl (by kernel_rfl) (by kernel_rfl) (by kernel_rfl) (fun _ _ _ h => h) (.inl ⟨rfl, fun w h => by simp [go_sem]⟩) HB ?_
      simp only [Act.put, List.getElem_toArray, List.getElem_cons_succ, List.getElem_cons_zero, List.setIfInBounds_toArray, List.set_cons_succ, List.set_cons_zero]
      refine take_at (i := 1) (v := .int .i64 k) 18 rfl rfl (by kernel_rfl) (by kernel_rfl) (by kernel_rfl) (fun _ _ _ h => h) (.inl ⟨rfl, fun w h => by simp [go_sem]⟩) HB ?_
      simp only [Act.put, List.getElem_toArray, List.getElem_cons_succ, List.getElem_cons_zero, List.setIfInBounds_toArray, List.set_cons_succ, List.set_cons_zero]
      refine take_at (i := 2) (v := .pointer (some (ad.add k))) 19 rfl rfl (by kernel_rfl) (by kernel_rfl) (by kernel_rfl) (fun _ _ _ h => h) (.inl ⟨rfl, fun w h => by simp [go_sem, hlt]⟩) HB ?_
      simp only [Act.put, List.getElem_toArray, List.getElem_cons_succ, List.getElem_cons_zero, List.setIfInBounds_toArray, List.set_cons_succ, List.set_cons_zero]
      refine take_at (i := 3) (v := .slice Ar b.length cr) 20 rfl rfl (by kernel_rfl) (by kernel_rfl) (by kernel_rfl) (fun _ _ _ h => h) (.inl ⟨rfl, fun w h => by simp [go_sem, Hca.out w h]⟩) HB ?_
      simp only [Act.put, List.getElem_toArray, List.getElem_cons_succ, List.getElem_cons_zero, List.setIfInBounds_toArray, List.set_cons_succ, List.set_cons_zero]
      refine take_at (i := 4) (v := .slice (some bd) n d) 21 rfl rfl (by kernel_rfl) (by kernel_rfl) (by kernel_rfl) (fun _ _ _ h => h) (.inl ⟨rfl, fun w h => by simp [go_sem]⟩) HB ?_
      simp only [Act.put, List.getElem_toArray, List.getElem_cons_succ, List.getElem_cons_zero, List.setIfInBounds_toArray, List.set_cons_succ, List.set_cons_zero]
      refine take_at (i := 5) (v := .int .i64 k) 22 rfl rfl (by kernel_rfl) (by kernel_rfl) (by kernel_rfl) (fun _ _ _ h => h) (.inl ⟨rfl, fun w h => by simp [go_sem]⟩) HB ?_
      simp only [Act.put, List.getElem_toArray, List.getElem_cons_succ, List.getElem_cons_zero, List.setIfInBounds_toArray, List.set_cons_succ, List.set_cons_zero]
      refine take_at (i := 6) (v := .pointer (some (bd.add k))) 23 rfl rfl (by kernel_rfl) (by kernel_rfl) (by kernel_rfl) (fun _ _ _ h => h) (.inl ⟨rfl, fun w h => by simp [go_sem, hlt]⟩) HB ?_
      simp only [Act.put, List.getElem_toArray, List.getElem_cons_succ, List.getElem_cons_zero, List.setIfInBounds_toArray, List.set_cons_succ, List.set_cons_zero]
      refine take_at (i := 7) (v := .slice Br b.length dr) 24 rfl rfl (by kernel_rfl) (by kernel_rfl) (by kernel_rfl) (fun _ _ _ h => h) (.inl ⟨rfl, fun w h => by simp [go_sem, Hcb.out w h]⟩) HB ?_
      simp only [Act.put, List.getElem_toArray, List.getElem_cons_succ, List.getElem_cons_zero, List.setIfInBounds_toArray, List.set_cons_succ, List.set_cons_zero]
      refine held_one (i := 8) (by kernel_rfl) rfl ?_
      (refine ev_call2 rfl rfl ⟨_, _, Tryd.func54, by kernel_rfl, rfl⟩ rfl rfl ?_; refine Calls.mono (Ca.out _ (hxd.next HB) (hyd.next HB)) ?_; rintro e W1 ⟨rfl, hb⟩; refine ⟨_, rfl, ?_⟩; have hgr := grown_of_below hb; replace HB := HB.grown hgr (by have := HB.size; omega) (by simp); clear hb hgr)
      refine ⟨HB, ?_⟩
      try simp only [Act.put, List.getElem_toArray, List.getElem_cons_succ, List.getElem_cons_zero, List.setIfInBounds_toArray, List.set_cons_succ, List.set_cons_zero]
      refine held_one (i := 9) (by kernel_rfl) rfl ?_
      refine ev_run rfl (w1 := W1) (v := .bool false) (by simp [go_sem]) ?_
      refine ⟨HB, ?_⟩
      try simp only [Act.put, List.getElem_toArray, List.getElem_cons_succ, List.getElem_cons_zero, List.setIfInBounds_toArray, List.set_cons_succ, List.set_cons_zero]
      refine wpAnyH_done (by kernel_rfl) ?_ _
      go_wp2
      go_roundg (gk - 1)
      case measure => omega
      case rel => exact ⟨k + 1, by omega, by go_num, HB⟩
    · have s1 : decide ((k : Int) < (n : Int)) = false := by rw [decide_eq_false_iff_not]; omega
      have s1' : decide (k < n) = false := by rw [decide_eq_false_iff_not]; exact hlt
      go_wp2
      go_ret
      exact ⟨rfl, HB⟩

/-- What laid adds. -/
def pad3 : List UInt8 := [91, 92, 93]
set_option maxHeartbeats 2000000 in
set_option maxRecDepth 100000 in
theorem laid3_calls (r : Rec) (A : Option Addr) (c : Nat) (hl : r.Data.length ≤ 100000000000) (w : World) (hd : RB w A r.Data) :
    Calls Tryd.prog 11 #[.agg (r.cells A c)] w fun e w' => ∃ A' c', e = .returned (.tuple #[.agg (r.cells A' c'), .slice A' (r.Data.length + 3) c']) ∧ OB w' w.heap.size A' c' (r.Data ++ pad3) ∧ Below w.heap.size w w' := by
  have HB := Below.refl w.heap.size w
  go_enter Tryd.func11, Tryd.ntmps11
  go_wp2_with (first
    | ((with_reducible refine gate_dst (N := 1) rfl ?_); refine ev_box rfl rfl (r.cells A c) rfl ?_; intro g1 W1 hg1 hsz hbn; have hgr := grown_of_below hbn; have zg1 : w.heap.size ≤ g1 := (by have := HB.size; omega); replace HB := HB.grown hgr (by have := HB.size; omega) (by simp); have hcg1 := hg1.cell; have hfg1 := hg1.frozen; clear hsz hbn hgr)
    | ((with_reducible refine gate_dst (N := 2) rfl ?_); refine ev_alloc rfl rfl _ rec_zero ?_; intro g2 W2 hg2 hsz hbn; have hgr := grown_of_below hbn; have ng1g2 : g1 ≠ g2 := (by have := hg1.lt; omega); replace hg2 : Blk W2 g2 _ (Rec.zero.cells none 0) := hg2; have zg2 : w.heap.size ≤ g2 := (by have := HB.size; omega); replace hg1 := hg1.grown hgr (by simp); replace HB := HB.grown hgr (by have := HB.size; omega) (by simp); have hcg2 := hg2.cell; have hfg2 := hg2.frozen; replace hcg1 := hg1.cell; replace hfg1 := hg1.frozen; clear hsz hbn hgr)
    | (go_at_call 12; (with_reducible refine (copied_calls r.Data A c (by omega) _ (hd.next HB)).mono ?_); rintro e W3 ⟨A3, c3, rfl, o3, hb⟩; have hgr := grown_of_below hb; replace o3 := own_mono o3 HB.size; replace hg1 := hg1.grown hgr (by simp); replace hg2 := hg2.grown hgr (by simp); replace HB := HB.grown hgr (by have := HB.size; omega) (by simp); replace hcg1 := hg1.cell; replace hfg1 := hg1.frozen; replace hcg2 := hg2.cell; replace hfg2 := hg2.frozen; clear hb hgr)
    | ((with_reducible refine gate_dst (N := 12) rfl ?_); refine ev_lit rfl rfl (#[.int .u8 91, .int .u8 92, .int .u8 93]) 5 3 (by first | (go_simp; done) | (go_simp; rfl)) ?_; intro g5 W4 hg5 hsz hbn; have hgr := grown_of_below hbn; have ng1g5 : g1 ≠ g5 := (by have := hg1.lt; omega); have ng2g5 : g2 ≠ g5 := (by have := hg2.lt; omega); have zg5 : w.heap.size ≤ g5 := (by have := HB.size; omega); replace hg1 := hg1.grown hgr (by simp); replace hg2 := hg2.grown hgr (by simp); replace o3 := o3.kept hgr (by cases Value.ownBlock _ <;> simp); replace HB := HB.grown hgr (by have := HB.size; omega) (by simp); have hcg5 := hg5.cell; have hfg5 := hg5.frozen; replace hcg1 := hg1.cell; replace hfg1 := hg1.frozen; replace hcg2 := hg2.cell; replace hfg2 := hg2.frozen; clear hsz hbn hgr)
    | ((with_reducible refine gate_dst (N := 13) rfl ?_); refine ev_append rfl rfl Tryd.underlying25 info_u8 rfl (by omega) rfl o3 rfl (hg5.reads (size := 1) (n := 3) rfl) (fun u hu => by simp at hu; rcases hu with rfl | rfl | rfl <;> rfl) (by omega) (by omega) (by have := HB.size; omega) ?_; intro A4 c4 W5 on hgr hat; replace hg1 := hg1.grown hgr (fun e => own_blk_ne o3 hg1 (by decide) e.symm); replace hg2 := hg2.grown hgr (fun e => own_blk_ne o3 hg2 (by decide) e.symm); replace HB := HB.grown hgr (by have := HB.size; omega) (own_base o3); replace o3 := on; replace hcg1 := hg1.cell; replace hfg1 := hg1.frozen; replace hcg2 := hg2.cell; replace hfg2 := hg2.frozen; clear on hgr hat; have hcap := own_room o3)
    | ((with_reducible refine gate_store (p := 17) rfl ?_); refine ev_store_cell rfl rfl rfl hg1 rfl (i := 11) (v := .slice A4 r.Data.length c4) rfl rfl (by kernel_rfl) (by first | exact (show (11 : Nat) < 12 by decide) | exact (show (11 : Nat) < 16 by decide) | exact (show (11 : Nat) < 6 by decide)) ?_; intro W6 hgn hgr; replace hgn : Blk W6 g1 _ (r.cells A4 c4) := hgn; replace hg2 := hg2.grown hgr (by intro e; injection e with e; omega); replace o3 := o3.kept hgr (.inr (own_blk_ne o3 hg1 (by decide))); replace HB := HB.grown hgr (by have := HB.size; omega) (by intro k e; injection e with e; omega); replace hg1 := hgn; replace hcg1 := hg1.cell; replace hfg1 := hg1.frozen; replace hcg2 := hg2.cell; replace hfg2 := hg2.frozen; clear hgn hgr)
    | ((with_reducible refine gate_dst (N := 18) rfl ?_); refine wpList_load_row rfl _ _ rfl g1 rfl _ _ (0, 0) _ hg1 Tryd.underlying27 rfl rec_size ?_)
    | ((with_reducible refine gate_store (p := 2) rfl ?_); refine ev_store_row (cs := r.cells A4 c4) rfl rfl rfl hg2 rfl rfl rec_size rfl (cells_one _ _ _) ?_; intro W7 hgn hgr; replace hg1 := hg1.grown hgr (by intro e; injection e with e; omega); replace o3 := o3.kept hgr (.inr (own_blk_ne o3 hg2 (by decide))); replace HB := HB.grown hgr (by have := HB.size; omega) (by intro k e; injection e with e; omega); replace hg2 := hgn; replace hcg1 := hg1.cell; replace hfg1 := hg1.frozen; replace hcg2 := hg2.cell; replace hfg2 := hg2.frozen; clear hgn hgr))
  refine ret_row rfl hg2 rfl Tryd.underlying27 rfl rec_size rfl ?_
  exact ⟨A4, c4, rfl, OB.of_own (by rw [u8s_append, List.length_append]; exact o3), HB⟩

set_option maxHeartbeats 2000000 in
set_option maxRecDepth 100000 in
theorem untouched3_calls (b : List UInt8) (n : Nat) (hn : b.length = n) (A B : Option Addr) (c d : Nat) (hc : n + 3 ≤ c) (hl : n ≤ 100000000000) (w : World) (ha : RB w A (b ++ pad3)) (hb : RB w B b) :
    Calls Tryd.prog 20 #[.slice A (n + 3) c, .slice B n d] w fun e w' => e = .returned (.bool true) ∧ Below w.heap.size w w' := by
  have HB := Below.refl w.heap.size w
  subst hn
  obtain ⟨ad, hA, h1⟩ := ha.cell_at (k := b.length) (b := 91) (by rw [List.getElem?_append_right (Nat.le_refl _), Nat.sub_self]; rfl)
  obtain ⟨ad2, hA2, h2⟩ := ha.cell_at (k := b.length + 1) (b := 92) (by rw [List.getElem?_append_right (by omega), show b.length + 1 - b.length = 1 by omega]; rfl)
  obtain ⟨ad3, hA3, h3⟩ := ha.cell_at (k := b.length + 2) (b := 93) (by rw [List.getElem?_append_right (by omega), show b.length + 2 - b.length = 2 by omega]; rfl)
  have hpre : RB w A b := by
    refine ⟨by simp [u8s], fun hn => ?_⟩
    obtain ⟨ad, e, hlt, hcc⟩ := ha.2 (by rw [List.length_append]; omega)
    refine ⟨ad, e, hlt, fun j u hu => hcc j u ?_⟩
    have hj : j < (u8s b).length := (List.getElem?_eq_some_iff.1 hu).1
    rw [u8s_append, List.getElem?_append_left hj]
    exact hu
  subst hA
  injection hA2 with hA2
  injection hA3 with hA3
  subst hA2
  subst hA3
  have ca := fun w h1 h2 => alike_same b (some ad) B c d w h1 h2 (by omega)
  have Ca := Lib.hid ca
  have h1' : w.cell? (ad.add b.length) = some (.int .u8 91) := h1
  have h2' : w.cell? { block := ad.block, off := ad.off + (b.length + 1) } = some (.int .u8 92) := h2
  have h3' : w.cell? { block := ad.block, off := ad.off + (b.length + 2) } = some (.int .u8 93) := h3
  have H1 := Lib.hid (And.intro h1' (And.intro h2' h3'))
  have adl : ad.block < w.heap.size := by
    obtain ⟨ad4, e, hlt, _⟩ := ha.2 (by rw [List.length_append]; simp [pad3])
    injection e with e
    subst e
    exact hlt
  have hbc : b.length ≤ c := by omega
  generalize hnb : b.length = nb at Ca H1 hl hc hbc h1 h1' h2' h3' ⊢
  have Hpre := Lib.hid hpre
  have Hb := Lib.hid hb
  clear ca h1 h2 h3 h1' h2' h3' hpre ha hb hnb
  go_enter Tryd.func20, Tryd.ntmps20
  go_wp2_with (first
    | (go_at_call 54; (with_reducible refine (Ca.out _ Hpre.out Hb.out).mono ?_); rintro e w1 ⟨rfl, hb⟩; have x1 := (hb.cell (p := ad.add nb) (by rw [block_of_add]; exact adl)).trans H1.out.1; have x2 := (hb.cell (p := { block := ad.block, off := ad.off + (nb + 1) }) adl).trans H1.out.2.1; have x3 := (hb.cell (p := { block := ad.block, off := ad.off + (nb + 2) }) adl).trans H1.out.2.2))
  go_ret
  exact ⟨rfl, hb⟩
end Go.Proofs.YtikodgaomhmbmaaDoor
namespace Go.Proofs.YtikodgaomhmbmaaDoor
open Go.RowKit
attribute [local go_sem] Rec.size_ Rec.g0 Rec.g1 Rec.g2 Rec.g3 Rec.g4 Rec.g5 Rec.g6 Rec.g7 Rec.g8 Rec.g9 Rec.g10 Rec.g11 Rec.fold Rec.lit_fold

/-- What Encode answers. -/
noncomputable def encL (r : Rec) : List UInt8 := if r.chk = 0 then r.enc else []
theorem enc_ob (r : Rec) (A : Option Addr) (c : Nat) (hf : r.Fits) (w : World) (hT : Tabs w) (hd : RB w A r.Data) :
    Calls Tryd.prog 49 #[.agg (r.cells A c)] w fun e w' => ∃ A' c', e = .returned (.tuple #[.slice A' (encL r).length c', .int .i64 r.chk]) ∧ OB w' w.heap.size A' c' (encL r) ∧ Below w.heap.size w w' := by
  by_cases hc : r.chk = 0
  · have e1 : encL r = r.enc := if_pos hc
    rw [e1, hc]
    exact (encode_calls r A c hf w hT hd hc).mono fun e w' ⟨A', c', he, ho, hb⟩ => ⟨A', c', he, OB.of_own ho, hb⟩
  · have e1 : encL r = [] := if_neg hc
    rw [e1]
    exact (encode_bad r A c r.chk rfl hc hf w hT hd).mono fun e w' ⟨he, hb⟩ => ⟨none, 0, he, OB.nil, hb⟩
theorem dec_ob (v : Int) (l : List UInt8) (n : Nat) (hn : l.length = n) (L : Option Addr) (cl : Nat) (hcl : n ≤ cl) (hl : n ≤ 140737488351232) (w : World) (hT : Tabs w) (hd : RB w L l) :
    Calls Tryd.prog 47 #[.int .i64 v, .slice L n cl] w fun e w' => ∃ A' c', e = .returned (.tuple #[.agg ((decR v l).cells A' c'), .int .i64 (decE v l)]) ∧ OB w' w.heap.size A' c' (decR v l).Data ∧ Below w.heap.size w w' := by
  subst hn
  have := decode_calls v l L cl hcl hl w hT hd
  unfold DecSaid at this
  exact this.mono fun e w' ⟨A', c', he, ho, hb⟩ => ⟨A', c', he, OB.of_own ho, hb⟩
theorem clone_ob (r : Rec) (A : Option Addr) (c : Nat) (w : World) (hr : RB w A r.Data) (hl : r.Data.length ≤ 140737488351232) :
    Calls Tryd.prog 19 #[.agg (r.cells A c)] w fun e w' => ∃ A' c', e = .returned (.agg (r.cells A' c')) ∧ OB w' w.heap.size A' c' r.Data ∧ Below w.heap.size w w' :=
  (clone_calls r A c w hr hl).mono fun e w' ⟨A', c', he, ho, hb⟩ => ⟨A', c', he, OB.of_own ho, hb⟩

theorem enc_le (r : Rec) : (encL r).length ≤ 182600 := by
  unfold encL
  split
  · next h => exact encTo_short (valid_small h) 11 (by omega)
  · simp
theorem decR_le (v : Int) (l : List UInt8) : (decR v l).Data.length ≤ 16384 := by
  by_cases h0 : decE v l = 0
  · obtain ⟨_, e2, _, _⟩ := enc_of_dec h0
    exact (valid_small e2).2
  · rw [show decR v l = Rec.zero from if_neg h0]
    decide
/-- What handed takes of one record. -/
noncomputable def handB (r : Rec) : List (List UInt8) := [encL r, (decR r.V (encL r)).Data, r.Data]
noncomputable def handL (l : List Rec) : List (List UInt8) := l.flatMap handB
theorem handL_snoc (l : List Rec) (r : Rec) : handL (l ++ [r]) = handL l ++ handB r := by simp [handL]
theorem handL_len : ∀ l : List Rec, (handL l).length = 3 * l.length
  | [] => rfl
  | x :: l => by
    have := handL_len l
    unfold handL at this ⊢
    rw [List.flatMap_cons, List.length_append, this, List.length_cons]
    simp only [handB, List.length_cons, List.length_nil]
    omega
theorem handL_le {l : List Rec} (h : ∀ r ∈ l, r.Data.length ≤ 1048576) : ∀ b ∈ handL l, b.length ≤ 1048576 := fun b hb => by
  obtain ⟨r, hr, hb⟩ := List.mem_flatMap.1 hb
  have h1 := enc_le r
  have h2 := decR_le r.V (encL r)
  have h3 := h r hr
  simp only [handB, List.mem_cons, List.not_mem_nil, or_false] at hb
  rcases hb with rfl | rfl | rfl <;> omega
theorem OBs.snoc3 {w : World} {base : Nat} {os : List BA} {x y z : BA} (h : OBs w base os) (hx : OB w base x.2.1 x.2.2 x.1) (hy : OB w base y.2.1 y.2.2 y.1) (hz : OB w base z.2.1 z.2.2 z.1)
    (d1 : ∀ a ∈ os, Apart a.2.1 x.2.1) (d2 : ∀ a ∈ os, Apart a.2.1 y.2.1) (d3 : ∀ a ∈ os, Apart a.2.1 z.2.1) (dxy : Apart x.2.1 y.2.1) (dxz : Apart x.2.1 z.2.1) (dyz : Apart y.2.1 z.2.1) : OBs w base (os ++ [x, y, z]) := by
  have h1 := (h.snoc hx d1).snoc hy (fun a ha => by
    rcases List.mem_append.1 ha with ha | ha
    · exact d2 a ha
    · obtain rfl : a = x := by simpa using ha
      exact dxy)
  have h2 := h1.snoc hz (fun a ha => by
    rcases List.mem_append.1 ha with ha | ha
    · rcases List.mem_append.1 ha with ha | ha
      · exact d3 a ha
      · obtain rfl : a = x := by simpa using ha
        exact dxz
    · obtain rfl : a = y := by simpa using ha
      exact dyz)
  simpa [List.append_assoc] using h2
set_option maxHeartbeats 4000000 in
set_option maxRecDepth 100000 in
theorem handed_calls (l : List RA) (n n3 : Nat) (hn : l.length = n) (hn3 : n3 = 3 * n) (A : Option Addr) (c : Nat) (hl : n ≤ 1048576) (hfit : ∀ y ∈ l, y.1.Fits) (w : World) (hT : Tabs w) (hr : RR w A l) :
    Calls Tryd.prog 13 #[.slice A n c] w fun e w' => ∃ (A' : Option Addr) (c' : Nat) (os : List BA), e = .returned (.slice A' n3 c') ∧ Aside (os.map (·.1) = handL (l.map (·.1))) ∧ w'.ownsRow w.heap.size 25 1 (.slice A' n3 c') n3 (baCells os) ∧ OBs w' w.heap.size os ∧ Below w.heap.size w w' := by
  have HB := Below.refl w.heap.size w
  have HT := Lib.hid hT
  have Hr := Lib.hid hr
  have Hfit := Lib.hid hfit
  have Hn := Lib.hid hn
  have Hn3 := Lib.hid hn3
  clear hT hr hfit hn hn3
  go_enter Tryd.func13, Tryd.ntmps13
  go_wp2
  go_loopg [3, 4] n (fun m v3 v4 wr => ∃ (k q : Nat) (A' : Option Addr) (c' : Nat) (os : List BA), m + k = n ∧ v4 = .int .i64 k ∧ v3 = .slice A' q c' ∧
    Aside (q = 3 * k ∧ os.map (·.1) = handL ((l.map (·.1)).take k) ∧ wr.ownsRow w.heap.size 25 1 (.slice A' q c') q (baCells os) ∧ OBs wr w.heap.size os ∧ Below w.heap.size w wr))
  case atStart => exact ⟨0, 0, none, 0, [], by omega, rfl, rfl, ⟨rfl, rfl, own_nil _ _ _ _, OBs.nil, HB⟩⟩
  case round =>
    clear HB
    obtain ⟨k, q, A2, c2, os, hm, rfl, rfl, HA⟩ := hrel
    obtain ⟨hq, hos, o1, Qo, HB⟩ := HA.out
    clear HA
    have Hq := Lib.hid hq
    have Hos := Lib.hid hos
    clear hq hos
    by_cases hlt : k < n
    · have s1 : decide ((k : Int) < (n : Int)) = true := by rw [decide_eq_true_eq]; omega
      have s1' : decide (k < n) = true := by rw [decide_eq_true_eq]; exact hlt
      obtain ⟨x, hx⟩ : ∃ x, l[k]? = some x := ⟨_, List.getElem?_eq_getElem (by rw [Hn.out]; exact hlt)⟩
      obtain ⟨r, Ar, cr⟩ := x
      have hxm : (l.map (·.1))[k]? = some r := by rw [List.getElem?_map, hx]; rfl
      have hxf : r.Fits := Hfit.out _ (List.mem_of_getElem? hx)
      have hrl := hxf.data
      have hxd : RB w Ar r.Data := Hr.out.data _ (List.mem_of_getElem? hx)
      obtain ⟨ad, had, hadlt, _⟩ := Hr.out.get hx
      have hld := fun (W : World) (hb : Below w.heap.size w W) => (Hr.out.next hb).load hx had
      have Hld := Lib.hid hld
      have h00 : ∀ (W : World), Below w.heap.size w W → W.cell? (ad.add (k * 12)) = some (.int .i64 r.V) := fun W hb => by
        have := hld W hb 0 (.int .i64 r.V) rfl
        rwa [show (ad.add (k * 12)).add 0 = ad.add (k * 12) by unfold Addr.add; split <;> simp_all] at this
      have H00 := Lib.hid h00
      subst had
      have n3' : handL ((l.map (·.1)).take (k + 1)) = handL ((l.map (·.1)).take k) ++ handB r := by rw [List.take_add_one, hxm, ← handL_snoc]; rfl
      have N3 := Lib.hid n3'
      have cd := fun v => dec_ob v (encL r)
      have ce := fun w => enc_ob r Ar cr hxf w
      have el := enc_le r
      have dl := decR_le r.V (encL r)
      unfold handB at N3
      generalize encL r = E at ce cd N3 el dl
      have cd := cd r.V
      generalize decR r.V E = D at cd N3 dl
      generalize decE r.V E = de at cd
      generalize r.chk = ck at ce
      obtain ⟨ne, hne⟩ : ∃ ne, E.length = ne := ⟨_, rfl⟩
      have cd := fun L cl => cd ne hne L cl
      rw [hne] at el ce
      have Hne := Lib.hid hne
      have Cd := Lib.hid cd
      have Ce := Lib.hid ce
      clear hx hld n3' hxm cd ce hne h00
      go_wp2_with (first
        | ((with_reducible refine gate_dst (N := 20) rfl ?_); refine ev_load_at rfl rfl rfl (Hld.out _ HB) Tryd.underlying27 rfl rec_size ?_)
        | (go_at_call 49; (with_reducible refine (Ce.out _ (HT.out.next HB) (hxd.next HB)).mono ?_); rintro e W1 ⟨A5, c5, rfl, B5, hb⟩; have hgr := grown_of_below hb; have dQoB5 := Qo.apart_new B5 (Nat.le_refl _); replace B5 := B5.mono HB.size; replace Qo := Qo.kept hgr (by simp); replace o1 := o1.kept hgr (by cases Value.ownBlock _ <;> simp); replace HB := HB.grown hgr (by have := HB.size; omega) (by simp); clear hb hgr; have hx0 := H00.out _ HB; have hne5 := B5.len; rw [Hne.out] at hne5)
        | (go_at_call 47; (with_reducible refine (Cd.out A5 c5 hne5 (by omega) _ (HT.out.next HB) B5.rb).mono ?_); rintro e W2 ⟨A6, c6, rfl, B6, hb⟩; have hgr := grown_of_below hb; have dQoB6 := Qo.apart_new B6 (Nat.le_refl _); have dB5B6 := B5.apart_new B6 (Nat.le_refl _); replace B6 := B6.mono HB.size; replace B5 := B5.kept hgr (by simp); replace Qo := Qo.kept hgr (by simp); replace o1 := o1.kept hgr (by cases Value.ownBlock _ <;> simp); replace HB := HB.grown hgr (by have := HB.size; omega) (by simp); clear hb hgr)
        | ((with_reducible refine gate_dst (N := 7) rfl ?_); refine ev_alloc rfl rfl _ rec_zero ?_; intro g7 W3 hg7 hsz hbn; have hgr := grown_of_below hbn; replace hg7 : Blk W3 g7 _ (Rec.zero.cells none 0) := hg7; have zg7 : w.heap.size ≤ g7 := (by have := HB.size; omega); replace B6 := B6.kept hgr (by simp); replace B5 := B5.kept hgr (by simp); replace Qo := Qo.kept hgr (by simp); replace o1 := o1.kept hgr (by cases Value.ownBlock _ <;> simp); replace HB := HB.grown hgr (by have := HB.size; omega) (by simp); have hcg7 := hg7.cell; have hfg7 := hg7.frozen; clear hsz hbn hgr)
        | ((with_reducible refine gate_store (p := 7) rfl ?_); refine ev_store_row (cs := D.cells A6 c6) rfl rfl rfl hg7 rfl rfl rec_size rfl (cells_one _ _ _) ?_; intro W4 hgn hgr; replace B6 := B6.kept hgr (OB.ne_blk B6 hg7 (by decide)); replace B5 := B5.kept hgr (OB.ne_blk B5 hg7 (by decide)); replace Qo := Qo.kept hgr (OBs.ne_blk Qo hg7 (by decide)); replace o1 := o1.kept hgr (.inr (own_blk_ne o1 hg7 (by decide))); replace HB := HB.grown hgr (by have := HB.size; omega) (by intro k e; injection e with e; omega); replace hg7 := hgn; replace hcg7 := hg7.cell; replace hfg7 := hg7.frozen; clear hgn hgr)
        | ((with_reducible refine gate_dst (N := 37) rfl ?_); refine ev_load_at rfl rfl rfl (Hld.out _ HB) Tryd.underlying27 rfl rec_size ?_)
        | (go_at_call 19; (with_reducible refine (clone_ob r Ar cr _ (hxd.next HB) hrl).mono ?_); rintro e W5 ⟨A8, c8, rfl, B8, hb⟩; have hgr := grown_of_below hb; have dQoB8 := Qo.apart_new B8 (Nat.le_refl _); have dB5B8 := B5.apart_new B8 (Nat.le_refl _); have dB6B8 := B6.apart_new B8 (Nat.le_refl _); replace B8 := B8.mono HB.size; replace B6 := B6.kept hgr (by simp); replace B5 := B5.kept hgr (by simp); replace Qo := Qo.kept hgr (by simp); replace hg7 := hg7.grown hgr (by simp); replace o1 := o1.kept hgr (by cases Value.ownBlock _ <;> simp); replace HB := HB.grown hgr (by have := HB.size; omega) (by simp); replace hcg7 := hg7.cell; replace hfg7 := hg7.frozen; clear hb hgr)
        | ((with_reducible refine gate_dst (N := 9) rfl ?_); refine ev_alloc rfl rfl _ rec_zero ?_; intro g9 W6 hg9 hsz hbn; have hgr := grown_of_below hbn; have ng7g9 : g7 ≠ g9 := (by have := hg7.lt; omega); replace hg9 : Blk W6 g9 _ (Rec.zero.cells none 0) := hg9; have zg9 : w.heap.size ≤ g9 := (by have := HB.size; omega); replace B8 := B8.kept hgr (by simp); replace B6 := B6.kept hgr (by simp); replace B5 := B5.kept hgr (by simp); replace Qo := Qo.kept hgr (by simp); replace hg7 := hg7.grown hgr (by simp); replace o1 := o1.kept hgr (by cases Value.ownBlock _ <;> simp); replace HB := HB.grown hgr (by have := HB.size; omega) (by simp); have hcg9 := hg9.cell; have hfg9 := hg9.frozen; replace hcg7 := hg7.cell; replace hfg7 := hg7.frozen; clear hsz hbn hgr)
        | ((with_reducible refine gate_store (p := 9) rfl ?_); refine ev_store_row (cs := r.cells A8 c8) rfl rfl rfl hg9 rfl rfl rec_size rfl (cells_one _ _ _) ?_; intro W7 hgn hgr; replace B8 := B8.kept hgr (OB.ne_blk B8 hg9 (by decide)); replace B6 := B6.kept hgr (OB.ne_blk B6 hg9 (by decide)); replace B5 := B5.kept hgr (OB.ne_blk B5 hg9 (by decide)); replace Qo := Qo.kept hgr (OBs.ne_blk Qo hg9 (by decide)); replace hg7 := hg7.grown hgr (by intro e; injection e with e; omega); replace o1 := o1.kept hgr (.inr (own_blk_ne o1 hg9 (by decide))); replace HB := HB.grown hgr (by have := HB.size; omega) (by intro k e; injection e with e; omega); replace hg9 := hgn; replace hcg7 := hg7.cell; replace hfg7 := hg7.frozen; replace hcg9 := hg9.cell; replace hfg9 := hg9.frozen; clear hgn hgr)
        | ((with_reducible refine gate_dst (N := 45) rfl ?_); refine ev_lit rfl rfl (#[.slice A5 ne c5, .slice A6 D.Data.length c6, .slice A8 r.Data.length c8]) 25 3 (by first | (go_simp; done) | (go_simp; rfl)) ?_; intro g5 W8 hg5 hsz hbn; have hgr := grown_of_below hbn; have ng7g5 : g7 ≠ g5 := (by have := hg7.lt; omega); have ng9g5 : g9 ≠ g5 := (by have := hg9.lt; omega); have zg5 : w.heap.size ≤ g5 := (by have := HB.size; omega); replace B8 := B8.kept hgr (by simp); replace B6 := B6.kept hgr (by simp); replace B5 := B5.kept hgr (by simp); replace Qo := Qo.kept hgr (by simp); replace hg7 := hg7.grown hgr (by simp); replace hg9 := hg9.grown hgr (by simp); replace o1 := o1.kept hgr (by cases Value.ownBlock _ <;> simp); replace HB := HB.grown hgr (by have := HB.size; omega) (by simp); have hcg5 := hg5.cell; have hfg5 := hg5.frozen; replace hcg7 := hg7.cell; replace hfg7 := hg7.frozen; replace hcg9 := hg9.cell; replace hfg9 := hg9.frozen; clear hsz hbn hgr)
        | ((with_reducible refine gate_dst (N := 46) rfl ?_); refine ev_append rfl rfl Tryd.underlying24 info_bytes rfl (by omega) rfl o1 rfl (hg5.reads (size := 1) (n := 3) rfl) (fun u hu => by simp at hu; rcases hu with rfl | rfl | rfl <;> rfl) (by have := Hq.out; omega) (by omega) (by have := HB.size; omega) ?_; intro A10 c10 W9 on hgr hat; replace B8 := B8.kept hgr (OB.ne_own B8 o1 (by decide)); replace B6 := B6.kept hgr (OB.ne_own B6 o1 (by decide)); replace B5 := B5.kept hgr (OB.ne_own B5 o1 (by decide)); replace Qo := Qo.kept hgr (OBs.ne_own Qo o1 (by decide)); replace hg7 := hg7.grown hgr (fun e => own_blk_ne o1 hg7 (by decide) e.symm); replace hg9 := hg9.grown hgr (fun e => own_blk_ne o1 hg9 (by decide) e.symm); replace HB := HB.grown hgr (by have := HB.size; omega) (own_base o1); replace o1 := on; replace hcg7 := hg7.cell; replace hfg7 := hg7.frozen; replace hcg9 := hg9.cell; replace hfg9 := hg9.frozen; clear on hgr hat))
      go_roundg (gk - 1)
      case measure => omega
      case rel => exact ⟨k + 1, q + 3, A10, c10, os ++ [(E, A5, c5), (D.Data, A6, c6), (r.Data, A8, c8)], by omega, by go_num, rfl, ⟨by have := Hq.out; omega, by rw [List.map_append, Hos.out, N3.out]; rfl, by rw [baCells_append]; simpa [baCells, Hne.out] using o1, Qo.snoc3 B5 B6 B8 dQoB5 dQoB6 dQoB8 dB5B6 dB5B8 dB6B8, HB⟩⟩
    · have s1 : decide ((k : Int) < (n : Int)) = false := by rw [decide_eq_false_iff_not]; omega
      have s1' : decide (k < n) = false := by rw [decide_eq_false_iff_not]; exact hlt
      obtain rfl : k = n := by omega
      have n3' : os.map (·.1) = handL (l.map (·.1)) := by rw [Hos.out, List.take_of_length_le (by rw [List.length_map, Hn.out]; omega)]
      obtain rfl : q = n3 := by have := Hq.out; have := Hn3.out; omega
      go_wp2
      go_ret
      first | exact ⟨A2, c2, os, rfl, n3', o1, Qo, HB⟩ | exact ⟨A2, c2, rfl, os, n3', o1, Qo, HB⟩
end Go.Proofs.YtikodgaomhmbmaaDoor
