/-
  What a call that fills and lengthens rows keeps up (Fill); the walks of annalslaw4.tail and data.
-/
import Derived.Test.YtikodgaomhmbmaaDoorH1
import Derived.Test.YtikodgaomhmbmaaDoorM1
import Derived.Test.YtikodgaomhmbmaaDoorMD
set_option linter.unusedVariables false
set_option linter.unusedSimpArgs false
namespace Go.Proofs.YtikodgaomhmbmaaDoor
open Go.RowKit
attribute [local go_sem] Rec.size_ Rec.g0 Rec.g1 Rec.g2 Rec.g3 Rec.g4 Rec.g5 Rec.g6 Rec.g7 Rec.g8 Rec.g9 Rec.g10 Rec.g11 Rec.fold Rec.lit_fold

/-- A family that grew out of the rows l, whose blocks alone have been written. -/
structure Fill (F : Nat → List UInt8) (w0 : World) (l : List BA) (base : Nat) (w : World) (os : List (Nat × BA)) : Prop where
  fam : Fam F w base os
  sp : Spared w0 w l
  loc : ∀ x ∈ os, ∀ ad, x.2.2.1 = some ad → w0.heap.size ≤ ad.block ∨ ∃ y ∈ l, y.2.1 = x.2.2.1
  ok : base ≤ w0.heap.size
section
variable {F : Nat → List UInt8} {w0 w w' : World} {l : List BA} {base : Nat} {os : List (Nat × BA)}
theorem Fill.size (h : Fill F w0 l base w os) : w0.heap.size ≤ w.heap.size := h.sp.size
theorem Fill.kept {row : Option Nat} (h : Fill F w0 l base w os) (hgr : w.grownBy w' row) (hne : (∀ x ∈ os, ∀ ad, x.2.2.1 = some ad → some ad.block ≠ row) ∧ ∀ k, row = some k → w0.heap.size ≤ k) : Fill F w0 l base w' os := ⟨h.fam.kept hgr hne.1, h.sp.own hgr hne.2, h.loc, h.ok⟩
theorem Fill.grown (h : Fill F w0 l base w os) (hgr : w.grownBy w' none) : Fill F w0 l base w' os := h.kept hgr ⟨fun x hx ad e e2 => (by cases e2), fun k e => (by cases e)⟩
theorem Fill.next (h : Fill F w0 l base w os) (hb : Below w.heap.size w w') : Fill F w0 l base w' os := h.kept (grown_of_below hb) (by simp)
theorem Fill.ne_own {e : TypeId} {size n : Nat} {v : Value} {xs : List Value} (h : Fill F w0 l base w os) (ho : w.ownsRow w0.heap.size e size v n xs) (hne : 5 ≠ e) : (∀ x ∈ os, ∀ ad, x.2.2.1 = some ad → some ad.block ≠ v.ownBlock) ∧ ∀ k, v.ownBlock = some k → w0.heap.size ≤ k := ⟨h.fam.ne_own ho hne, fun k e => own_base ho k e⟩
theorem Fill.ne_blk {g : Nat} {t : TypeId} {cs : Array Value} (h : Fill F w0 l base w os) (hg : Blk w g t cs) (hz : w0.heap.size ≤ g) (hne : 5 ≠ t) : (∀ x ∈ os, ∀ ad, x.2.2.1 = some ad → some ad.block ≠ some g) ∧ ∀ k, some g = some k → w0.heap.size ≤ k := ⟨h.fam.ne_blk hg hne, fun k e => by injection e with e; omega⟩
theorem Fill.sub {qs : List (Nat × BA)} (h : Fill F w0 l base w os) (hs : ∀ x ∈ qs, x ∈ os) : Fill F w0 l base w qs := ⟨h.fam.sub hs, h.sp, fun x hx => h.loc x (hs x hx), h.ok⟩
theorem Fill.append (h : Fill F w0 l base w os) {t c : Nat} {A : Option Addr} {b b' : List UInt8} (hx : (t, b, A, c) ∈ os) (hp : b ++ b' <+: F t) {A1 : Option Addr} {c1 : Nat} (hG : Grew w base A c b b' A1 c1 w') : Fill F w0 l base w' ((t, b ++ b', A1, c1) :: os) := by
  refine ⟨h.fam.append hx hp hG (Nat.le_trans h.ok h.size), h.sp.step hG.grown (h.loc _ hx), fun x hx' ad e => ?_, h.ok⟩
  rcases List.mem_cons.1 hx' with rfl | hx'
  · rcases hG.lies with ⟨rfl, _⟩ | ⟨_, hnew⟩
    · exact h.loc _ hx ad e
    · exact .inl (Nat.le_trans h.size (hnew ad e))
  · exact h.loc x hx' ad e
theorem Fill.start {l' : List BA} (hQ : OBs w base l') (hsp : Spared w0 w l) (hloc : ∀ x ∈ l', ∃ y ∈ l, y.2.1 = x.2.1) (hF : ∀ i x, l'[i]? = some x → x.1 <+: F i) (hok : base ≤ w0.heap.size) : Fill F w0 l base w (tagged l') :=
  ⟨Fam.of_rows hQ hF, hsp, fun x hx ad _ => .inr (hloc _ (List.mem_of_getElem? (tagged_mem.1 hx))), hok⟩
end
/-- A row of another sort, when a member of a family is lengthened. -/
theorem own_fam {F : Nat → List UInt8} {w w1 : World} {base b size n : Nat} {e : TypeId} {v : Value} {xs : List Value} {os : List (Nat × BA)} (ho : w.ownsRow b e size v n xs) (h : Fam F w base os) {x : Nat × BA} (hx : x ∈ os) (hgr : w.grownBy w1 (x.2.2.1.map (·.block))) (hne : 5 ≠ e) : w1.ownsRow b e size v n xs := by
  refine ho.kept hgr ?_
  cases hA : x.2.2.1 with
  | none => cases v.ownBlock <;> simp
  | some ad => exact .inr fun e2 => h.ne_own ho hne x hx ad hA e2.symm

theorem own_sym {a b : Option Nat} (h : a = none ∨ a ≠ b) : b = none ∨ b ≠ a := by
  rcases h with h | h
  · cases b with
    | none => exact .inl rfl
    | some k => exact .inr (by rw [h]; simp)
  · exact .inr fun e => h e.symm
/-! ### Marks -/
def MK (i n : Nat) : List UInt8 := List.replicate n (UInt8.ofNat (1 + i % 250))
def TL (i k : Nat) : List UInt8 := List.replicate k (UInt8.ofNat (251 + i % 5))
theorem MK_len (i n : Nat) : (MK i n).length = n := by simp [MK]
theorem TL_len (i k : Nat) : (TL i k).length = k := by simp [TL]
theorem TL_add (i j k : Nat) : TL i j ++ TL i k = TL i (j + k) := by unfold TL; rw [List.replicate_append_replicate]
theorem mk_num (i : Nat) : (UInt8.ofNat (1 + i % 250)).toNat = 1 + i % 250 := by rw [UInt8.toNat_ofNat']; omega
theorem tl_num (i : Nat) : (UInt8.ofNat (251 + i % 5)).toNat = 251 + i % 5 := by rw [UInt8.toNat_ofNat']; omega

set_option maxHeartbeats 2000000 in
set_option maxRecDepth 100000 in
theorem tail_calls (i m : Nat) (h1 : 1 ≤ m) (h2 : m ≤ 2) (w : World) :
    Calls Tryd.prog 63 #[.int .i64 i, .int .i64 m] w fun e w' => ∃ g c', e = .returned (.slice (some ⟨g, 0, none⟩) m c') ∧ (∀ j u, (u8s (TL i m))[j]? = some u → w'.cell? ((⟨g, 0, none⟩ : Addr).add j) = some u) ∧ Below w.heap.size w w' := by
  have HB := Below.refl w.heap.size w
  go_enter Tryd.func63, Tryd.ntmps63
  go_wp2
  go_loopg [5] m (fun n v5 wr => ∃ (k : Nat) (A' : Option Addr) (c' : Nat), n + k = m ∧ v5 = .slice A' k c' ∧
    Aside (wr.ownsRow w.heap.size 5 1 (.slice A' k c') k (u8s (TL i k)) ∧ Below w.heap.size w wr))
  case atStart => exact ⟨0, none, 0, by omega, rfl, ⟨own_nil _ _ _ _, HB⟩⟩
  case round =>
    clear HB
    obtain ⟨k, A2, c2, hn, rfl, HA⟩ := hrel
    obtain ⟨o1, HB⟩ := HA.out
    clear HA
    by_cases hlt : k < m
    · have s1 : decide ((k : Int) < (m : Int)) = true := by rw [decide_eq_true_eq]; omega
      have s1' : decide (k < m) = true := by rw [decide_eq_true_eq]; exact hlt
      have tm : (i : Int).tmod 5 = (i : Int) % 5 := by rw [Int.tmod_eq_emod_of_nonneg (by omega)]
      have en := tl_num i
      have tw : IntKind.u8.wrap ((251 : Int) + (i : Int) % 5) = ((UInt8.ofNat (251 + i % 5)).toNat : Int) := by rw [en, IntKind.wrap_u8]; omega
      have hnext : TL i k ++ [UInt8.ofNat (251 + i % 5)] = TL i (k + 1) := TL_add i k 1
      have Hnext := Lib.hid hnext
      clear hnext en
      generalize UInt8.ofNat (251 + i % 5) = b at Hnext tw
      go_wp2_with (first
        | ((with_reducible refine gate_dst (N := 15) rfl ?_); refine ev_lit rfl rfl (#[.int .u8 b.toNat]) 5 1 (by first | (go_simp; done) | (go_simp; rfl)) ?_; intro g5 W1 hg5 hsz hbn; have hgr := grown_of_below hbn; have zg5 : w.heap.size ≤ g5 := (by have := HB.size; omega); replace o1 := o1.kept hgr (by cases Value.ownBlock _ <;> simp); replace HB := HB.grown hgr (by have := HB.size; omega) (by simp); have hcg5 := hg5.cell; have hfg5 := hg5.frozen; clear hsz hbn hgr)
        | ((with_reducible refine gate_dst (N := 16) rfl ?_); refine ev_append rfl rfl Tryd.underlying25 info_u8 rfl (by omega) rfl o1 rfl (hg5.reads (size := 1) (n := 1) rfl) (fun u hu => by simp at hu; subst hu; rfl) (by omega) (by omega) (by have := HB.size; omega) ?_; intro A6 c6 W2 on hgr hat; replace HB := HB.grown hgr (by have := HB.size; omega) (own_base o1); replace o1 := on; clear on hgr hat))
      go_roundg (gk - 1)
      case measure => omega
      case rel => exact ⟨k + 1, A6, c6, by omega, by simp, ⟨by rw [← Hnext.out, u8s_append]; simpa [u8s] using o1, HB⟩⟩
    · have s1 : decide ((k : Int) < (m : Int)) = false := by rw [decide_eq_false_iff_not]; omega
      have s1' : decide (k < m) = false := by rw [decide_eq_false_iff_not]; exact hlt
      obtain rfl : k = m := by omega
      obtain ⟨g, rfl, _⟩ := own_at o1 (by omega)
      go_wp2
      go_ret
      exact ⟨g, c2, rfl, o1.cells (g := g) rfl, HB⟩

theorem tail1_calls (i : Nat) (w : World) :
    Calls Tryd.prog 63 #[.int .i64 i, .int .i64 1] w fun e w' => ∃ g c', e = .returned (.slice (some ⟨g, 0, none⟩) 1 c') ∧ (∀ j u, (u8s (TL i 1))[j]? = some u → w'.cell? ((⟨g, 0, none⟩ : Addr).add j) = some u) ∧ Below w.heap.size w w' := tail_calls i 1 (by decide) (by decide) w
/-- The data of records, as a list of bytes. -/
def DataSaid (l : List RA) (n : Nat) (w : World) (e : Ending) (w' : World) : Prop :=
  ∃ (A' : Option Addr) (c' : Nat), e = .returned (.slice A' n c') ∧ w'.ownsRow w.heap.size 25 1 (.slice A' n c') n (baCells (bs l)) ∧ Below w.heap.size w w'
set_option maxHeartbeats 2000000 in
set_option maxRecDepth 100000 in
theorem data_calls (l : List RA) (n : Nat) (hn : l.length = n) (A : Option Addr) (c : Nat) (hl : n * 24 ≤ 140737488351232) (w : World) (hr : Reads w w.heap.size 12 A n (recCells l)) :
    Calls Tryd.prog 34 #[.slice A n c] w (DataSaid l n w) := by
  have HB := Below.refl w.heap.size w
  have Hr := Lib.hid hr
  have Hn := Lib.hid hn
  clear hr hn
  unfold DataSaid
  go_enter Tryd.func34, Tryd.ntmps34
  go_wp2
  go_loopg [3, 4] n (fun m v3 v4 wr => ∃ (k : Nat) (A' : Option Addr) (c' : Nat), m + k = n ∧ v4 = .int .i64 k ∧ v3 = .slice A' k c' ∧
    Aside (wr.ownsRow w.heap.size 25 1 (.slice A' k c') k (baCells (bs (l.take k))) ∧ Below w.heap.size w wr))
  case atStart => exact ⟨0, none, 0, by omega, rfl, rfl, ⟨own_nil _ _ _ _, HB⟩⟩
  case round =>
    clear HB
    obtain ⟨k, A2, c2, hm, rfl, rfl, HA⟩ := hrel
    obtain ⟨o1, HB⟩ := HA.out
    clear HA
    by_cases hlt : k < n
    · have s1 : decide ((k : Int) < (n : Int)) = true := by rw [decide_eq_true_eq]; omega
      have s1' : decide (k < n) = true := by rw [decide_eq_true_eq]; exact hlt
      obtain ⟨x, hx⟩ : ∃ x, l[k]? = some x := ⟨_, List.getElem?_eq_getElem (by rw [Hn.out]; exact hlt)⟩
      obtain ⟨r, Ar, cr⟩ := x
      obtain ⟨ad, had, hadlt, hc⟩ := Hr.out.2 (by omega)
      subst had
      have h11 : wr.cell? { block := (ad.add (k * 12)).block, off := (ad.add (k * 12)).off + 11 } = some (.slice Ar r.Data.length cr) := by
        show wr.cell? ((ad.add (k * 12)).add 11) = _
        rw [HB.cell (by rw [block_of_add, block_of_add]; exact hadlt), add_of_add]
        exact hc _ _ ((recCells_get hx 11 (by decide)).trans (Rec.g11 _ _ _))
      have n3 : l.take (k + 1) = l.take k ++ [(r, Ar, cr)] := by rw [List.take_add_one, hx]; rfl
      have N3 := Lib.hid n3
      clear hx n3 hc
      go_wp2_with (first
        | ((with_reducible refine gate_dst (N := 17) rfl ?_); refine ev_lit rfl rfl (#[.slice Ar r.Data.length cr]) 25 1 (by first | (go_simp; done) | (go_simp; rfl)) ?_; intro g5 W1 hg5 hsz hbn; have hgr := grown_of_below hbn; have zg5 : w.heap.size ≤ g5 := (by have := HB.size; omega); replace o1 := o1.kept hgr (by cases Value.ownBlock _ <;> simp); replace HB := HB.grown hgr (by have := HB.size; omega) (by simp); have hcg5 := hg5.cell; have hfg5 := hg5.frozen; clear hsz hbn hgr)
        | ((with_reducible refine gate_dst (N := 18) rfl ?_); refine ev_append rfl rfl Tryd.underlying24 info_bytes rfl (by omega) rfl o1 rfl (hg5.reads (size := 1) (n := 1) rfl) (fun u hu => by simp at hu; subst hu; rfl) (by omega) (by omega) (by have := HB.size; omega) ?_; intro A6 c6 W2 on hgr hat; replace HB := HB.grown hgr (by have := HB.size; omega) (own_base o1); replace o1 := on; clear on hgr hat))
      go_roundg (gk - 1)
      case measure => omega
      case rel => exact ⟨k + 1, A6, c6, by omega, by go_num, rfl, ⟨by rw [N3.out, bs_snoc, baCells_append]; simpa [baCells] using o1, HB⟩⟩
    · have s1 : decide ((k : Int) < (n : Int)) = false := by rw [decide_eq_false_iff_not]; omega
      have s1' : decide (k < n) = false := by rw [decide_eq_false_iff_not]; exact hlt
      obtain rfl : k = n := by omega
      have n3 : l.take k = l := List.take_of_length_le (by rw [Hn.out]; omega)
      go_wp2
      go_ret
      exact ⟨A2, c2, rfl, by rw [← n3]; exact o1, HB⟩
end Go.Proofs.YtikodgaomhmbmaaDoor
