/-
  How arguments read: bytes, records, lists of records, out of the form's own readings.
-/
import Derived.Test.YtikodgaomhmbmaaDoorK
import Derived.ProofKit
import Derived.Deep.Slices
import Derived.Deep.Fields
import Derived.ChangeSlices
import Derived.SizedLaws
set_option linter.unusedVariables false
set_option linter.unusedSimpArgs false
namespace Go.Proofs.YtikodgaomhmbmaaDoor
open Go.ChangeShapes Go.WideShapes Go.ChangeAt Go.RowKit Go.Deep

section
variable {H : Type} {enc : TypeId × Value → H} {w : World} {base : Nat} {spare : Nat → Bool} {held : Bool}

theorem cells_uint8 : Tryd.prog.cellsOf 5 = 1 := by kernel_rfl
theorem cells_rec : Tryd.prog.cellsOf 27 = 12 := by kernel_rfl

/-- Bytes as data. -/
def u8d (l : List UInt8) : List (DataW H) := l.map fun b => .lit (.int .u8 b.toNat)
theorem u8d_length (l : List UInt8) : (u8d (H := H) l).length = l.length := by simp [u8d]

theorem byte_of {n : Int} (h : (Lit.int .u8 n).wf = true) : ((UInt8.ofNat n.toNat).toNat : Int) = n := by
  have hx : 0 ≤ n ∧ n ≤ 255 := by simpa [Lit.wf, IntKind.min, IntKind.max, IntKind.signed, IntKind.bits] using h
  rw [UInt8.toNat_ofNat']
  have : n.toNat % 2 ^ 8 = n.toNat := Nat.mod_eq_of_lt (by omega)
  omega

/-- A []byte. -/
theorem trod_bytes {fuel : Nat} {cs : List Value} {x : DataW H × List MemPlace} (h : DataW.trod enc Tryd.prog w base spare held fuel 25 cs = some x) :
    ∃ (A : Option Addr) (l : List UInt8) (c : Nat), cs = [.slice A l.length c] ∧ RB w A l ∧ l.length ≤ c ∧ ((x.1 = .nil ∧ l = []) ∨ ∃ sp, x.1 = .slice (u8d l) sp) := by
  rcases open_ints Tryd.underlying25 Tryd.underlying5 cells_uint8 h with ⟨rfl, rfl⟩ | ⟨a, len, cap, zs, rfl, _, hl, hm, hz, rfl, hcell, hwz⟩
  · exact ⟨none, [], 0, rfl, RB.nil, by simp, .inl ⟨rfl, rfl⟩⟩
  · have hlz : len ≤ zs.length := by rw [hz]; split <;> omega
    have hll : ((zs.take len).map fun n => UInt8.ofNat n.toNat).length = len := by simp; omega
    have hb : ∀ j (hj : j < len), ((((zs.take len).map fun n => UInt8.ofNat n.toNat)[j]'(by rw [hll]; exact hj)).toNat : Int) = zs.getD j 0 := by
      intro j hj
      have hjz : j < zs.length := by omega
      simp only [List.getElem_map, List.getElem_take]
      rw [byte_of (hwz _ (List.getElem_mem hjz))]
      simp [List.getD, hjz]
    refine ⟨some a, (zs.take len).map fun n => UInt8.ofNat n.toNat, cap, by rw [hll], ⟨by simp [u8s], fun hn => ⟨a, rfl, ?_, ?_⟩⟩, by rw [hll]; exact hl, .inr ⟨lits .u8 (zs.drop len), ?_⟩⟩
    · rw [hll] at hn
      have := World.block_lt_of_cell? w _ (hcell 0 (by omega))
      rwa [block_of_add] at this
    · intro j u hu
      have hj : j < len := by
        have := (List.getElem?_eq_some_iff.1 hu).1
        rw [u8s_length, hll] at this
        exact this
      rw [u8s_get (by rw [hll]; exact hj), hb j hj] at hu
      rw [hcell j (by omega), hu]
    · simp only [u8d, lits, List.map_map]
      congr 1
      refine List.map_congr_left fun n hn => ?_
      simp only [Function.comp]
      rw [byte_of (hwz n (List.mem_of_mem_take hn))]

/-- A record's datum, dd being its Data's. -/
def recd (r : Rec) (dd : DataW H) : DataW H :=
  .agg [.lit (.int .i64 r.V), .lit (.int .i64 r.Kind), .lit (.int .i64 r.Saga), .lit (.int .i64 r.Step), .lit (.int .i64 r.Try), .lit (.int .i64 r.At), .lit (.int .i64 r.Last), .lit (.int .i64 r.Code), .lit (.int .i64 r.Count), .lit (.int .i64 r.Pivot), .lit (.string r.Name.data.toList), dd]

/-- The numbers of a record are ints. -/
structure Rec.Ints (r : Rec) : Prop where
  v : (Lit.int .i64 r.V).wf = true
  kind : (Lit.int .i64 r.Kind).wf = true
  saga : (Lit.int .i64 r.Saga).wf = true
  step : (Lit.int .i64 r.Step).wf = true
  try_ : (Lit.int .i64 r.Try).wf = true
  at_ : (Lit.int .i64 r.At).wf = true
  last : (Lit.int .i64 r.Last).wf = true
  code : (Lit.int .i64 r.Code).wf = true
  count : (Lit.int .i64 r.Count).wf = true
  pivot : (Lit.int .i64 r.Pivot).wf = true

theorem list12 {α : Type} {l : List α} (h : l.length = 12) : ∃ a b c d e f g i j k m n, l = [a, b, c, d, e, f, g, i, j, k, m, n] := by
  match l, h with
  | [a, b, c, d, e, f, g, i, j, k, m, n], _ => exact ⟨a, b, c, d, e, f, g, i, j, k, m, n, rfl⟩

/-- A record. -/
theorem trod_rec {fuel : Nat} {cs : List Value} {x : DataW H × List MemPlace} (h : DataW.trod enc Tryd.prog w base spare held fuel 27 cs = some x) :
    ∃ (r : Rec) (A : Option Addr) (c : Nat) (dd : DataW H), cs = (r.cells A c).toList ∧ RB w A r.Data ∧ r.Data.length ≤ c ∧ r.Ints ∧ x.1 = recd r dd ∧ ((dd = .nil ∧ r.Data = []) ∨ ∃ sp, dd = .slice (u8d r.Data) sp) := by
  obtain ⟨xs, n, _, hx, hcl, hlen, hg⟩ := DataW.trod_struct Tryd.underlying27 h
  rw [cells_rec] at hcl
  obtain ⟨c0, c1, c2, c3, c4, c5, c6, c7, c8, c9, c10, c11, rfl⟩ := list12 hcl
  obtain ⟨y0, y1, y2, y3, y4, y5, y6, y7, y8, y9, y10, y11, rfl⟩ := list12 (l := xs) hlen
  have ci : Tryd.prog.cellsOf 3 = 1 := by kernel_rfl
  have cs' : Tryd.prog.cellsOf 9 = 1 := by kernel_rfl
  have cb : Tryd.prog.cellsOf 25 = 1 := by kernel_rfl
  obtain ⟨x0, e0, z0, f0⟩ := DataW.trod_int Tryd.underlying3 (by simpa [ci] using hg 0 _ rfl)
  obtain ⟨x1, e1, z1, f1⟩ := DataW.trod_int Tryd.underlying3 (by simpa [ci] using hg 1 _ rfl)
  obtain ⟨x2, e2, z2, f2⟩ := DataW.trod_int Tryd.underlying3 (by simpa [ci] using hg 2 _ rfl)
  obtain ⟨x3, e3, z3, f3⟩ := DataW.trod_int Tryd.underlying3 (by simpa [ci] using hg 3 _ rfl)
  obtain ⟨x4, e4, z4, f4⟩ := DataW.trod_int Tryd.underlying3 (by simpa [ci] using hg 4 _ rfl)
  obtain ⟨x5, e5, z5, f5⟩ := DataW.trod_int Tryd.underlying3 (by simpa [ci] using hg 5 _ rfl)
  obtain ⟨x6, e6, z6, f6⟩ := DataW.trod_int Tryd.underlying3 (by simpa [ci] using hg 6 _ rfl)
  obtain ⟨x7, e7, z7, f7⟩ := DataW.trod_int Tryd.underlying3 (by simpa [ci] using hg 7 _ rfl)
  obtain ⟨x8, e8, z8, f8⟩ := DataW.trod_int Tryd.underlying3 (by simpa [ci] using hg 8 _ rfl)
  obtain ⟨x9, e9, z9, f9⟩ := DataW.trod_int Tryd.underlying3 (by simpa [ci] using hg 9 _ rfl)
  obtain ⟨s, e10, z10, f10⟩ := DataW.trod_string Tryd.underlying9 (by simpa [cs'] using hg 10 _ rfl)
  obtain ⟨A, l, c, e11, hb, hlc, hd⟩ := trod_bytes (by simpa [cb] using hg 11 _ rfl)
  simp only [List.cons.injEq, and_true] at e0 e1 e2 e3 e4 e5 e6 e7 e8 e9 e10 e11
  subst e0 e1 e2 e3 e4 e5 e6 e7 e8 e9 e10 e11
  refine ⟨⟨x0, x1, x2, x3, x4, x5, x6, x7, x8, x9, s, l⟩, A, c, y11.1, rfl, hb, hlc, ⟨f0, f1, f2, f3, f4, f5, f6, f7, f8, f9⟩, ?_, hd⟩
  rw [hx]
  simp [recd, z0, z1, z2, z3, z4, z5, z6, z7, z8, z9, z10]

/-- What the form's reach says of a record's Data. -/
theorem rec_weight {r : Rec} {dd : DataW H} (hd : (dd = .nil ∧ r.Data = []) ∨ ∃ sp, dd = .slice (u8d r.Data) sp) (h : ∀ n ∈ (recd r dd).weights Tryd.prog 27, n ≤ reachBytes) : r.Data.length ≤ 140737488351232 := by
  rcases hd with ⟨_, h0⟩ | ⟨sp, rfl⟩
  · rw [h0]; decide
  · have hb : Tryd.prog.bytesOf 5 = 1 := by kernel_rfl
    have := h ((u8d (H := H) r.Data).length + sp.length) (by simp [recd, DataW.weights, DataW.weightsEach, Tryd.underlying27, Tryd.underlying25, hb])
    rw [u8d_length] at this
    unfold reachBytes at this
    omega
theorem each_le {P : Program} {ts : List TypeId} {ds : List (DataW H)} (h : (DataW.weightsEach P ts ds).all (· ≤ reachBytes) = true) {j : Nat} {t : TypeId} {d : DataW H} (ht : ts[j]? = some t) (hd : ds[j]? = some d) : ∀ n ∈ d.weights P t, n ≤ reachBytes :=
  fun n hn => by simpa using List.all_eq_true.1 h n (DataW.weights_mem_each ht hd n hn)
end
end Go.Proofs.YtikodgaomhmbmaaDoor
