/-
  What record.Check and the lifts compute, in plain words.
-/
import Derived.Test.YtikodgaomhmbmaaDoorN4
import Derived.Test.YtikodgaomhmbmaaDoorF3
import Derived.Test.YtikodgaomhmbmaaDoorL2
import Derived.Test.YtikodgaomhmbmaaDoorO2
import Derived.Test.YtikodgaomhmbmaaDoorR2
set_option linter.unusedVariables false
set_option linter.unusedSimpArgs false
namespace Go.Proofs.YtikodgaomhmbmaaDoor
open Go.RowKit

/-- The tables that record.Check reads. -/
structure Tabs (w : World) : Prop where
  may : Tab w 0 maysL
  letters : Tab w 3 (letCells .i32)
  utf8 : Lib.Utf8Tabs 5 6 w
  h5 : 5 < w.heap.size
  h6 : 6 < w.heap.size
theorem Tabs.next {w w' : World} (h : Tabs w) (hb : Below w.heap.size w w') : Tabs w' :=
  ⟨h.may.next hb, h.letters.next hb, Utf8Tabs.next h.h5 h.h6 h.utf8 hb, Nat.lt_of_lt_of_le h.h5 hb.size, Nat.lt_of_lt_of_le h.h6 hb.size⟩

def withinE (n lo hi : Int) : Int := if n < lo then 34 else if hi < n then 34 else 0
def labelE (s : ByteArray) : Int := if isName s then 0 else 35
def Rec.old (r : Rec) : Bool := (r.V == 1) && (r.Kind == 1)
/-- What the field of a tag that may stand breaks. -/
def Rec.bound (r : Rec) : Nat → Int
  | 3 => if r.old then withinE r.Step 1 32 else withinE r.Step 0 31
  | 4 => withinE r.Try 1 1000
  | 5 => withinE r.At 0 9223372036854775807
  | 6 => withinE r.Last 0 1
  | 7 => if r.Kind = 7 then withinE r.Code 0 2 else 0
  | 8 => withinE r.Count 1 32
  | 9 => withinE r.Pivot 0 r.Count
  | 10 => labelE r.Name
  | 11 => if 16384 < r.Data.length then 36 else if r.old then labelE ⟨r.Data.toArray⟩ else 0
  | _ => 0
def Rec.zeroAt (r : Rec) : Nat → Bool
  | 10 => decide (r.Name.size = 0)
  | 11 => decide (r.Data.length = 0)
  | k => r.num k == 0
def Rec.tagE (r : Rec) (m t : Nat) : Int := if m.testBit t then r.bound t else if r.zeroAt t then 0 else 33
/-- The first error of n tags from t on. -/
def Rec.fromE (r : Rec) (m : Nat) : Nat → Nat → Int
  | 0, _ => 0
  | n + 1, t => if r.tagE m t = 0 then r.fromE m n (t + 1) else r.tagE m t
def Rec.tagsOf (r : Rec) : Nat := mayAt (r.V - 1).toNat (r.Kind - 1).toNat
/-- The error of a record that is not valid, or 0. -/
def Rec.chk (r : Rec) : Int :=
  if r.V < 1 ∨ 3 < r.V then 3 else if r.Kind < 1 ∨ 7 < r.Kind then 31 else if r.Saga < 1 then 32 else r.fromE r.tagsOf 9 3

/-! ### Lifting -/
def fillR (r : Rec) : Rec :=
  if r.Kind = 1 then { r with Name := ⟨r.Data.toArray⟩, Data := [], Count := r.Step, Step := 0 }
  else if r.Kind = 2 ∨ r.Kind = 5 then { r with Try := 1 }
  else if r.Kind = 4 then { r with Last := 1 } else r
def plainF (r : Rec) : Bool := (r.Pivot == 0) && (r.Code == 0)
def emptyR (r : Rec) : Rec :=
  if r.At ≠ 0 then r
  else if r.Kind = 1 then { r with Data := r.Name.data.toList, Name := ⟨#[]⟩, Step := r.Count, Count := 0 }
  else if r.Kind = 2 ∨ r.Kind = 5 then { r with Try := 0 }
  else if r.Kind = 4 then { r with Last := 0 } else r
def emptyF (r : Rec) : Bool :=
  if r.At ≠ 0 then false
  else if r.Kind = 1 then decide (r.Data.length = 0)
  else if r.Kind = 2 ∨ r.Kind = 5 then r.Try == 1
  else if r.Kind = 4 then r.Last == 1 else true
/-- The first step from a towards b, done to a record. -/
def hopR (a b : Int) (r : Rec) : Rec := if a = 1 then fillR r else if a = 3 then r else if b = 1 then emptyR r else r
def hopF (a b : Int) (r : Rec) : Bool := if a = 1 then true else if a = 3 then plainF r else if b = 1 then emptyF r else true
def turnN : Nat → Rec → Int → Rec
  | 0, r, _ => r
  | n + 1, r, to => if hopF r.V to r then turnN n { hopR r.V to r with V := hopTo r.V to } to else Rec.zero
def turnB : Nat → Rec → Int → Bool
  | 0, _, _ => true
  | n + 1, r, to => if hopF r.V to r then turnB n { hopR r.V to r with V := hopTo r.V to } to else false
/-- What lift.turned answers. -/
def turnR (r : Rec) (to : Int) : Rec := turnN (stepsL r.V to).length r to
def turnF (r : Rec) (to : Int) : Bool := turnB (stepsL r.V to).length r to
def known (v : Int) : Bool := decide (1 ≤ v) && decide (v ≤ 3)
def upE (r : Rec) (to : Int) : Int := if r.chk ≠ 0 then r.chk else if ¬ known to then 3 else if to < r.V then 41 else 0
noncomputable def upR (r : Rec) (to : Int) : Rec := if upE r to = 0 then turnR r to else Rec.zero
def downE (r : Rec) (to : Int) : Int := if r.chk ≠ 0 then r.chk else if ¬ known to then 3 else if r.V < to then 41 else if turnF r to then 0 else 40
noncomputable def downR (r : Rec) (to : Int) : Rec := if downE r to = 0 then turnR r to else Rec.zero

theorem fits_of {n : ByteArray} {d : List UInt8} {r : Rec} (hn : r.Name = n) (hd : r.Data = d) (h1 : n.size ≤ 140737488351232) (h2 : d.length ≤ 140737488351232) : r.Fits := ⟨by rw [hn]; exact h1, by rw [hd]; exact h2⟩
theorem Rec.Fits.fill {r : Rec} (h : r.Fits) : (fillR r).Fits := by
  unfold fillR
  repeat' split
  · exact fits_of (n := ⟨r.Data.toArray⟩) (d := []) rfl rfl h.data (by simp)
  all_goals exact ⟨h.name, h.data⟩
theorem Rec.Fits.empty {r : Rec} (h : r.Fits) : (emptyR r).Fits := by
  unfold emptyR
  repeat' split
  · exact h
  · exact fits_of (n := ⟨#[]⟩) (d := r.Name.data.toList) rfl rfl (by decide) h.name
  all_goals exact ⟨h.name, h.data⟩
theorem Rec.Fits.hop {r : Rec} (h : r.Fits) (a b : Int) : (hopR a b r).Fits := by
  unfold hopR
  repeat' split
  · exact h.fill
  · exact h
  · exact h.empty
  · exact h
theorem Rec.Fits.turnN : ∀ (n : Nat) (r : Rec) (to : Int), r.Fits → (turnN n r to).Fits
  | 0, _, _, h => h
  | n + 1, r, to, h => by
    unfold Go.Proofs.YtikodgaomhmbmaaDoor.turnN
    split
    · exact Rec.Fits.turnN n _ to ⟨(h.hop _ _).name, (h.hop _ _).data⟩
    · exact Rec.Fits.zero
theorem Rec.Fits.turn {r : Rec} (h : r.Fits) (to : Int) : (turnR r to).Fits := Rec.Fits.turnN _ r to h
theorem Rec.Fits.up {r : Rec} (h : r.Fits) (to : Int) : (upR r to).Fits := by
  unfold upR
  split
  · exact h.turn to
  · exact Rec.Fits.zero
theorem Rec.Fits.down {r : Rec} (h : r.Fits) (to : Int) : (downR r to).Fits := by
  unfold downR
  split
  · exact h.turn to
  · exact Rec.Fits.zero
end Go.Proofs.YtikodgaomhmbmaaDoor
