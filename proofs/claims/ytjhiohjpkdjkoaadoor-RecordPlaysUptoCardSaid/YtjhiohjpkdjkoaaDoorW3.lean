/-
  record.Decode of the bytes that annalslaw3.started asks.
-/
import Derived.Test.YtjhiohjpkdjkoaaDoorW2
set_option linter.unusedVariables false
set_option linter.unusedSimpArgs false
namespace Go.Proofs.YtjhiohjpkdjkoaaDoor
open Go.RowKit
attribute [local go_sem] Rec.size_ Rec.g0 Rec.g1 Rec.g2 Rec.g3 Rec.g4 Rec.g5 Rec.g6 Rec.g7 Rec.g8 Rec.g9 Rec.g10 Rec.g11 Rec.fold

/-- The four bytes. -/
def fourB : Array Value := #[.int .u8 1, .int .u8 7, .int .u8 2, .int .u8 1]
set_option maxHeartbeats 1000000 in
set_option maxRecDepth 100000 in
theorem read_0 (g : Nat) (w : World) (hg : Blk w g 5 fourB) :
    Calls Tryd.prog 95 #[.slice (some ⟨g, 0, none⟩) 4 4, .int .i64 0] w fun e w' => e = .returned (.tuple #[.int .u64 1, .int .i64 1, .int .i64 0]) ∧ w = w' := by
  have x0 : w.cell? ⟨g, 0, none⟩ = some (.int .u8 1) := hg.cell 0
  have hb : bits .and .u8 1 127 = 1 := by decide
  clear hg
  go_enter Tryd.func95, Tryd.ntmps95
  go_wp2
  refine wp_loop_rounds 1 ?_
  rw [rounds_succ]
  go_wp2
  go_ret3
  exact ⟨rfl, rfl⟩
set_option maxHeartbeats 1000000 in
set_option maxRecDepth 100000 in
theorem read_1 (g : Nat) (w : World) (hg : Blk w g 5 fourB) :
    Calls Tryd.prog 95 #[.slice (some ⟨g, 0, none⟩) 4 4, .int .i64 1] w fun e w' => e = .returned (.tuple #[.int .u64 7, .int .i64 2, .int .i64 0]) ∧ w = w' := by
  have x0 : w.cell? ⟨g, 1, none⟩ = some (.int .u8 7) := hg.cell 1
  have hb : bits .and .u8 7 127 = 7 := by decide
  clear hg
  go_enter Tryd.func95, Tryd.ntmps95
  go_wp2
  refine wp_loop_rounds 1 ?_
  rw [rounds_succ]
  go_wp2
  go_ret3
  exact ⟨rfl, rfl⟩
set_option maxHeartbeats 1000000 in
set_option maxRecDepth 100000 in
theorem read_2 (g : Nat) (w : World) (hg : Blk w g 5 fourB) :
    Calls Tryd.prog 95 #[.slice (some ⟨g, 0, none⟩) 4 4, .int .i64 2] w fun e w' => e = .returned (.tuple #[.int .u64 2, .int .i64 3, .int .i64 0]) ∧ w = w' := by
  have x0 : w.cell? ⟨g, 2, none⟩ = some (.int .u8 2) := hg.cell 2
  have hb : bits .and .u8 2 127 = 2 := by decide
  clear hg
  go_enter Tryd.func95, Tryd.ntmps95
  go_wp2
  refine wp_loop_rounds 1 ?_
  rw [rounds_succ]
  go_wp2
  go_ret3
  exact ⟨rfl, rfl⟩
set_option maxHeartbeats 1000000 in
set_option maxRecDepth 100000 in
theorem read_3 (g : Nat) (w : World) (hg : Blk w g 5 fourB) :
    Calls Tryd.prog 95 #[.slice (some ⟨g, 0, none⟩) 4 4, .int .i64 3] w fun e w' => e = .returned (.tuple #[.int .u64 1, .int .i64 4, .int .i64 0]) ∧ w = w' := by
  have x0 : w.cell? ⟨g, 3, none⟩ = some (.int .u8 1) := hg.cell 3
  have hb : bits .and .u8 1 127 = 1 := by decide
  clear hg
  go_enter Tryd.func95, Tryd.ntmps95
  go_wp2
  refine wp_loop_rounds 1 ?_
  rw [rounds_succ]
  go_wp2
  go_ret3
  exact ⟨rfl, rfl⟩
end Go.Proofs.YtjhiohjpkdjkoaaDoor
