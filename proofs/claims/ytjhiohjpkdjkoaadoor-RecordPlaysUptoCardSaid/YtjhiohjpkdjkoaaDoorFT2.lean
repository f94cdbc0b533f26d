/-
  What a card with an argument of bytes stands on.
-/
import Derived.Test.YtjhiohjpkdjkoaaDoorFT
set_option linter.unusedVariables false
set_option linter.unusedSimpArgs false
namespace Go.Proofs.YtjhiohjpkdjkoaaDoor
open Go.RowKit

theorem bytes_weight {H : Type} {d : DataW H} {l : List UInt8} (hd : (d = .nil ∧ l = []) ∨ ∃ sp, d = .slice (u8d l) sp) (h : ∀ n ∈ d.weights Tryd.prog 33, n ≤ reachBytes) : l.length ≤ 140737488351232 := by
  rcases hd with ⟨_, h0⟩ | ⟨sp, rfl⟩
  · rw [h0]; decide
  · have hb : Tryd.prog.bytesOf 5 = 1 := by kernel_rfl
    have := h (((u8d (H := H) l).length + sp.length) * 1) (by simp [DataW.weights, Tryd.underlying33, hb])
    rw [u8d_length] at this
    unfold reachBytes at this
    omega
end Go.Proofs.YtjhiohjpkdjkoaaDoor
