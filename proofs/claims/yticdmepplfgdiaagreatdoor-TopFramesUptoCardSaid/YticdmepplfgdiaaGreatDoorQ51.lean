/-
  The closed facts of TopFrames' second row, one by one: in one declaration they are too great for the kernel. Conditions: none.
-/
import Derived.Test.YticdmepplfgdiaaGreatDoorRows
import Derived.WalkKit
import Derived.ProofKit
import Derived.SizedLaws
import Derived.Deep.DeepHandedRow
set_option linter.unusedVariables false
set_option linter.unusedSimpArgs false
namespace Go.Proofs.YticdmepplfgdiaaGreatDoor.topFrames
open Go.RowKit
theorem fIn : (Rows.topFramesUptoRow.inPlace == Tryz.pinned.checked.prog.inPlace 4) = true := by kernel_rfl
theorem fUn : (Rows.topFramesUptoRow.unfollowed == Tryz.pinned.checked.prog.unfollowed 4) = true := by kernel_rfl
theorem fRe : (Rows.topFramesUptoRow.recurses == Tryz.pinned.checked.prog.recurses 4) = true := by kernel_rfl
theorem fNa : (Rows.topFramesUptoRow.named == Tryz.pinned.checked.prog.varsNamed 4) = true := by kernel_rfl
theorem closed : joinedFacts Tryz.pinned.checked.prog 4 Tryz.f4 (Rows.OpenSpec.upto Rows.topFramesSpec).bare Rows.topFramesUptoRow = true := by
  unfold joinedFacts
  rw [fIn, fUn, fRe, fNa]
  kernel_rfl
end Go.Proofs.YticdmepplfgdiaaGreatDoor.topFrames
