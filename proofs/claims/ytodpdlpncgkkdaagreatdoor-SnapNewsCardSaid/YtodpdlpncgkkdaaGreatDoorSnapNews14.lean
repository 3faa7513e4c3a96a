/- For every input law08.SnapNews answers true: New, Get and All agree with the reference, and the order of definitions does not matter; no condition. (Part 14 of what it rests on.) -/
import Derived.Test.YtodpdlpncgkkdaaGreatDoorRows
import Derived.JoinedOf
set_option linter.unusedVariables false
set_option linter.unusedSimpArgs false
section
namespace Go.Proofs.YtodpdlpncgkkdaaGreatDoor
open Go
theorem allLifts : Tryz.pinned.checked.prog.liftsFinal = Rows.snapNewsRow.lifted := by kernel_rfl
end Go.Proofs.YtodpdlpncgkkdaaGreatDoor
end
