/- For every input law08.SnapNews answers true: New, Get and All agree with the reference, and the order of definitions does not matter; no condition. (Part 18 of what it rests on.) -/
import Derived.Test.YtodpdlpncgkkdaaGreatDoorRows
import Derived.SevenTiedAt
set_option linter.unusedVariables false
set_option linter.unusedSimpArgs false
section
namespace Go.Proofs.YtodpdlpncgkkdaaGreatDoor
open Go
theorem allMain : Tryz.pinned.checked.prog.mainIs = some (true, "47b067b0e45d92d108bf9e76a4156078942b337f01f9b938d773c4434dc33fbf".toList) := by kernel_rfl
theorem allLooks : false = Tryz.pinned.checked.prog.looks [] := by kernel_rfl
end Go.Proofs.YtodpdlpncgkkdaaGreatDoor
end
