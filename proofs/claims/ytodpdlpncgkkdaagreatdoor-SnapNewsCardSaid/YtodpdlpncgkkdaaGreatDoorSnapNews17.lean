/- For every input law08.SnapNews answers true: New, Get and All agree with the reference, and the order of definitions does not matter; no condition. (Part 17 of what it rests on.) -/
import Derived.Test.YtodpdlpncgkkdaaGreatDoorSnapNews13
import Derived.Test.YtodpdlpncgkkdaaGreatDoorSnapNews14
import Derived.Test.YtodpdlpncgkkdaaGreatDoorSnapNews15
import Derived.Test.YtodpdlpncgkkdaaGreatDoorSnapNews16
import Derived.JoinedOf
import Derived.SevenTiedAt
set_option linter.unusedVariables false
set_option linter.unusedSimpArgs false
section
namespace Go.Proofs.YtodpdlpncgkkdaaGreatDoor.snapNews
open Go
theorem k10 : (Rows.snapNewsRow.inPlace == Tryz.pinned.checked.prog.inPlace 3) = true := by kernel_rfl
theorem k11 : (Rows.snapNewsRow.unfollowed == Tryz.pinned.checked.prog.unfollowed 3) = true := by kernel_rfl
theorem k12 : (Rows.snapNewsRow.recurses == Tryz.pinned.checked.prog.recurses 3) = true := by kernel_rfl
theorem k13 : (Rows.snapNewsRow.named == Tryz.pinned.checked.prog.varsNamed 3) = true := by kernel_rfl
theorem facts : joinedFacts Tryz.pinned.checked.prog 3 Tryz.f3 Rows.snapNewsSpec Rows.snapNewsRow = true := by
  unfold joinedFacts
  rw [k10, k11, k12, k13, allLaid, allMaps, allStops, allLifts, allMake, allEnter]
  kernel_rfl
theorem cardW : Rows.snapNewsRow.wfByText (OpenSpec.ofChange Rows.snapNewsSpec) = true := by kernel_rfl
theorem cardG : false = Rows.snapNewsRow.goesBy Tryz.pinned.checked.prog := by kernel_rfl
theorem cardS : ([22, 9, 3].all fun u => !Tryz.pinned.checked.prog.wantsStandIn u) = true := by kernel_rfl
theorem cardF : Tryz.pinned.checked.prog.funcNamed "monticule/monticulelaw08.SnapNews" = some 3 := by kernel_rfl
end Go.Proofs.YtodpdlpncgkkdaaGreatDoor.snapNews
end
