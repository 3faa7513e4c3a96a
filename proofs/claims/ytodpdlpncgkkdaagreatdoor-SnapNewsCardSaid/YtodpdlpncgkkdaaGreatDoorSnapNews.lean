/- For every input law08.SnapNews answers true: New, Get and All agree with the reference, and the order of definitions does not matter; no condition. (The last part: the row and the card.) -/
import Derived.Test.YtodpdlpncgkkdaaGreatDoorSnapNews12
import Derived.Test.YtodpdlpncgkkdaaGreatDoorSnapNews17
import Derived.Test.YtodpdlpncgkkdaaGreatDoorSnapNews18
import Derived.Test.YtodpdlpncgkkdaaGreatDoorCards
import Derived.Test.YtodpdlpncgkkdaaGreatDoorTie
import Derived.SevenTiedAt
import Derived.Stop.Joined
set_option linter.unusedVariables false
set_option linter.unusedSimpArgs false
section
namespace Go.Proofs.YtodpdlpncgkkdaaGreatDoor.snapNews
open Go.ChangeShapes Go.WideShapes Go.ChangeAt Go.RowKit
theorem over : Rows.snapNewsRow.holds Tryz.pinned (OpenSpec.ofChange Rows.snapNewsSpec) :=
  OpenClaim.holds_of_wide 3 Tryz.f3 rfl rfl rfl rfl rfl rfl rfl ⟨rfl, rfl, rfl, rfl, rfl⟩ rfl rfl rfl rfl rfl (by kernel_rfl) Tryz.func3 facts
    (of_decide_eq_true (by kernel_rfl)) (by unfold Func.isWrapper; first | (rw [if_pos (by decide +kernel)]; kernel_rfl) | (rw [if_neg (by decide +kernel)]; exact ⟨rfl, rfl⟩))
    (fun os started H enc _ => lifted os started H enc)
theorem proved : Rows.SnapNewsSaid := over
end Go.Proofs.YtodpdlpncgkkdaaGreatDoor.snapNews
namespace Go.Proofs.YtodpdlpncgkkdaaGreatDoor
open Go
theorem snapNews_card_holds : Rows.SnapNewsCardSaid :=
  Claim7.holds_tied_plain_at .later [] [.data, .pinned] true (true, "47b067b0e45d92d108bf9e76a4156078942b337f01f9b938d773c4434dc33fbf") false
    snapNews.proved (fun _ h => by cases h) snapNews.cardW (fun _ h => by cases h) snapNews_row_tie rfl ⟨rfl, rfl⟩ allMain rfl
    (fun f fn hf hfn => by
      obtain rfl : f = 3 := Option.some.inj (snapNews.cardF.symm.trans hf) |>.symm
      obtain rfl : fn = Tryz.f3 := (Option.some.inj (Tryz.func3.symm.trans hfn)).symm
      exact ⟨allLooks, fun j t ht => by
        rw [Tryz.params3] at ht
        have hm : t ∈ [22, 9, 3] := by simpa using Array.mem_of_getElem? ht
        have := List.all_eq_true.1 snapNews.cardS t hm
        simpa using this⟩)
    snapNews.cardG
end Go.Proofs.YtodpdlpncgkkdaaGreatDoor
end
