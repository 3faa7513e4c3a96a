/-
  DERIVED. GIVEN WITH THE SEED: THE CARDS: each row of YtodpdlpncgkkdaaGreatDoorRows.lean that lists a variable, with what it lists TIED to the program's text (the seventh form; the later family's looks); each row that meets fmt, with fmt's text TOLD by the authors' own Lean function (tested against real Go, not proved from fmt's source: count such statements apart). THE CARD IS WHAT COUNTS. Prove the row's statement (the work); the ties are given (YtodpdlpncgkkdaaGreatDoorTie.lean); close each card by the builder's one call (the guide's Derived/Test/ToyasCard.lean, 'card_holds'). Laid BY PROGRAM, IN A SANDBOX (cutbox-door.mjs). By AI agents, Wed Nov 11 2026. No macro, syntax, notation, axiom, sorry.
-/
import Derived.Test.YtodpdlpncgkkdaaGreatDoorRows
import GoSem.ClaimSeven
namespace Go.Proofs.YtodpdlpncgkkdaaGreatDoor
namespace Rows

/-- THE TIED CARD OF 'monticulelaw08.SnapNews'. -/
def snapNewsCard : Claim7 := { stood := { row := snapNewsRow, standIns := [], harness := (true, "47b067b0e45d92d108bf9e76a4156078942b337f01f9b938d773c4434dc33fbf"), looks := false }, kinds := [], alts := [], laidByText := true, laidKinds := [.data, .pinned], laidTests := true, laidLooks := .later }
def SnapNewsCardSaid : Prop := Claim7.holds Tryz.pinned (.plain (OpenSpec.ofChange snapNewsSpec)) snapNewsCard

/-- THE TIED CARD OF 'monticulelaw10.MergeMerges'. -/
def mergeMergesCard : Claim7 := { stood := { row := mergeMergesRow, standIns := [], harness := (true, "47b067b0e45d92d108bf9e76a4156078942b337f01f9b938d773c4434dc33fbf"), looks := false }, kinds := [], alts := [], laidByText := true, laidKinds := [.data, .pinned], laidTests := true, laidLooks := .later }
def MergeMergesCardSaid : Prop := Claim7.holds Tryz.pinned (.plain (OpenSpec.ofChange mergeMergesSpec)) mergeMergesCard

/-- THE TIED CARD OF 'monticulelaw10.MergeSides'. -/
def mergeSidesCard : Claim7 := { stood := { row := mergeSidesRow, standIns := [], harness := (true, "47b067b0e45d92d108bf9e76a4156078942b337f01f9b938d773c4434dc33fbf"), looks := false }, kinds := [], alts := [], laidByText := true, laidKinds := [.data, .pinned], laidTests := true, laidLooks := .later }
def MergeSidesCardSaid : Prop := Claim7.holds Tryz.pinned (.plain (OpenSpec.ofChange mergeSidesSpec)) mergeSidesCard

/-- THE TIED CARD OF 'monticulelaw10.MergeChooses'. -/
def mergeChoosesCard : Claim7 := { stood := { row := mergeChoosesRow, standIns := [], harness := (true, "47b067b0e45d92d108bf9e76a4156078942b337f01f9b938d773c4434dc33fbf"), looks := false }, kinds := [], alts := [], laidByText := true, laidKinds := [.data, .pinned], laidTests := true, laidLooks := .later }
def MergeChoosesCardSaid : Prop := Claim7.holds Tryz.pinned (.plain (OpenSpec.ofChange mergeChoosesSpec)) mergeChoosesCard

/-- THE TIED CARD OF 'monticulelaw10.MergeOnes'. -/
def mergeOnesCard : Claim7 := { stood := { row := mergeOnesRow, standIns := [], harness := (true, "47b067b0e45d92d108bf9e76a4156078942b337f01f9b938d773c4434dc33fbf"), looks := false }, kinds := [], alts := [], laidByText := true, laidKinds := [.data, .pinned], laidTests := true, laidLooks := .later }
def MergeOnesCardSaid : Prop := Claim7.holds Tryz.pinned (.plain (OpenSpec.ofChange mergeOnesSpec)) mergeOnesCard

/-- THE TIED CARD OF 'monticulelaw09.DiffApplies'. -/
def diffAppliesCard : Claim7 := { stood := { row := diffAppliesRow, standIns := [], harness := (true, "47b067b0e45d92d108bf9e76a4156078942b337f01f9b938d773c4434dc33fbf"), looks := false }, kinds := [], alts := [], laidByText := true, laidKinds := [.data, .pinned], laidTests := true, laidLooks := .later }
def DiffAppliesCardSaid : Prop := Claim7.holds Tryz.pinned (.plain (OpenSpec.ofChange diffAppliesSpec)) diffAppliesCard

/-- THE TIED CARD OF 'monticulelaw09.DiffChains'. -/
def diffChainsCard : Claim7 := { stood := { row := diffChainsRow, standIns := [], harness := (true, "47b067b0e45d92d108bf9e76a4156078942b337f01f9b938d773c4434dc33fbf"), looks := false }, kinds := [], alts := [], laidByText := true, laidKinds := [.data, .pinned], laidTests := true, laidLooks := .later }
def DiffChainsCardSaid : Prop := Claim7.holds Tryz.pinned (.plain (OpenSpec.ofChange diffChainsSpec)) diffChainsCard

/-- THE TIED CARD OF 'monticulelaw09.DiffOfs'. -/
def diffOfsCard : Claim7 := { stood := { row := diffOfsRow, standIns := [], harness := (true, "47b067b0e45d92d108bf9e76a4156078942b337f01f9b938d773c4434dc33fbf"), looks := false }, kinds := [], alts := [], laidByText := true, laidKinds := [.data, .pinned], laidTests := true, laidLooks := .later }
def DiffOfsCardSaid : Prop := Claim7.holds Tryz.pinned (.plain (OpenSpec.ofChange diffOfsSpec)) diffOfsCard

/-- THE TIED CARD OF 'monticulelaw08.SnapParses'. -/
def snapParsesCard : Claim7 := { stood := { row := snapParsesRow, standIns := [], harness := (true, "47b067b0e45d92d108bf9e76a4156078942b337f01f9b938d773c4434dc33fbf"), looks := false }, kinds := [], alts := [], laidByText := true, laidKinds := [.data, .pinned], laidTests := true, laidLooks := .later }
def SnapParsesCardSaid : Prop := Claim7.holds Tryz.pinned (.plain (OpenSpec.ofChange snapParsesSpec)) snapParsesCard

/-- THE TIED CARD OF 'monticulelaw23.CacheSteady'. -/
def cacheSteadyCard : Claim7 := { stood := { row := cacheSteadyRow, standIns := [], harness := (true, "47b067b0e45d92d108bf9e76a4156078942b337f01f9b938d773c4434dc33fbf"), looks := false }, kinds := [], alts := [], laidByText := true, laidKinds := [.data, .pinned], laidTests := true, laidLooks := .later }
def CacheSteadyCardSaid : Prop := Claim7.holds Tryz.pinned (.plain (OpenSpec.ofChange cacheSteadySpec)) cacheSteadyCard

/-- THE TIED CARD OF 'monticulelaw08.SnapBack'. -/
def snapBackCard : Claim7 := { stood := { row := snapBackRow, standIns := [], harness := (true, "47b067b0e45d92d108bf9e76a4156078942b337f01f9b938d773c4434dc33fbf"), looks := false }, kinds := [], alts := [], laidByText := true, laidKinds := [.data, .pinned], laidTests := true, laidLooks := .later }
def SnapBackCardSaid : Prop := Claim7.holds Tryz.pinned (.plain (OpenSpec.ofChange snapBackSpec)) snapBackCard

/-- THE TIED CARD OF 'monticulelaw23.CacheFinds'. -/
def cacheFindsCard : Claim7 := { stood := { row := cacheFindsRow, standIns := [], harness := (true, "47b067b0e45d92d108bf9e76a4156078942b337f01f9b938d773c4434dc33fbf"), looks := false }, kinds := [], alts := [], laidByText := true, laidKinds := [.data, .pinned], laidTests := true, laidLooks := .later }
def CacheFindsCardSaid : Prop := Claim7.holds Tryz.pinned (.plain (OpenSpec.ofChange cacheFindsSpec)) cacheFindsCard

/-- THE TIED CARD OF 'monticulelaw11.PackWrites'. -/
def packWritesCard : Claim7 := { stood := { row := packWritesRow, standIns := [], harness := (true, "47b067b0e45d92d108bf9e76a4156078942b337f01f9b938d773c4434dc33fbf"), looks := false }, kinds := [], alts := [], laidByText := true, laidKinds := [.data, .pinned], laidTests := true, laidLooks := .later }
def PackWritesCardSaid : Prop := Claim7.holds Tryz.pinned (.plain (OpenSpec.ofChange packWritesSpec)) packWritesCard

/-- THE TIED CARD OF 'monticulelaw11.PackParses'. -/
def packParsesCard : Claim7 := { stood := { row := packParsesRow, standIns := [], harness := (true, "47b067b0e45d92d108bf9e76a4156078942b337f01f9b938d773c4434dc33fbf"), looks := false }, kinds := [], alts := [], laidByText := true, laidKinds := [.data, .pinned], laidTests := true, laidLooks := .later }
def PackParsesCardSaid : Prop := Claim7.holds Tryz.pinned (.plain (OpenSpec.ofChange packParsesSpec)) packParsesCard

/-- THE TIED CARD OF 'monticulelaw11.PackMakes'. -/
def packMakesCard : Claim7 := { stood := { row := packMakesRow, standIns := [], harness := (true, "47b067b0e45d92d108bf9e76a4156078942b337f01f9b938d773c4434dc33fbf"), looks := false }, kinds := [], alts := [], laidByText := true, laidKinds := [.data, .pinned], laidTests := true, laidLooks := .later }
def PackMakesCardSaid : Prop := Claim7.holds Tryz.pinned (.plain (OpenSpec.ofChange packMakesSpec)) packMakesCard

/-- THE SECOND FORM's CARD OF 'monticulelaw08.SnapNews'. -/
def snapNewsUptoCard : Claim7 := { stood := { row := snapNewsUptoRow, standIns := [], harness := (true, "47b067b0e45d92d108bf9e76a4156078942b337f01f9b938d773c4434dc33fbf"), looks := false }, kinds := [], alts := [], laidByText := true, laidKinds := [.data, .pinned], laidTests := true, laidLooks := .later }
def SnapNewsUptoCardSaid : Prop := Claim7.holds Tryz.pinned (.plain (OpenSpec.upto snapNewsSpec)) snapNewsUptoCard

/-- THE SECOND FORM's CARD OF 'monticulelaw10.MergeMerges'. -/
def mergeMergesUptoCard : Claim7 := { stood := { row := mergeMergesUptoRow, standIns := [], harness := (true, "47b067b0e45d92d108bf9e76a4156078942b337f01f9b938d773c4434dc33fbf"), looks := false }, kinds := [], alts := [], laidByText := true, laidKinds := [.data, .pinned], laidTests := true, laidLooks := .later }
def MergeMergesUptoCardSaid : Prop := Claim7.holds Tryz.pinned (.plain (OpenSpec.upto mergeMergesSpec)) mergeMergesUptoCard

/-- THE SECOND FORM's CARD OF 'monticulelaw10.MergeSides'. -/
def mergeSidesUptoCard : Claim7 := { stood := { row := mergeSidesUptoRow, standIns := [], harness := (true, "47b067b0e45d92d108bf9e76a4156078942b337f01f9b938d773c4434dc33fbf"), looks := false }, kinds := [], alts := [], laidByText := true, laidKinds := [.data, .pinned], laidTests := true, laidLooks := .later }
def MergeSidesUptoCardSaid : Prop := Claim7.holds Tryz.pinned (.plain (OpenSpec.upto mergeSidesSpec)) mergeSidesUptoCard

/-- THE SECOND FORM's CARD OF 'monticulelaw10.MergeChooses'. -/
def mergeChoosesUptoCard : Claim7 := { stood := { row := mergeChoosesUptoRow, standIns := [], harness := (true, "47b067b0e45d92d108bf9e76a4156078942b337f01f9b938d773c4434dc33fbf"), looks := false }, kinds := [], alts := [], laidByText := true, laidKinds := [.data, .pinned], laidTests := true, laidLooks := .later }
def MergeChoosesUptoCardSaid : Prop := Claim7.holds Tryz.pinned (.plain (OpenSpec.upto mergeChoosesSpec)) mergeChoosesUptoCard

/-- THE SECOND FORM's CARD OF 'monticulelaw10.MergeOnes'. -/
def mergeOnesUptoCard : Claim7 := { stood := { row := mergeOnesUptoRow, standIns := [], harness := (true, "47b067b0e45d92d108bf9e76a4156078942b337f01f9b938d773c4434dc33fbf"), looks := false }, kinds := [], alts := [], laidByText := true, laidKinds := [.data, .pinned], laidTests := true, laidLooks := .later }
def MergeOnesUptoCardSaid : Prop := Claim7.holds Tryz.pinned (.plain (OpenSpec.upto mergeOnesSpec)) mergeOnesUptoCard

/-- THE SECOND FORM's CARD OF 'monticulelaw09.DiffApplies'. -/
def diffAppliesUptoCard : Claim7 := { stood := { row := diffAppliesUptoRow, standIns := [], harness := (true, "47b067b0e45d92d108bf9e76a4156078942b337f01f9b938d773c4434dc33fbf"), looks := false }, kinds := [], alts := [], laidByText := true, laidKinds := [.data, .pinned], laidTests := true, laidLooks := .later }
def DiffAppliesUptoCardSaid : Prop := Claim7.holds Tryz.pinned (.plain (OpenSpec.upto diffAppliesSpec)) diffAppliesUptoCard

/-- THE SECOND FORM's CARD OF 'monticulelaw09.DiffChains'. -/
def diffChainsUptoCard : Claim7 := { stood := { row := diffChainsUptoRow, standIns := [], harness := (true, "47b067b0e45d92d108bf9e76a4156078942b337f01f9b938d773c4434dc33fbf"), looks := false }, kinds := [], alts := [], laidByText := true, laidKinds := [.data, .pinned], laidTests := true, laidLooks := .later }
def DiffChainsUptoCardSaid : Prop := Claim7.holds Tryz.pinned (.plain (OpenSpec.upto diffChainsSpec)) diffChainsUptoCard

/-- THE SECOND FORM's CARD OF 'monticulelaw09.DiffOfs'. -/
def diffOfsUptoCard : Claim7 := { stood := { row := diffOfsUptoRow, standIns := [], harness := (true, "47b067b0e45d92d108bf9e76a4156078942b337f01f9b938d773c4434dc33fbf"), looks := false }, kinds := [], alts := [], laidByText := true, laidKinds := [.data, .pinned], laidTests := true, laidLooks := .later }
def DiffOfsUptoCardSaid : Prop := Claim7.holds Tryz.pinned (.plain (OpenSpec.upto diffOfsSpec)) diffOfsUptoCard

/-- THE SECOND FORM's CARD OF 'monticulelaw08.SnapParses'. -/
def snapParsesUptoCard : Claim7 := { stood := { row := snapParsesUptoRow, standIns := [], harness := (true, "47b067b0e45d92d108bf9e76a4156078942b337f01f9b938d773c4434dc33fbf"), looks := false }, kinds := [], alts := [], laidByText := true, laidKinds := [.data, .pinned], laidTests := true, laidLooks := .later }
def SnapParsesUptoCardSaid : Prop := Claim7.holds Tryz.pinned (.plain (OpenSpec.upto snapParsesSpec)) snapParsesUptoCard

/-- THE SECOND FORM's CARD OF 'monticulelaw23.CacheSteady'. -/
def cacheSteadyUptoCard : Claim7 := { stood := { row := cacheSteadyUptoRow, standIns := [], harness := (true, "47b067b0e45d92d108bf9e76a4156078942b337f01f9b938d773c4434dc33fbf"), looks := false }, kinds := [], alts := [], laidByText := true, laidKinds := [.data, .pinned], laidTests := true, laidLooks := .later }
def CacheSteadyUptoCardSaid : Prop := Claim7.holds Tryz.pinned (.plain (OpenSpec.upto cacheSteadySpec)) cacheSteadyUptoCard

/-- THE SECOND FORM's CARD OF 'monticulelaw08.SnapBack'. -/
def snapBackUptoCard : Claim7 := { stood := { row := snapBackUptoRow, standIns := [], harness := (true, "47b067b0e45d92d108bf9e76a4156078942b337f01f9b938d773c4434dc33fbf"), looks := false }, kinds := [], alts := [], laidByText := true, laidKinds := [.data, .pinned], laidTests := true, laidLooks := .later }
def SnapBackUptoCardSaid : Prop := Claim7.holds Tryz.pinned (.plain (OpenSpec.upto snapBackSpec)) snapBackUptoCard

/-- THE SECOND FORM's CARD OF 'monticulelaw23.CacheFinds'. -/
def cacheFindsUptoCard : Claim7 := { stood := { row := cacheFindsUptoRow, standIns := [], harness := (true, "47b067b0e45d92d108bf9e76a4156078942b337f01f9b938d773c4434dc33fbf"), looks := false }, kinds := [], alts := [], laidByText := true, laidKinds := [.data, .pinned], laidTests := true, laidLooks := .later }
def CacheFindsUptoCardSaid : Prop := Claim7.holds Tryz.pinned (.plain (OpenSpec.upto cacheFindsSpec)) cacheFindsUptoCard

/-- THE SECOND FORM's CARD OF 'monticulelaw11.PackWrites'. -/
def packWritesUptoCard : Claim7 := { stood := { row := packWritesUptoRow, standIns := [], harness := (true, "47b067b0e45d92d108bf9e76a4156078942b337f01f9b938d773c4434dc33fbf"), looks := false }, kinds := [], alts := [], laidByText := true, laidKinds := [.data, .pinned], laidTests := true, laidLooks := .later }
def PackWritesUptoCardSaid : Prop := Claim7.holds Tryz.pinned (.plain (OpenSpec.upto packWritesSpec)) packWritesUptoCard

/-- THE SECOND FORM's CARD OF 'monticulelaw11.PackParses'. -/
def packParsesUptoCard : Claim7 := { stood := { row := packParsesUptoRow, standIns := [], harness := (true, "47b067b0e45d92d108bf9e76a4156078942b337f01f9b938d773c4434dc33fbf"), looks := false }, kinds := [], alts := [], laidByText := true, laidKinds := [.data, .pinned], laidTests := true, laidLooks := .later }
def PackParsesUptoCardSaid : Prop := Claim7.holds Tryz.pinned (.plain (OpenSpec.upto packParsesSpec)) packParsesUptoCard

/-- THE SECOND FORM's CARD OF 'monticulelaw11.PackMakes'. -/
def packMakesUptoCard : Claim7 := { stood := { row := packMakesUptoRow, standIns := [], harness := (true, "47b067b0e45d92d108bf9e76a4156078942b337f01f9b938d773c4434dc33fbf"), looks := false }, kinds := [], alts := [], laidByText := true, laidKinds := [.data, .pinned], laidTests := true, laidLooks := .later }
def PackMakesUptoCardSaid : Prop := Claim7.holds Tryz.pinned (.plain (OpenSpec.upto packMakesSpec)) packMakesUptoCard
end Rows
end Go.Proofs.YtodpdlpncgkkdaaGreatDoor
