/-
  DERIVED. GIVEN WITH THE SEED: THE CARDS: each row of YtfkefgelceaimaaDoorRows.lean that lists a variable, with what it lists TIED to the program's text (the seventh form; the later family's looks); each row that meets fmt, with fmt's text TOLD by the authors' own Lean function (tested against real Go, not proved from fmt's source: count such statements apart). THE CARD IS WHAT COUNTS. Prove the row's statement (the work); the ties are given (YtfkefgelceaimaaDoorTie.lean); close each card by the builder's one call (the guide's Derived/Test/ToyasCard.lean, 'card_holds'). Laid BY PROGRAM, IN A SANDBOX (cutbox-door.mjs). By AI agents, Wed Nov 11 2026. No macro, syntax, notation, axiom, sorry.
-/
import Derived.Test.YtfkefgelceaimaaDoorRows
import GoSem.ClaimSeven
namespace Go.Proofs.YtfkefgelceaimaaDoor
namespace Rows

/-- THE TIED CARD OF 'spinneylaw3.TruthCounts'. -/
def truthCountsCard : Claim7 := { stood := { row := truthCountsRow, standIns := [], harness := (true, "26ae4e2cf8fb3add9ac16342a761a93ca3558eb434aeb4f5167795fe2eff6a4f"), looks := false }, kinds := [], alts := [], laidByText := true, laidKinds := [.data], laidTests := true, laidLooks := .later }
def TruthCountsCardSaid : Prop := Claim7.holds Tryd.pinned (.plain (OpenSpec.ofChange truthCountsSpec)) truthCountsCard

/-- THE TIED CARD OF 'spinneylaw3.TruthCountsUp'. -/
def truthCountsUpCard : Claim7 := { stood := { row := truthCountsUpRow, standIns := [], harness := (true, "26ae4e2cf8fb3add9ac16342a761a93ca3558eb434aeb4f5167795fe2eff6a4f"), looks := false }, kinds := [], alts := [], laidByText := true, laidKinds := [.data], laidTests := true, laidLooks := .later }
def TruthCountsUpCardSaid : Prop := Claim7.holds Tryd.pinned (.plain (OpenSpec.ofChange truthCountsUpSpec)) truthCountsUpCard

/-- THE TIED CARD OF 'spinneylaw3.TruthSizes'. -/
def truthSizesCard : Claim7 := { stood := { row := truthSizesRow, standIns := [], harness := (true, "26ae4e2cf8fb3add9ac16342a761a93ca3558eb434aeb4f5167795fe2eff6a4f"), looks := false }, kinds := [], alts := [], laidByText := true, laidKinds := [.data], laidTests := true, laidLooks := .later }
def TruthSizesCardSaid : Prop := Claim7.holds Tryd.pinned (.plain (OpenSpec.ofChange truthSizesSpec)) truthSizesCard

/-- THE TIED CARD OF 'spinneylaw3.TruthRing'. -/
def truthRingCard : Claim7 := { stood := { row := truthRingRow, standIns := [], harness := (true, "26ae4e2cf8fb3add9ac16342a761a93ca3558eb434aeb4f5167795fe2eff6a4f"), looks := false }, kinds := [], alts := [], laidByText := true, laidKinds := [.data], laidTests := true, laidLooks := .later }
def TruthRingCardSaid : Prop := Claim7.holds Tryd.pinned (.plain (OpenSpec.ofChange truthRingSpec)) truthRingCard

/-- THE TIED CARD OF 'spinneylaw3.TruthQuants'. -/
def truthQuantsCard : Claim7 := { stood := { row := truthQuantsRow, standIns := [], harness := (true, "26ae4e2cf8fb3add9ac16342a761a93ca3558eb434aeb4f5167795fe2eff6a4f"), looks := false }, kinds := [], alts := [], laidByText := true, laidKinds := [.data], laidTests := true, laidLooks := .later }
def TruthQuantsCardSaid : Prop := Claim7.holds Tryd.pinned (.plain (OpenSpec.ofChange truthQuantsSpec)) truthQuantsCard

/-- THE TIED CARD OF 'spinneylaw3.TruthPoints'. -/
def truthPointsCard : Claim7 := { stood := { row := truthPointsRow, standIns := [], harness := (true, "26ae4e2cf8fb3add9ac16342a761a93ca3558eb434aeb4f5167795fe2eff6a4f"), looks := false }, kinds := [], alts := [], laidByText := true, laidKinds := [.data], laidTests := true, laidLooks := .later }
def TruthPointsCardSaid : Prop := Claim7.holds Tryd.pinned (.plain (OpenSpec.ofChange truthPointsSpec)) truthPointsCard

/-- THE TIED CARD OF 'spinneylaw3.TruthRels'. -/
def truthRelsCard : Claim7 := { stood := { row := truthRelsRow, standIns := [], harness := (true, "26ae4e2cf8fb3add9ac16342a761a93ca3558eb434aeb4f5167795fe2eff6a4f"), looks := false }, kinds := [], alts := [], laidByText := true, laidKinds := [.data], laidTests := true, laidLooks := .later }
def TruthRelsCardSaid : Prop := Claim7.holds Tryd.pinned (.plain (OpenSpec.ofChange truthRelsSpec)) truthRelsCard

/-- THE TIED CARD OF 'spinneylaw3.TruthSteps'. -/
def truthStepsCard : Claim7 := { stood := { row := truthStepsRow, standIns := [], harness := (true, "26ae4e2cf8fb3add9ac16342a761a93ca3558eb434aeb4f5167795fe2eff6a4f"), looks := false }, kinds := [], alts := [], laidByText := true, laidKinds := [.data], laidTests := true, laidLooks := .later }
def TruthStepsCardSaid : Prop := Claim7.holds Tryd.pinned (.plain (OpenSpec.ofChange truthStepsSpec)) truthStepsCard

/-- THE TIED CARD OF 'spinneylaw3.TruthTells'. -/
def truthTellsCard : Claim7 := { stood := { row := truthTellsRow, standIns := [], harness := (true, "26ae4e2cf8fb3add9ac16342a761a93ca3558eb434aeb4f5167795fe2eff6a4f"), looks := false }, kinds := [], alts := [], laidByText := true, laidKinds := [.data], laidTests := true, laidLooks := .later }
def TruthTellsCardSaid : Prop := Claim7.holds Tryd.pinned (.plain (OpenSpec.ofChange truthTellsSpec)) truthTellsCard

/-- THE SECOND FORM's CARD OF 'spinneylaw3.TruthCounts'. -/
def truthCountsUptoCard : Claim7 := { stood := { row := truthCountsUptoRow, standIns := [], harness := (true, "26ae4e2cf8fb3add9ac16342a761a93ca3558eb434aeb4f5167795fe2eff6a4f"), looks := false }, kinds := [], alts := [], laidByText := true, laidKinds := [.data], laidTests := true, laidLooks := .later }
def TruthCountsUptoCardSaid : Prop := Claim7.holds Tryd.pinned (.plain (OpenSpec.upto truthCountsSpec)) truthCountsUptoCard

/-- THE SECOND FORM's CARD OF 'spinneylaw3.TruthCountsUp'. -/
def truthCountsUpUptoCard : Claim7 := { stood := { row := truthCountsUpUptoRow, standIns := [], harness := (true, "26ae4e2cf8fb3add9ac16342a761a93ca3558eb434aeb4f5167795fe2eff6a4f"), looks := false }, kinds := [], alts := [], laidByText := true, laidKinds := [.data], laidTests := true, laidLooks := .later }
def TruthCountsUpUptoCardSaid : Prop := Claim7.holds Tryd.pinned (.plain (OpenSpec.upto truthCountsUpSpec)) truthCountsUpUptoCard

/-- THE SECOND FORM's CARD OF 'spinneylaw3.TruthSizes'. -/
def truthSizesUptoCard : Claim7 := { stood := { row := truthSizesUptoRow, standIns := [], harness := (true, "26ae4e2cf8fb3add9ac16342a761a93ca3558eb434aeb4f5167795fe2eff6a4f"), looks := false }, kinds := [], alts := [], laidByText := true, laidKinds := [.data], laidTests := true, laidLooks := .later }
def TruthSizesUptoCardSaid : Prop := Claim7.holds Tryd.pinned (.plain (OpenSpec.upto truthSizesSpec)) truthSizesUptoCard

/-- THE SECOND FORM's CARD OF 'spinneylaw3.TruthRing'. -/
def truthRingUptoCard : Claim7 := { stood := { row := truthRingUptoRow, standIns := [], harness := (true, "26ae4e2cf8fb3add9ac16342a761a93ca3558eb434aeb4f5167795fe2eff6a4f"), looks := false }, kinds := [], alts := [], laidByText := true, laidKinds := [.data], laidTests := true, laidLooks := .later }
def TruthRingUptoCardSaid : Prop := Claim7.holds Tryd.pinned (.plain (OpenSpec.upto truthRingSpec)) truthRingUptoCard

/-- THE SECOND FORM's CARD OF 'spinneylaw3.TruthQuants'. -/
def truthQuantsUptoCard : Claim7 := { stood := { row := truthQuantsUptoRow, standIns := [], harness := (true, "26ae4e2cf8fb3add9ac16342a761a93ca3558eb434aeb4f5167795fe2eff6a4f"), looks := false }, kinds := [], alts := [], laidByText := true, laidKinds := [.data], laidTests := true, laidLooks := .later }
def TruthQuantsUptoCardSaid : Prop := Claim7.holds Tryd.pinned (.plain (OpenSpec.upto truthQuantsSpec)) truthQuantsUptoCard

/-- THE SECOND FORM's CARD OF 'spinneylaw3.TruthPoints'. -/
def truthPointsUptoCard : Claim7 := { stood := { row := truthPointsUptoRow, standIns := [], harness := (true, "26ae4e2cf8fb3add9ac16342a761a93ca3558eb434aeb4f5167795fe2eff6a4f"), looks := false }, kinds := [], alts := [], laidByText := true, laidKinds := [.data], laidTests := true, laidLooks := .later }
def TruthPointsUptoCardSaid : Prop := Claim7.holds Tryd.pinned (.plain (OpenSpec.upto truthPointsSpec)) truthPointsUptoCard

/-- THE SECOND FORM's CARD OF 'spinneylaw3.TruthRels'. -/
def truthRelsUptoCard : Claim7 := { stood := { row := truthRelsUptoRow, standIns := [], harness := (true, "26ae4e2cf8fb3add9ac16342a761a93ca3558eb434aeb4f5167795fe2eff6a4f"), looks := false }, kinds := [], alts := [], laidByText := true, laidKinds := [.data], laidTests := true, laidLooks := .later }
def TruthRelsUptoCardSaid : Prop := Claim7.holds Tryd.pinned (.plain (OpenSpec.upto truthRelsSpec)) truthRelsUptoCard

/-- THE SECOND FORM's CARD OF 'spinneylaw3.TruthSteps'. -/
def truthStepsUptoCard : Claim7 := { stood := { row := truthStepsUptoRow, standIns := [], harness := (true, "26ae4e2cf8fb3add9ac16342a761a93ca3558eb434aeb4f5167795fe2eff6a4f"), looks := false }, kinds := [], alts := [], laidByText := true, laidKinds := [.data], laidTests := true, laidLooks := .later }
def TruthStepsUptoCardSaid : Prop := Claim7.holds Tryd.pinned (.plain (OpenSpec.upto truthStepsSpec)) truthStepsUptoCard

/-- THE SECOND FORM's CARD OF 'spinneylaw3.TruthTells'. -/
def truthTellsUptoCard : Claim7 := { stood := { row := truthTellsUptoRow, standIns := [], harness := (true, "26ae4e2cf8fb3add9ac16342a761a93ca3558eb434aeb4f5167795fe2eff6a4f"), looks := false }, kinds := [], alts := [], laidByText := true, laidKinds := [.data], laidTests := true, laidLooks := .later }
def TruthTellsUptoCardSaid : Prop := Claim7.holds Tryd.pinned (.plain (OpenSpec.upto truthTellsSpec)) truthTellsUptoCard
end Rows
end Go.Proofs.YtfkefgelceaimaaDoor
