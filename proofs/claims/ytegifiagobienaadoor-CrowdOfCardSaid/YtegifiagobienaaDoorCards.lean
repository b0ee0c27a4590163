/-
  DERIVED. GIVEN WITH THE SEED: THE CARDS: each row of YtegifiagobienaaDoorRows.lean that lists a variable, with what it lists TIED to the program's text (the seventh form; the later family's looks); each row that meets fmt, with fmt's text TOLD by the authors' own Lean function (tested against real Go, not proved from fmt's source: count such statements apart). THE CARD IS WHAT COUNTS. Prove the row's statement (the work); the ties are given (YtegifiagobienaaDoorTie.lean); close each card by the builder's one call (the guide's Derived/Test/ToyasCard.lean, 'card_holds'). Laid BY PROGRAM, IN A SANDBOX (cutbox-door.mjs). By AI agents, Wed Nov 11 2026. No macro, syntax, notation, axiom, sorry.
-/
import Derived.Test.YtegifiagobienaaDoorRows
import GoSem.ClaimSeven
namespace Go.Proofs.YtegifiagobienaaDoor
namespace Rows

/-- THE TIED CARD OF 'offertorylaw18.CrowdOf'. -/
def crowdOfCard : Claim7 := { stood := { row := crowdOfRow, standIns := [], harness := (true, "a111e2692312fd3af1e3886cc25ae5bf676dddc85447c85531208fb698dfea47"), looks := false }, kinds := [], alts := [], laidByText := true, laidKinds := [.data], laidTests := true, laidLooks := .later }
def CrowdOfCardSaid : Prop := Claim7.holds Tryd.pinned (.plain (OpenSpec.ofChange crowdOfSpec)) crowdOfCard

/-- THE TIED CARD OF 'offertorylaw18.CrowdLists'. -/
def crowdListsCard : Claim7 := { stood := { row := crowdListsRow, standIns := [], harness := (true, "a111e2692312fd3af1e3886cc25ae5bf676dddc85447c85531208fb698dfea47"), looks := false }, kinds := [], alts := [], laidByText := true, laidKinds := [.data], laidTests := true, laidLooks := .later }
def CrowdListsCardSaid : Prop := Claim7.holds Tryd.pinned (.plain (OpenSpec.ofChange crowdListsSpec)) crowdListsCard

/-- THE TIED CARD OF 'offertorylaw18.CrowdWithin'. -/
def crowdWithinCard : Claim7 := { stood := { row := crowdWithinRow, standIns := [], harness := (true, "a111e2692312fd3af1e3886cc25ae5bf676dddc85447c85531208fb698dfea47"), looks := false }, kinds := [], alts := [], laidByText := true, laidKinds := [.data], laidTests := true, laidLooks := .later }
def CrowdWithinCardSaid : Prop := Claim7.holds Tryd.pinned (.plain (OpenSpec.ofChange crowdWithinSpec)) crowdWithinCard

/-- THE TIED CARD OF 'offertorylaw18.CrowdBack'. -/
def crowdBackCard : Claim7 := { stood := { row := crowdBackRow, standIns := [], harness := (true, "a111e2692312fd3af1e3886cc25ae5bf676dddc85447c85531208fb698dfea47"), looks := false }, kinds := [], alts := [], laidByText := true, laidKinds := [.data], laidTests := true, laidLooks := .later }
def CrowdBackCardSaid : Prop := Claim7.holds Tryd.pinned (.plain (OpenSpec.ofChange crowdBackSpec)) crowdBackCard

/-- THE TIED CARD OF 'offertorylaw18.CrowdParts'. -/
def crowdPartsCard : Claim7 := { stood := { row := crowdPartsRow, standIns := [], harness := (true, "a111e2692312fd3af1e3886cc25ae5bf676dddc85447c85531208fb698dfea47"), looks := false }, kinds := [], alts := [], laidByText := true, laidKinds := [.data], laidTests := true, laidLooks := .later }
def CrowdPartsCardSaid : Prop := Claim7.holds Tryd.pinned (.plain (OpenSpec.ofChange crowdPartsSpec)) crowdPartsCard

/-- THE SECOND FORM's CARD OF 'offertorylaw18.CrowdOf'. -/
def crowdOfUptoCard : Claim7 := { stood := { row := crowdOfUptoRow, standIns := [], harness := (true, "a111e2692312fd3af1e3886cc25ae5bf676dddc85447c85531208fb698dfea47"), looks := false }, kinds := [], alts := [], laidByText := true, laidKinds := [.data], laidTests := true, laidLooks := .later }
def CrowdOfUptoCardSaid : Prop := Claim7.holds Tryd.pinned (.plain (OpenSpec.upto crowdOfSpec)) crowdOfUptoCard

/-- THE SECOND FORM's CARD OF 'offertorylaw18.CrowdLists'. -/
def crowdListsUptoCard : Claim7 := { stood := { row := crowdListsUptoRow, standIns := [], harness := (true, "a111e2692312fd3af1e3886cc25ae5bf676dddc85447c85531208fb698dfea47"), looks := false }, kinds := [], alts := [], laidByText := true, laidKinds := [.data], laidTests := true, laidLooks := .later }
def CrowdListsUptoCardSaid : Prop := Claim7.holds Tryd.pinned (.plain (OpenSpec.upto crowdListsSpec)) crowdListsUptoCard

/-- THE SECOND FORM's CARD OF 'offertorylaw18.CrowdWithin'. -/
def crowdWithinUptoCard : Claim7 := { stood := { row := crowdWithinUptoRow, standIns := [], harness := (true, "a111e2692312fd3af1e3886cc25ae5bf676dddc85447c85531208fb698dfea47"), looks := false }, kinds := [], alts := [], laidByText := true, laidKinds := [.data], laidTests := true, laidLooks := .later }
def CrowdWithinUptoCardSaid : Prop := Claim7.holds Tryd.pinned (.plain (OpenSpec.upto crowdWithinSpec)) crowdWithinUptoCard

/-- THE SECOND FORM's CARD OF 'offertorylaw18.CrowdBack'. -/
def crowdBackUptoCard : Claim7 := { stood := { row := crowdBackUptoRow, standIns := [], harness := (true, "a111e2692312fd3af1e3886cc25ae5bf676dddc85447c85531208fb698dfea47"), looks := false }, kinds := [], alts := [], laidByText := true, laidKinds := [.data], laidTests := true, laidLooks := .later }
def CrowdBackUptoCardSaid : Prop := Claim7.holds Tryd.pinned (.plain (OpenSpec.upto crowdBackSpec)) crowdBackUptoCard

/-- THE SECOND FORM's CARD OF 'offertorylaw18.CrowdParts'. -/
def crowdPartsUptoCard : Claim7 := { stood := { row := crowdPartsUptoRow, standIns := [], harness := (true, "a111e2692312fd3af1e3886cc25ae5bf676dddc85447c85531208fb698dfea47"), looks := false }, kinds := [], alts := [], laidByText := true, laidKinds := [.data], laidTests := true, laidLooks := .later }
def CrowdPartsUptoCardSaid : Prop := Claim7.holds Tryd.pinned (.plain (OpenSpec.upto crowdPartsSpec)) crowdPartsUptoCard
end Rows
end Go.Proofs.YtegifiagobienaaDoor
