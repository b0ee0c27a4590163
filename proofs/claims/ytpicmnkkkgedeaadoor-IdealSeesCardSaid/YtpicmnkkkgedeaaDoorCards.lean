/-
  DERIVED. GIVEN WITH THE SEED: THE CARDS: each row of YtpicmnkkkgedeaaDoorRows.lean that lists a variable, with what it lists TIED to the program's text (the seventh form; the later family's looks); each row that meets fmt, with fmt's text TOLD by the authors' own Lean function (tested against real Go, not proved from fmt's source: count such statements apart). THE CARD IS WHAT COUNTS. Prove the row's statement (the work); the ties are given (YtpicmnkkkgedeaaDoorTie.lean); close each card by the builder's one call (the guide's Derived/Test/ToyasCard.lean, 'card_holds'). Laid BY PROGRAM, IN A SANDBOX (cutbox-door.mjs). By AI agents, Wed Nov 11 2026. No macro, syntax, notation, axiom, sorry.
-/
import Derived.Test.YtpicmnkkkgedeaaDoorRows
import GoSem.ClaimSeven
namespace Go.Proofs.YtpicmnkkkgedeaaDoor
namespace Rows

/-- THE TIED CARD OF 'offertorylaw25.IdealSound'. -/
def idealSoundCard : Claim7 := { stood := { row := idealSoundRow, standIns := [], harness := (true, "d6b31b88177eb7fe04d3ef87d19f73907babd20472614d1e7f3b0dc3a06ab40b"), looks := false }, kinds := [], alts := [], laidByText := true, laidKinds := [.data], laidTests := true, laidLooks := .later }
def IdealSoundCardSaid : Prop := Claim7.holds Tryd.pinned (.plain (OpenSpec.ofChange idealSoundSpec)) idealSoundCard

/-- THE TIED CARD OF 'offertorylaw25.IdealSees'. -/
def idealSeesCard : Claim7 := { stood := { row := idealSeesRow, standIns := [], harness := (true, "d6b31b88177eb7fe04d3ef87d19f73907babd20472614d1e7f3b0dc3a06ab40b"), looks := false }, kinds := [], alts := [], laidByText := true, laidKinds := [.data], laidTests := true, laidLooks := .later }
def IdealSeesCardSaid : Prop := Claim7.holds Tryd.pinned (.plain (OpenSpec.ofChange idealSeesSpec)) idealSeesCard

/-- THE TIED CARD OF 'offertorylaw25.IdealHides'. -/
def idealHidesCard : Claim7 := { stood := { row := idealHidesRow, standIns := [], harness := (true, "d6b31b88177eb7fe04d3ef87d19f73907babd20472614d1e7f3b0dc3a06ab40b"), looks := false }, kinds := [], alts := [], laidByText := true, laidKinds := [.data], laidTests := true, laidLooks := .later }
def IdealHidesCardSaid : Prop := Claim7.holds Tryd.pinned (.plain (OpenSpec.ofChange idealHidesSpec)) idealHidesCard

/-- THE TIED CARD OF 'offertorylaw25.IdealTurns'. -/
def idealTurnsCard : Claim7 := { stood := { row := idealTurnsRow, standIns := [], harness := (true, "d6b31b88177eb7fe04d3ef87d19f73907babd20472614d1e7f3b0dc3a06ab40b"), looks := false }, kinds := [], alts := [], laidByText := true, laidKinds := [.data], laidTests := true, laidLooks := .later }
def IdealTurnsCardSaid : Prop := Claim7.holds Tryd.pinned (.plain (OpenSpec.ofChange idealTurnsSpec)) idealTurnsCard

/-- THE TIED CARD OF 'offertorylaw25.IdealSum'. -/
def idealSumCard : Claim7 := { stood := { row := idealSumRow, standIns := [], harness := (true, "d6b31b88177eb7fe04d3ef87d19f73907babd20472614d1e7f3b0dc3a06ab40b"), looks := false }, kinds := [], alts := [], laidByText := true, laidKinds := [.data], laidTests := true, laidLooks := .later }
def IdealSumCardSaid : Prop := Claim7.holds Tryd.pinned (.plain (OpenSpec.ofChange idealSumSpec)) idealSumCard

/-- THE TIED CARD OF 'offertorylaw25.IdealSame'. -/
def idealSameCard : Claim7 := { stood := { row := idealSameRow, standIns := [], harness := (true, "d6b31b88177eb7fe04d3ef87d19f73907babd20472614d1e7f3b0dc3a06ab40b"), looks := false }, kinds := [], alts := [], laidByText := true, laidKinds := [.data], laidTests := true, laidLooks := .later }
def IdealSameCardSaid : Prop := Claim7.holds Tryd.pinned (.plain (OpenSpec.ofChange idealSameSpec)) idealSameCard

/-- THE SECOND FORM's CARD OF 'offertorylaw25.IdealSound'. -/
def idealSoundUptoCard : Claim7 := { stood := { row := idealSoundUptoRow, standIns := [], harness := (true, "d6b31b88177eb7fe04d3ef87d19f73907babd20472614d1e7f3b0dc3a06ab40b"), looks := false }, kinds := [], alts := [], laidByText := true, laidKinds := [.data], laidTests := true, laidLooks := .later }
def IdealSoundUptoCardSaid : Prop := Claim7.holds Tryd.pinned (.plain (OpenSpec.upto idealSoundSpec)) idealSoundUptoCard

/-- THE SECOND FORM's CARD OF 'offertorylaw25.IdealSees'. -/
def idealSeesUptoCard : Claim7 := { stood := { row := idealSeesUptoRow, standIns := [], harness := (true, "d6b31b88177eb7fe04d3ef87d19f73907babd20472614d1e7f3b0dc3a06ab40b"), looks := false }, kinds := [], alts := [], laidByText := true, laidKinds := [.data], laidTests := true, laidLooks := .later }
def IdealSeesUptoCardSaid : Prop := Claim7.holds Tryd.pinned (.plain (OpenSpec.upto idealSeesSpec)) idealSeesUptoCard

/-- THE SECOND FORM's CARD OF 'offertorylaw25.IdealHides'. -/
def idealHidesUptoCard : Claim7 := { stood := { row := idealHidesUptoRow, standIns := [], harness := (true, "d6b31b88177eb7fe04d3ef87d19f73907babd20472614d1e7f3b0dc3a06ab40b"), looks := false }, kinds := [], alts := [], laidByText := true, laidKinds := [.data], laidTests := true, laidLooks := .later }
def IdealHidesUptoCardSaid : Prop := Claim7.holds Tryd.pinned (.plain (OpenSpec.upto idealHidesSpec)) idealHidesUptoCard

/-- THE SECOND FORM's CARD OF 'offertorylaw25.IdealTurns'. -/
def idealTurnsUptoCard : Claim7 := { stood := { row := idealTurnsUptoRow, standIns := [], harness := (true, "d6b31b88177eb7fe04d3ef87d19f73907babd20472614d1e7f3b0dc3a06ab40b"), looks := false }, kinds := [], alts := [], laidByText := true, laidKinds := [.data], laidTests := true, laidLooks := .later }
def IdealTurnsUptoCardSaid : Prop := Claim7.holds Tryd.pinned (.plain (OpenSpec.upto idealTurnsSpec)) idealTurnsUptoCard

/-- THE SECOND FORM's CARD OF 'offertorylaw25.IdealSum'. -/
def idealSumUptoCard : Claim7 := { stood := { row := idealSumUptoRow, standIns := [], harness := (true, "d6b31b88177eb7fe04d3ef87d19f73907babd20472614d1e7f3b0dc3a06ab40b"), looks := false }, kinds := [], alts := [], laidByText := true, laidKinds := [.data], laidTests := true, laidLooks := .later }
def IdealSumUptoCardSaid : Prop := Claim7.holds Tryd.pinned (.plain (OpenSpec.upto idealSumSpec)) idealSumUptoCard

/-- THE SECOND FORM's CARD OF 'offertorylaw25.IdealSame'. -/
def idealSameUptoCard : Claim7 := { stood := { row := idealSameUptoRow, standIns := [], harness := (true, "d6b31b88177eb7fe04d3ef87d19f73907babd20472614d1e7f3b0dc3a06ab40b"), looks := false }, kinds := [], alts := [], laidByText := true, laidKinds := [.data], laidTests := true, laidLooks := .later }
def IdealSameUptoCardSaid : Prop := Claim7.holds Tryd.pinned (.plain (OpenSpec.upto idealSameSpec)) idealSameUptoCard
end Rows
end Go.Proofs.YtpicmnkkkgedeaaDoor
