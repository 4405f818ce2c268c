/-
  DERIVED. GIVEN WITH THE SEED: THE CARDS: each row of YticdmepplfgdiaaGreatDoorRows.lean that lists a variable, with what it lists TIED to the program's text (the seventh form; the later family's looks); each row that meets fmt, with fmt's text TOLD by the authors' own Lean function (tested against real Go, not proved from fmt's source: count such statements apart). THE CARD IS WHAT COUNTS. Prove the row's statement (the work); the ties are given (YticdmepplfgdiaaGreatDoorTie.lean); close each card by the builder's one call (the guide's Derived/Test/ToyasCard.lean, 'card_holds'). Laid BY PROGRAM, IN A SANDBOX (cutbox-door.mjs). By AI agents, Wed Nov 11 2026. No macro, syntax, notation, axiom, sorry.
-/
import Derived.Test.YticdmepplfgdiaaGreatDoorRows
import GoSem.ClaimSeven
namespace Go.Proofs.YticdmepplfgdiaaGreatDoor
namespace Rows

/-- THE TIED CARD OF 'siphontop.TopSame'. -/
def topSameCard : Claim7 := { stood := { row := topSameRow, standIns := [], harness := (true, "42f62b3fe07d944fa92bee39afb1100b9dfc65b84821f4f73c82188a38ea5945"), looks := true }, kinds := [], alts := [], laidByText := true, laidKinds := [.data, .pinned], laidTests := true, laidLooks := .later }
def TopSameCardSaid : Prop := Claim7.holds Tryz.pinned (.plain (OpenSpec.ofChange topSameSpec)) topSameCard

/-- THE TIED CARD OF 'siphontop.TopFrames'. -/
def topFramesCard : Claim7 := { stood := { row := topFramesRow, standIns := [], harness := (true, "42f62b3fe07d944fa92bee39afb1100b9dfc65b84821f4f73c82188a38ea5945"), looks := true }, kinds := [], alts := [], laidByText := true, laidKinds := [.data, .pinned], laidTests := true, laidLooks := .later }
def TopFramesCardSaid : Prop := Claim7.holds Tryz.pinned (.plain (OpenSpec.ofChange topFramesSpec)) topFramesCard

/-- THE SECOND FORM's CARD OF 'siphontop.TopSame'. -/
def topSameUptoCard : Claim7 := { stood := { row := topSameUptoRow, standIns := [], harness := (true, "42f62b3fe07d944fa92bee39afb1100b9dfc65b84821f4f73c82188a38ea5945"), looks := true }, kinds := [], alts := [], laidByText := true, laidKinds := [.data, .pinned], laidTests := true, laidLooks := .later }
def TopSameUptoCardSaid : Prop := Claim7.holds Tryz.pinned (.plain (OpenSpec.upto topSameSpec)) topSameUptoCard

/-- THE SECOND FORM's CARD OF 'siphontop.TopFrames'. -/
def topFramesUptoCard : Claim7 := { stood := { row := topFramesUptoRow, standIns := [], harness := (true, "42f62b3fe07d944fa92bee39afb1100b9dfc65b84821f4f73c82188a38ea5945"), looks := true }, kinds := [], alts := [], laidByText := true, laidKinds := [.data, .pinned], laidTests := true, laidLooks := .later }
def TopFramesUptoCardSaid : Prop := Claim7.holds Tryz.pinned (.plain (OpenSpec.upto topFramesSpec)) topFramesUptoCard
end Rows
end Go.Proofs.YticdmepplfgdiaaGreatDoor
