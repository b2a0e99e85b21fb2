/-
  DERIVED. GIVEN WITH THE SEED: THE CARDS: each row of YtnkafkikjcgogaaDoorRows.lean that lists a variable, with what it lists TIED to the program's text (the seventh form; the later family's looks); each row that meets fmt, with fmt's text TOLD by the authors' own Lean function (tested against real Go, not proved from fmt's source: count such statements apart). THE CARD IS WHAT COUNTS. Prove the row's statement (the work); the ties are given (YtnkafkikjcgogaaDoorTie.lean); close each card by the builder's one call (the guide's Derived/Test/ToyasCard.lean, 'card_holds'). Laid BY PROGRAM, IN A SANDBOX (cutbox-door.mjs). By AI agents, Wed Nov 11 2026. No macro, syntax, notation, axiom, sorry.
-/
import Derived.Test.YtnkafkikjcgogaaDoorRows
import GoSem.ClaimSeven
namespace Go.Proofs.YtnkafkikjcgogaaDoor
namespace Rows

/-- THE TIED CARD OF 'cordwoodlaw16.ViewNext'. -/
def viewNextCard : Claim7 := { stood := { row := viewNextRow, standIns := [], harness := (true, "88b1b9662fdfaa24b961c84dd2f7f5647741ef4afc214de632269ddcb91f6864"), looks := true }, kinds := [], alts := [], laidByText := true, laidKinds := [.sentinel, .sentinel, .sentinel, .sentinel, .sentinel, .sentinel, .sentinel, .sentinel, .sentinel, .sentinel, .sentinel, .sentinel, .sentinel, .sentinel, .sentinel, .sentinel, .sentinel, .sentinel, .sentinel], laidTests := true, laidLooks := .later }
def ViewNextCardSaid : Prop := Claim7.holds Tryd.pinned (.plain (OpenSpec.ofChange viewNextSpec)) viewNextCard

/-- THE TIED CARD OF 'cordwoodlaw16.ViewLives'. -/
def viewLivesCard : Claim7 := { stood := { row := viewLivesRow, standIns := [], harness := (true, "88b1b9662fdfaa24b961c84dd2f7f5647741ef4afc214de632269ddcb91f6864"), looks := true }, kinds := [], alts := [], laidByText := true, laidKinds := [.sentinel, .sentinel, .sentinel, .sentinel, .sentinel, .sentinel, .sentinel, .sentinel, .sentinel, .sentinel, .sentinel, .sentinel, .sentinel, .sentinel, .sentinel, .sentinel, .sentinel, .sentinel, .sentinel], laidTests := true, laidLooks := .later }
def ViewLivesCardSaid : Prop := Claim7.holds Tryd.pinned (.plain (OpenSpec.ofChange viewLivesSpec)) viewLivesCard

/-- THE TIED CARD OF 'cordwoodlaw16.ViewOther'. -/
def viewOtherCard : Claim7 := { stood := { row := viewOtherRow, standIns := [], harness := (true, "88b1b9662fdfaa24b961c84dd2f7f5647741ef4afc214de632269ddcb91f6864"), looks := true }, kinds := [], alts := [], laidByText := true, laidKinds := [.sentinel, .sentinel, .sentinel, .sentinel, .sentinel, .sentinel, .sentinel, .sentinel, .sentinel, .sentinel, .sentinel, .sentinel, .sentinel, .sentinel, .sentinel, .sentinel, .sentinel, .sentinel, .sentinel], laidTests := true, laidLooks := .later }
def ViewOtherCardSaid : Prop := Claim7.holds Tryd.pinned (.plain (OpenSpec.ofChange viewOtherSpec)) viewOtherCard

/-- THE SECOND FORM's CARD OF 'cordwoodlaw16.ViewNext'. -/
def viewNextUptoCard : Claim7 := { stood := { row := viewNextUptoRow, standIns := [], harness := (true, "88b1b9662fdfaa24b961c84dd2f7f5647741ef4afc214de632269ddcb91f6864"), looks := true }, kinds := [], alts := [], laidByText := true, laidKinds := [.sentinel, .sentinel, .sentinel, .sentinel, .sentinel, .sentinel, .sentinel, .sentinel, .sentinel, .sentinel, .sentinel, .sentinel, .sentinel, .sentinel, .sentinel, .sentinel, .sentinel, .sentinel, .sentinel], laidTests := true, laidLooks := .later }
def ViewNextUptoCardSaid : Prop := Claim7.holds Tryd.pinned (.plain (OpenSpec.upto viewNextSpec)) viewNextUptoCard

/-- THE SECOND FORM's CARD OF 'cordwoodlaw16.ViewLives'. -/
def viewLivesUptoCard : Claim7 := { stood := { row := viewLivesUptoRow, standIns := [], harness := (true, "88b1b9662fdfaa24b961c84dd2f7f5647741ef4afc214de632269ddcb91f6864"), looks := true }, kinds := [], alts := [], laidByText := true, laidKinds := [.sentinel, .sentinel, .sentinel, .sentinel, .sentinel, .sentinel, .sentinel, .sentinel, .sentinel, .sentinel, .sentinel, .sentinel, .sentinel, .sentinel, .sentinel, .sentinel, .sentinel, .sentinel, .sentinel], laidTests := true, laidLooks := .later }
def ViewLivesUptoCardSaid : Prop := Claim7.holds Tryd.pinned (.plain (OpenSpec.upto viewLivesSpec)) viewLivesUptoCard

/-- THE SECOND FORM's CARD OF 'cordwoodlaw16.ViewOther'. -/
def viewOtherUptoCard : Claim7 := { stood := { row := viewOtherUptoRow, standIns := [], harness := (true, "88b1b9662fdfaa24b961c84dd2f7f5647741ef4afc214de632269ddcb91f6864"), looks := true }, kinds := [], alts := [], laidByText := true, laidKinds := [.sentinel, .sentinel, .sentinel, .sentinel, .sentinel, .sentinel, .sentinel, .sentinel, .sentinel, .sentinel, .sentinel, .sentinel, .sentinel, .sentinel, .sentinel, .sentinel, .sentinel, .sentinel, .sentinel], laidTests := true, laidLooks := .later }
def ViewOtherUptoCardSaid : Prop := Claim7.holds Tryd.pinned (.plain (OpenSpec.upto viewOtherSpec)) viewOtherUptoCard
end Rows
end Go.Proofs.YtnkafkikjcgogaaDoor
