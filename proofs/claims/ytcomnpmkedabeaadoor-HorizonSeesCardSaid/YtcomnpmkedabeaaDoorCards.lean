/-
  DERIVED. GIVEN WITH THE SEED: THE CARDS: each row of YtcomnpmkedabeaaDoorRows.lean that lists a variable, with what it lists TIED to the program's text (the seventh form; the later family's looks); each row that meets fmt, with fmt's text TOLD by the authors' own Lean function (tested against real Go, not proved from fmt's source: count such statements apart). THE CARD IS WHAT COUNTS. Prove the row's statement (the work); the ties are given (YtcomnpmkedabeaaDoorTie.lean); close each card by the builder's one call (the guide's Derived/Test/ToyasCard.lean, 'card_holds'). Laid BY PROGRAM, IN A SANDBOX (cutbox-door.mjs). By AI agents, Wed Nov 11 2026. No macro, syntax, notation, axiom, sorry.
-/
import Derived.Test.YtcomnpmkedabeaaDoorRows
import GoSem.ClaimSeven
namespace Go.Proofs.YtcomnpmkedabeaaDoor
namespace Rows

/-- THE TIED CARD OF 'hachurelaw48.HorizonSteepest'. -/
def horizonSteepestCard : Claim7 := { stood := { row := horizonSteepestRow, standIns := [], harness := (true, "59a4b726d550932519c6fba85a8dfcdfb3acfa10f472b6648113cb6d692a03b6"), looks := true }, kinds := [], alts := [], laidByText := true, laidKinds := [.data], laidTests := true, laidLooks := .later }
def HorizonSteepestCardSaid : Prop := Claim7.holds Tryd.pinned (.plain (OpenSpec.ofChange horizonSteepestSpec)) horizonSteepestCard

/-- THE TIED CARD OF 'hachurelaw48.HorizonAround'. -/
def horizonAroundCard : Claim7 := { stood := { row := horizonAroundRow, standIns := [], harness := (true, "59a4b726d550932519c6fba85a8dfcdfb3acfa10f472b6648113cb6d692a03b6"), looks := true }, kinds := [], alts := [], laidByText := true, laidKinds := [.data], laidTests := true, laidLooks := .later }
def HorizonAroundCardSaid : Prop := Claim7.holds Tryd.pinned (.plain (OpenSpec.ofChange horizonAroundSpec)) horizonAroundCard

/-- THE TIED CARD OF 'hachurelaw48.HorizonSees'. -/
def horizonSeesCard : Claim7 := { stood := { row := horizonSeesRow, standIns := [], harness := (true, "59a4b726d550932519c6fba85a8dfcdfb3acfa10f472b6648113cb6d692a03b6"), looks := true }, kinds := [], alts := [], laidByText := true, laidKinds := [.data], laidTests := true, laidLooks := .later }
def HorizonSeesCardSaid : Prop := Claim7.holds Tryd.pinned (.plain (OpenSpec.ofChange horizonSeesSpec)) horizonSeesCard

/-- THE SECOND FORM's CARD OF 'hachurelaw48.HorizonSteepest'. -/
def horizonSteepestUptoCard : Claim7 := { stood := { row := horizonSteepestUptoRow, standIns := [], harness := (true, "59a4b726d550932519c6fba85a8dfcdfb3acfa10f472b6648113cb6d692a03b6"), looks := true }, kinds := [], alts := [], laidByText := true, laidKinds := [.data], laidTests := true, laidLooks := .later }
def HorizonSteepestUptoCardSaid : Prop := Claim7.holds Tryd.pinned (.plain (OpenSpec.upto horizonSteepestSpec)) horizonSteepestUptoCard

/-- THE SECOND FORM's CARD OF 'hachurelaw48.HorizonAround'. -/
def horizonAroundUptoCard : Claim7 := { stood := { row := horizonAroundUptoRow, standIns := [], harness := (true, "59a4b726d550932519c6fba85a8dfcdfb3acfa10f472b6648113cb6d692a03b6"), looks := true }, kinds := [], alts := [], laidByText := true, laidKinds := [.data], laidTests := true, laidLooks := .later }
def HorizonAroundUptoCardSaid : Prop := Claim7.holds Tryd.pinned (.plain (OpenSpec.upto horizonAroundSpec)) horizonAroundUptoCard

/-- THE SECOND FORM's CARD OF 'hachurelaw48.HorizonSees'. -/
def horizonSeesUptoCard : Claim7 := { stood := { row := horizonSeesUptoRow, standIns := [], harness := (true, "59a4b726d550932519c6fba85a8dfcdfb3acfa10f472b6648113cb6d692a03b6"), looks := true }, kinds := [], alts := [], laidByText := true, laidKinds := [.data], laidTests := true, laidLooks := .later }
def HorizonSeesUptoCardSaid : Prop := Claim7.holds Tryd.pinned (.plain (OpenSpec.upto horizonSeesSpec)) horizonSeesUptoCard
end Rows
end Go.Proofs.YtcomnpmkedabeaaDoor
