/-
  DERIVED. GIVEN WITH THE SEED: THE CARDS: each row of YtkdfilpinlebbaaDoorRows.lean that lists a variable, with what it lists TIED to the program's text (the seventh form; the later family's looks); each row that meets fmt, with fmt's text TOLD by the authors' own Lean function (tested against real Go, not proved from fmt's source: count such statements apart). THE CARD IS WHAT COUNTS. Prove the row's statement (the work); the ties are given (YtkdfilpinlebbaaDoorTie.lean); close each card by the builder's one call (the guide's Derived/Test/ToyasCard.lean, 'card_holds'). Laid BY PROGRAM, IN A SANDBOX (cutbox-door.mjs). By AI agents, Wed Nov 11 2026. No macro, syntax, notation, axiom, sorry.
-/
import Derived.Test.YtkdfilpinlebbaaDoorRows
import GoSem.ClaimSeven
namespace Go.Proofs.YtkdfilpinlebbaaDoor
namespace Rows

/-- THE TIED CARD OF 'replevinlaw04.ObjectTexts'. -/
def objectTextsCard : Claim7 := { stood := { row := objectTextsRow, standIns := [], harness := (true, "8e87bba2a41a69399b79c823de468ae2eb1d25ee831ee76bd86f20e7ace705d6"), looks := true }, kinds := [], alts := [], laidByText := true, laidKinds := [.data, .data, .data, .sentinel, .sentinel], laidTests := true, laidLooks := .later }
def ObjectTextsCardSaid : Prop := Claim7.holds Tryd.pinned (.plain (OpenSpec.ofChange objectTextsSpec)) objectTextsCard

/-- THE TIED CARD OF 'replevinlaw04.ObjectParses'. -/
def objectParsesCard : Claim7 := { stood := { row := objectParsesRow, standIns := [], harness := (true, "8e87bba2a41a69399b79c823de468ae2eb1d25ee831ee76bd86f20e7ace705d6"), looks := true }, kinds := [], alts := [], laidByText := true, laidKinds := [.data, .data, .data, .sentinel, .sentinel], laidTests := true, laidLooks := .later }
def ObjectParsesCardSaid : Prop := Claim7.holds Tryd.pinned (.plain (OpenSpec.ofChange objectParsesSpec)) objectParsesCard

/-- THE TIED CARD OF 'replevinlaw04.ObjectApart'. -/
def objectApartCard : Claim7 := { stood := { row := objectApartRow, standIns := [], harness := (true, "8e87bba2a41a69399b79c823de468ae2eb1d25ee831ee76bd86f20e7ace705d6"), looks := true }, kinds := [], alts := [], laidByText := true, laidKinds := [.data, .data, .data, .sentinel, .sentinel], laidTests := true, laidLooks := .later }
def ObjectApartCardSaid : Prop := Claim7.holds Tryd.pinned (.plain (OpenSpec.ofChange objectApartSpec)) objectApartCard

/-- THE TIED CARD OF 'replevinlaw04.ObjectChecks'. -/
def objectChecksCard : Claim7 := { stood := { row := objectChecksRow, standIns := [], harness := (true, "8e87bba2a41a69399b79c823de468ae2eb1d25ee831ee76bd86f20e7ace705d6"), looks := true }, kinds := [], alts := [], laidByText := true, laidKinds := [.data, .data, .data, .sentinel, .sentinel], laidTests := true, laidLooks := .later }
def ObjectChecksCardSaid : Prop := Claim7.holds Tryd.pinned (.plain (OpenSpec.ofChange objectChecksSpec)) objectChecksCard

/-- THE TIED CARD OF 'replevinlaw04.ObjectOrders'. -/
def objectOrdersCard : Claim7 := { stood := { row := objectOrdersRow, standIns := [], harness := (true, "8e87bba2a41a69399b79c823de468ae2eb1d25ee831ee76bd86f20e7ace705d6"), looks := true }, kinds := [], alts := [], laidByText := true, laidKinds := [.data, .data, .data, .sentinel, .sentinel], laidTests := true, laidLooks := .later }
def ObjectOrdersCardSaid : Prop := Claim7.holds Tryd.pinned (.plain (OpenSpec.ofChange objectOrdersSpec)) objectOrdersCard

/-- THE SECOND FORM's CARD OF 'replevinlaw04.ObjectTexts'. -/
def objectTextsUptoCard : Claim7 := { stood := { row := objectTextsUptoRow, standIns := [], harness := (true, "8e87bba2a41a69399b79c823de468ae2eb1d25ee831ee76bd86f20e7ace705d6"), looks := true }, kinds := [], alts := [], laidByText := true, laidKinds := [.data, .data, .data, .sentinel, .sentinel], laidTests := true, laidLooks := .later }
def ObjectTextsUptoCardSaid : Prop := Claim7.holds Tryd.pinned (.plain (OpenSpec.upto objectTextsSpec)) objectTextsUptoCard

/-- THE SECOND FORM's CARD OF 'replevinlaw04.ObjectParses'. -/
def objectParsesUptoCard : Claim7 := { stood := { row := objectParsesUptoRow, standIns := [], harness := (true, "8e87bba2a41a69399b79c823de468ae2eb1d25ee831ee76bd86f20e7ace705d6"), looks := true }, kinds := [], alts := [], laidByText := true, laidKinds := [.data, .data, .data, .sentinel, .sentinel], laidTests := true, laidLooks := .later }
def ObjectParsesUptoCardSaid : Prop := Claim7.holds Tryd.pinned (.plain (OpenSpec.upto objectParsesSpec)) objectParsesUptoCard

/-- THE SECOND FORM's CARD OF 'replevinlaw04.ObjectApart'. -/
def objectApartUptoCard : Claim7 := { stood := { row := objectApartUptoRow, standIns := [], harness := (true, "8e87bba2a41a69399b79c823de468ae2eb1d25ee831ee76bd86f20e7ace705d6"), looks := true }, kinds := [], alts := [], laidByText := true, laidKinds := [.data, .data, .data, .sentinel, .sentinel], laidTests := true, laidLooks := .later }
def ObjectApartUptoCardSaid : Prop := Claim7.holds Tryd.pinned (.plain (OpenSpec.upto objectApartSpec)) objectApartUptoCard

/-- THE SECOND FORM's CARD OF 'replevinlaw04.ObjectChecks'. -/
def objectChecksUptoCard : Claim7 := { stood := { row := objectChecksUptoRow, standIns := [], harness := (true, "8e87bba2a41a69399b79c823de468ae2eb1d25ee831ee76bd86f20e7ace705d6"), looks := true }, kinds := [], alts := [], laidByText := true, laidKinds := [.data, .data, .data, .sentinel, .sentinel], laidTests := true, laidLooks := .later }
def ObjectChecksUptoCardSaid : Prop := Claim7.holds Tryd.pinned (.plain (OpenSpec.upto objectChecksSpec)) objectChecksUptoCard

/-- THE SECOND FORM's CARD OF 'replevinlaw04.ObjectOrders'. -/
def objectOrdersUptoCard : Claim7 := { stood := { row := objectOrdersUptoRow, standIns := [], harness := (true, "8e87bba2a41a69399b79c823de468ae2eb1d25ee831ee76bd86f20e7ace705d6"), looks := true }, kinds := [], alts := [], laidByText := true, laidKinds := [.data, .data, .data, .sentinel, .sentinel], laidTests := true, laidLooks := .later }
def ObjectOrdersUptoCardSaid : Prop := Claim7.holds Tryd.pinned (.plain (OpenSpec.upto objectOrdersSpec)) objectOrdersUptoCard
end Rows
end Go.Proofs.YtkdfilpinlebbaaDoor
