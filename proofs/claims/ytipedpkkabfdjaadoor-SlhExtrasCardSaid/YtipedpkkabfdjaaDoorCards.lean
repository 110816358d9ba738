/-
  DERIVED. GIVEN WITH THE SEED: THE CARDS: each row of YtipedpkkabfdjaaDoorRows.lean that lists a variable, with what it lists TIED to the program's text (the seventh form; the later family's looks); each row that meets fmt, with fmt's text TOLD by the authors' own Lean function (tested against real Go, not proved from fmt's source: count such statements apart). THE CARD IS WHAT COUNTS. Prove the row's statement (the work); the ties are given (YtipedpkkabfdjaaDoorTie.lean); close each card by the builder's one call (the guide's Derived/Test/ToyasCard.lean, 'card_holds'). Laid BY PROGRAM, IN A SANDBOX (cutbox-door.mjs). By AI agents, Wed Nov 11 2026. No macro, syntax, notation, axiom, sorry.
-/
import Derived.Test.YtipedpkkabfdjaaDoorRows
import GoSem.ClaimSeven
namespace Go.Proofs.YtipedpkkabfdjaaDoor
namespace Rows

/-- THE TIED CARD OF 'tearofflaw18.SlhSizes'. -/
def slhSizesCard : Claim7 := { stood := { row := slhSizesRow, standIns := [], harness := (true, "61e35d1c7f120be52f2041500e2f9fb31cfaf5a95bb942fd9fd4ea5f9989c023"), looks := true }, kinds := [], alts := [], laidByText := true, laidKinds := [.data, .data], laidTests := true, laidLooks := .later }
def SlhSizesCardSaid : Prop := Claim7.holds Tryd.pinned (.plain (OpenSpec.ofChange slhSizesSpec)) slhSizesCard

/-- THE TIED CARD OF 'tearofflaw18.SlhExtras'. -/
def slhExtrasCard : Claim7 := { stood := { row := slhExtrasRow, standIns := [], harness := (true, "61e35d1c7f120be52f2041500e2f9fb31cfaf5a95bb942fd9fd4ea5f9989c023"), looks := true }, kinds := [], alts := [], laidByText := true, laidKinds := [.data, .data], laidTests := true, laidLooks := .later }
def SlhExtrasCardSaid : Prop := Claim7.holds Tryd.pinned (.plain (OpenSpec.ofChange slhExtrasSpec)) slhExtrasCard

/-- THE TIED CARD OF 'tearofflaw18.SlhPublic'. -/
def slhPublicCard : Claim7 := { stood := { row := slhPublicRow, standIns := [], harness := (true, "61e35d1c7f120be52f2041500e2f9fb31cfaf5a95bb942fd9fd4ea5f9989c023"), looks := true }, kinds := [], alts := [], laidByText := true, laidKinds := [.data, .data], laidTests := true, laidLooks := .later }
def SlhPublicCardSaid : Prop := Claim7.holds Tryd.pinned (.plain (OpenSpec.ofChange slhPublicSpec)) slhPublicCard

/-- THE SECOND FORM's CARD OF 'tearofflaw18.SlhSizes'. -/
def slhSizesUptoCard : Claim7 := { stood := { row := slhSizesUptoRow, standIns := [], harness := (true, "61e35d1c7f120be52f2041500e2f9fb31cfaf5a95bb942fd9fd4ea5f9989c023"), looks := true }, kinds := [], alts := [], laidByText := true, laidKinds := [.data, .data], laidTests := true, laidLooks := .later }
def SlhSizesUptoCardSaid : Prop := Claim7.holds Tryd.pinned (.plain (OpenSpec.upto slhSizesSpec)) slhSizesUptoCard

/-- THE SECOND FORM's CARD OF 'tearofflaw18.SlhExtras'. -/
def slhExtrasUptoCard : Claim7 := { stood := { row := slhExtrasUptoRow, standIns := [], harness := (true, "61e35d1c7f120be52f2041500e2f9fb31cfaf5a95bb942fd9fd4ea5f9989c023"), looks := true }, kinds := [], alts := [], laidByText := true, laidKinds := [.data, .data], laidTests := true, laidLooks := .later }
def SlhExtrasUptoCardSaid : Prop := Claim7.holds Tryd.pinned (.plain (OpenSpec.upto slhExtrasSpec)) slhExtrasUptoCard

/-- THE SECOND FORM's CARD OF 'tearofflaw18.SlhPublic'. -/
def slhPublicUptoCard : Claim7 := { stood := { row := slhPublicUptoRow, standIns := [], harness := (true, "61e35d1c7f120be52f2041500e2f9fb31cfaf5a95bb942fd9fd4ea5f9989c023"), looks := true }, kinds := [], alts := [], laidByText := true, laidKinds := [.data, .data], laidTests := true, laidLooks := .later }
def SlhPublicUptoCardSaid : Prop := Claim7.holds Tryd.pinned (.plain (OpenSpec.upto slhPublicSpec)) slhPublicUptoCard
end Rows
end Go.Proofs.YtipedpkkabfdjaaDoor
