/-
  DERIVED. GIVEN WITH THE SEED: THE CARDS: each row of YtipedpkkabfdjaaGreatDoorRows.lean that lists a variable, with what it lists TIED to the program's text (the seventh form; the later family's looks); each row that meets fmt, with fmt's text TOLD by the authors' own Lean function (tested against real Go, not proved from fmt's source: count such statements apart). THE CARD IS WHAT COUNTS. Prove the row's statement (the work); the ties are given (YtipedpkkabfdjaaGreatDoorTie.lean); close each card by the builder's one call (the guide's Derived/Test/ToyasCard.lean, 'card_holds'). Laid BY PROGRAM, IN A SANDBOX (cutbox-door.mjs). By AI agents, Wed Nov 11 2026. No macro, syntax, notation, axiom, sorry.
-/
import Derived.Test.YtipedpkkabfdjaaGreatDoorRows
import GoSem.ClaimSeven
namespace Go.Proofs.YtipedpkkabfdjaaGreatDoor
namespace Rows

/-- THE TIED CARD OF 'tearofflaw18.SlhSigns'. -/
def slhSignsCard : Claim7 := { stood := { row := slhSignsRow, standIns := [], harness := (true, "dd2eeac836752d0f086c41e30fba528e3ec7fbe7779e3eb3afcadf3f642e48ea"), looks := true }, kinds := [], alts := [], laidByText := true, laidKinds := [.data, .data], laidTests := true, laidLooks := .later }
def SlhSignsCardSaid : Prop := Claim7.holds Tryz.pinned (.plain (OpenSpec.ofChange slhSignsSpec)) slhSignsCard

/-- THE TIED CARD OF 'tearofflaw18.SlhFits'. -/
def slhFitsCard : Claim7 := { stood := { row := slhFitsRow, standIns := [], harness := (true, "dd2eeac836752d0f086c41e30fba528e3ec7fbe7779e3eb3afcadf3f642e48ea"), looks := true }, kinds := [], alts := [], laidByText := true, laidKinds := [.data, .data], laidTests := true, laidLooks := .later }
def SlhFitsCardSaid : Prop := Claim7.holds Tryz.pinned (.plain (OpenSpec.ofChange slhFitsSpec)) slhFitsCard

/-- THE TIED CARD OF 'tearofflaw18.SlhKeeps'. -/
def slhKeepsCard : Claim7 := { stood := { row := slhKeepsRow, standIns := [], harness := (true, "dd2eeac836752d0f086c41e30fba528e3ec7fbe7779e3eb3afcadf3f642e48ea"), looks := true }, kinds := [], alts := [], laidByText := true, laidKinds := [.data, .data], laidTests := true, laidLooks := .later }
def SlhKeepsCardSaid : Prop := Claim7.holds Tryz.pinned (.plain (OpenSpec.ofChange slhKeepsSpec)) slhKeepsCard

/-- THE SECOND FORM's CARD OF 'tearofflaw18.SlhSigns'. -/
def slhSignsUptoCard : Claim7 := { stood := { row := slhSignsUptoRow, standIns := [], harness := (true, "dd2eeac836752d0f086c41e30fba528e3ec7fbe7779e3eb3afcadf3f642e48ea"), looks := true }, kinds := [], alts := [], laidByText := true, laidKinds := [.data, .data], laidTests := true, laidLooks := .later }
def SlhSignsUptoCardSaid : Prop := Claim7.holds Tryz.pinned (.plain (OpenSpec.upto slhSignsSpec)) slhSignsUptoCard

/-- THE SECOND FORM's CARD OF 'tearofflaw18.SlhFits'. -/
def slhFitsUptoCard : Claim7 := { stood := { row := slhFitsUptoRow, standIns := [], harness := (true, "dd2eeac836752d0f086c41e30fba528e3ec7fbe7779e3eb3afcadf3f642e48ea"), looks := true }, kinds := [], alts := [], laidByText := true, laidKinds := [.data, .data], laidTests := true, laidLooks := .later }
def SlhFitsUptoCardSaid : Prop := Claim7.holds Tryz.pinned (.plain (OpenSpec.upto slhFitsSpec)) slhFitsUptoCard

/-- THE SECOND FORM's CARD OF 'tearofflaw18.SlhKeeps'. -/
def slhKeepsUptoCard : Claim7 := { stood := { row := slhKeepsUptoRow, standIns := [], harness := (true, "dd2eeac836752d0f086c41e30fba528e3ec7fbe7779e3eb3afcadf3f642e48ea"), looks := true }, kinds := [], alts := [], laidByText := true, laidKinds := [.data, .data], laidTests := true, laidLooks := .later }
def SlhKeepsUptoCardSaid : Prop := Claim7.holds Tryz.pinned (.plain (OpenSpec.upto slhKeepsSpec)) slhKeepsUptoCard
end Rows
end Go.Proofs.YtipedpkkabfdjaaGreatDoor
