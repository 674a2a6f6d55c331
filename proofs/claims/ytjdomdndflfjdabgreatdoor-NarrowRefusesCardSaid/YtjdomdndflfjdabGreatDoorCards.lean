/-
  DERIVED. GIVEN WITH THE SEED: THE CARDS: each row of YtjdomdndflfjdabGreatDoorRows.lean that lists a variable, with what it lists TIED to the program's text (the seventh form; the later family's looks); each row that meets fmt, with fmt's text TOLD by the authors' own Lean function (tested against real Go, not proved from fmt's source: count such statements apart). THE CARD IS WHAT COUNTS. Prove the row's statement (the work); the ties are given (YtjdomdndflfjdabGreatDoorTie.lean); close each card by the builder's one call (the guide's Derived/Test/ToyasCard.lean, 'card_holds'). Laid BY PROGRAM, IN A SANDBOX (cutbox-door.mjs). By AI agents, Wed Nov 11 2026. No macro, syntax, notation, axiom, sorry.
-/
import Derived.Test.YtjdomdndflfjdabGreatDoorRows
import GoSem.ClaimSeven
namespace Go.Proofs.YtjdomdndflfjdabGreatDoor
namespace Rows

/-- THE TIED CARD OF 'jacquardlaw22.NarrowRefuses'. -/
def narrowRefusesCard : Claim7 := { stood := { row := narrowRefusesRow, standIns := [], harness := (true, "54a93ef8b723b50bff02fd4313bcf86ec3d58a8037037a438c840a8cbe99a9f6"), looks := false }, kinds := [], alts := [], laidByText := true, laidKinds := [.data], laidTests := true, laidLooks := .later }
def NarrowRefusesCardSaid : Prop := Claim7.holds Tryz.pinned (.plain (OpenSpec.ofChange narrowRefusesSpec)) narrowRefusesCard

/-- THE SECOND FORM's CARD OF 'jacquardlaw22.NarrowRefuses'. -/
def narrowRefusesUptoCard : Claim7 := { stood := { row := narrowRefusesUptoRow, standIns := [], harness := (true, "54a93ef8b723b50bff02fd4313bcf86ec3d58a8037037a438c840a8cbe99a9f6"), looks := false }, kinds := [], alts := [], laidByText := true, laidKinds := [.data], laidTests := true, laidLooks := .later }
def NarrowRefusesUptoCardSaid : Prop := Claim7.holds Tryz.pinned (.plain (OpenSpec.upto narrowRefusesSpec)) narrowRefusesUptoCard
end Rows
end Go.Proofs.YtjdomdndflfjdabGreatDoor
