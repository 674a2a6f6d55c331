/-
  DERIVED. GIVEN WITH THE SEED: THE CARDS: each row of YtjdomdndflfjdaaGreatDoorRows.lean that lists a variable, with what it lists TIED to the program's text (the seventh form; the later family's looks); each row that meets fmt, with fmt's text TOLD by the authors' own Lean function (tested against real Go, not proved from fmt's source: count such statements apart). THE CARD IS WHAT COUNTS. Prove the row's statement (the work); the ties are given (YtjdomdndflfjdaaGreatDoorTie.lean); close each card by the builder's one call (the guide's Derived/Test/ToyasCard.lean, 'card_holds'). Laid BY PROGRAM, IN A SANDBOX (cutbox-door.mjs). By AI agents, Wed Nov 11 2026. No macro, syntax, notation, axiom, sorry.
-/
import Derived.Test.YtjdomdndflfjdaaGreatDoorRows
import GoSem.ClaimSeven
namespace Go.Proofs.YtjdomdndflfjdaaGreatDoor
namespace Rows

/-- THE TIED CARD OF 'jacquardlaw21.StrengthRefuses'. -/
def strengthRefusesCard : Claim7 := { stood := { row := strengthRefusesRow, standIns := [], harness := (true, "e3c97ecd4290dbea6df49ee1fdace3714819f434155052ed3ab7a3333db206ab"), looks := false }, kinds := [], alts := [], laidByText := true, laidKinds := [.data], laidTests := true, laidLooks := .later }
def StrengthRefusesCardSaid : Prop := Claim7.holds Tryz.pinned (.plain (OpenSpec.ofChange strengthRefusesSpec)) strengthRefusesCard

/-- THE SECOND FORM's CARD OF 'jacquardlaw21.StrengthRefuses'. -/
def strengthRefusesUptoCard : Claim7 := { stood := { row := strengthRefusesUptoRow, standIns := [], harness := (true, "e3c97ecd4290dbea6df49ee1fdace3714819f434155052ed3ab7a3333db206ab"), looks := false }, kinds := [], alts := [], laidByText := true, laidKinds := [.data], laidTests := true, laidLooks := .later }
def StrengthRefusesUptoCardSaid : Prop := Claim7.holds Tryz.pinned (.plain (OpenSpec.upto strengthRefusesSpec)) strengthRefusesUptoCard
end Rows
end Go.Proofs.YtjdomdndflfjdaaGreatDoor
