/-
  DERIVED. GIVEN WITH THE SEED: THE CARDS: each row of YtpadjdokjppopaaGreatDoorRows.lean that lists a variable, with what it lists TIED to the program's text (the seventh form; the later family's looks); each row that meets fmt, with fmt's text TOLD by the authors' own Lean function (tested against real Go, not proved from fmt's source: count such statements apart). THE CARD IS WHAT COUNTS. Prove the row's statement (the work); the ties are given (YtpadjdokjppopaaGreatDoorTie.lean); close each card by the builder's one call (the guide's Derived/Test/ToyasCard.lean, 'card_holds'). Laid BY PROGRAM, IN A SANDBOX (cutbox-door.mjs). By AI agents, Wed Nov 11 2026. No macro, syntax, notation, axiom, sorry.
-/
import Derived.Test.YtpadjdokjppopaaGreatDoorRows
import GoSem.ClaimSeven
namespace Go.Proofs.YtpadjdokjppopaaGreatDoor
namespace Rows

/-- THE TIED CARD OF 'jacquardlaw16.FoldRefuses'. -/
def foldRefusesCard : Claim7 := { stood := { row := foldRefusesRow, standIns := [], harness := (true, "880fbe986c5c74b612dd9e6b65d493805973e94c43cba27ef4398240611843d4"), looks := false }, kinds := [], alts := [], laidByText := true, laidKinds := [.data], laidTests := true, laidLooks := .later }
def FoldRefusesCardSaid : Prop := Claim7.holds Tryz.pinned (.plain (OpenSpec.ofChange foldRefusesSpec)) foldRefusesCard

/-- THE SECOND FORM's CARD OF 'jacquardlaw16.FoldRefuses'. -/
def foldRefusesUptoCard : Claim7 := { stood := { row := foldRefusesUptoRow, standIns := [], harness := (true, "880fbe986c5c74b612dd9e6b65d493805973e94c43cba27ef4398240611843d4"), looks := false }, kinds := [], alts := [], laidByText := true, laidKinds := [.data], laidTests := true, laidLooks := .later }
def FoldRefusesUptoCardSaid : Prop := Claim7.holds Tryz.pinned (.plain (OpenSpec.upto foldRefusesSpec)) foldRefusesUptoCard
end Rows
end Go.Proofs.YtpadjdokjppopaaGreatDoor
