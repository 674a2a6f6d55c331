/-
  DERIVED. GIVEN WITH THE SEED: THE CARDS: each row of YtgjcephjhahliaaGreatDoorRows.lean that lists a variable, with what it lists TIED to the program's text (the seventh form; the later family's looks); each row that meets fmt, with fmt's text TOLD by the authors' own Lean function (tested against real Go, not proved from fmt's source: count such statements apart). THE CARD IS WHAT COUNTS. Prove the row's statement (the work); the ties are given (YtgjcephjhahliaaGreatDoorTie.lean); close each card by the builder's one call (the guide's Derived/Test/ToyasCard.lean, 'card_holds'). Laid BY PROGRAM, IN A SANDBOX (cutbox-door.mjs). By AI agents, Wed Nov 11 2026. No macro, syntax, notation, axiom, sorry.
-/
import Derived.Test.YtgjcephjhahliaaGreatDoorRows
import GoSem.ClaimSeven
namespace Go.Proofs.YtgjcephjhahliaaGreatDoor
namespace Rows

/-- THE TIED CARD OF 'jacquardlaw17.CleanupChains'. -/
def cleanupChainsCard : Claim7 := { stood := { row := cleanupChainsRow, standIns := [], harness := (true, "7d83d4ef97fbc640f4f9baac8aa88b7c99b48e8d2fe49464aa0651202456426b"), looks := false }, kinds := [], alts := [], laidByText := true, laidKinds := [.data], laidTests := true, laidLooks := .later }
def CleanupChainsCardSaid : Prop := Claim7.holds Tryz.pinned (.plain (OpenSpec.ofChange cleanupChainsSpec)) cleanupChainsCard

/-- THE TIED CARD OF 'jacquardlaw17.CleanupRefuses'. -/
def cleanupRefusesCard : Claim7 := { stood := { row := cleanupRefusesRow, standIns := [], harness := (true, "7d83d4ef97fbc640f4f9baac8aa88b7c99b48e8d2fe49464aa0651202456426b"), looks := false }, kinds := [], alts := [], laidByText := true, laidKinds := [.data], laidTests := true, laidLooks := .later }
def CleanupRefusesCardSaid : Prop := Claim7.holds Tryz.pinned (.plain (OpenSpec.ofChange cleanupRefusesSpec)) cleanupRefusesCard

/-- THE SECOND FORM's CARD OF 'jacquardlaw17.CleanupChains'. -/
def cleanupChainsUptoCard : Claim7 := { stood := { row := cleanupChainsUptoRow, standIns := [], harness := (true, "7d83d4ef97fbc640f4f9baac8aa88b7c99b48e8d2fe49464aa0651202456426b"), looks := false }, kinds := [], alts := [], laidByText := true, laidKinds := [.data], laidTests := true, laidLooks := .later }
def CleanupChainsUptoCardSaid : Prop := Claim7.holds Tryz.pinned (.plain (OpenSpec.upto cleanupChainsSpec)) cleanupChainsUptoCard

/-- THE SECOND FORM's CARD OF 'jacquardlaw17.CleanupRefuses'. -/
def cleanupRefusesUptoCard : Claim7 := { stood := { row := cleanupRefusesUptoRow, standIns := [], harness := (true, "7d83d4ef97fbc640f4f9baac8aa88b7c99b48e8d2fe49464aa0651202456426b"), looks := false }, kinds := [], alts := [], laidByText := true, laidKinds := [.data], laidTests := true, laidLooks := .later }
def CleanupRefusesUptoCardSaid : Prop := Claim7.holds Tryz.pinned (.plain (OpenSpec.upto cleanupRefusesSpec)) cleanupRefusesUptoCard
end Rows
end Go.Proofs.YtgjcephjhahliaaGreatDoor
