/-
  DERIVED. GIVEN WITH THE SEED: THE CARDS: each row of YtiadfnedbbkojaaDoorRows.lean that lists a variable, with what it lists TIED to the program's text (the seventh form; the later family's looks); each row that meets fmt, with fmt's text TOLD by the authors' own Lean function (tested against real Go, not proved from fmt's source: count such statements apart). THE CARD IS WHAT COUNTS. Prove the row's statement (the work); the ties are given (YtiadfnedbbkojaaDoorTie.lean); close each card by the builder's one call (the guide's Derived/Test/ToyasCard.lean, 'card_holds'). Laid BY PROGRAM, IN A SANDBOX (cutbox-door.mjs). By AI agents, Wed Nov 11 2026. No macro, syntax, notation, axiom, sorry.
-/
import Derived.Test.YtiadfnedbbkojaaDoorRows
import GoSem.ClaimSeven
namespace Go.Proofs.YtiadfnedbbkojaaDoor
namespace Rows

/-- THE TIED CARD OF 'jacquardlaw12.KnownbitsApply'. -/
def knownbitsApplyCard : Claim7 := { stood := { row := knownbitsApplyRow, standIns := [], harness := (true, "ab5544d77be4aab375a227b3d4b3c44a18d4f53030711363bca861586b7358e3"), looks := false }, kinds := [], alts := [], laidByText := true, laidKinds := [.data], laidTests := true, laidLooks := .later }
def KnownbitsApplyCardSaid : Prop := Claim7.holds Tryd.pinned (.plain (OpenSpec.ofChange knownbitsApplySpec)) knownbitsApplyCard

/-- THE TIED CARD OF 'jacquardlaw12.KnownbitsBest'. -/
def knownbitsBestCard : Claim7 := { stood := { row := knownbitsBestRow, standIns := [], harness := (true, "ab5544d77be4aab375a227b3d4b3c44a18d4f53030711363bca861586b7358e3"), looks := false }, kinds := [], alts := [], laidByText := true, laidKinds := [.data], laidTests := true, laidLooks := .later }
def KnownbitsBestCardSaid : Prop := Claim7.holds Tryd.pinned (.plain (OpenSpec.ofChange knownbitsBestSpec)) knownbitsBestCard

/-- THE TIED CARD OF 'jacquardlaw12.KnownbitsConstants'. -/
def knownbitsConstantsCard : Claim7 := { stood := { row := knownbitsConstantsRow, standIns := [], harness := (true, "ab5544d77be4aab375a227b3d4b3c44a18d4f53030711363bca861586b7358e3"), looks := false }, kinds := [], alts := [], laidByText := true, laidKinds := [.data], laidTests := true, laidLooks := .later }
def KnownbitsConstantsCardSaid : Prop := Claim7.holds Tryd.pinned (.plain (OpenSpec.ofChange knownbitsConstantsSpec)) knownbitsConstantsCard

/-- THE TIED CARD OF 'jacquardlaw12.KnownbitsSound'. -/
def knownbitsSoundCard : Claim7 := { stood := { row := knownbitsSoundRow, standIns := [], harness := (true, "ab5544d77be4aab375a227b3d4b3c44a18d4f53030711363bca861586b7358e3"), looks := false }, kinds := [], alts := [], laidByText := true, laidKinds := [.data], laidTests := true, laidLooks := .later }
def KnownbitsSoundCardSaid : Prop := Claim7.holds Tryd.pinned (.plain (OpenSpec.ofChange knownbitsSoundSpec)) knownbitsSoundCard

/-- THE TIED CARD OF 'jacquardlaw12.KnownbitsMonotone'. -/
def knownbitsMonotoneCard : Claim7 := { stood := { row := knownbitsMonotoneRow, standIns := [], harness := (true, "ab5544d77be4aab375a227b3d4b3c44a18d4f53030711363bca861586b7358e3"), looks := false }, kinds := [], alts := [], laidByText := true, laidKinds := [.data], laidTests := true, laidLooks := .later }
def KnownbitsMonotoneCardSaid : Prop := Claim7.holds Tryd.pinned (.plain (OpenSpec.ofChange knownbitsMonotoneSpec)) knownbitsMonotoneCard

/-- THE SECOND FORM's CARD OF 'jacquardlaw12.KnownbitsApply'. -/
def knownbitsApplyUptoCard : Claim7 := { stood := { row := knownbitsApplyUptoRow, standIns := [], harness := (true, "ab5544d77be4aab375a227b3d4b3c44a18d4f53030711363bca861586b7358e3"), looks := false }, kinds := [], alts := [], laidByText := true, laidKinds := [.data], laidTests := true, laidLooks := .later }
def KnownbitsApplyUptoCardSaid : Prop := Claim7.holds Tryd.pinned (.plain (OpenSpec.upto knownbitsApplySpec)) knownbitsApplyUptoCard

/-- THE SECOND FORM's CARD OF 'jacquardlaw12.KnownbitsBest'. -/
def knownbitsBestUptoCard : Claim7 := { stood := { row := knownbitsBestUptoRow, standIns := [], harness := (true, "ab5544d77be4aab375a227b3d4b3c44a18d4f53030711363bca861586b7358e3"), looks := false }, kinds := [], alts := [], laidByText := true, laidKinds := [.data], laidTests := true, laidLooks := .later }
def KnownbitsBestUptoCardSaid : Prop := Claim7.holds Tryd.pinned (.plain (OpenSpec.upto knownbitsBestSpec)) knownbitsBestUptoCard

/-- THE SECOND FORM's CARD OF 'jacquardlaw12.KnownbitsConstants'. -/
def knownbitsConstantsUptoCard : Claim7 := { stood := { row := knownbitsConstantsUptoRow, standIns := [], harness := (true, "ab5544d77be4aab375a227b3d4b3c44a18d4f53030711363bca861586b7358e3"), looks := false }, kinds := [], alts := [], laidByText := true, laidKinds := [.data], laidTests := true, laidLooks := .later }
def KnownbitsConstantsUptoCardSaid : Prop := Claim7.holds Tryd.pinned (.plain (OpenSpec.upto knownbitsConstantsSpec)) knownbitsConstantsUptoCard

/-- THE SECOND FORM's CARD OF 'jacquardlaw12.KnownbitsSound'. -/
def knownbitsSoundUptoCard : Claim7 := { stood := { row := knownbitsSoundUptoRow, standIns := [], harness := (true, "ab5544d77be4aab375a227b3d4b3c44a18d4f53030711363bca861586b7358e3"), looks := false }, kinds := [], alts := [], laidByText := true, laidKinds := [.data], laidTests := true, laidLooks := .later }
def KnownbitsSoundUptoCardSaid : Prop := Claim7.holds Tryd.pinned (.plain (OpenSpec.upto knownbitsSoundSpec)) knownbitsSoundUptoCard

/-- THE SECOND FORM's CARD OF 'jacquardlaw12.KnownbitsMonotone'. -/
def knownbitsMonotoneUptoCard : Claim7 := { stood := { row := knownbitsMonotoneUptoRow, standIns := [], harness := (true, "ab5544d77be4aab375a227b3d4b3c44a18d4f53030711363bca861586b7358e3"), looks := false }, kinds := [], alts := [], laidByText := true, laidKinds := [.data], laidTests := true, laidLooks := .later }
def KnownbitsMonotoneUptoCardSaid : Prop := Claim7.holds Tryd.pinned (.plain (OpenSpec.upto knownbitsMonotoneSpec)) knownbitsMonotoneUptoCard
end Rows
end Go.Proofs.YtiadfnedbbkojaaDoor
