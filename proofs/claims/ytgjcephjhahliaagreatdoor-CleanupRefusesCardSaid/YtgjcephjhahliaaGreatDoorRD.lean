/- Joined texts: RD. -/
import Derived.JoinedOf
import Derived.WalkKit
import Derived.ProofKit
import Derived.LaidHandle
import Derived.SevenTiedAt
import Derived.KernelRfl
import Derived.Test.YtgjcephjhahliaaGreatDoorRows
import Derived.Test.YtgjcephjhahliaaGreatDoorTie
import Derived.Test.YtgjcephjhahliaaGreatDoorCards
import Derived.Test.YtgjcephjhahliaaGreatDoorXC
namespace Go.Proofs.YtgjcephjhahliaaGreatDoor
open Go.Proofs.YtgjcephjhahliaaGreatDoor.X
set_option maxRecDepth 100000
theorem own : ownKnob Tryz.prog.godebug = none := by kernel_rfl
theorem static : Static Tryz.prog 1 := ⟨by kernel_rfl, by kernel_rfl, by kernel_rfl, by kernel_rfl⟩
 noncomputable def laid : List (String × DataW Unit) := [("math/bits.deBruijn64tab", Rows.laid_math_bits_deBruijn64tab)]
/-- The table's cells. -/
def tabCells : List Value := [0, 1, 56, 2, 57, 49, 28, 3, 61, 58, 42, 50, 38, 29, 17, 4, 62, 47, 59, 36, 45, 43, 51, 22, 53, 39, 33, 30, 24, 18, 12, 5, 63, 55, 48, 27, 60, 41, 37, 16, 46, 35, 44, 21, 52, 32, 23, 11, 54, 26, 40, 15, 34, 20, 31, 10, 25, 14, 19, 9, 13, 8, 7, 6].map fun (n : Nat) => .int .u8 n
def hTab : AH := { blks := (Tr.nil).set 0 ⟨tabCells, 0, 0, true⟩, grps := .nil, next := 1, low := 0 }
theorem vars : layVars Tryz.prog 4 laid hNil = some hTab := by kernel_rfl
 noncomputable def laidWorld (os : Os) : World :=
  let w0 := World.holding Tryz.prog os ⟨#[], #[], []⟩
  { w0 with heap := w0.heap.modify 0 fun
      | .cells _ t frozen => .cells tabCells.toArray t frozen
      | o => o }
theorem laidWorld_met (os : Os) (args : Array Value) : laidMetH Tryz.prog laid ((laidWorld os).forCall (fun _ _ => 0) ⟨#[], args, []⟩).memory :=
  laidMetH_of_parts (laidMet_of_run' 8 (by kernel_rfl) (by kernel_rfl)) (by kernel_rfl)
theorem laid_plain {w : World} (h : laidMetH Tryz.prog laid w) : ∃ ps, DataW.LaidVars Tryz.prog w laid ps := by
  have e : (laid.filter fun x => x.2.handleName?.isSome) = [] := by kernel_rfl
  unfold laidMetH at h
  rw [e] at h
  obtain ⟨ps, h, _⟩ := h
  exact ⟨ps, h⟩
end Go.Proofs.YtgjcephjhahliaaGreatDoor
namespace Go.Proofs.YtgjcephjhahliaaGreatDoor
open Go Go.Proofs Go.Proofs.YtgjcephjhahliaaGreatDoor.X
set_option maxRecDepth 100000
theorem awake0 : (run Tryz.prog 300 5 [] hTab).map Prod.fst = some (.bool true) := by kernel_rfl
theorem awake1 : ∃ h', run Tryz.prog 300 5 [] hTab = some (.bool true, h') := by
  have h := awake0
  cases e : run Tryz.prog 300 5 [] hTab with
  | none =>
    rw [e] at h
    cases h
  | some r =>
    rw [e] at h
    obtain ⟨v, h'⟩ := r
    injection h with h
    exact ⟨h', congrArg some (congrArg (fun v => (v, h')) h)⟩
end Go.Proofs.YtgjcephjhahliaaGreatDoor
