/-
  No cell of these rows narrows 'for every input' (looked for: loops, veiled, ifaces, maps, wideKeys, modest, calm, conditions, laid).
  DERIVED. THE GIVEN ROWS OF THIS SEAT. 3 by the template 'for every input the law returns true; each argument reads behind the call as it read before'; 0 by the template 'total and deterministic' (their statements: YtiadfnedbbkojaaTotals.lean).
  GIVEN WITH THE SEED: the statements are not yours to turn. If you find one false, say at which input.
  Laid BY PROGRAM, IN A SANDBOX (cutbox-rows.mjs): the forced cells as the released guide's own fill.sh prints them over the translation d84a21be01d52532… (all of the seat's roots in one cut). By AI agents, Wed Nov 11 2026. No macro, syntax, notation, axiom, sorry.
-/
import Derived.Test.YtiadfnedbbkojaaChecked
import GoSem.Claim
import GoSem.ClaimJoined
import GoSem.ClaimMapViews
import Derived.JoinedTies
import Derived.KernelRfl
namespace Go.Proofs.Ytiadfnedbbkojaa
/- THE CELL 'sum', in the pinned program and in every row, IS THE sha256 OF THE DUMP (.gsa) THAT YtiadfnedbbkojaaProg.lean LOADS. Nothing in Lean hashes anything: it is a label: what it is worth is what the hold of that sum in a sandbox is worth. -/
noncomputable def Try.pinned : Pinned := { name := "ytiadfnedbbkojaa", sum := "d84a21be01d5253251843fdec1593872bd3401961055fbf0e8b16a13ad1caa2e", checked := Try.checked }
namespace Rows
def none {H : Type} : Left H := { results := [], args := [] }

/-- 'jacquardlaw12.KnownbitsElements': WHATEVER THE INPUT: true; the input reads as it did. -/
def knownbitsElementsSpec : ChangeSpec := { name := "knownbitsElements", fn := fun _ => fun
  | [d1, d2, d3] => { results := [.lit (.bool true)], args := [d1, d2, d3] }
  | _ => none }
def knownbitsElementsRow : OpenClaim := { program := "ytiadfnedbbkojaa", sum := "d84a21be01d5253251843fdec1593872bd3401961055fbf0e8b16a13ad1caa2e", func := "jacquard/jacquardlaw12.KnownbitsElements", spec := "knownbitsElements", apart := false }
def KnownbitsElementsSaid : Prop := knownbitsElementsRow.holds Try.pinned (OpenSpec.ofChange knownbitsElementsSpec)

/-- ITS FALSE NEIGHBOUR: 'it returns false'. Refute it at one input. -/
def knownbitsElementsWrong : ChangeSpec := { name := "knownbitsElements", fn := fun _ => fun
  | [d1, d2, d3] => { results := [.lit (.bool false)], args := [d1, d2, d3] }
  | _ => none }
def KnownbitsElementsWrongFalsely : Prop := knownbitsElementsRow.holds Try.pinned (OpenSpec.ofChange knownbitsElementsWrong)

/-- 'jacquardlaw12.KnownbitsLattice': WHATEVER THE INPUT: true; the input reads as it did. -/
def knownbitsLatticeSpec : ChangeSpec := { name := "knownbitsLattice", fn := fun _ => fun
  | [d1, d2, d3] => { results := [.lit (.bool true)], args := [d1, d2, d3] }
  | _ => none }
def knownbitsLatticeRow : OpenClaim := { program := "ytiadfnedbbkojaa", sum := "d84a21be01d5253251843fdec1593872bd3401961055fbf0e8b16a13ad1caa2e", func := "jacquard/jacquardlaw12.KnownbitsLattice", spec := "knownbitsLattice", apart := false }
def KnownbitsLatticeSaid : Prop := knownbitsLatticeRow.holds Try.pinned (OpenSpec.ofChange knownbitsLatticeSpec)

/-- ITS FALSE NEIGHBOUR: 'it returns false'. Refute it at one input. -/
def knownbitsLatticeWrong : ChangeSpec := { name := "knownbitsLattice", fn := fun _ => fun
  | [d1, d2, d3] => { results := [.lit (.bool false)], args := [d1, d2, d3] }
  | _ => none }
def KnownbitsLatticeWrongFalsely : Prop := knownbitsLatticeRow.holds Try.pinned (OpenSpec.ofChange knownbitsLatticeWrong)

/-- 'jacquardlaw15.RewriteMagic': WHATEVER THE INPUT: true; the input reads as it did. -/
def rewriteMagicSpec : ChangeSpec := { name := "rewriteMagic", fn := fun _ => fun
  | [d1, d2, d3] => { results := [.lit (.bool true)], args := [d1, d2, d3] }
  | _ => none }
def rewriteMagicRow : OpenClaim := { program := "ytiadfnedbbkojaa", sum := "d84a21be01d5253251843fdec1593872bd3401961055fbf0e8b16a13ad1caa2e", func := "jacquard/jacquardlaw15.RewriteMagic", spec := "rewriteMagic", apart := false }
def RewriteMagicSaid : Prop := rewriteMagicRow.holds Try.pinned (OpenSpec.ofChange rewriteMagicSpec)

/-- ITS FALSE NEIGHBOUR: 'it returns false'. Refute it at one input. -/
def rewriteMagicWrong : ChangeSpec := { name := "rewriteMagic", fn := fun _ => fun
  | [d1, d2, d3] => { results := [.lit (.bool false)], args := [d1, d2, d3] }
  | _ => none }
def RewriteMagicWrongFalsely : Prop := rewriteMagicRow.holds Try.pinned (OpenSpec.ofChange rewriteMagicWrong)

/- THE SECOND FORM. 'bulk': how many values and letters a reading holds, each counted each time it is reached (what is shared counts as often as it is met; a slice's spare places count too). A statement '..UptoSaid' is the law's where the arguments, and the package variables that the reading takes, are together of bulk at most 1048576: NARROWER than '..Said'. Prove '..Said' where nothing that the law and all that it calls make is longer than what came in: it says more and counts as full. Else prove '..UptoSaid'. A law counts once. -/
mutual
def uptoBulk {H : Type} : DataW H → Nat
  | .lit (.string bytes) => bytes.length + 1
  | .lit _ => 1
  | .nil => 1
  | .ptr d => uptoBulk d + 1
  | .slice elems spare => uptoBulkAll elems + uptoBulkAll spare + 1
  | .agg parts => uptoBulkAll parts + 1
  | .iface _ d => uptoBulk d + 1
  | .map entries => uptoBulkEntries entries + 1
  | .held _ => 1
def uptoBulkAll {H : Type} : List (DataW H) → Nat
  | [] => 0
  | d :: r => uptoBulk d + uptoBulkAll r
def uptoBulkEntries {H : Type} : List (Lit × DataW H) → Nat
  | [] => 0
  | x :: r => uptoBulkEntry x + uptoBulkEntries r
def uptoBulkEntry {H : Type} : Lit × DataW H → Nat
  | (.string bytes, d) => bytes.length + uptoBulk d + 1
  | (_, d) => uptoBulk d + 1
 end
def uptoSmall : (H : Type) → List (DataW H) → Bool := fun _ ds => decide (uptoBulkAll ds ≤ 1048576)
def OpenSpec.upto (s : _root_.Go.ChangeSpec) : _root_.Go.OpenSpec := { _root_.Go.OpenSpec.ofChange s with cond := some uptoSmall }

/-- 'jacquardlaw12.KnownbitsElements', WHERE WHAT IT READS IS OF BULK AT MOST 1048576: true; the input reads as it did. -/
def knownbitsElementsUptoRow : OpenClaim := { program := "ytiadfnedbbkojaa", sum := "d84a21be01d5253251843fdec1593872bd3401961055fbf0e8b16a13ad1caa2e", func := "jacquard/jacquardlaw12.KnownbitsElements", spec := "knownbitsElements", apart := false, narrowed := true }
def KnownbitsElementsUptoSaid : Prop := knownbitsElementsUptoRow.holds Try.pinned (OpenSpec.upto knownbitsElementsSpec)

/-- 'jacquardlaw12.KnownbitsLattice', WHERE WHAT IT READS IS OF BULK AT MOST 1048576: true; the input reads as it did. -/
def knownbitsLatticeUptoRow : OpenClaim := { program := "ytiadfnedbbkojaa", sum := "d84a21be01d5253251843fdec1593872bd3401961055fbf0e8b16a13ad1caa2e", func := "jacquard/jacquardlaw12.KnownbitsLattice", spec := "knownbitsLattice", apart := false, narrowed := true }
def KnownbitsLatticeUptoSaid : Prop := knownbitsLatticeUptoRow.holds Try.pinned (OpenSpec.upto knownbitsLatticeSpec)

/-- 'jacquardlaw15.RewriteMagic', WHERE WHAT IT READS IS OF BULK AT MOST 1048576: true; the input reads as it did. -/
def rewriteMagicUptoRow : OpenClaim := { program := "ytiadfnedbbkojaa", sum := "d84a21be01d5253251843fdec1593872bd3401961055fbf0e8b16a13ad1caa2e", func := "jacquard/jacquardlaw15.RewriteMagic", spec := "rewriteMagic", apart := false, narrowed := true }
def RewriteMagicUptoSaid : Prop := rewriteMagicUptoRow.holds Try.pinned (OpenSpec.upto rewriteMagicSpec)

end Rows
end Go.Proofs.Ytiadfnedbbkojaa
