/- Joined texts: RD. -/
import Derived.JoinedOf
import Derived.WalkKit
import Derived.ProofKit
import Derived.LaidHandle
import Derived.SevenTiedAt
import Derived.KernelRfl
import Derived.Test.YtpadjdokjppopaaGreatDoorRows
import Derived.Test.YtpadjdokjppopaaGreatDoorTie
import Derived.Test.YtpadjdokjppopaaGreatDoorCards
import Derived.Test.YtpadjdokjppopaaGreatDoorXC
import Derived.Test.YtpadjdokjppopaaGreatDoorZA
namespace Go.Proofs.YtpadjdokjppopaaGreatDoor
open Go.Proofs.YtpadjdokjppopaaGreatDoor.X
set_option maxRecDepth 100000
theorem own : ownKnob Tryz.prog.godebug = none:=by kernel_rfl
theorem static : Static Tryz.prog 1:=⟨by kernel_rfl,by kernel_rfl,by kernel_rfl,by kernel_rfl⟩
 noncomputable def laid : List (String × DataW Unit):=[("math/bits.deBruijn64tab",Rows.laid_math_bits_deBruijn64tab)]
def tabCells : List Value:=[0,1,56,2,57,49,28,3,61,58,42,50,38,29,17,4,62,47,59,36,45,43,51,22,53,39,33,30,24,18,12,5,63,55,48,27,60,41,37,16,46,35,44,21,52,32,23,11,54,26,40,15,34,20,31,10,25,14,19,9,13,8,7,6].map fun (n : Nat) => .int .u8 n
def hTab : AH:={ blks:=(Tr.nil).set 0 ⟨tabCells,0,0,true⟩,grps:=.nil,next:=1,low:=0 }
theorem vars : layVars Tryz.prog 4 laid hNil = some hTab:=by kernel_rfl
 noncomputable def laidWorld (os : Os) : World :=
  let w0:=World.holding Tryz.prog os ⟨#[],#[],[]⟩
  { w0 with heap:=w0.heap.modify 0 fun
    | .cells _ t frozen => .cells tabCells.toArray t frozen
    | o => o }
theorem laidWorld_met (os : Os) (args : Array Value) : laidMetH Tryz.prog laid ((laidWorld os).forCall (fun _ _ => 0) ⟨#[],args,[]⟩).memory :=
 laidMetH_of_parts (laidMet_of_run' 8 (by kernel_rfl) (by kernel_rfl)) (by kernel_rfl)
theorem laid_plain {w : World} (h : laidMetH Tryz.prog laid w) : ∃ ps,DataW.LaidVars Tryz.prog w laid ps:=by
 have e : (laid.filter fun x => x.2.handleName?.isSome) = []:=by kernel_rfl
 unfold laidMetH at h
 rw [e] at h
 obtain ⟨ps,h,_⟩:=h
 exact ⟨ps,h⟩
open Go Go.Proofs Go.Proofs.YtpadjdokjppopaaGreatDoor.X
theorem awake0 : (runK Tryz.prog 300 4 [] hTab fun v _ => some (v,hTab)) = some (.bool true,hTab):=by kernel_rfl
theorem awake1 : ∃ h',run2 Tryz.prog 300 4 [] hTab = some (.bool true,h'):=runK_says Tryz.prog awake0
end Go.Proofs.YtpadjdokjppopaaGreatDoor
