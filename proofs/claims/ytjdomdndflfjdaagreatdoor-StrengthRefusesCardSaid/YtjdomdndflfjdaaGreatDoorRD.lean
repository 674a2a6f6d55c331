/- Joined texts: RD. -/
import Derived.JoinedOf
import Derived.WalkKit
import Derived.ProofKit
import Derived.LaidHandle
import Derived.SevenTiedAt
import Derived.Shelf.RegionOpenPlain
import Derived.OwnWalk
import Derived.Lib.Walk
import Derived.Lib.AppendZeros
import Derived.Lib.Overlaps
import Derived.KernelRfl
import Derived.Test.YtjdomdndflfjdaaGreatDoorRows
import Derived.Test.YtjdomdndflfjdaaGreatDoorTie
import Derived.Test.YtjdomdndflfjdaaGreatDoorCards
import Derived.Test.YtjdomdndflfjdaaGreatDoorXC
import Derived.Test.YtjdomdndflfjdaaGreatDoorXD
import Derived.Test.YtjdomdndflfjdaaGreatDoorProg
import Derived.Test.YtjdomdndflfjdaaGreatDoorZA
namespace Go.Proofs.YtjdomdndflfjdaaGreatDoor
open Go.Proofs.YtjdomdndflfjdaaGreatDoor.X
set_option maxRecDepth 100000
theorem own : ownKnob Tryz.prog.godebug = none:=by kernel_rfl
theorem gu : zu Tryz.prog 1:=⟨by kernel_rfl,by kernel_rfl,by kernel_rfl,by kernel_rfl⟩
 noncomputable def laid : List (String × DataW Unit):=[("math/bits.deBruijn64tab",Rows.laid_math_bits_deBruijn64tab)]
def iQ : List Value:=[0,1,56,2,57,49,28,3,61,58,42,50,38,29,17,4,62,47,59,36,45,43,51,22,53,39,33,30,24,18,12,5,63,55,48,27,60,41,37,16,46,35,44,21,52,32,23,11,54,26,40,15,34,20,31,10,25,14,19,9,13,8,7,6].map fun (n : Nat) => .int .u8 n
def gd : AH:={ blks:=(Tr.nil).set 0 ⟨iQ,0,0,true⟩,grps:=.nil,next:=1,low:=0 }
theorem vars : iY Tryz.prog 4 laid rj = some gd:=by kernel_rfl
 noncomputable def pq (os : Os) : World :=
  let w0:=World.holding Tryz.prog os ⟨#[],#[],[]⟩
  { w0 with heap:=w0.heap.modify 0 fun
    | .cells _ t frozen => .cells iQ.toArray t frozen
    | o => o }
theorem ot (os : Os) (args : Array Value) : laidMetH Tryz.prog laid ((pq os).forCall (fun _ _ => 0) ⟨#[],args,[]⟩).memory :=
 laidMetH_of_parts (laidMet_of_run' 8 (by kernel_rfl) (by kernel_rfl)) (by kernel_rfl)
theorem vv {w : World} (h : laidMetH Tryz.prog laid w) : ∃ ps,DataW.LaidVars Tryz.prog w laid ps:=by
 have e : (laid.filter fun x => x.2.handleName?.isSome) = []:=by kernel_rfl
 unfold laidMetH at h
 rw [e] at h
 obtain ⟨ps,h,_⟩:=h
 exact ⟨ps,h⟩
end Go.Proofs.YtjdomdndflfjdaaGreatDoor
namespace Go.Proofs.YtjdomdndflfjdaaGreatDoor.X
open Go Go.Proofs
set_option linter.unusedVariables false
set_option linter.unusedSimpArgs false
theorem tZ {P : Program} (w : World) {ops : Array Oper} {rest : List Oper} {o : Oper} {a : Act} {Q : Exit → Act → World → Prop} (hgd : o.guard = none) (d s : Operand) (t t' : TypeId)
  (ho : o.op = .call { callee:=.builtin .copy,args:=#[d,s],argTypes:=#[t,t'] }) (v u : Value) (hd : a.eval d = v) (hs : a.eval s = u) {v' : Value} {w' : World}
  (hr : (Builtin.copy_ #[t,t'] o.type #[v,u]).run P w = .ok v' w') (h : wpList P ops Q rest (a.put o.dst v') w') : wpList P ops Q (o :: rest) a w :=
 wpList_plain hgd fun _ hK => by
  unfold Oper.wp execOp
  simp only [ho,resolve,invoke,builtin,Sem.run_bind,Sem.run_pure,Result.andThen_ok,List.map_toArray,List.map_cons,List.map_nil,hd,hs,hr]
  exact hK _ _ h
theorem pt {P : Program} {ops : Array Oper} {o : Oper} {a : Act} {w : World} {K : Act → World → Prop} {Q : Exit → Act → World → Prop} {E : Prop}
  (hg : o.guard = none) (d x : Operand) (dT sT : TypeId) (hop : o.op = Op.call { callee:=Callee.builtin Builtin.copy,args:=#[d,x],argTypes:=#[dT,sT] })
  (v u : Value) (hd : a.eval d = v) (hx : a.eval x = u) {v' : Value} {w' : World} (hr : (Builtin.copy_ #[dT,sT] o.type #[v,u]).run P w = .ok v' w') (hK : K (a.put o.dst v') w') :
  if Region.wanted o (yielded ops a.tmps) = true then Oper.wp P o a w K Q else E:=by
 have hw : Region.wanted o (yielded ops a.tmps) = true:=by simp [Region.wanted,hg]
 rw [if_pos hw]
 unfold Oper.wp
 simp [execOp,hop,resolve,invoke,builtin,hd,hx,hr,Result.andThen]
 exact hK
set_option maxHeartbeats 4000000
set_option maxRecDepth 100000
theorem EC (w : World) (bs : Option Addr) (n c : Nat) (x : Addr) (xc : Nat) (r : Value) (w' : World) (hnc : n ≤ c) (h0 : bs = none → n = 0 ∧ c = 0) (hr : (Builtin.append_ #[37,37] 37 #[.slice bs n c,.slice (some x) 1 xc]).run Tryz.prog w = .ok r w') :
  Calls Tryz.prog 127 #[.slice bs n c,.int .i64 n,.slice (some x) 1 xc] w fun e W => e = .returned r ∧ W = w':=by
 have mixed : Tryz.prog.follows .mixedOrders = true:=by kernel_rfl
 cases bs with
 | none =>
  obtain ⟨rfl,rfl⟩:=h0 rfl
  go_enter Tryz.func127,Tryz.ntmps127
  go_wp2_with (at_builtin; refine Lib.wpList_append_run _ rfl _ _ _ _ rfl _ _ rfl rfl _ _ hr ?_)
  go_ret
  exact ⟨rfl,rfl⟩
 | some a =>
  obtain ⟨ab,ao,asp⟩:=a
  go_enter Tryz.func127,Tryz.ntmps127
  go_wp2_with (at_builtin; refine Lib.wpList_append_run _ rfl _ _ _ _ rfl _ _ rfl rfl _ _ hr ?_)
  all_goals (go_ret; exact ⟨rfl,rfl⟩)
theorem GE (W : World) (a b : Addr) (la ca lb cb : Nat) (hne : a.block ≠ b.block) (tA tB : TypeId) (kA kB : Nat) (h1 : W.shape? a.block = some (tA,kA)) (h2 : W.shape? b.block = some (tB,kB)) (h3 : kB ≠ 0) (h4 : W.frozen? a = false) (h5 : W.frozen? { block:=a.block,off:=kA } = false) :
  (callFunc 140 #[.slice (some a) la ca,.slice (some b) lb cb]).run Tryz.prog W = .ok (.value (.bool false)) W:=by
 rw [run_callFunc_extern Tryz.func140 (by kernel_rfl) (by kernel_rfl) (by kernel_rfl) (e:=Extern.SlicesOverlaps.overlaps #[37,37] #[4]) (by kernel_rfl),
  Lib.run_overlaps_apart W 37 4 45 Tryz.underlying37 5 Tryz.sizeOf45 a b la ca lb cb hne tA tB kA kB h1 h2 h3 h4 h5]
 rfl
theorem yQ (w : World) (b off n c i vb voff vc : Nat) (k1 k2 : Int) (R1 R2 : Array Value) (hi : i < n) (hroom : n + 1 ≤ c) (hbd : n + 1 ≤ 140737488355328)
  (hov : ∀ W : World,W.heap = w.heap → ∀ lb cb,(callFunc 140 #[.slice (some ⟨vb,voff,none⟩) 1 vc,.slice (some ⟨b,off + (i + 1) * 5,none⟩) lb cb]).run Tryz.prog W = .ok (.value (.bool false)) W)
  (hc1 : ∀ W : World,W.heap = w.heap → ∀ ty dc sc,(Builtin.copy_ #[37,37] ty #[.slice (some ⟨b,off + (i + 1) * 5,none⟩) (n + 1 - (i + 1)) dc,.slice (some ⟨b,off + i * 5,none⟩) (n + 1 - i) sc]).run Tryz.prog W = .ok (.int .i64 k1) (W.setRow b R1))
  (hc2 : ∀ W : World,W.heap = (w.setRow b R1).heap → ∀ ty dc,(Builtin.copy_ #[37,37] ty #[.slice (some ⟨b,off + i * 5,none⟩) (n + 1 - i) dc,.slice (some ⟨vb,voff,none⟩) 1 vc]).run Tryz.prog W = .ok (.int .i64 k2) (W.setRow b R2)) :
  Calls Tryz.prog 127 #[.slice (some ⟨b,off,none⟩) n c,.int .i64 i,.slice (some ⟨vb,voff,none⟩) 1 vc] w fun e W =>
   e = .returned (.slice (some ⟨b,off,none⟩) (n + 1) c) ∧ W.heap = ((w.setRow b R1).setRow b R2).heap ∧ W.os = w.os ∧ W.output = w.output:=by
 have mixed : Tryz.prog.follows .mixedOrders = true:=by kernel_rfl
 have hz2 : ¬ ((i : Int) = (n : Int)):=by omega
 have hw1 : IntKind.i64.wrap ((i : Int) + 1) = (i : Int) + 1:=by rw [IntKind.wrap_i64]; omega
 have hw2 : IntKind.i64.wrap ((n : Int) + 1) = (n : Int) + 1:=by rw [IntKind.wrap_i64]; omega
 have hb1 : (0 : Int) ≤ (i : Int) + 1:=by omega
 have hb0 : (0 : Int) ≤ (n : Int) + 1:=by omega
 have hin : i ≤ n:=by omega
 have htn : ((i : Int) + 1).toNat = i + 1:=by omega
 have htm : ((n : Int) + 1).toNat = n + 1:=by omega
 have hb2 : ¬ (c = i + 1):=by omega
 have hb3 : (i : Int) ≤ (n : Int) + 1:=by omega
 have hb5 : (i : Int) + 1 ≤ (n : Int) + 1:=by omega
 have hb4 : ¬ (c = i):=by omega
 have hgt : ¬ ((c : Int) < (n : Int) + 1):=by omega
 have e1 : n + 1 - (i + 1) = n - i:=by omega
 simp only [e1] at hc1
 have hov0:=hov w rfl
 have hov1:=hov w.drew rfl
 go_enter Tryz.func127,Tryz.ntmps127
 go_wp2_with (simp only [hov0,hov1])
 go_region_law_o (refine pt rfl _ _ 37 37 rfl (.slice (some ⟨b,off + (i + 1) * 5,none⟩) (n - i) (c - (i + 1))) (.slice (some ⟨b,off + i * 5,none⟩) (n + 1 - i) (c - i)) (by simp [Act.eval,Act.put]) (by simp [Act.eval,Act.put]) (hc1 w.drew rfl _ _ _) ?_)
 go_wp2_with (refine tZ _ rfl _ _ 37 37 rfl _ _ rfl rfl (hc2 (w.drew.setRow b R1) (gk w w.drew b R1 rfl) _ _) ?_)
 go_ret
 exact ⟨rfl,gk _ _ b R2 (gk w w.drew b R1 rfl),rfl,rfl⟩
theorem ED (w W0 : World) (b off n c i vb voff vc q G : Nat) (k1 k2 : Int) (R1 R2 : Array Value) (hi : i < n) (hnc : n ≤ c) (hroom : c < n + 1) (hbd : n + 1 ≤ 140737488355328) (hGn : n + 1 ≤ G) (hG63 : G ≤ 9223372036854775807)
  (hap : ∀ ty,(Builtin.append_ #[37,3] ty #[.slice (some ⟨b,off,none⟩) i c,.int .i64 ((n + 1 - i : Nat) : Int)]).run Tryz.prog w = .ok (.slice (some ⟨q,0,none⟩) (n + 1) G) W0)
  (hc1 : ∀ W : World,W.heap = W0.heap → ∀ ty dc,(Builtin.copy_ #[37,37] ty #[.slice (some ⟨q,i * 5,none⟩) (n + 1 - i) dc,.slice (some ⟨vb,voff,none⟩) 1 vc]).run Tryz.prog W = .ok (.int .i64 k1) (W.setRow q R1))
  (hc2 : ∀ W : World,W.heap = (W0.setRow q R1).heap → ∀ ty dc sc,(Builtin.copy_ #[37,37] ty #[.slice (some ⟨q,(i + 1) * 5,none⟩) (n + 1 - (i + 1)) dc,.slice (some ⟨b,off + i * 5,none⟩) (n - i) sc]).run Tryz.prog W = .ok (.int .i64 k2) (W.setRow q R2)) :
  Calls Tryz.prog 127 #[.slice (some ⟨b,off,none⟩) n c,.int .i64 i,.slice (some ⟨vb,voff,none⟩) 1 vc] w fun e W =>
   e = .returned (.slice (some ⟨q,0,none⟩) (n + 1) G) ∧ W.heap = ((W0.setRow q R1).setRow q R2).heap ∧ W.os = W0.os ∧ W.output = W0.output:=by
 have mixed : Tryz.prog.follows .mixedOrders = true:=by kernel_rfl
 have hz2 : ¬ ((i : Int) = (n : Int)):=by omega
 have hw1 : IntKind.i64.wrap ((i : Int) + 1) = (i : Int) + 1:=by rw [IntKind.wrap_i64]; omega
 have hw2 : IntKind.i64.wrap ((n : Int) + 1) = (n : Int) + 1:=by rw [IntKind.wrap_i64]; omega
 have hw3 : IntKind.i64.wrap ((n : Int) + 1 - (i : Int)) = (n : Int) + 1 - (i : Int):=by rw [IntKind.wrap_i64]; omega
 have hkk : (n : Int) + 1 - (i : Int) = ((n + 1 - i : Nat) : Int):=by omega
 have hb1 : (0 : Int) ≤ (i : Int) + 1:=by omega
 have hb0 : (0 : Int) ≤ (n : Int) + 1:=by omega
 have hin : i ≤ n:=by omega
 have hic : i ≤ c:=by omega
 have htn : ((i : Int) + 1).toNat = i + 1:=by omega
 have htm : ((n : Int) + 1).toNat = n + 1:=by omega
 have hGi : ¬ (G = i):=by omega
 have hGim : ¬ (G = i + 1):=by omega
 have hci : ¬ (c = i):=by omega
 have hb3 : (i : Int) ≤ (n : Int) + 1:=by omega
 have hb4 : (i : Int) ≤ (n : Int):=by omega
 have hb5 : (i : Int) + 1 ≤ (n : Int) + 1:=by omega
 have hgt : (c : Int) < (n : Int) + 1:=by omega
 have e1 : n + 1 - (i + 1) = n - i:=by omega
 simp only [e1] at hc2
 simp only [← hkk] at hap
 clear hkk
 go_enter Tryz.func127,Tryz.ntmps127
 go_wp2_with (first
  | (at_builtin; refine Lib.wpList_append_run _ rfl _ _ _ _ rfl _ _ rfl rfl _ _ (hap _) ?_)
  | (refine tZ _ rfl _ _ 37 37 rfl _ _ rfl rfl (hc1 W0 rfl _ _) ?_))
 go_region_law_o (refine pt rfl _ _ 37 37 rfl (.slice (some ⟨q,(i + 1) * 5,none⟩) (n - i) (G - (i + 1))) (.slice (some ⟨b,off + i * 5,none⟩) (n - i) (c - i)) (by simp [Act.eval,Act.put]) (by simp [Act.eval,Act.put]) (hc2 (W0.setRow q R1).drew rfl _ _ _) ?_)
 go_wp2
 go_ret
 exact ⟨rfl,gk _ _ q R2 rfl,rfl,rfl⟩
theorem yR : HK Tryz.prog 127 140 37 3 45 5 56 (.agg #[.int .i64 0,.int .i64 0,.slice none 0 0,.int .u64 0,.int .i64 0]) where
 body:=⟨_,Tryz.func127,by kernel_rfl⟩
 hS:=Tryz.underlying37
 hN:=Tryz.underlying3
 hz:=by kernel_rfl
 hb:=by kernel_rfl
 hzz:=by kernel_rfl
 hzs:=⟨_,rfl,rfl⟩
 hb0:=by decide
 ovl:=GE
 last:=EC
 shift:=yQ
 more:=ED
end Go.Proofs.YtjdomdndflfjdaaGreatDoor.X
namespace Go.Proofs.YtjdomdndflfjdaaGreatDoor
open Go Go.Proofs Go.Proofs.YtjdomdndflfjdaaGreatDoor.X
set_option maxRecDepth 100000
def GF : Sd:=⟨fun f => cond (Nat.beq f 127) (some (5,56)) none,fun _ _ => none⟩
theorem xK : ru Tryz.prog 1 GF:=by
 refine ⟨fun f q h => ?_,fun f k m h => (by cases h)⟩
 obtain ⟨h1,h2⟩:=ai (show cond (Nat.beq f 127) (some (5,56)) none = some q from h)
 obtain rfl:=Nat.eq_of_beq_eq_true h1
 injection h2 with h2
 subst h2
 exact ⟨_,_,_,_,_,yR⟩
theorem JH : (EA Tryz.prog 1 GF 300 4 [] gd fun v _ => some (v,gd)) = some (.bool true,gd):=by kernel_rfl
theorem JI : ∃ h',jZ Tryz.prog 1 GF 300 4 [] gd = some (.bool true,h'):=yP Tryz.prog 1 GF xK JH
end Go.Proofs.YtjdomdndflfjdaaGreatDoor
