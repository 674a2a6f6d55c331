/- Joined texts: RD. -/
import Derived.JoinedOf
import Derived.WalkKit
import Derived.ProofKit
import Derived.LaidHandle
import Derived.SevenTiedAt
import Derived.Shelf.RegionOpenPlain
import Derived.OwnWalk
import Derived.Lib.Walk
import Derived.Lib.AppendZeros
import Derived.Lib.Overlaps
import Derived.KernelRfl
import Derived.Test.YtjdomdndflfjdabGreatDoorRows
import Derived.Test.YtjdomdndflfjdabGreatDoorTie
import Derived.Test.YtjdomdndflfjdabGreatDoorCards
import Derived.Test.YtjdomdndflfjdabGreatDoorXC
import Derived.Test.YtjdomdndflfjdabGreatDoorXD
import Derived.Test.YtjdomdndflfjdabGreatDoorProg
import Derived.Test.YtjdomdndflfjdabGreatDoorZA
namespace Go.Proofs.YtjdomdndflfjdabGreatDoor
open Go.Proofs.YtjdomdndflfjdabGreatDoor.X
set_option maxRecDepth 100000
theorem own : ownKnob Tryz.prog.godebug = none:=by kernel_rfl
theorem aC : zP Tryz.prog 1:=⟨by kernel_rfl,by kernel_rfl,by kernel_rfl,by kernel_rfl⟩
 noncomputable def laid : List (String × DataW Unit):=[("math/bits.deBruijn64tab",Rows.laid_math_bits_deBruijn64tab)]
def gU : List Value:=[0,1,56,2,57,49,28,3,61,58,42,50,38,29,17,4,62,47,59,36,45,43,51,22,53,39,33,30,24,18,12,5,63,55,48,27,60,41,37,16,46,35,44,21,52,32,23,11,54,26,40,15,34,20,31,10,25,14,19,9,13,8,7,6].map fun (n : Nat) => .int .u8 n
def gi : AH:={ blks:=(Tr.nil).set 0 ⟨gU,0,0,true⟩,grps:=.nil,next:=1,low:=0 }
theorem vars : je Tryz.prog 4 laid su = some gi:=by kernel_rfl
 noncomputable def qd (os : Os) : World :=
  let w0:=World.holding Tryz.prog os ⟨#[],#[],[]⟩
  { w0 with heap:=w0.heap.modify 0 fun
    | .cells _ t frozen => .cells gU.toArray t frozen
    | o => o }
theorem oS (os : Os) (args : Array Value) : laidMetH Tryz.prog laid ((qd os).forCall (fun _ _ => 0) ⟨#[],args,[]⟩).memory :=
 laidMetH_of_parts (laidMet_of_run' 8 (by kernel_rfl) (by kernel_rfl)) (by kernel_rfl)
theorem vS {w : World} (h : laidMetH Tryz.prog laid w) : ∃ ps,DataW.LaidVars Tryz.prog w laid ps:=by
 have e : (laid.filter fun x => x.2.handleName?.isSome) = []:=by kernel_rfl
 unfold laidMetH at h
 rw [e] at h
 obtain ⟨ps,h,_⟩:=h
 exact ⟨ps,h⟩
end Go.Proofs.YtjdomdndflfjdabGreatDoor
namespace Go.Proofs.YtjdomdndflfjdabGreatDoor.X
open Go Go.Proofs
set_option linter.unusedVariables false
set_option linter.unusedSimpArgs false
theorem uu {P : Program} (w : World) {ops : Array Oper} {rest : List Oper} {o : Oper} {a : Act} {Q : Exit → Act → World → Prop} (hgd : o.guard = none) (d s : Operand) (t t' : TypeId)
  (ho : o.op = .call { callee:=.builtin .copy,args:=#[d,s],argTypes:=#[t,t'] }) (v u : Value) (hd : a.eval d = v) (hs : a.eval s = u) {v' : Value} {w' : World}
  (hr : (Builtin.copy_ #[t,t'] o.type #[v,u]).run P w = .ok v' w') (h : wpList P ops Q rest (a.put o.dst v') w') : wpList P ops Q (o :: rest) a w :=
 wpList_plain hgd fun _ hK => by
  unfold Oper.wp execOp
  simp only [ho,resolve,invoke,builtin,Sem.run_bind,Sem.run_pure,Result.andThen_ok,List.map_toArray,List.map_cons,List.map_nil,hd,hs,hr]
  exact hK _ _ h
theorem qe {P : Program} {ops : Array Oper} {o : Oper} {a : Act} {w : World} {K : Act → World → Prop} {Q : Exit → Act → World → Prop} {E : Prop}
  (hg : o.guard = none) (d x : Operand) (dT sT : TypeId) (hop : o.op = Op.call { callee:=Callee.builtin Builtin.copy,args:=#[d,x],argTypes:=#[dT,sT] })
  (v u : Value) (hd : a.eval d = v) (hx : a.eval x = u) {v' : Value} {w' : World} (hr : (Builtin.copy_ #[dT,sT] o.type #[v,u]).run P w = .ok v' w') (hK : K (a.put o.dst v') w') :
  if Region.wanted o (yielded ops a.tmps) = true then Oper.wp P o a w K Q else E:=by
 have hw : Region.wanted o (yielded ops a.tmps) = true:=by simp [Region.wanted,hg]
 rw [if_pos hw]
 unfold Oper.wp
 simp [execOp,hop,resolve,invoke,builtin,hd,hx,hr,Result.andThen]
 exact hK
set_option maxHeartbeats 4000000
set_option maxRecDepth 100000
theorem CG (w : World) (bs : Option Addr) (n c : Nat) (x : Addr) (xc : Nat) (r : Value) (w' : World) (hnc : n ≤ c) (h0 : bs = none → n = 0 ∧ c = 0) (hr : (Builtin.append_ #[37,37] 37 #[.slice bs n c,.slice (some x) 1 xc]).run Tryz.prog w = .ok r w') :
  Calls Tryz.prog 187 #[.slice bs n c,.int .i64 n,.slice (some x) 1 xc] w fun e W => e = .returned r ∧ W = w':=by
 have mixed : Tryz.prog.follows .mixedOrders = true:=by kernel_rfl
 cases bs with
 | none =>
  obtain ⟨rfl,rfl⟩:=h0 rfl
  go_enter Tryz.func187,Tryz.ntmps187
  go_wp2_with (at_builtin; refine Lib.wpList_append_run _ rfl _ _ _ _ rfl _ _ rfl rfl _ _ hr ?_)
  go_ret
  exact ⟨rfl,rfl⟩
 | some a =>
  obtain ⟨ab,ao,asp⟩:=a
  go_enter Tryz.func187,Tryz.ntmps187
  go_wp2_with (at_builtin; refine Lib.wpList_append_run _ rfl _ _ _ _ rfl _ _ rfl rfl _ _ hr ?_)
  all_goals (go_ret; exact ⟨rfl,rfl⟩)
theorem Et (W : World) (a b : Addr) (la ca lb cb : Nat) (hne : a.block ≠ b.block) (tA tB : TypeId) (kA kB : Nat) (h1 : W.shape? a.block = some (tA,kA)) (h2 : W.shape? b.block = some (tB,kB)) (h3 : kB ≠ 0) (h4 : W.frozen? a = false) (h5 : W.frozen? { block:=a.block,off:=kA } = false) :
  (callFunc 224 #[.slice (some a) la ca,.slice (some b) lb cb]).run Tryz.prog W = .ok (.value (.bool false)) W:=by
 rw [run_callFunc_extern Tryz.func224 (by kernel_rfl) (by kernel_rfl) (by kernel_rfl) (e:=Extern.SlicesOverlaps.overlaps #[37,37] #[4]) (by kernel_rfl),
  Lib.run_overlaps_apart W 37 4 45 Tryz.underlying37 5 Tryz.sizeOf45 a b la ca lb cb hne tA tB kA kB h1 h2 h3 h4 h5]
 rfl
theorem zg (w : World) (b off n c i vb voff vc : Nat) (k1 k2 : Int) (R1 R2 : Array Value) (hi : i < n) (hroom : n + 1 ≤ c) (hbd : n + 1 ≤ 140737488355328)
  (hov : ∀ W : World,W.heap = w.heap → ∀ lb cb,(callFunc 224 #[.slice (some ⟨vb,voff,none⟩) 1 vc,.slice (some ⟨b,off + (i + 1) * 5,none⟩) lb cb]).run Tryz.prog W = .ok (.value (.bool false)) W)
  (hc1 : ∀ W : World,W.heap = w.heap → ∀ ty dc sc,(Builtin.copy_ #[37,37] ty #[.slice (some ⟨b,off + (i + 1) * 5,none⟩) (n + 1 - (i + 1)) dc,.slice (some ⟨b,off + i * 5,none⟩) (n + 1 - i) sc]).run Tryz.prog W = .ok (.int .i64 k1) (W.setRow b R1))
  (hc2 : ∀ W : World,W.heap = (w.setRow b R1).heap → ∀ ty dc,(Builtin.copy_ #[37,37] ty #[.slice (some ⟨b,off + i * 5,none⟩) (n + 1 - i) dc,.slice (some ⟨vb,voff,none⟩) 1 vc]).run Tryz.prog W = .ok (.int .i64 k2) (W.setRow b R2)) :
  Calls Tryz.prog 187 #[.slice (some ⟨b,off,none⟩) n c,.int .i64 i,.slice (some ⟨vb,voff,none⟩) 1 vc] w fun e W =>
   e = .returned (.slice (some ⟨b,off,none⟩) (n + 1) c) ∧ W.heap = ((w.setRow b R1).setRow b R2).heap ∧ W.os = w.os ∧ W.output = w.output:=by
 have mixed : Tryz.prog.follows .mixedOrders = true:=by kernel_rfl
 have hz2 : ¬ ((i : Int) = (n : Int)):=by omega
 have hw1 : IntKind.i64.wrap ((i : Int) + 1) = (i : Int) + 1:=by rw [IntKind.wrap_i64]; omega
 have hw2 : IntKind.i64.wrap ((n : Int) + 1) = (n : Int) + 1:=by rw [IntKind.wrap_i64]; omega
 have hb1 : (0 : Int) ≤ (i : Int) + 1:=by omega
 have hb0 : (0 : Int) ≤ (n : Int) + 1:=by omega
 have hin : i ≤ n:=by omega
 have htn : ((i : Int) + 1).toNat = i + 1:=by omega
 have htm : ((n : Int) + 1).toNat = n + 1:=by omega
 have hb2 : ¬ (c = i + 1):=by omega
 have hb3 : (i : Int) ≤ (n : Int) + 1:=by omega
 have hb5 : (i : Int) + 1 ≤ (n : Int) + 1:=by omega
 have hb4 : ¬ (c = i):=by omega
 have hgt : ¬ ((c : Int) < (n : Int) + 1):=by omega
 have e1 : n + 1 - (i + 1) = n - i:=by omega
 simp only [e1] at hc1
 have hov0:=hov w rfl
 have hov1:=hov w.drew rfl
 go_enter Tryz.func187,Tryz.ntmps187
 go_wp2_with (simp only [hov0,hov1])
 go_region_law_o (refine qe rfl _ _ 37 37 rfl (.slice (some ⟨b,off + (i + 1) * 5,none⟩) (n - i) (c - (i + 1))) (.slice (some ⟨b,off + i * 5,none⟩) (n + 1 - i) (c - i)) (by simp [Act.eval,Act.put]) (by simp [Act.eval,Act.put]) (hc1 w.drew rfl _ _ _) ?_)
 go_wp2_with (refine uu _ rfl _ _ 37 37 rfl _ _ rfl rfl (hc2 (w.drew.setRow b R1) (gq w w.drew b R1 rfl) _ _) ?_)
 go_ret
 exact ⟨rfl,gq _ _ b R2 (gq w w.drew b R1 rfl),rfl,rfl⟩
theorem CH (w W0 : World) (b off n c i vb voff vc q G : Nat) (k1 k2 : Int) (R1 R2 : Array Value) (hi : i < n) (hnc : n ≤ c) (hroom : c < n + 1) (hbd : n + 1 ≤ 140737488355328) (hGn : n + 1 ≤ G) (hG63 : G ≤ 9223372036854775807)
  (hap : ∀ ty,(Builtin.append_ #[37,3] ty #[.slice (some ⟨b,off,none⟩) i c,.int .i64 ((n + 1 - i : Nat) : Int)]).run Tryz.prog w = .ok (.slice (some ⟨q,0,none⟩) (n + 1) G) W0)
  (hc1 : ∀ W : World,W.heap = W0.heap → ∀ ty dc,(Builtin.copy_ #[37,37] ty #[.slice (some ⟨q,i * 5,none⟩) (n + 1 - i) dc,.slice (some ⟨vb,voff,none⟩) 1 vc]).run Tryz.prog W = .ok (.int .i64 k1) (W.setRow q R1))
  (hc2 : ∀ W : World,W.heap = (W0.setRow q R1).heap → ∀ ty dc sc,(Builtin.copy_ #[37,37] ty #[.slice (some ⟨q,(i + 1) * 5,none⟩) (n + 1 - (i + 1)) dc,.slice (some ⟨b,off + i * 5,none⟩) (n - i) sc]).run Tryz.prog W = .ok (.int .i64 k2) (W.setRow q R2)) :
  Calls Tryz.prog 187 #[.slice (some ⟨b,off,none⟩) n c,.int .i64 i,.slice (some ⟨vb,voff,none⟩) 1 vc] w fun e W =>
   e = .returned (.slice (some ⟨q,0,none⟩) (n + 1) G) ∧ W.heap = ((W0.setRow q R1).setRow q R2).heap ∧ W.os = W0.os ∧ W.output = W0.output:=by
 have mixed : Tryz.prog.follows .mixedOrders = true:=by kernel_rfl
 have hz2 : ¬ ((i : Int) = (n : Int)):=by omega
 have hw1 : IntKind.i64.wrap ((i : Int) + 1) = (i : Int) + 1:=by rw [IntKind.wrap_i64]; omega
 have hw2 : IntKind.i64.wrap ((n : Int) + 1) = (n : Int) + 1:=by rw [IntKind.wrap_i64]; omega
 have hw3 : IntKind.i64.wrap ((n : Int) + 1 - (i : Int)) = (n : Int) + 1 - (i : Int):=by rw [IntKind.wrap_i64]; omega
 have hkk : (n : Int) + 1 - (i : Int) = ((n + 1 - i : Nat) : Int):=by omega
 have hb1 : (0 : Int) ≤ (i : Int) + 1:=by omega
 have hb0 : (0 : Int) ≤ (n : Int) + 1:=by omega
 have hin : i ≤ n:=by omega
 have hic : i ≤ c:=by omega
 have htn : ((i : Int) + 1).toNat = i + 1:=by omega
 have htm : ((n : Int) + 1).toNat = n + 1:=by omega
 have hGi : ¬ (G = i):=by omega
 have hGim : ¬ (G = i + 1):=by omega
 have hci : ¬ (c = i):=by omega
 have hb3 : (i : Int) ≤ (n : Int) + 1:=by omega
 have hb4 : (i : Int) ≤ (n : Int):=by omega
 have hb5 : (i : Int) + 1 ≤ (n : Int) + 1:=by omega
 have hgt : (c : Int) < (n : Int) + 1:=by omega
 have e1 : n + 1 - (i + 1) = n - i:=by omega
 simp only [e1] at hc2
 simp only [← hkk] at hap
 clear hkk
 go_enter Tryz.func187,Tryz.ntmps187
 go_wp2_with (first
  | (at_builtin; refine Lib.wpList_append_run _ rfl _ _ _ _ rfl _ _ rfl rfl _ _ (hap _) ?_)
  | (refine uu _ rfl _ _ 37 37 rfl _ _ rfl rfl (hc1 W0 rfl _ _) ?_))
 go_region_law_o (refine qe rfl _ _ 37 37 rfl (.slice (some ⟨q,(i + 1) * 5,none⟩) (n - i) (G - (i + 1))) (.slice (some ⟨b,off + i * 5,none⟩) (n - i) (c - i)) (by simp [Act.eval,Act.put]) (by simp [Act.eval,Act.put]) (hc2 (W0.setRow q R1).drew rfl _ _ _) ?_)
 go_wp2
 go_ret
 exact ⟨rfl,gq _ _ q R2 rfl,rfl,rfl⟩
theorem zh : Di Tryz.prog 187 224 37 3 45 5 56 (.agg #[.int .i64 0,.int .i64 0,.slice none 0 0,.int .u64 0,.int .i64 0]) where
 body:=⟨_,Tryz.func187,by kernel_rfl⟩
 hS:=Tryz.underlying37
 hN:=Tryz.underlying3
 hz:=by kernel_rfl
 hb:=by kernel_rfl
 hzz:=by kernel_rfl
 hzs:=⟨_,rfl,rfl⟩
 hb0:=by decide
 ovl:=Et
 last:=CG
 shift:=zg
 more:=CH
end Go.Proofs.YtjdomdndflfjdabGreatDoor.X
namespace Go.Proofs.YtjdomdndflfjdabGreatDoor.Mm
open Go Go.Proofs Go.Proofs.YtjdomdndflfjdabGreatDoor Go.Proofs.YtjdomdndflfjdabGreatDoor.X
set_option maxRecDepth 100000
def i (n : Int) : Value:=.int .i64 n
def u (n : Int) : Value:=.int .u64 n
def p (b o : Nat) : Value:=.pointer (some ⟨b,o,none⟩)
def s (b o n c : Nat) : Value:=.slice (some ⟨b,o,none⟩) n c
def vn : Value:=.slice none 0 0
abbrev K : Nat:=aG
def T0 : List Value × Nat:=(gU,0)
def oG (ro : List Nat) : List Nat → List (List Value × Nat) → List (Nat × List Value × Nat)
 | e :: r,p :: q => (e,p.1.map (fu (iw ro)),p.2) :: oG ro r q
 | _,_ => []
def jU (f : FuncId) (k : Nat) : List (FuncId × Nat × cm) → Option cm
 | [] => none
 | x :: r => cond (Nat.beq x.2.1 k && Nat.beq x.1 f) (some x.2.2) (jU f k r)
def jl (m : cm) : Prop:=(∃ fn,Tryz.prog.funcs[m.f]? = some fn ∧ fn.body.isSome = true) ∧ ∃ cg,bw Tryz.prog 1 cg ∧ qG cg 1 m
def Hq : List (FuncId × Nat × cm) → Prop
 | [] => True
 | x :: r => jl x.2.2 ∧ Hq r
theorem yf {f : FuncId} {k : Nat} {m : cm} : ∀ {t : List (FuncId × Nat × cm)},Hq t → jU f k t = some m → jl m
 | [],_,h => by cases h
 | x :: r,ha,h => by
  unfold jU at h
  cases hc : (Nat.beq x.2.1 k && Nat.beq x.1 f) with
  | true =>
   rw [hc] at h
   injection h with h
   exact h ▸ ha.1
  | false =>
   rw [hc] at h
   exact yf ha.2 h
def zi (f : FuncId) : Option (Nat × Nat):=cond (Nat.beq f 187) (some (5,56)) none
theorem CI (f : FuncId) (q : Nat × Nat) (h : zi f = some q) : ∃ O Sl N el zz,Di Tryz.prog f O Sl N el q.1 q.2 zz:=by
 obtain ⟨h1,h2⟩:=ah (show cond (Nat.beq f 187) (some (5,56)) none = some q from h)
 obtain rfl:=Nat.eq_of_beq_eq_true h1
 injection h2 with h2
 subst h2
 exact ⟨_,_,_,_,_,zh⟩
def sd : Sd:=⟨zi,fun _ _ => none⟩
theorem bk : ku Tryz.prog 1 sd:=⟨CI,fun _ _ _ h => (by cases h)⟩
theorem rB {t : List (FuncId × Nat × cm)} {c : FuncId → Nat → Option cm} (ha : Hq t) (hc : ∀ f k m,c f k = some m → jU f k t = some m) : ku Tryz.prog 1 ⟨zi,c⟩:=⟨CI,fun f k m h => yf ha (hc f k m h)⟩
def V0 : Value:=.agg #[u 4294967280,u 15,u 15,u 15,i 15,i 15]
def V1 : Value:=.agg #[u 4294967280,u 0,u 0,u 15,i 0,i 15]
def V2 : Value:=.agg #[u 4294967040,u 0,u 0,u 225,i 0,i 225]
def V3 : Value:=.agg #[.string ⟨#[102]⟩,s 1 0 7 K,vn,vn,s 2 0 1 K,s 3 0 1 K]
def V4 : Value:=.agg #[i 1,i 0,i 2,i 24,i 7,s 10 0 1 1,u 0,i 0,i 4,i 0,i 0,i 0,vn]
def V5 : Value:=.agg #[.string ⟨#[102]⟩,s 1 0 8 K,vn,vn,s 2 0 1 K,s 3 0 1 K]
def V6 : Value:=.agg #[i 1,i 0,i 3,i 1,i 8,vn,u 15,i 0,i 4,i 0,i 0,i 0,vn]
def V7 : Value:=.agg #[.string ⟨#[102]⟩,s 1 0 9 K,vn,vn,s 2 0 1 K,s 3 0 1 K]
def V8 : Value:=.agg #[i 1,i 0,i 4,i 9,i 9,s 11 0 2 2,u 0,i 0,i 4,i 0,i 0,i 0,vn]
def V9 : Value:=.agg #[.string ⟨#[102]⟩,s 1 0 10 K,vn,vn,s 2 0 1 K,s 3 0 1 K]
def LK : Value:=.agg #[i 1,i 0,i 5,i 22,i 10,s 12 0 1 1,u 0,i 0,i 32,i 0,i 0,i 0,vn]
def IZ : Value:=.agg #[.string ⟨#[102]⟩,s 1 0 11 K,vn,vn,s 2 0 1 K,s 3 0 1 K]
def LL : Value:=.agg #[i 3,i 0,i 0,i 0,i 0,vn,u 0,i 0,i 0,i 4,i 10,i 27,vn]
def LM : Value:=.agg #[i 1,i 0,i 7,i 24,i 11,s 13 0 1 1,u 0,i 0,i 4,i 0,i 0,i 0,vn]
def KK : Value:=.agg #[.string ⟨#[102]⟩,s 1 0 12 K,vn,vn,s 2 0 1 K,s 3 0 1 K]
def LN : Value:=.agg #[i 1,i 0,i 8,i 1,i 12,vn,u 15,i 0,i 4,i 0,i 0,i 0,vn]
def KL : Value:=.agg #[.string ⟨#[102]⟩,s 1 0 13 K,vn,vn,s 2 0 1 K,s 3 0 1 K]
def LO : Value:=.agg #[i 1,i 0,i 9,i 9,i 13,s 14 0 2 2,u 0,i 0,i 4,i 0,i 0,i 0,vn]
def KM : Value:=.agg #[.string ⟨#[102]⟩,s 1 0 14 K,vn,vn,s 2 0 1 K,s 3 0 1 K]
def LP : Value:=.agg #[i 1,i 0,i 10,i 22,i 14,s 15 0 1 1,u 0,i 0,i 32,i 0,i 0,i 0,vn]
def I0 : Value:=.agg #[.string ⟨#[102]⟩,s 1 0 15 K,vn,vn,s 2 0 1 K,s 3 0 1 K]
def LQ : Value:=.agg #[i 3,i 0,i 0,i 0,i 0,vn,u 0,i 0,i 0,i 5,i 14,i 27,vn]
def LR : Value:=.agg #[i 1,i 0,i 12,i 24,i 15,s 16 0 1 1,u 0,i 0,i 8,i 0,i 0,i 0,vn]
def KN : Value:=.agg #[.string ⟨#[102]⟩,s 1 0 16 K,vn,vn,s 2 0 1 K,s 3 0 1 K]
def LS : Value:=.agg #[i 1,i 0,i 13,i 24,i 16,s 17 0 1 1,u 0,i 0,i 8,i 0,i 0,i 0,vn]
def KO : Value:=.agg #[.string ⟨#[102]⟩,s 1 0 17 K,vn,vn,s 2 0 1 K,s 3 0 1 K]
def LT : Value:=.agg #[i 1,i 0,i 14,i 4,i 17,s 18 0 2 2,u 0,i 0,i 8,i 0,i 0,i 0,vn]
def KP : Value:=.agg #[.string ⟨#[102]⟩,s 1 0 18 K,vn,vn,s 2 0 1 K,s 3 0 1 K]
def LU : Value:=.agg #[i 1,i 0,i 15,i 22,i 18,s 19 0 1 1,u 0,i 0,i 32,i 0,i 0,i 0,vn]
def yg : Value:=.agg #[.string ⟨#[102]⟩,s 1 0 19 K,vn,vn,s 2 0 1 K,s 3 0 1 K]
def LV : Value:=.agg #[i 3,i 0,i 0,i 0,i 0,vn,u 0,i 0,i 0,i 6,i 18,i 27,vn]
def LW : Value:=.agg #[i 2,i 0,i 16,i 0,i 0,vn,u 0,i 0,i 0,i 0,i 0,i 0,vn]
def LX : Value:=.agg #[i 2,i 0,i 11,i 0,i 0,vn,u 0,i 0,i 0,i 0,i 0,i 0,vn]
def LY : Value:=.agg #[i 2,i 0,i 6,i 0,i 0,vn,u 0,i 0,i 0,i 0,i 0,i 0,vn]
def LZ : Value:=.agg #[i 2,i 0,i 1,i 0,i 0,vn,u 0,i 0,i 0,i 0,i 0,i 0,vn]
def L0 : Value:=.agg #[i 2,i 0,i 0,i 0,i 0,vn,u 0,i 0,i 0,i 0,i 0,i 0,vn]
def L1 : Value:=.agg #[u 0,u 15,u 15,u 15,i (-1),i (-1)]
def L4 : Value:=.agg #[u 0,u 0,u 0,u 225,i (-128),i 127]
def B0 : List (List Value × Nat):=[T0]
def B1 : List (List Value × Nat):=[T0,([i 32,i 32,i 32,i 32,i 32,i 32,i 32],1),([i 32],1),([s 4 0 2 K,s 5 0 5 K,i 3,i (-1),vn,s 6 0 1 K,i 0,i 0,i 0],9),([i 0,i 1],1),([i 1,i 2,vn,u 15,i 0,i 1,i 3,vn,u 15,i 0,i 9,i 4,s 7 0 2 K,u 0,i 0,i 9,i 5,s 8 0 2 K,u 0,i 0,i 4,i 6,s 9 0 2 K,u 0,i 0],5),([i 6],1),([i 0,i 2],1),([i 1,i 3],1),([i 4,i 5],1)]
def B2 : List (List Value × Nat):=[T0,([u 0,u 0,u 0,u 4294967295,i (-2147483648),i 2147483647,u 0,u 0,u 0,u 4294967295,i (-2147483648),i 2147483647,u 4294967280,u 15,u 15,u 15,i 15,i 15,u 4294967280,u 15,u 15,u 15,i 15,i 15,u 4294967280,u 0,u 0,u 15,i 0,i 15,u 4294967280,u 0,u 0,u 15,i 0,i 15,u 4294967040,u 0,u 0,u 225,i 0,i 225],6)]
def B3 : List (List Value × Nat):=[T0,([i 32,i 32,i 32,i 32,i 32,i 32,i 32,i 4],1),([i 32],1),([s 4 0 2 K,s 5 0 6 K,i 3,i (-1),vn,s 6 0 1 K,i 0,i 0,i 0],9),([i 0,i 1],1),([i 1,i 2,vn,u 15,i 0,i 1,i 3,vn,u 15,i 0,i 24,i 7,s 7 0 1 K,u 0,i 0,i 9,i 4,s 8 0 2 K,u 0,i 0,i 9,i 5,s 9 0 2 K,u 0,i 0,i 4,i 6,s 10 0 2 K,u 0,i 0],5),([i 6],1),([i 0],1),([i 0,i 2],1),([i 1,i 3],1),([i 4,i 5],1)]
def B4 : List (List Value × Nat):=[T0,([i 32,i 32,i 32,i 32,i 32,i 32,i 32,i 4,i 4],1),([i 32],1),([s 4 0 2 K,s 5 0 7 K,i 3,i (-1),vn,s 6 0 1 K,i 0,i 0,i 0],9),([i 0,i 1],1),([i 1,i 2,vn,u 15,i 0,i 1,i 3,vn,u 15,i 0,i 24,i 7,s 7 0 1 K,u 0,i 0,i 1,i 8,vn,u 15,i 0,i 9,i 4,s 8 0 2 K,u 0,i 0,i 9,i 5,s 9 0 2 K,u 0,i 0,i 4,i 6,s 10 0 2 K,u 0,i 0],5),([i 6],1),([i 0],1),([i 0,i 2],1),([i 1,i 3],1),([i 4,i 5],1)]
def B5 : List (List Value × Nat):=[T0,([i 32,i 32,i 32,i 32,i 32,i 32,i 32,i 4,i 4,i 4],1),([i 32],1),([s 4 0 2 K,s 5 0 8 K,i 3,i (-1),vn,s 6 0 1 K,i 0,i 0,i 0],9),([i 0,i 1],1),([i 1,i 2,vn,u 15,i 0,i 1,i 3,vn,u 15,i 0,i 24,i 7,s 7 0 1 K,u 0,i 0,i 1,i 8,vn,u 15,i 0,i 9,i 9,s 8 0 2 K,u 0,i 0,i 9,i 4,s 9 0 2 K,u 0,i 0,i 9,i 5,s 10 0 2 K,u 0,i 0,i 4,i 6,s 11 0 2 K,u 0,i 0],5),([i 6],1),([i 0],1),([i 7,i 8],1),([i 0,i 2],1),([i 1,i 3],1),([i 4,i 5],1)]
def B6 : List (List Value × Nat):=[T0,([i 32,i 32,i 32,i 32,i 32,i 32,i 32,i 4,i 4,i 4,i 32],1),([i 32],1),([s 4 0 2 K,s 5 0 9 K,i 3,i (-1),vn,s 6 0 1 K,i 0,i 0,i 0],9),([i 0,i 1],1),([i 1,i 2,vn,u 15,i 0,i 1,i 3,vn,u 15,i 0,i 24,i 7,s 7 0 1 K,u 0,i 0,i 1,i 8,vn,u 15,i 0,i 9,i 9,s 8 0 2 K,u 0,i 0,i 22,i 10,s 9 0 1 K,u 0,i 0,i 9,i 4,s 10 0 2 K,u 0,i 0,i 9,i 5,s 11 0 2 K,u 0,i 0,i 4,i 6,s 12 0 2 K,u 0,i 0],5),([i 6],1),([i 0],1),([i 7,i 8],1),([i 9],1),([i 0,i 2],1),([i 1,i 3],1),([i 4,i 5],1)]
def B7 : List (List Value × Nat):=[T0,([i 32,i 32,i 32,i 32,i 32,i 32,i 32,i 4,i 4,i 4,i 32],1),([i 32],1),([s 4 0 2 K,s 5 0 9 K,i 3,i (-1),vn,s 6 0 1 K,i 0,i 0,i 0],9),([i 0,i 1],1),([i 1,i 2,vn,u 15,i 0,i 1,i 3,vn,u 15,i 0,i 24,i 7,s 7 0 1 K,u 0,i 0,i 1,i 8,vn,u 15,i 0,i 9,i 9,s 8 0 2 K,u 0,i 0,i 22,i 10,s 9 0 1 K,u 0,i 0,i 9,i 4,s 10 0 2 K,u 0,i 0,i 9,i 5,s 11 0 2 K,u 0,i 0,i 4,i 6,s 12 0 2 K,u 0,i 0],5),([i 6],1),([i 0],1),([i 7,i 8],1),([i 9],1),([i 0,i 2],1),([i 1,i 3],1),([i 10,i 5],1)]
def B8 : List (List Value × Nat):=[T0,([i 32,i 32,i 32,i 32,i 32,i 32,i 32,i 4,i 4,i 4,i 32,i 4],1),([i 32],1),([s 4 0 2 K,s 5 0 10 K,i 3,i (-1),vn,s 6 0 1 K,i 0,i 0,i 0],9),([i 0,i 1],1),([i 1,i 2,vn,u 15,i 0,i 1,i 3,vn,u 15,i 0,i 24,i 7,s 7 0 1 K,u 0,i 0,i 1,i 8,vn,u 15,i 0,i 9,i 9,s 8 0 2 K,u 0,i 0,i 22,i 10,s 9 0 1 K,u 0,i 0,i 9,i 4,s 10 0 2 K,u 0,i 0,i 24,i 11,s 11 0 1 K,u 0,i 0,i 9,i 5,s 12 0 2 K,u 0,i 0,i 4,i 6,s 13 0 2 K,u 0,i 0],5),([i 6],1),([i 0],1),([i 7,i 8],1),([i 9],1),([i 0,i 2],1),([i 1],1),([i 1,i 3],1),([i 10,i 5],1)]
def B9 : List (List Value × Nat):=[T0,([i 32,i 32,i 32,i 32,i 32,i 32,i 32,i 4,i 4,i 4,i 32,i 4,i 4],1),([i 32],1),([s 4 0 2 K,s 5 0 11 K,i 3,i (-1),vn,s 6 0 1 K,i 0,i 0,i 0],9),([i 0,i 1],1),([i 1,i 2,vn,u 15,i 0,i 1,i 3,vn,u 15,i 0,i 24,i 7,s 7 0 1 K,u 0,i 0,i 1,i 8,vn,u 15,i 0,i 9,i 9,s 8 0 2 K,u 0,i 0,i 22,i 10,s 9 0 1 K,u 0,i 0,i 9,i 4,s 10 0 2 K,u 0,i 0,i 24,i 11,s 11 0 1 K,u 0,i 0,i 1,i 12,vn,u 15,i 0,i 9,i 5,s 12 0 2 K,u 0,i 0,i 4,i 6,s 13 0 2 K,u 0,i 0],5),([i 6],1),([i 0],1),([i 7,i 8],1),([i 9],1),([i 0,i 2],1),([i 1],1),([i 1,i 3],1),([i 10,i 5],1)]
def KQ : List (List Value × Nat):=[T0,([i 32,i 32,i 32,i 32,i 32,i 32,i 32,i 4,i 4,i 4,i 32,i 4,i 4,i 4],1),([i 32],1),([s 4 0 2 K,s 5 0 12 K,i 3,i (-1),vn,s 6 0 1 K,i 0,i 0,i 0],9),([i 0,i 1],1),([i 1,i 2,vn,u 15,i 0,i 1,i 3,vn,u 15,i 0,i 24,i 7,s 7 0 1 K,u 0,i 0,i 1,i 8,vn,u 15,i 0,i 9,i 9,s 8 0 2 K,u 0,i 0,i 22,i 10,s 9 0 1 K,u 0,i 0,i 9,i 4,s 10 0 2 K,u 0,i 0,i 24,i 11,s 11 0 1 K,u 0,i 0,i 1,i 12,vn,u 15,i 0,i 9,i 13,s 12 0 2 K,u 0,i 0,i 9,i 5,s 13 0 2 K,u 0,i 0,i 4,i 6,s 14 0 2 K,u 0,i 0],5),([i 6],1),([i 0],1),([i 7,i 8],1),([i 9],1),([i 0,i 2],1),([i 1],1),([i 11,i 12],1),([i 1,i 3],1),([i 10,i 5],1)]
def KR : List (List Value × Nat):=[T0,([i 32,i 32,i 32,i 32,i 32,i 32,i 32,i 4,i 4,i 4,i 32,i 4,i 4,i 4,i 32],1),([i 32],1),([s 4 0 2 K,s 5 0 13 K,i 3,i (-1),vn,s 6 0 1 K,i 0,i 0,i 0],9),([i 0,i 1],1),([i 1,i 2,vn,u 15,i 0,i 1,i 3,vn,u 15,i 0,i 24,i 7,s 7 0 1 K,u 0,i 0,i 1,i 8,vn,u 15,i 0,i 9,i 9,s 8 0 2 K,u 0,i 0,i 22,i 10,s 9 0 1 K,u 0,i 0,i 9,i 4,s 10 0 2 K,u 0,i 0,i 24,i 11,s 11 0 1 K,u 0,i 0,i 1,i 12,vn,u 15,i 0,i 9,i 13,s 12 0 2 K,u 0,i 0,i 22,i 14,s 13 0 1 K,u 0,i 0,i 9,i 5,s 14 0 2 K,u 0,i 0,i 4,i 6,s 15 0 2 K,u 0,i 0],5),([i 6],1),([i 0],1),([i 7,i 8],1),([i 9],1),([i 0,i 2],1),([i 1],1),([i 11,i 12],1),([i 13],1),([i 1,i 3],1),([i 10,i 5],1)]
def KS : List (List Value × Nat):=[T0,([i 32,i 32,i 32,i 32,i 32,i 32,i 32,i 4,i 4,i 4,i 32,i 4,i 4,i 4,i 32],1),([i 32],1),([s 4 0 2 K,s 5 0 13 K,i 3,i (-1),vn,s 6 0 1 K,i 0,i 0,i 0],9),([i 0,i 1],1),([i 1,i 2,vn,u 15,i 0,i 1,i 3,vn,u 15,i 0,i 24,i 7,s 7 0 1 K,u 0,i 0,i 1,i 8,vn,u 15,i 0,i 9,i 9,s 8 0 2 K,u 0,i 0,i 22,i 10,s 9 0 1 K,u 0,i 0,i 9,i 4,s 10 0 2 K,u 0,i 0,i 24,i 11,s 11 0 1 K,u 0,i 0,i 1,i 12,vn,u 15,i 0,i 9,i 13,s 12 0 2 K,u 0,i 0,i 22,i 14,s 13 0 1 K,u 0,i 0,i 9,i 5,s 14 0 2 K,u 0,i 0,i 4,i 6,s 15 0 2 K,u 0,i 0],5),([i 6],1),([i 0],1),([i 7,i 8],1),([i 9],1),([i 0,i 2],1),([i 1],1),([i 11,i 12],1),([i 13],1),([i 1,i 3],1),([i 10,i 14],1)]
def KT : List (List Value × Nat):=[T0,([i 32,i 32,i 32,i 32,i 32,i 32,i 32,i 4,i 4,i 4,i 32,i 4,i 4,i 4,i 32,i 8],1),([i 32],1),([s 4 0 2 K,s 5 0 14 K,i 3,i (-1),vn,s 6 0 1 K,i 0,i 0,i 0],9),([i 0,i 1],1),([i 1,i 2,vn,u 15,i 0,i 1,i 3,vn,u 15,i 0,i 24,i 7,s 7 0 1 K,u 0,i 0,i 1,i 8,vn,u 15,i 0,i 9,i 9,s 8 0 2 K,u 0,i 0,i 22,i 10,s 9 0 1 K,u 0,i 0,i 9,i 4,s 10 0 2 K,u 0,i 0,i 24,i 11,s 11 0 1 K,u 0,i 0,i 1,i 12,vn,u 15,i 0,i 9,i 13,s 12 0 2 K,u 0,i 0,i 22,i 14,s 13 0 1 K,u 0,i 0,i 9,i 5,s 14 0 2 K,u 0,i 0,i 24,i 15,s 15 0 1 K,u 0,i 0,i 4,i 6,s 16 0 2 K,u 0,i 0],5),([i 6],1),([i 0],1),([i 7,i 8],1),([i 9],1),([i 0,i 2],1),([i 1],1),([i 11,i 12],1),([i 13],1),([i 1,i 3],1),([i 10],1),([i 10,i 14],1)]
def KU : List (List Value × Nat):=[T0,([i 32,i 32,i 32,i 32,i 32,i 32,i 32,i 4,i 4,i 4,i 32,i 4,i 4,i 4,i 32,i 8,i 8],1),([i 32],1),([s 4 0 2 K,s 5 0 15 K,i 3,i (-1),vn,s 6 0 1 K,i 0,i 0,i 0],9),([i 0,i 1],1),([i 1,i 2,vn,u 15,i 0,i 1,i 3,vn,u 15,i 0,i 24,i 7,s 7 0 1 K,u 0,i 0,i 1,i 8,vn,u 15,i 0,i 9,i 9,s 8 0 2 K,u 0,i 0,i 22,i 10,s 9 0 1 K,u 0,i 0,i 9,i 4,s 10 0 2 K,u 0,i 0,i 24,i 11,s 11 0 1 K,u 0,i 0,i 1,i 12,vn,u 15,i 0,i 9,i 13,s 12 0 2 K,u 0,i 0,i 22,i 14,s 13 0 1 K,u 0,i 0,i 9,i 5,s 14 0 2 K,u 0,i 0,i 24,i 15,s 15 0 1 K,u 0,i 0,i 24,i 16,s 16 0 1 K,u 0,i 0,i 4,i 6,s 17 0 2 K,u 0,i 0],5),([i 6],1),([i 0],1),([i 7,i 8],1),([i 9],1),([i 0,i 2],1),([i 1],1),([i 11,i 12],1),([i 13],1),([i 1,i 3],1),([i 10],1),([i 14],1),([i 10,i 14],1)]
def KV : List (List Value × Nat):=[T0,([i 32,i 32,i 32,i 32,i 32,i 32,i 32,i 4,i 4,i 4,i 32,i 4,i 4,i 4,i 32,i 8,i 8,i 8],1),([i 32],1),([s 4 0 2 K,s 5 0 16 K,i 3,i (-1),vn,s 6 0 1 K,i 0,i 0,i 0],9),([i 0,i 1],1),([i 1,i 2,vn,u 15,i 0,i 1,i 3,vn,u 15,i 0,i 24,i 7,s 7 0 1 K,u 0,i 0,i 1,i 8,vn,u 15,i 0,i 9,i 9,s 8 0 2 K,u 0,i 0,i 22,i 10,s 9 0 1 K,u 0,i 0,i 9,i 4,s 10 0 2 K,u 0,i 0,i 24,i 11,s 11 0 1 K,u 0,i 0,i 1,i 12,vn,u 15,i 0,i 9,i 13,s 12 0 2 K,u 0,i 0,i 22,i 14,s 13 0 1 K,u 0,i 0,i 9,i 5,s 14 0 2 K,u 0,i 0,i 24,i 15,s 15 0 1 K,u 0,i 0,i 24,i 16,s 16 0 1 K,u 0,i 0,i 4,i 17,s 17 0 2 K,u 0,i 0,i 4,i 6,s 18 0 2 K,u 0,i 0],5),([i 6],1),([i 0],1),([i 7,i 8],1),([i 9],1),([i 0,i 2],1),([i 1],1),([i 11,i 12],1),([i 13],1),([i 1,i 3],1),([i 10],1),([i 14],1),([i 15,i 16],1),([i 10,i 14],1)]
def KW : List (List Value × Nat):=[T0,([i 32,i 32,i 32,i 32,i 32,i 32,i 32,i 4,i 4,i 4,i 32,i 4,i 4,i 4,i 32,i 8,i 8,i 8,i 32],1),([i 32],1),([s 4 0 2 K,s 5 0 17 K,i 3,i (-1),vn,s 6 0 1 K,i 0,i 0,i 0],9),([i 0,i 1],1),([i 1,i 2,vn,u 15,i 0,i 1,i 3,vn,u 15,i 0,i 24,i 7,s 7 0 1 K,u 0,i 0,i 1,i 8,vn,u 15,i 0,i 9,i 9,s 8 0 2 K,u 0,i 0,i 22,i 10,s 9 0 1 K,u 0,i 0,i 9,i 4,s 10 0 2 K,u 0,i 0,i 24,i 11,s 11 0 1 K,u 0,i 0,i 1,i 12,vn,u 15,i 0,i 9,i 13,s 12 0 2 K,u 0,i 0,i 22,i 14,s 13 0 1 K,u 0,i 0,i 9,i 5,s 14 0 2 K,u 0,i 0,i 24,i 15,s 15 0 1 K,u 0,i 0,i 24,i 16,s 16 0 1 K,u 0,i 0,i 4,i 17,s 17 0 2 K,u 0,i 0,i 22,i 18,s 18 0 1 K,u 0,i 0,i 4,i 6,s 19 0 2 K,u 0,i 0],5),([i 6],1),([i 0],1),([i 7,i 8],1),([i 9],1),([i 0,i 2],1),([i 1],1),([i 11,i 12],1),([i 13],1),([i 1,i 3],1),([i 10],1),([i 14],1),([i 15,i 16],1),([i 17],1),([i 10,i 14],1)]
def KX : List (List Value × Nat):=[T0,([i 32,i 32,i 32,i 32,i 32,i 32,i 32,i 4,i 4,i 4,i 32,i 4,i 4,i 4,i 32,i 8,i 8,i 8,i 32],1),([i 32],1),([s 4 0 2 K,s 5 0 17 K,i 3,i (-1),vn,s 6 0 1 K,i 0,i 0,i 0],9),([i 0,i 1],1),([i 1,i 2,vn,u 15,i 0,i 1,i 3,vn,u 15,i 0,i 24,i 7,s 7 0 1 K,u 0,i 0,i 1,i 8,vn,u 15,i 0,i 9,i 9,s 8 0 2 K,u 0,i 0,i 22,i 10,s 9 0 1 K,u 0,i 0,i 9,i 4,s 10 0 2 K,u 0,i 0,i 24,i 11,s 11 0 1 K,u 0,i 0,i 1,i 12,vn,u 15,i 0,i 9,i 13,s 12 0 2 K,u 0,i 0,i 22,i 14,s 13 0 1 K,u 0,i 0,i 9,i 5,s 14 0 2 K,u 0,i 0,i 24,i 15,s 15 0 1 K,u 0,i 0,i 24,i 16,s 16 0 1 K,u 0,i 0,i 4,i 17,s 17 0 2 K,u 0,i 0,i 22,i 18,s 18 0 1 K,u 0,i 0,i 4,i 6,s 19 0 2 K,u 0,i 0],5),([i 18],1),([i 0],1),([i 7,i 8],1),([i 9],1),([i 0,i 2],1),([i 1],1),([i 11,i 12],1),([i 13],1),([i 1,i 3],1),([i 10],1),([i 14],1),([i 15,i 16],1),([i 17],1),([i 10,i 14],1)]
def KY : List (List Value × Nat):=[T0,([i 32,i 32,i 32,i 32,i 32,i 32,i 32,i 4,i 4,i 4,i 32,i 4,i 4,i 4,i 32,i 8,i 8,i 8,i 32],1),([i 32],1),([s 4 0 2 K,s 5 0 16 K,i 3,i (-1),vn,s 6 0 1 K,i 0,i 0,i 0],9),([i 0,i 1],1),([i 1,i 2,vn,u 15,i 0,i 1,i 3,vn,u 15,i 0,i 24,i 7,s 7 0 1 K,u 0,i 0,i 1,i 8,vn,u 15,i 0,i 9,i 9,s 8 0 2 K,u 0,i 0,i 22,i 10,s 9 0 1 K,u 0,i 0,i 9,i 4,s 10 0 2 K,u 0,i 0,i 24,i 11,s 11 0 1 K,u 0,i 0,i 1,i 12,vn,u 15,i 0,i 9,i 13,s 12 0 2 K,u 0,i 0,i 22,i 14,s 13 0 1 K,u 0,i 0,i 9,i 5,s 14 0 2 K,u 0,i 0,i 24,i 15,s 15 0 1 K,u 0,i 0,i 24,i 16,s 16 0 1 K,u 0,i 0,i 4,i 17,s 17 0 2 K,u 0,i 0,i 22,i 18,s 18 0 1 K,u 0,i 0,i 0,i 0,vn,u 0,i 0],5),([i 18],1),([i 0],1),([i 7,i 8],1),([i 9],1),([i 0,i 2],1),([i 1],1),([i 11,i 12],1),([i 13],1),([i 1,i 3],1),([i 10],1),([i 14],1),([i 15,i 16],1),([i 17],1)]
def KZ : List (List Value × Nat):=[T0,([i 32,i 32,i 32,i 32,i 32,i 32,i 32,i 4,i 4,i 4,i 32,i 4,i 4,i 4,i 32,i 8,i 8,i 8,i 32],1),([i 32],1),([s 4 0 2 K,s 5 0 15 K,i 3,i (-1),vn,s 6 0 1 K,i 0,i 0,i 0],9),([i 0,i 1],1),([i 1,i 2,vn,u 15,i 0,i 1,i 3,vn,u 15,i 0,i 24,i 7,s 7 0 1 K,u 0,i 0,i 1,i 8,vn,u 15,i 0,i 9,i 9,s 8 0 2 K,u 0,i 0,i 22,i 10,s 9 0 1 K,u 0,i 0,i 9,i 4,s 10 0 2 K,u 0,i 0,i 24,i 11,s 11 0 1 K,u 0,i 0,i 1,i 12,vn,u 15,i 0,i 9,i 13,s 12 0 2 K,u 0,i 0,i 22,i 14,s 13 0 1 K,u 0,i 0,i 24,i 15,s 14 0 1 K,u 0,i 0,i 24,i 16,s 15 0 1 K,u 0,i 0,i 4,i 17,s 16 0 2 K,u 0,i 0,i 22,i 18,s 17 0 1 K,u 0,i 0,i 0,i 0,vn,u 0,i 0],5),([i 18],1),([i 0],1),([i 7,i 8],1),([i 9],1),([i 0,i 2],1),([i 1],1),([i 11,i 12],1),([i 13],1),([i 10],1),([i 14],1),([i 15,i 16],1),([i 17],1)]
def K5 : List (List Value × Nat):=[T0,([i 32,i 32,i 32,i 32,i 32,i 32,i 32,i 4,i 4,i 4,i 32,i 4,i 4,i 4,i 32,i 8,i 8,i 8,i 32],1),([i 32],1),([s 4 0 2 K,s 5 0 14 K,i 3,i (-1),vn,s 6 0 1 K,i 0,i 0,i 0],9),([i 0,i 1],1),([i 1,i 2,vn,u 15,i 0,i 1,i 3,vn,u 15,i 0,i 24,i 7,s 7 0 1 K,u 0,i 0,i 1,i 8,vn,u 15,i 0,i 9,i 9,s 8 0 2 K,u 0,i 0,i 22,i 10,s 9 0 1 K,u 0,i 0,i 24,i 11,s 10 0 1 K,u 0,i 0,i 1,i 12,vn,u 15,i 0,i 9,i 13,s 11 0 2 K,u 0,i 0,i 22,i 14,s 12 0 1 K,u 0,i 0,i 24,i 15,s 13 0 1 K,u 0,i 0,i 24,i 16,s 14 0 1 K,u 0,i 0,i 4,i 17,s 15 0 2 K,u 0,i 0,i 22,i 18,s 16 0 1 K,u 0,i 0,i 0,i 0,vn,u 0,i 0],5),([i 18],1),([i 0],1),([i 7,i 8],1),([i 9],1),([i 1],1),([i 11,i 12],1),([i 13],1),([i 10],1),([i 14],1),([i 15,i 16],1),([i 17],1)]
def K6 : List (List Value × Nat):=[T0,([i 32,i 32,i 32,i 32,i 32,i 32,i 32,i 4,i 4,i 4,i 32,i 4,i 4,i 4,i 32,i 8,i 8,i 8,i 32],1),([i 32],1),([s 4 0 2 K,s 5 0 13 K,i 3,i (-1),vn,s 6 0 1 K,i 0,i 0,i 0],9),([i 0,i 1],1),([i 1,i 2,vn,u 15,i 0,i 24,i 7,s 7 0 1 K,u 0,i 0,i 1,i 8,vn,u 15,i 0,i 9,i 9,s 8 0 2 K,u 0,i 0,i 22,i 10,s 9 0 1 K,u 0,i 0,i 24,i 11,s 10 0 1 K,u 0,i 0,i 1,i 12,vn,u 15,i 0,i 9,i 13,s 11 0 2 K,u 0,i 0,i 22,i 14,s 12 0 1 K,u 0,i 0,i 24,i 15,s 13 0 1 K,u 0,i 0,i 24,i 16,s 14 0 1 K,u 0,i 0,i 4,i 17,s 15 0 2 K,u 0,i 0,i 22,i 18,s 16 0 1 K,u 0,i 0,i 0,i 0,vn,u 0,i 0],5),([i 18],1),([i 0],1),([i 7,i 8],1),([i 9],1),([i 1],1),([i 11,i 12],1),([i 13],1),([i 10],1),([i 14],1),([i 15,i 16],1),([i 17],1)]
def K7 : List (List Value × Nat):=[T0,([i 32,i 32,i 32,i 32,i 32,i 32,i 32,i 4,i 4,i 4,i 32,i 4,i 4,i 4,i 32,i 8,i 8,i 8,i 32],1),([i 32],1),([s 4 0 2 K,s 5 0 12 K,i 3,i (-1),vn,s 6 0 1 K,i 0,i 0,i 0],9),([i 0,i 1],1),([i 24,i 7,s 7 0 1 K,u 0,i 0,i 1,i 8,vn,u 15,i 0,i 9,i 9,s 8 0 2 K,u 0,i 0,i 22,i 10,s 9 0 1 K,u 0,i 0,i 24,i 11,s 10 0 1 K,u 0,i 0,i 1,i 12,vn,u 15,i 0,i 9,i 13,s 11 0 2 K,u 0,i 0,i 22,i 14,s 12 0 1 K,u 0,i 0,i 24,i 15,s 13 0 1 K,u 0,i 0,i 24,i 16,s 14 0 1 K,u 0,i 0,i 4,i 17,s 15 0 2 K,u 0,i 0,i 22,i 18,s 16 0 1 K,u 0,i 0,i 0,i 0,vn,u 0,i 0],5),([i 18],1),([i 0],1),([i 7,i 8],1),([i 9],1),([i 1],1),([i 11,i 12],1),([i 13],1),([i 10],1),([i 14],1),([i 15,i 16],1),([i 17],1)]
def L5 : List (List Value × Nat):=[T0,([u 0,u 0,u 0,u 4294967295,i (-2147483648),i 2147483647,u 0,u 0,u 0,u 4294967295,i (-2147483648),i 2147483647,u 0,u 0,u 0,u 4294967295,i (-2147483648),i 2147483647,u 0,u 0,u 0,u 4294967295,i (-2147483648),i 2147483647,u 0,u 0,u 0,u 4294967295,i (-2147483648),i 2147483647,u 0,u 0,u 0,u 4294967295,i (-2147483648),i 2147483647,u 0,u 0,u 0,u 4294967295,i (-2147483648),i 2147483647,u 0,u 0,u 0,u 15,i (-8),i 7,u 0,u 15,u 15,u 15,i (-1),i (-1),u 0,u 0,u 0,u 15,i (-8),i 7,u 4294967280,u 0,u 0,u 15,i 0,i 15,u 0,u 0,u 0,u 15,i (-8),i 7,u 0,u 15,u 15,u 15,i (-1),i (-1),u 0,u 0,u 0,u 15,i (-8),i 7,u 4294967280,u 0,u 0,u 15,i 0,i 15,u 240,u 0,u 0,u 15,i 0,i 15,u 240,u 0,u 0,u 15,i 0,i 15,u 0,u 0,u 0,u 225,i (-128),i 127,u 4294967040,u 0,u 0,u 225,i 0,i 225],6)]
def m0 (ρ : List Nat) : cm:=⟨133,ρ,[i 1,i 32,vn,vn,u 15],B0,V0,[]⟩
theorem k0 (ρ : List Nat) : jl (m0 ρ):=⟨⟨_,Tryz.func133,by kernel_rfl⟩,_,aL aC.orders aC.names aC.prog bk 300,aP Tryz.prog 1 sd bk (by kernel_rfl) (Nat.le_of_ble_eq_true (by kernel_rfl)) (by kernel_rfl) (by kernel_rfl) (by kernel_rfl) (by kernel_rfl)⟩
def m1 (ρ : List Nat) : cm:=⟨133,ρ,[i 9,i 32,s 1 0 2 K,s 2 0 2 K,u 0],B0 ++ [([i 32,i 32],1),([u 0,u 0,u 0,u 4294967295,i (-2147483648),i 2147483647,u 4294967280,u 15,u 15,u 15,i 15,i 15],6)],V1,[]⟩
theorem k1 (ρ : List Nat) : jl (m1 ρ):=⟨⟨_,Tryz.func133,by kernel_rfl⟩,_,aL aC.orders aC.names aC.prog bk 300,aP Tryz.prog 1 sd bk (by kernel_rfl) (Nat.le_of_ble_eq_true (by kernel_rfl)) (by kernel_rfl) (by kernel_rfl) (by kernel_rfl) (by kernel_rfl)⟩
def m2 (ρ : List Nat) : cm:=⟨133,ρ,[i 4,i 32,s 1 0 2 K,s 2 0 2 K,u 0],B0 ++ [([i 32,i 32],1),([u 4294967280,u 0,u 0,u 15,i 0,i 15,u 4294967280,u 0,u 0,u 15,i 0,i 15],6)],V2,[]⟩
theorem k2 (ρ : List Nat) : jl (m2 ρ):=⟨⟨_,Tryz.func133,by kernel_rfl⟩,_,aL aC.orders aC.names aC.prog bk 300,aP Tryz.prog 1 sd bk (by kernel_rfl) (Nat.le_of_ble_eq_true (by kernel_rfl)) (by kernel_rfl) (by kernel_rfl) (by kernel_rfl) (by kernel_rfl)⟩
def r3 : List Nat:=[0,27]
def m3 (ρ : List Nat) : cm:=⟨26,ρ,[V3],B1,dt (iw r3) (s 1 0 7 K),oG r3 (r3.drop 1) (B2.drop 1)⟩
def Iu : List (FuncId × Nat × cm):=[(133,42,m0 [0]),(133,43,m0 [0]),(133,52,m1 [0,50,51]),(133,53,m1 [0,51,52]),(133,54,m2 [0,52,53]),(133,58,m0 [0]),(133,59,m0 [0]),(133,68,m1 [0,66,67]),(133,69,m1 [0,67,68]),(133,70,m2 [0,68,69])]
def K8 : Sd:=⟨zi,fun f k => cond (Nat.beq f 133) (jU f k Iu) none⟩
theorem CJ : ku Tryz.prog 1 K8:=rB (t:=Iu) ⟨k0 _,k0 _,k1 _,k1 _,k2 _,k0 _,k0 _,k1 _,k1 _,k2 _,trivial⟩ (fun f k m h => (ah h).2)
theorem k3 (ρ : List Nat) : jl (m3 ρ):=⟨⟨_,Tryz.func26,by kernel_rfl⟩,_,aL aC.orders aC.names aC.prog CJ 300,aP Tryz.prog 1 K8 CJ (by kernel_rfl) (Nat.le_of_ble_eq_true (by kernel_rfl)) (by kernel_rfl) (by kernel_rfl) (by kernel_rfl) (by kernel_rfl)⟩
def r4 : List Nat:=[0,44,20,22,24,46,34,42,28,30,32]
def m4 (ρ : List Nat) : cm:=⟨106,ρ,[V3,V4,s 11 0 7 K],B1 ++ [([i 0],1),([u 0,u 0,u 0,u 4294967295,i (-2147483648),i 2147483647,u 0,u 0,u 0,u 4294967295,i (-2147483648),i 2147483647,u 4294967280,u 15,u 15,u 15,i 15,i 15,u 4294967280,u 15,u 15,u 15,i 15,i 15,u 4294967280,u 0,u 0,u 15,i 0,i 15,u 4294967280,u 0,u 0,u 15,i 0,i 15,u 4294967040,u 0,u 0,u 225,i 0,i 225],6)],dt (iw r4) (.tuple #[V5,i 0]),oG r4 (r4.drop 1) (B3.drop 1)⟩
theorem k4 (ρ : List Nat) : jl (m4 ρ):=⟨⟨_,Tryz.func106,by kernel_rfl⟩,_,aL aC.orders aC.names aC.prog bk 300,aP Tryz.prog 1 sd bk (by kernel_rfl) (Nat.le_of_ble_eq_true (by kernel_rfl)) (by kernel_rfl) (by kernel_rfl) (by kernel_rfl) (by kernel_rfl)⟩
def r5 : List Nat:=[0,42,20,22,24,44,36,28,30,32,34]
def m5 (ρ : List Nat) : cm:=⟨106,ρ,[V5,V6,s 11 0 7 K],B3 ++ [([u 0,u 0,u 0,u 4294967295,i (-2147483648),i 2147483647,u 0,u 0,u 0,u 4294967295,i (-2147483648),i 2147483647,u 4294967280,u 15,u 15,u 15,i 15,i 15,u 4294967280,u 15,u 15,u 15,i 15,i 15,u 4294967280,u 0,u 0,u 15,i 0,i 15,u 4294967280,u 0,u 0,u 15,i 0,i 15,u 4294967040,u 0,u 0,u 225,i 0,i 225],6)],dt (iw r5) (.tuple #[V7,i 0]),oG r5 (r5.drop 1) (B4.drop 1)⟩
theorem k5 (ρ : List Nat) : jl (m5 ρ):=⟨⟨_,Tryz.func106,by kernel_rfl⟩,_,aL aC.orders aC.names aC.prog bk 300,aP Tryz.prog 1 sd bk (by kernel_rfl) (Nat.le_of_ble_eq_true (by kernel_rfl)) (by kernel_rfl) (by kernel_rfl) (by kernel_rfl) (by kernel_rfl)⟩
def r6 : List Nat:=[0,49,21,23,25,51,37,29,47,31,33,35]
def m6 (ρ : List Nat) : cm:=⟨106,ρ,[V7,V8,s 12 0 7 K],B4 ++ [([i 7,i 8],1),([u 0,u 0,u 0,u 4294967295,i (-2147483648),i 2147483647,u 0,u 0,u 0,u 4294967295,i (-2147483648),i 2147483647,u 4294967280,u 15,u 15,u 15,i 15,i 15,u 4294967280,u 15,u 15,u 15,i 15,i 15,u 4294967280,u 0,u 0,u 15,i 0,i 15,u 4294967280,u 0,u 0,u 15,i 0,i 15,u 4294967040,u 0,u 0,u 225,i 0,i 225],6)],dt (iw r6) (.tuple #[V9,i 0]),oG r6 (r6.drop 1) (B5.drop 1)⟩
theorem k6 (ρ : List Nat) : jl (m6 ρ):=⟨⟨_,Tryz.func106,by kernel_rfl⟩,_,aL aC.orders aC.names aC.prog bk 300,aP Tryz.prog 1 sd bk (by kernel_rfl) (Nat.le_of_ble_eq_true (by kernel_rfl)) (by kernel_rfl) (by kernel_rfl) (by kernel_rfl) (by kernel_rfl)⟩
def r7 : List Nat:=[0,50,22,24,26,52,40,30,32,48,34,36,38]
def m7 (ρ : List Nat) : cm:=⟨106,ρ,[V9,LK,s 13 0 7 K],B5 ++ [([i 9],1),([u 0,u 0,u 0,u 4294967295,i (-2147483648),i 2147483647,u 0,u 0,u 0,u 4294967295,i (-2147483648),i 2147483647,u 4294967280,u 15,u 15,u 15,i 15,i 15,u 4294967280,u 15,u 15,u 15,i 15,i 15,u 4294967280,u 0,u 0,u 15,i 0,i 15,u 4294967280,u 0,u 0,u 15,i 0,i 15,u 4294967040,u 0,u 0,u 225,i 0,i 225],6)],dt (iw r7) (.tuple #[IZ,i 0]),oG r7 (r7.drop 1) (B6.drop 1)⟩
theorem k7 (ρ : List Nat) : jl (m7 ρ):=⟨⟨_,Tryz.func106,by kernel_rfl⟩,_,aL aC.orders aC.names aC.prog bk 300,aP Tryz.prog 1 sd bk (by kernel_rfl) (Nat.le_of_ble_eq_true (by kernel_rfl)) (by kernel_rfl) (by kernel_rfl) (by kernel_rfl) (by kernel_rfl)⟩
def r8 : List Nat:=[0,20,22,24,26,28,42,30,32,34,36,38,40]
def m8 (ρ : List Nat) : cm:=⟨106,ρ,[IZ,LL,s 13 0 7 K],B6 ++ [([u 0,u 0,u 0,u 4294967295,i (-2147483648),i 2147483647,u 0,u 0,u 0,u 4294967295,i (-2147483648),i 2147483647,u 4294967280,u 15,u 15,u 15,i 15,i 15,u 4294967280,u 15,u 15,u 15,i 15,i 15,u 4294967280,u 0,u 0,u 15,i 0,i 15,u 4294967280,u 0,u 0,u 15,i 0,i 15,u 4294967040,u 0,u 0,u 225,i 0,i 225],6)],dt (iw r8) (.tuple #[IZ,i 0]),oG r8 (r8.drop 1) (B7.drop 1)⟩
theorem k8 (ρ : List Nat) : jl (m8 ρ):=⟨⟨_,Tryz.func106,by kernel_rfl⟩,_,aL aC.orders aC.names aC.prog bk 300,aP Tryz.prog 1 sd bk (by kernel_rfl) (Nat.le_of_ble_eq_true (by kernel_rfl)) (by kernel_rfl) (by kernel_rfl) (by kernel_rfl) (by kernel_rfl)⟩
def r9 : List Nat:=[0,53,23,25,27,55,43,31,33,35,37,51,39,41]
def m9 (ρ : List Nat) : cm:=⟨106,ρ,[IZ,LM,s 14 0 7 K],B7 ++ [([i 1],1),([u 0,u 0,u 0,u 4294967295,i (-2147483648),i 2147483647,u 0,u 0,u 0,u 4294967295,i (-2147483648),i 2147483647,u 4294967280,u 15,u 15,u 15,i 15,i 15,u 4294967280,u 15,u 15,u 15,i 15,i 15,u 4294967280,u 0,u 0,u 15,i 0,i 15,u 4294967280,u 0,u 0,u 15,i 0,i 15,u 4294967040,u 0,u 0,u 225,i 0,i 225],6)],dt (iw r9) (.tuple #[KK,i 0]),oG r9 (r9.drop 1) (B8.drop 1)⟩
theorem k9 (ρ : List Nat) : jl (m9 ρ):=⟨⟨_,Tryz.func106,by kernel_rfl⟩,_,aL aC.orders aC.names aC.prog bk 300,aP Tryz.prog 1 sd bk (by kernel_rfl) (Nat.le_of_ble_eq_true (by kernel_rfl)) (by kernel_rfl) (by kernel_rfl) (by kernel_rfl) (by kernel_rfl)⟩
def r10 : List Nat:=[0,51,23,25,27,53,45,31,33,35,37,39,41,43]
def K9 (ρ : List Nat) : cm:=⟨106,ρ,[KK,LN,s 14 0 7 K],B8 ++ [([u 0,u 0,u 0,u 4294967295,i (-2147483648),i 2147483647,u 0,u 0,u 0,u 4294967295,i (-2147483648),i 2147483647,u 4294967280,u 15,u 15,u 15,i 15,i 15,u 4294967280,u 15,u 15,u 15,i 15,i 15,u 4294967280,u 0,u 0,u 15,i 0,i 15,u 4294967280,u 0,u 0,u 15,i 0,i 15,u 4294967040,u 0,u 0,u 225,i 0,i 225],6)],dt (iw r10) (.tuple #[KL,i 0]),oG r10 (r10.drop 1) (B9.drop 1)⟩
theorem k10 (ρ : List Nat) : jl (K9 ρ):=⟨⟨_,Tryz.func106,by kernel_rfl⟩,_,aL aC.orders aC.names aC.prog bk 300,aP Tryz.prog 1 sd bk (by kernel_rfl) (Nat.le_of_ble_eq_true (by kernel_rfl)) (by kernel_rfl) (by kernel_rfl) (by kernel_rfl) (by kernel_rfl)⟩
def r11 : List Nat:=[0,58,24,26,28,60,46,32,34,36,38,40,56,42,44]
def La (ρ : List Nat) : cm:=⟨106,ρ,[KL,LO,s 15 0 7 K],B9 ++ [([i 11,i 12],1),([u 0,u 0,u 0,u 4294967295,i (-2147483648),i 2147483647,u 0,u 0,u 0,u 4294967295,i (-2147483648),i 2147483647,u 4294967280,u 15,u 15,u 15,i 15,i 15,u 4294967280,u 15,u 15,u 15,i 15,i 15,u 4294967280,u 0,u 0,u 15,i 0,i 15,u 4294967280,u 0,u 0,u 15,i 0,i 15,u 4294967040,u 0,u 0,u 225,i 0,i 225],6)],dt (iw r11) (.tuple #[KM,i 0]),oG r11 (r11.drop 1) (KQ.drop 1)⟩
theorem k11 (ρ : List Nat) : jl (La ρ):=⟨⟨_,Tryz.func106,by kernel_rfl⟩,_,aL aC.orders aC.names aC.prog bk 300,aP Tryz.prog 1 sd bk (by kernel_rfl) (Nat.le_of_ble_eq_true (by kernel_rfl)) (by kernel_rfl) (by kernel_rfl) (by kernel_rfl) (by kernel_rfl)⟩
def J3 : List Nat:=[0,59,25,27,29,61,49,33,35,37,39,41,43,57,45,47]
def Lb (ρ : List Nat) : cm:=⟨106,ρ,[KM,LP,s 16 0 7 K],KQ ++ [([i 13],1),([u 0,u 0,u 0,u 4294967295,i (-2147483648),i 2147483647,u 0,u 0,u 0,u 4294967295,i (-2147483648),i 2147483647,u 4294967280,u 15,u 15,u 15,i 15,i 15,u 4294967280,u 15,u 15,u 15,i 15,i 15,u 4294967280,u 0,u 0,u 15,i 0,i 15,u 4294967280,u 0,u 0,u 15,i 0,i 15,u 4294967040,u 0,u 0,u 225,i 0,i 225],6)],dt (iw J3) (.tuple #[I0,i 0]),oG J3 (J3.drop 1) (KR.drop 1)⟩
theorem L6 (ρ : List Nat) : jl (Lb ρ):=⟨⟨_,Tryz.func106,by kernel_rfl⟩,_,aL aC.orders aC.names aC.prog bk 300,aP Tryz.prog 1 sd bk (by kernel_rfl) (Nat.le_of_ble_eq_true (by kernel_rfl)) (by kernel_rfl) (by kernel_rfl) (by kernel_rfl) (by kernel_rfl)⟩
def J4 : List Nat:=[0,23,25,27,29,31,51,33,35,37,39,41,43,45,47,49]
def Lc (ρ : List Nat) : cm:=⟨106,ρ,[I0,LQ,s 16 0 7 K],KR ++ [([u 0,u 0,u 0,u 4294967295,i (-2147483648),i 2147483647,u 0,u 0,u 0,u 4294967295,i (-2147483648),i 2147483647,u 4294967280,u 15,u 15,u 15,i 15,i 15,u 4294967280,u 15,u 15,u 15,i 15,i 15,u 4294967280,u 0,u 0,u 15,i 0,i 15,u 4294967280,u 0,u 0,u 15,i 0,i 15,u 4294967040,u 0,u 0,u 225,i 0,i 225],6)],dt (iw J4) (.tuple #[I0,i 0]),oG J4 (J4.drop 1) (KS.drop 1)⟩
theorem L7 (ρ : List Nat) : jl (Lc ρ):=⟨⟨_,Tryz.func106,by kernel_rfl⟩,_,aL aC.orders aC.names aC.prog bk 300,aP Tryz.prog 1 sd bk (by kernel_rfl) (Nat.le_of_ble_eq_true (by kernel_rfl)) (by kernel_rfl) (by kernel_rfl) (by kernel_rfl) (by kernel_rfl)⟩
def J5 : List Nat:=[0,62,26,28,30,64,52,34,36,38,40,42,44,46,48,60,50]
def Ld (ρ : List Nat) : cm:=⟨106,ρ,[I0,LR,s 17 0 7 K],KS ++ [([i 10],1),([u 0,u 0,u 0,u 4294967295,i (-2147483648),i 2147483647,u 0,u 0,u 0,u 4294967295,i (-2147483648),i 2147483647,u 4294967280,u 15,u 15,u 15,i 15,i 15,u 4294967280,u 15,u 15,u 15,i 15,i 15,u 4294967280,u 0,u 0,u 15,i 0,i 15,u 4294967280,u 0,u 0,u 15,i 0,i 15,u 4294967040,u 0,u 0,u 225,i 0,i 225],6)],dt (iw J5) (.tuple #[KN,i 0]),oG J5 (J5.drop 1) (KT.drop 1)⟩
theorem L8 (ρ : List Nat) : jl (Ld ρ):=⟨⟨_,Tryz.func106,by kernel_rfl⟩,_,aL aC.orders aC.names aC.prog bk 300,aP Tryz.prog 1 sd bk (by kernel_rfl) (Nat.le_of_ble_eq_true (by kernel_rfl)) (by kernel_rfl) (by kernel_rfl) (by kernel_rfl) (by kernel_rfl)⟩
def J6 : List Nat:=[0,65,27,29,31,67,55,35,37,39,41,43,45,47,49,51,63,53]
def Le (ρ : List Nat) : cm:=⟨106,ρ,[KN,LS,s 18 0 7 K],KT ++ [([i 14],1),([u 0,u 0,u 0,u 4294967295,i (-2147483648),i 2147483647,u 0,u 0,u 0,u 4294967295,i (-2147483648),i 2147483647,u 4294967280,u 15,u 15,u 15,i 15,i 15,u 4294967280,u 15,u 15,u 15,i 15,i 15,u 4294967280,u 0,u 0,u 15,i 0,i 15,u 4294967280,u 0,u 0,u 15,i 0,i 15,u 4294967040,u 0,u 0,u 225,i 0,i 225],6)],dt (iw J6) (.tuple #[KO,i 0]),oG J6 (J6.drop 1) (KU.drop 1)⟩
theorem L9 (ρ : List Nat) : jl (Le ρ):=⟨⟨_,Tryz.func106,by kernel_rfl⟩,_,aL aC.orders aC.names aC.prog bk 300,aP Tryz.prog 1 sd bk (by kernel_rfl) (Nat.le_of_ble_eq_true (by kernel_rfl)) (by kernel_rfl) (by kernel_rfl) (by kernel_rfl) (by kernel_rfl)⟩
def J7 : List Nat:=[0,70,28,30,32,72,58,36,38,40,42,44,46,48,50,52,54,68,56]
def Lf (ρ : List Nat) : cm:=⟨106,ρ,[KO,LT,s 19 0 7 K],KU ++ [([i 15,i 16],1),([u 0,u 0,u 0,u 4294967295,i (-2147483648),i 2147483647,u 0,u 0,u 0,u 4294967295,i (-2147483648),i 2147483647,u 4294967280,u 15,u 15,u 15,i 15,i 15,u 4294967280,u 15,u 15,u 15,i 15,i 15,u 4294967280,u 0,u 0,u 15,i 0,i 15,u 4294967280,u 0,u 0,u 15,i 0,i 15,u 4294967040,u 0,u 0,u 225,i 0,i 225],6)],dt (iw J7) (.tuple #[KP,i 0]),oG J7 (J7.drop 1) (KV.drop 1)⟩
theorem Ma (ρ : List Nat) : jl (Lf ρ):=⟨⟨_,Tryz.func106,by kernel_rfl⟩,_,aL aC.orders aC.names aC.prog bk 300,aP Tryz.prog 1 sd bk (by kernel_rfl) (Nat.le_of_ble_eq_true (by kernel_rfl)) (by kernel_rfl) (by kernel_rfl) (by kernel_rfl) (by kernel_rfl)⟩
def J8 : List Nat:=[0,71,29,31,33,73,61,37,39,41,43,45,47,49,51,53,55,57,69,59]
def Lg (ρ : List Nat) : cm:=⟨106,ρ,[KP,LU,s 20 0 7 K],KV ++ [([i 17],1),([u 0,u 0,u 0,u 4294967295,i (-2147483648),i 2147483647,u 0,u 0,u 0,u 4294967295,i (-2147483648),i 2147483647,u 4294967280,u 15,u 15,u 15,i 15,i 15,u 4294967280,u 15,u 15,u 15,i 15,i 15,u 4294967280,u 0,u 0,u 15,i 0,i 15,u 4294967280,u 0,u 0,u 15,i 0,i 15,u 4294967040,u 0,u 0,u 225,i 0,i 225],6)],dt (iw J8) (.tuple #[yg,i 0]),oG J8 (J8.drop 1) (KW.drop 1)⟩
theorem Mb (ρ : List Nat) : jl (Lg ρ):=⟨⟨_,Tryz.func106,by kernel_rfl⟩,_,aL aC.orders aC.names aC.prog bk 300,aP Tryz.prog 1 sd bk (by kernel_rfl) (Nat.le_of_ble_eq_true (by kernel_rfl)) (by kernel_rfl) (by kernel_rfl) (by kernel_rfl) (by kernel_rfl)⟩
def J9 : List Nat:=[0,27,29,31,33,35,63,37,39,41,43,45,47,49,51,53,55,57,59,61]
def Lh (ρ : List Nat) : cm:=⟨106,ρ,[yg,LV,s 20 0 7 K],KW ++ [([u 0,u 0,u 0,u 4294967295,i (-2147483648),i 2147483647,u 0,u 0,u 0,u 4294967295,i (-2147483648),i 2147483647,u 4294967280,u 15,u 15,u 15,i 15,i 15,u 4294967280,u 15,u 15,u 15,i 15,i 15,u 4294967280,u 0,u 0,u 15,i 0,i 15,u 4294967280,u 0,u 0,u 15,i 0,i 15,u 4294967040,u 0,u 0,u 225,i 0,i 225],6)],dt (iw J9) (.tuple #[yg,i 0]),oG J9 (J9.drop 1) (KX.drop 1)⟩
theorem Mc (ρ : List Nat) : jl (Lh ρ):=⟨⟨_,Tryz.func106,by kernel_rfl⟩,_,aL aC.orders aC.names aC.prog bk 300,aP Tryz.prog 1 sd bk (by kernel_rfl) (Nat.le_of_ble_eq_true (by kernel_rfl)) (by kernel_rfl) (by kernel_rfl) (by kernel_rfl) (by kernel_rfl)⟩
def Ka : List Nat:=[0,27,29,31,33,35,63,37,39,41,43,45,47,49,51,53,55,57,59]
def Li (ρ : List Nat) : cm:=⟨106,ρ,[yg,LW,s 20 0 7 K],KX ++ [([u 0,u 0,u 0,u 4294967295,i (-2147483648),i 2147483647,u 0,u 0,u 0,u 4294967295,i (-2147483648),i 2147483647,u 4294967280,u 15,u 15,u 15,i 15,i 15,u 4294967280,u 15,u 15,u 15,i 15,i 15,u 4294967280,u 0,u 0,u 15,i 0,i 15,u 4294967280,u 0,u 0,u 15,i 0,i 15,u 4294967040,u 0,u 0,u 225,i 0,i 225],6)],dt (iw Ka) (.tuple #[yg,i 0]),oG Ka (Ka.drop 1) (KY.drop 1)⟩
theorem Md (ρ : List Nat) : jl (Li ρ):=⟨⟨_,Tryz.func106,by kernel_rfl⟩,_,aL aC.orders aC.names aC.prog bk 300,aP Tryz.prog 1 sd bk (by kernel_rfl) (Nat.le_of_ble_eq_true (by kernel_rfl)) (by kernel_rfl) (by kernel_rfl) (by kernel_rfl) (by kernel_rfl)⟩
def Kc : List Nat:=[0,26,28,30,32,34,60,36,38,40,42,44,46,48,52,54,56,58]
def Lj (ρ : List Nat) : cm:=⟨106,ρ,[yg,LX,s 19 0 7 K],KY ++ [([u 0,u 0,u 0,u 4294967295,i (-2147483648),i 2147483647,u 0,u 0,u 0,u 4294967295,i (-2147483648),i 2147483647,u 4294967280,u 15,u 15,u 15,i 15,i 15,u 4294967280,u 15,u 15,u 15,i 15,i 15,u 4294967280,u 0,u 0,u 15,i 0,i 15,u 4294967280,u 0,u 0,u 15,i 0,i 15,u 4294967040,u 0,u 0,u 225,i 0,i 225],6)],dt (iw Kc) (.tuple #[yg,i 0]),oG Kc (Kc.drop 1) (KZ.drop 1)⟩
theorem Me (ρ : List Nat) : jl (Lj ρ):=⟨⟨_,Tryz.func106,by kernel_rfl⟩,_,aL aC.orders aC.names aC.prog bk 300,aP Tryz.prog 1 sd bk (by kernel_rfl) (Nat.le_of_ble_eq_true (by kernel_rfl)) (by kernel_rfl) (by kernel_rfl) (by kernel_rfl) (by kernel_rfl)⟩
def Kd : List Nat:=[0,25,27,29,31,33,57,35,37,39,43,45,47,49,51,53,55]
def Lk (ρ : List Nat) : cm:=⟨106,ρ,[yg,LY,s 18 0 7 K],KZ ++ [([u 0,u 0,u 0,u 4294967295,i (-2147483648),i 2147483647,u 0,u 0,u 0,u 4294967295,i (-2147483648),i 2147483647,u 4294967280,u 15,u 15,u 15,i 15,i 15,u 4294967280,u 15,u 15,u 15,i 15,i 15,u 4294967280,u 0,u 0,u 15,i 0,i 15,u 4294967280,u 0,u 0,u 15,i 0,i 15,u 4294967040,u 0,u 0,u 225,i 0,i 225],6)],dt (iw Kd) (.tuple #[yg,i 0]),oG Kd (Kd.drop 1) (K5.drop 1)⟩
theorem Mf (ρ : List Nat) : jl (Lk ρ):=⟨⟨_,Tryz.func106,by kernel_rfl⟩,_,aL aC.orders aC.names aC.prog bk 300,aP Tryz.prog 1 sd bk (by kernel_rfl) (Nat.le_of_ble_eq_true (by kernel_rfl)) (by kernel_rfl) (by kernel_rfl) (by kernel_rfl) (by kernel_rfl)⟩
def Kf : List Nat:=[0,24,26,28,30,32,54,34,36,38,40,42,44,46,48,50,52]
def Ll (ρ : List Nat) : cm:=⟨106,ρ,[yg,LZ,s 17 0 7 K],K5 ++ [([u 0,u 0,u 0,u 4294967295,i (-2147483648),i 2147483647,u 0,u 0,u 0,u 4294967295,i (-2147483648),i 2147483647,u 4294967280,u 15,u 15,u 15,i 15,i 15,u 4294967280,u 15,u 15,u 15,i 15,i 15,u 4294967280,u 0,u 0,u 15,i 0,i 15,u 4294967280,u 0,u 0,u 15,i 0,i 15,u 4294967040,u 0,u 0,u 225,i 0,i 225],6)],dt (iw Kf) (.tuple #[yg,i 0]),oG Kf (Kf.drop 1) (K6.drop 1)⟩
theorem Mg (ρ : List Nat) : jl (Ll ρ):=⟨⟨_,Tryz.func106,by kernel_rfl⟩,_,aL aC.orders aC.names aC.prog bk 300,aP Tryz.prog 1 sd bk (by kernel_rfl) (Nat.le_of_ble_eq_true (by kernel_rfl)) (by kernel_rfl) (by kernel_rfl) (by kernel_rfl) (by kernel_rfl)⟩
def Kh : List Nat:=[0,24,26,28,30,32,54,34,36,38,40,42,44,46,48,50,52]
def Lm (ρ : List Nat) : cm:=⟨106,ρ,[yg,L0,s 17 0 7 K],K6 ++ [([u 0,u 0,u 0,u 4294967295,i (-2147483648),i 2147483647,u 0,u 0,u 0,u 4294967295,i (-2147483648),i 2147483647,u 4294967280,u 15,u 15,u 15,i 15,i 15,u 4294967280,u 15,u 15,u 15,i 15,i 15,u 4294967280,u 0,u 0,u 15,i 0,i 15,u 4294967280,u 0,u 0,u 15,i 0,i 15,u 4294967040,u 0,u 0,u 225,i 0,i 225],6)],dt (iw Kh) (.tuple #[yg,i 0]),oG Kh (Kh.drop 1) (K7.drop 1)⟩
theorem Mh (ρ : List Nat) : jl (Lm ρ):=⟨⟨_,Tryz.func106,by kernel_rfl⟩,_,aL aC.orders aC.names aC.prog bk 300,aP Tryz.prog 1 sd bk (by kernel_rfl) (Nat.le_of_ble_eq_true (by kernel_rfl)) (by kernel_rfl) (by kernel_rfl) (by kernel_rfl) (by kernel_rfl)⟩
def Iv (ρ : List Nat) : cm:=⟨133,ρ,[i 24,i 4,s 1 0 1 K,s 2 0 1 K,u 0],B0 ++ [([i 32],1),([u 0,u 0,u 0,u 4294967295,i (-2147483648),i 2147483647],6)],.agg #[u 0,u 0,u 0,u 15,i (-8),i 7],[]⟩
theorem I1 (ρ : List Nat) : jl (Iv ρ):=⟨⟨_,Tryz.func133,by kernel_rfl⟩,_,aL aC.orders aC.names aC.prog bk 300,aP Tryz.prog 1 sd bk (by kernel_rfl) (Nat.le_of_ble_eq_true (by kernel_rfl)) (by kernel_rfl) (by kernel_rfl) (by kernel_rfl) (by kernel_rfl)⟩
def Iw (ρ : List Nat) : cm:=⟨133,ρ,[i 1,i 4,vn,vn,u 15],B0,L1,[]⟩
theorem I2 (ρ : List Nat) : jl (Iw ρ):=⟨⟨_,Tryz.func133,by kernel_rfl⟩,_,aL aC.orders aC.names aC.prog bk 300,aP Tryz.prog 1 sd bk (by kernel_rfl) (Nat.le_of_ble_eq_true (by kernel_rfl)) (by kernel_rfl) (by kernel_rfl) (by kernel_rfl) (by kernel_rfl)⟩
def Iy (ρ : List Nat) : cm:=⟨133,ρ,[i 9,i 4,s 1 0 2 K,s 2 0 2 K,u 0],B0 ++ [([i 4,i 4],1),([u 0,u 0,u 0,u 15,i (-8),i 7,u 0,u 15,u 15,u 15,i (-1),i (-1)],6)],.agg #[u 0,u 0,u 0,u 15,i (-8),i 7],[]⟩
theorem I3 (ρ : List Nat) : jl (Iy ρ):=⟨⟨_,Tryz.func133,by kernel_rfl⟩,_,aL aC.orders aC.names aC.prog bk 300,aP Tryz.prog 1 sd bk (by kernel_rfl) (Nat.le_of_ble_eq_true (by kernel_rfl)) (by kernel_rfl) (by kernel_rfl) (by kernel_rfl) (by kernel_rfl)⟩
def Iz (ρ : List Nat) : cm:=⟨133,ρ,[i 22,i 32,s 1 0 1 K,s 2 0 1 K,u 0],B0 ++ [([i 4],1),([u 0,u 0,u 0,u 15,i (-8),i 7],6)],V1,[]⟩
theorem I4 (ρ : List Nat) : jl (Iz ρ):=⟨⟨_,Tryz.func133,by kernel_rfl⟩,_,aL aC.orders aC.names aC.prog bk 300,aP Tryz.prog 1 sd bk (by kernel_rfl) (Nat.le_of_ble_eq_true (by kernel_rfl)) (by kernel_rfl) (by kernel_rfl) (by kernel_rfl) (by kernel_rfl)⟩
def IA (ρ : List Nat) : cm:=⟨133,ρ,[i 24,i 8,s 1 0 1 K,s 2 0 1 K,u 0],B0 ++ [([i 32],1),([u 4294967280,u 0,u 0,u 15,i 0,i 15],6)],.agg #[u 240,u 0,u 0,u 15,i 0,i 15],[]⟩
theorem I5 (ρ : List Nat) : jl (IA ρ):=⟨⟨_,Tryz.func133,by kernel_rfl⟩,_,aL aC.orders aC.names aC.prog bk 300,aP Tryz.prog 1 sd bk (by kernel_rfl) (Nat.le_of_ble_eq_true (by kernel_rfl)) (by kernel_rfl) (by kernel_rfl) (by kernel_rfl) (by kernel_rfl)⟩
def Ki (ρ : List Nat) : cm:=⟨133,ρ,[i 4,i 8,s 1 0 2 K,s 2 0 2 K,u 0],B0 ++ [([i 8,i 8],1),([u 240,u 0,u 0,u 15,i 0,i 15,u 240,u 0,u 0,u 15,i 0,i 15],6)],L4,[]⟩
theorem Ln (ρ : List Nat) : jl (Ki ρ):=⟨⟨_,Tryz.func133,by kernel_rfl⟩,_,aL aC.orders aC.names aC.prog bk 300,aP Tryz.prog 1 sd bk (by kernel_rfl) (Nat.le_of_ble_eq_true (by kernel_rfl)) (by kernel_rfl) (by kernel_rfl) (by kernel_rfl) (by kernel_rfl)⟩
def Kj (ρ : List Nat) : cm:=⟨133,ρ,[i 22,i 32,s 1 0 1 K,s 2 0 1 K,u 0],B0 ++ [([i 8],1),([u 0,u 0,u 0,u 225,i (-128),i 127],6)],V2,[]⟩
theorem Lo (ρ : List Nat) : jl (Kj ρ):=⟨⟨_,Tryz.func133,by kernel_rfl⟩,_,aL aC.orders aC.names aC.prog bk 300,aP Tryz.prog 1 sd bk (by kernel_rfl) (Nat.le_of_ble_eq_true (by kernel_rfl)) (by kernel_rfl) (by kernel_rfl) (by kernel_rfl) (by kernel_rfl)⟩
def Kk : List Nat:=[0,58]
def Lp (ρ : List Nat) : cm:=⟨26,ρ,[yg],K7,dt (iw Kk) (s 1 0 19 K),oG Kk (Kk.drop 1) (L5.drop 1)⟩
def E8 : List (FuncId × Nat × cm):=[(133,84,Iv [0,81,83]),(133,81,Iw [0]),(133,90,Iy [0,88,89]),(133,87,Iz [0,84,86]),(133,88,Iv [0,85,87]),(133,85,Iw [0]),(133,94,Iy [0,92,93]),(133,91,Iz [0,88,90]),(133,92,IA [0,89,91]),(133,93,IA [0,90,92]),(133,98,Ki [0,96,97]),(133,95,Kj [0,92,94]),(133,107,Iv [0,104,106]),(133,104,Iw [0]),(133,113,Iy [0,111,112]),(133,110,Iz [0,107,109]),(133,111,Iv [0,108,110]),(133,108,Iw [0]),(133,117,Iy [0,115,116]),(133,114,Iz [0,111,113]),(133,115,IA [0,112,114]),(133,116,IA [0,113,115]),(133,121,Ki [0,119,120]),(133,118,Kj [0,115,117])]
def IB : Sd:=⟨zi,fun f k => cond (Nat.beq f 133) (jU f k E8) none⟩
theorem yh : ku Tryz.prog 1 IB:=rB (t:=E8) ⟨I1 _,I2 _,I3 _,I4 _,I1 _,I2 _,I3 _,I4 _,I5 _,I5 _,Ln _,Lo _,I1 _,I2 _,I3 _,I4 _,I1 _,I2 _,I3 _,I4 _,I5 _,I5 _,Ln _,Lo _,trivial⟩ (fun f k m h => (ah h).2)
theorem Mj (ρ : List Nat) : jl (Lp ρ):=⟨⟨_,Tryz.func26,by kernel_rfl⟩,_,aL aC.orders aC.names aC.prog yh 300,aP Tryz.prog 1 IB yh (by kernel_rfl) (Nat.le_of_ble_eq_true (by kernel_rfl)) (by kernel_rfl) (by kernel_rfl) (by kernel_rfl) (by kernel_rfl)⟩
def Lq : List (FuncId × Nat × cm):=[(26,36,m3 [0,18,20,22,24,26,34,28,30,32]),(106,50,m4 [0,18,20,22,24,26,34,28,30,32,48,36]),(106,65,m5 [0,50,51,52,53,54,55,56,57,58,59,36]),(106,80,m6 [0,65,66,67,68,69,70,71,72,73,74,78,36]),(106,96,m7 [0,80,81,82,83,84,85,86,87,88,89,90,94,36]),(106,112,m8 [0,96,97,98,99,100,101,102,103,104,105,106,107,36]),(106,134,m9 [0,112,113,114,115,116,117,118,119,120,121,122,123,132,36]),(106,152,K9 [0,134,135,136,137,138,139,140,141,142,143,144,145,146,36]),(106,170,La [0,152,153,154,155,156,157,158,159,160,161,162,163,164,168,36]),(106,189,Lb [0,170,171,172,173,174,175,176,177,178,179,180,181,182,183,187,36]),(106,208,Lc [0,189,190,191,192,193,194,195,196,197,198,199,200,201,202,203,36]),(106,234,Ld [0,208,209,210,211,212,213,214,215,216,217,218,219,220,221,222,232,36]),(106,257,Le [0,234,235,236,237,238,239,240,241,242,243,244,245,246,247,248,249,255,36]),(106,279,Lf [0,257,258,259,260,261,262,263,264,265,266,267,268,269,270,271,272,273,277,36]),(106,302,Lg [0,279,280,281,282,283,284,285,286,287,288,289,290,291,292,293,294,295,296,300,36]),(106,325,Lh [0,302,303,304,305,306,307,308,309,310,311,312,313,314,315,316,317,318,319,320,36]),(106,349,Li [0,325,326,327,328,329,330,331,332,333,334,335,336,337,338,339,340,341,342,343,36]),(106,376,Lj [0,349,350,351,352,353,354,355,356,357,358,359,360,361,362,363,364,365,366,36]),(106,402,Lk [0,376,377,378,379,380,381,382,383,384,385,386,387,388,389,390,391,392,36]),(106,427,Ll [0,402,403,404,405,406,407,408,409,410,411,412,413,414,415,416,417,36]),(106,448,Lm [0,427,428,429,430,431,432,433,434,435,436,437,438,439,440,441,442,36]),(26,469,Lp [0,448,449,450,451,452,453,454,455,456,457,458,459,460,461,462,463])]
def side : Sd:=⟨zi,fun f k => cond (Nat.beq f 26 || Nat.beq f 106) (jU f k Lq) none⟩
theorem side_ok : ku Tryz.prog 1 side:=rB (t:=Lq) ⟨k3 _,k4 _,k5 _,k6 _,k7 _,k8 _,k9 _,k10 _,k11 _,L6 _,L7 _,L8 _,L9 _,Ma _,Mb _,Mc _,Md _,Me _,Mf _,Mg _,Mh _,Mj _,trivial⟩ (fun f k m h => (ah h).2)
end Go.Proofs.YtjdomdndflfjdabGreatDoor.Mm
namespace Go.Proofs.YtjdomdndflfjdabGreatDoor
open Go Go.Proofs Go.Proofs.YtjdomdndflfjdabGreatDoor.X
set_option maxRecDepth 100000
abbrev side : Sd:=Mm.side
theorem side_ok : ku Tryz.prog 1 side:=Mm.side_ok
theorem Hr : (ze Tryz.prog 1 Mm.side 300 4 [] gi fun v _ => some (v,gi)) = some (.bool true,gi):=by kernel_rfl
theorem Hs : ∃ h',jn Tryz.prog 1 side 300 4 [] gi = some (.bool true,h'):=zf Tryz.prog 1 side side_ok Hr
end Go.Proofs.YtjdomdndflfjdabGreatDoor
