/- Joined texts: TA. -/
import Derived.KernelRfl
import Derived.Test.YtjdomdndflfjdabGreatDoorYA
import Derived.Test.YtjdomdndflfjdabGreatDoorProg
namespace Go.Proofs.YtjdomdndflfjdabGreatDoor.Kb
open Go Go.Proofs Go.Proofs.YtjdomdndflfjdabGreatDoor Go.Proofs.YtjdomdndflfjdabGreatDoor.X
set_option maxRecDepth 100000
set_option linter.unusedVariables false
def jB : List (List Nat × List Nat):=[]
theorem Fx {n : Nat} {f_0a : ByteArray} {f_0b : Option Addr} {f_0bn f_0bc : Nat} {f_0c : Option Addr} {f_0cn f_0cc : Nat} {f_0d : Option Addr} {f_0dn f_0dc : Nat} {f_0e : Option Addr} {f_0en f_0ec : Nat} {f_0f : Option Addr} {f_0fn f_0fc : Nat} {v_1 : Int} {h : AH} {r : Go.Value × AH} (hv :
( ((aF (setLow h h.next) [(.string f_0a),(.slice f_0b f_0bn f_0bc),(.slice f_0c f_0cn f_0cc),(.slice f_0d f_0dn f_0dc),(.slice f_0e f_0en f_0ec),(.slice f_0f f_0fn f_0fc)] 0)).bind fun p0 =>
 cond (bS 0 v_1)
 (((gL (rdC p0.2 (Addr.add ⟨p0.1,0,none⟩ 1) 0))).bind fun p1 =>
 some (ai h p0.2 (.bool (bZ v_1 (Int.ofNat p1.2.1)))))
 (some (ai h p0.2 (.bool false)))) = some r) : az Tryz.prog (n + 1) 16 [(.agg #[(.string f_0a),(.slice f_0b f_0bn f_0bc),(.slice f_0c f_0cn f_0cc),(.slice f_0d f_0dn f_0dc),(.slice f_0e f_0en f_0ec),(.slice f_0f f_0fn f_0fc)]),(.int .i64 v_1)] h = some r:=eO (plan:=jB) (by kernel_rfl) hv
def gQ : List (List Nat × List Nat):=[([1,1,1,0,0,1],[0,6]),([1,1,1,1,1,0,0,1],[0,13])]
 noncomputable def sX (n : Nat) (h0 : AH) (op_0 : Int) (t_6 : Bool) (h : AH) : Option (Go.Value × AH):=aO Tryz.prog n Tryz.f17 h0 (.code (aB (av Tryz.f17) [1,0,0,1,1,1]) [1,1,1,0,0,1]) [.block 0,.seq (aB (av Tryz.f17) [1,1]) [1,1]] (E [(0,.int .i64 op_0),(6,.bool t_6)]) h
 noncomputable def wI (n : Nat) (h0 : AH) (op_0 : Int) (t_13 : Bool) (h : AH) : Option (Go.Value × AH):=aO Tryz.prog n Tryz.f17 h0 (.code (aB (av Tryz.f17) [1,0,0,1,1,1,1,1]) [1,1,1,1,1,0,0,1]) [.block 0,.seq (aB (av Tryz.f17) [1,1]) [1,1]] (E [(0,.int .i64 op_0),(13,.bool t_13)]) h
theorem Fz {n : Nat} {op_0 : Int} {h : AH} {r : Go.Value × AH} (hv :
( cond (aX op_0 1)
 (some (ai h (setLow h h.next) (.int .i64 0)))
 (((az Tryz.prog n 46 [(.int .i64 op_0)] (setLow h h.next))).bind fun p0 =>
 ((gB (some p0.1))).bind fun b1 =>
 cond b1
 (sX n h op_0 true p0.2)
 (cond (aX op_0 25)
 (sX n h op_0 true p0.2)
 (sX n h op_0 (aX op_0 28) p0.2)))) = some r) : az Tryz.prog (n + 1) 17 [(.int .i64 op_0)] h = some r:=eO (plan:=gQ) (by kernel_rfl) hv
theorem As {n : Nat} {h0 : AH} {op_0 : Int} {t_6 : Bool} {h : AH} {r : Go.Value × AH} (hv :
( cond t_6
 (some (ai h0 h (.int .i64 2)))
 (cond (aX op_0 21)
 (wI n h0 op_0 true h)
 (wI n h0 op_0 (aX op_0 26) h))) = some r) : sX n h0 op_0 t_6 h = some r:=fO (plan:=gQ) (by kernel_rfl) hv
theorem Au {n : Nat} {h0 : AH} {op_0 : Int} {t_13 : Bool} {h : AH} {r : Go.Value × AH} (hv :
( cond t_13
 (some (ai h0 h (.int .i64 3)))
 (cond (aX op_0 22)
 (some (ai h0 h (.int .i64 1)))
 (cond (aX op_0 23)
 (some (ai h0 h (.int .i64 1)))
 (cond (aX op_0 24)
 (some (ai h0 h (.int .i64 1)))
 (cond (aX op_0 27)
 (some (ai h0 h (.int .i64 1)))
 (some (ai h0 h (.int .i64 (-1))))))))) = some r) : wI n h0 op_0 t_13 h = some r:=fO (plan:=gQ) (by kernel_rfl) hv
def lu : List (List Nat × List Nat):=[]
theorem FA {n : Nat} {op_0 : Int} {h : AH} {r : Go.Value × AH} (hv :
( ((az Tryz.prog n 17 [(.int .i64 op_0)] (setLow h h.next))).bind fun p0 =>
 ((gI .i64 (some p0.1))).bind fun n1 =>
 cond (bS 0 n1)
 (cond (gz op_0 26)
 (some (ai h p0.2 (.bool (gz op_0 28))))
 (some (ai h p0.2 (.bool false))))
 (some (ai h p0.2 (.bool false)))) = some r) : az Tryz.prog (n + 1) 19 [(.int .i64 op_0)] h = some r:=eO (plan:=lu) (by kernel_rfl) hv
def HM : List (List Nat × List Nat):=[]
theorem FB {n : Nat} {w_0 : Int} {h : AH} {r : Go.Value × AH} (hv :
( cond (bS 1 w_0)
 (some (ai h (setLow h h.next) (.bool (bS w_0 64))))
 (some (ai h (setLow h h.next) (.bool false)))) = some r) : az Tryz.prog (n + 1) 45 [(.int .i64 w_0)] h = some r:=eO (plan:=HM) (by kernel_rfl) hv
def uw : List (List Nat × List Nat):=[]
theorem FC {n : Nat} {op_0 : Int} {h : AH} {r : Go.Value × AH} (hv :
( cond (bS 2 op_0)
 (some (ai h (setLow h h.next) (.bool (bS op_0 20))))
 (some (ai h (setLow h h.next) (.bool false)))) = some r) : az Tryz.prog (n + 1) 46 [(.int .i64 op_0)] h = some r:=eO (plan:=uw) (by kernel_rfl) hv
def IT : List (List Nat × List Nat):=[]
theorem FD {n : Nat} {w_0 x_1 : Int} {h : AH} {r : Go.Value × AH} (hv :
( ((az Tryz.prog n 81 [(.int .i64 w_0),(.int .u64 x_1)] (setLow h h.next))).bind fun p0 =>
 ((gL (some p0.1))).bind fun p1 =>
 ((az Tryz.prog n 80 [(.slice p1.1 p1.2.1 p1.2.2)] p0.2)).bind fun p2 =>
 ((gI .u64 (some p2.1))).bind fun n3 =>
 some (ai h p2.2 (.int .u64 n3))) = some r) : az Tryz.prog (n + 1) 47 [(.int .i64 w_0),(.int .u64 x_1)] h = some r:=eO (plan:=IT) (by kernel_rfl) hv
def Lt : List (List Nat × List Nat):=[]
theorem FE {n : Nat} {op_0 : Int} {h : AH} {r : Go.Value × AH} (hv :
( cond (bS 15 op_0)
 (some (ai h (setLow h h.next) (.bool (bS op_0 20))))
 (some (ai h (setLow h h.next) (.bool false)))) = some r) : az Tryz.prog (n + 1) 48 [(.int .i64 op_0)] h = some r:=eO (plan:=Lt) (by kernel_rfl) hv
def gf : List (List Nat × List Nat):=[([0,1,0,1],[1,2,3,7])]
section
variable (N : jS) (n m0 : Nat) (h0 : AH) (l_1 : Option Addr) (l_1n l_1c : Nat) (known_2 : Option Addr) (known_2n known_2c : Nat) (f_3 : Addr) (i_7 : Int) (h : AH)
 noncomputable def wJ : Option (Go.Value × AH):=aO Tryz.prog n Tryz.f18 h0 (.head (aB (av Tryz.f18) [1,0,1,0,0]) [0,1,0,1] m0) [.block 0,.seq (aB (av Tryz.f18) [1,1]) [1,1]] (E [(1,.slice l_1 l_1n l_1c),(2,.slice known_2 known_2n known_2c),(3,.pointer (some f_3)),(7,.int .i64 i_7)]) h
 noncomputable def vB : Option (Go.Value × AH):=iZ Tryz.prog (az Tryz.prog n) n Tryz.f18 h0 gf N (aO Tryz.prog n Tryz.f18 h0) (aB (av Tryz.f18) [1,0,1,0,0]) [0,1,0,1] m0 [.block 0,.seq (aB (av Tryz.f18) [1,1]) [1,1]] (E [(1,.slice l_1 l_1n l_1c),(2,.slice known_2 known_2n known_2c),(3,.pointer (some f_3)),(7,.int .i64 i_7)]) h
variable {n m0} {h0} {l_1 l_1n l_1c known_2 known_2n known_2c f_3 i_7} {h}
theorem sY {r : Go.Value × AH} (hv : vB aF n m0 h0 l_1 l_1n l_1c known_2 known_2n known_2c f_3 i_7 h = some r) : wJ n (m0 + 1) h0 l_1 l_1n l_1c known_2 known_2n known_2c f_3 i_7 h = some r:=i4 hv
end
theorem FF {n : Nat} {f_0a : ByteArray} {f_0b : Option Addr} {f_0bn f_0bc : Nat} {f_0c : Option Addr} {f_0cn f_0cc : Nat} {f_0d : Option Addr} {f_0dn f_0dc : Nat} {f_0e : Option Addr} {f_0en f_0ec : Nat} {f_0f : Option Addr} {f_0fn f_0fc : Nat} {l_1 : Option Addr} {l_1n l_1c : Nat} {known_2 : Option Addr} {known_2n known_2c : Nat} {h : AH} {r : Go.Value × AH} (hv :
( ((aF (setLow h h.next) [(.string f_0a),(.slice f_0b f_0bn f_0bc),(.slice f_0c f_0cn f_0cc),(.slice f_0d f_0dn f_0dc),(.slice f_0e f_0en f_0ec),(.slice f_0f f_0fn f_0fc)] 0)).bind fun p0 =>
 wJ n n h l_1 l_1n l_1c known_2 known_2n known_2c ⟨p0.1,0,none⟩ 0 p0.2) = some r) : az Tryz.prog (n + 1) 18 [(.agg #[(.string f_0a),(.slice f_0b f_0bn f_0bc),(.slice f_0c f_0cn f_0cc),(.slice f_0d f_0dn f_0dc),(.slice f_0e f_0en f_0ec),(.slice f_0f f_0fn f_0fc)]),(.slice l_1 l_1n l_1c),(.slice known_2 known_2n known_2c)] h = some r:=eO (plan:=gf) (by kernel_rfl) hv
theorem sZ (N : jS) (n m0 : Nat) (h0 : AH) (l_1 : Option Addr) (l_1n l_1c : Nat) (known_2 : Option Addr) (known_2n known_2c : Nat) (f_3 : Addr) (i_7 : Int) (h : AH) : vB N n m0 h0 l_1 l_1n l_1c known_2 known_2n known_2c f_3 i_7 h =
 cond (bZ i_7 (Int.ofNat l_1n))
 ((gS (rdC h f_3 0)).bind fun x0 =>
 (gL (rdC h f_3 1)).bind fun p1 =>
 (gL (rdC h f_3 2)).bind fun p2 =>
 (gL (rdC h f_3 3)).bind fun p3 =>
 (gL (rdC h f_3 4)).bind fun p4 =>
 (gL (rdC h f_3 5)).bind fun p5 =>
 (l_1).bind fun a6 =>
 cond (bM i_7 l_1n)
 ((gI .i64 (rdC h (Addr.add a6 ((Int.toNat i_7) * 1)) 0)).bind fun n7 =>
 (az Tryz.prog n 16 [(.agg #[(.string x0),(.slice p1.1 p1.2.1 p1.2.2),(.slice p2.1 p2.2.1 p2.2.2),(.slice p3.1 p3.2.1 p3.2.2),(.slice p4.1 p4.2.1 p4.2.2),(.slice p5.1 p5.2.1 p5.2.2)]),(.int .i64 n7)] (setLow h h.next)).bind fun p8 =>
 (gB (some p8.1)).bind fun b9 =>
 cond (Nat.beq p8.2.low h.next)
 (cond (Bool.not b9)
 (some (ai h0 (setLow p8.2 h.low) (.bool false)))
 ((l_1).bind fun a10 =>
 cond (bM i_7 l_1n)
 ((gI .i64 (rdC (setLow p8.2 h.low) (Addr.add a10 ((Int.toNat i_7) * 1)) 0)).bind fun n11 =>
 (known_2).bind fun a12 =>
 cond (bM n11 known_2n)
 ((gB (rdC (setLow p8.2 h.low) (Addr.add a12 ((Int.toNat n11) * 1)) 0)).bind fun b13 =>
 cond (Bool.not b13)
 (some (ai h0 (setLow p8.2 h.low) (.bool false)))
 (wJ n m0 h0 l_1 l_1n l_1c known_2 known_2n known_2c f_3 (aT .i64 i_7 1) (setLow p8.2 h.low)))
 (none))
 (none)))
 (none))
 (none))
 (some (ai h0 h (.bool true))):=by kernel_rfl
def gh : List (List Nat × List Nat):=[([0,1,0,1],[0,1,5])]
 noncomputable def wK (n m0 : Nat) (h0 : AH) (l_0 : Option Addr) (l_0n l_0c : Nat) (most_1 i_5 : Int) (h : AH) : Option (Go.Value × AH):=aO Tryz.prog n Tryz.f15 h0 (.head (aB (av Tryz.f15) [1,0,1,0,0]) [0,1,0,1] m0) [.block 0,.seq (aB (av Tryz.f15) [1,1]) [1,1]] (E [(0,.slice l_0 l_0n l_0c),(1,.int .i64 most_1),(5,.int .i64 i_5)]) h
theorem FG {n : Nat} {l_0 : Option Addr} {l_0n l_0c : Nat} {most_1 : Int} {h : AH} {r : Go.Value × AH} (hv :
( wK n n h l_0 l_0n l_0c most_1 0 (setLow h h.next)) = some r) : az Tryz.prog (n + 1) 15 [(.slice l_0 l_0n l_0c),(.int .i64 most_1)] h = some r:=eO (plan:=gh) (by kernel_rfl) hv
theorem s8 {n m0 : Nat} {h0 : AH} {l_0 : Option Addr} {l_0n l_0c : Nat} {most_1 i_5 : Int} {h : AH} {r : Go.Value × AH} (hv :
( cond (bZ i_5 (Int.ofNat l_0n))
 ((l_0).bind fun a0 =>
 cond (bM i_5 l_0n)
 (((gI .i64 (rdC h (Addr.add a0 ((Int.toNat i_5) * 1)) 0))).bind fun n1 =>
 ((az Tryz.prog n 45 [(.int .i64 n1)] h)).bind fun p2 =>
 ((gB (some p2.1))).bind fun b3 =>
 cond (Bool.not b3)
 (some (ai h0 p2.2 (.bool false)))
 (wK n m0 h0 l_0 l_0n l_0c most_1 (aT .i64 i_5 1) p2.2))
 (none))
 (some (ai h0 h (.bool (bS (Int.ofNat l_0n) most_1))))) = some r) : wK n (m0 + 1) h0 l_0 l_0n l_0c most_1 i_5 h = some r:=gV (plan:=gh) (by kernel_rfl) hv
def Kx : List (List Nat × List Nat):=[([0,1,0,1,1],[0,3,4])]
 noncomputable def wL (n m0 : Nat) (h0 : AH) (bits_0 : Option Addr) (bits_0n bits_0c : Nat) (x_3 i_4 : Int) (h : AH) : Option (Go.Value × AH):=aO Tryz.prog n Tryz.f80 h0 (.head (aB (av Tryz.f80) [1,1,0,1,0,0]) [0,1,0,1,1] m0) [.block 0,.seq (aB (av Tryz.f80) [1,1,1]) [1,1,1]] (E [(0,.slice bits_0 bits_0n bits_0c),(3,.int .u64 x_3),(4,.int .i64 i_4)]) h
theorem FH {n : Nat} {bits_0 : Option Addr} {bits_0n bits_0c : Nat} {h : AH} {r : Go.Value × AH} (hv :
( wL n n h bits_0 bits_0n bits_0c 0 (fC .i64 (Int.ofNat bits_0n) 1) (setLow h h.next)) = some r) : az Tryz.prog (n + 1) 80 [(.slice bits_0 bits_0n bits_0c)] h = some r:=eO (plan:=Kx) (by kernel_rfl) hv
theorem s9 {n m0 : Nat} {h0 : AH} {bits_0 : Option Addr} {bits_0n bits_0c : Nat} {x_3 i_4 : Int} {h : AH} {r : Go.Value × AH} (hv :
( cond (bS 0 i_4)
 ((bits_0).bind fun a0 =>
 cond (bM i_4 bits_0n)
 (((gI .i64 (rdC h (Addr.add a0 ((Int.toNat i_4) * 1)) 0))).bind fun n1 =>
 wL n m0 h0 bits_0 bits_0n bits_0c (aT .u64 (Ah .u64 2 x_3) (aQ .u64 n1)) (fC .i64 i_4 1) h)
 (none))
 (some (ai h0 h (.int .u64 x_3)))) = some r) : wL n (m0 + 1) h0 bits_0 bits_0n bits_0c x_3 i_4 h = some r:=gV (plan:=Kx) (by kernel_rfl) hv
def Ky : List (List Nat × List Nat):=[([0,1,0,1,1],[0,1,5,6])]
section
variable (N : jS) (n m0 : Nat) (h0 : AH) (w_0 x_1 : Int) (out_5 : Option Addr) (out_5n out_5c : Nat) (i_6 : Int) (h : AH)
 noncomputable def wM : Option (Go.Value × AH):=aO Tryz.prog n Tryz.f81 h0 (.head (aB (av Tryz.f81) [1,1,0,1,0,0]) [0,1,0,1,1] m0) [.block 0,.seq (aB (av Tryz.f81) [1,1,1]) [1,1,1]] (E [(0,.int .i64 w_0),(1,.int .u64 x_1),(5,.slice out_5 out_5n out_5c),(6,.int .i64 i_6)]) h
 noncomputable def vC : Option (Go.Value × AH):=iZ Tryz.prog (az Tryz.prog n) n Tryz.f81 h0 Ky N (aO Tryz.prog n Tryz.f81 h0) (aB (av Tryz.f81) [1,1,0,1,0,0]) [0,1,0,1,1] m0 [.block 0,.seq (aB (av Tryz.f81) [1,1,1]) [1,1,1]] (E [(0,.int .i64 w_0),(1,.int .u64 x_1),(5,.slice out_5 out_5n out_5c),(6,.int .i64 i_6)]) h
variable {n m0} {h0} {w_0 x_1 out_5 out_5n out_5c i_6} {h}
theorem oh {r : Go.Value × AH} (hv : vC aF n m0 h0 w_0 x_1 out_5 out_5n out_5c i_6 h = some r) : wM n (m0 + 1) h0 w_0 x_1 out_5 out_5n out_5c i_6 h = some r:=i4 hv
end
theorem FI {n : Nat} {w_0 x_1 : Int} {h : AH} {r : Go.Value × AH} (hv :
( wM n n h w_0 x_1 none 0 0 0 (setLow h h.next)) = some r) : az Tryz.prog (n + 1) 81 [(.int .i64 w_0),(.int .u64 x_1)] h = some r:=eO (plan:=Ky) (by kernel_rfl) hv
theorem te (N : jS) (n m0 : Nat) (h0 : AH) (w_0 x_1 : Int) (out_5 : Option Addr) (out_5n out_5c : Nat) (i_6 : Int) (h : AH) : vC N n m0 h0 w_0 x_1 out_5 out_5n out_5c i_6 h =
 (az Tryz.prog n 112 [(.int .i64 w_0)] h).bind fun p0 =>
 (gI .i64 (some p0.1)).bind fun n1 =>
 cond (bZ i_6 n1)
 ((N p0.2 [(.int .i64 (aQ .i64 (ce .u64 x_1 2)))] 1).bind fun p2 =>
 (dg 1 8 (.slice out_5 out_5n out_5c) (.slice (some ⟨p2.1,0,none⟩) 1 1) p2.2).bind fun p3 =>
 wM n m0 h0 w_0 (qH .u64 x_1 2) p3.1.1 p3.1.2.1 p3.1.2.2 (aT .i64 i_6 1) p3.2)
 (some (ai h0 p0.2 (.slice out_5 out_5n out_5c))):=by kernel_rfl
def Jj : List (List Nat × List Nat):=[]
theorem DJ {n : Nat} {w_0 : Int} {h : AH} {r : Go.Value × AH} (hv :
( some (ai h (setLow h h.next) (.int .i64 (fM (ge w_0 0) 64)))) = some r) : az Tryz.prog (n + 1) 112 [(.int .i64 w_0)] h = some r:=eO (plan:=Jj) (by kernel_rfl) hv
def iy : List (List Nat × List Nat):=[([1,1],[2,3]),([1,1,1],[2,3,5]),([1,1,1,1],[2,3,5]),([1,1,1,1,1,1],[2,3,5,6]),([0,1,0,1,1,1,1,1,1,1],[2,3,5,6,7,8]),([0,1,0,1,1,1,1,1,1,1,1,1],[2,3,6,7]),([1,1,0,1,1,1,1,1,1,1,1,1],[2,3,5,6,7,9]),([1,1,1,1,1,1,1,1,1,1],[3,6,7,9]),([1,1,1,1,1,0,1,0,1,1,1,1,1,1,1,1,1,1],[3,6,7,9,121,151]),([1,1,1,1,1,1,1,1,1,1,1],[3,6,7])]
 noncomputable def wN (n : Nat) (h0 : AH) (f_2 in_3 : Addr) (h : AH) : Option (Go.Value × AH):=aO Tryz.prog n Tryz.f20 h0 (.code (aB (av Tryz.f20) [1,1]) [1,1]) [] (E [(2,.pointer (some f_2)),(3,.pointer (some in_3))]) h
 noncomputable def wO (n : Nat) (h0 : AH) (f_2 in_3 : Addr) (memory_5 : Bool) (h : AH) : Option (Go.Value × AH):=aO Tryz.prog n Tryz.f20 h0 (.code (aB (av Tryz.f20) [1,1,1]) [1,1,1]) [] (E [(2,.pointer (some f_2)),(3,.pointer (some in_3)),(5,.bool memory_5)]) h
 noncomputable def wP (n : Nat) (h0 : AH) (f_2 in_3 : Addr) (memory_5 : Bool) (h : AH) : Option (Go.Value × AH):=aO Tryz.prog n Tryz.f20 h0 (.code (aB (av Tryz.f20) [1,1,1,1]) [1,1,1,1]) [] (E [(2,.pointer (some f_2)),(3,.pointer (some in_3)),(5,.bool memory_5)]) h
 noncomputable def wQ (n : Nat) (h0 : AH) (f_2 in_3 : Addr) (memory_5 : Bool) (w_6 : Int) (h : AH) : Option (Go.Value × AH):=aO Tryz.prog n Tryz.f20 h0 (.code (aB (av Tryz.f20) [1,1,1,1,1,1]) [1,1,1,1,1,1]) [] (E [(2,.pointer (some f_2)),(3,.pointer (some in_3)),(5,.bool memory_5),(6,.int .i64 w_6)]) h
 noncomputable def wR (n m0 : Nat) (h0 : AH) (f_2 in_3 : Addr) (memory_5 : Bool) (w_6 : Int) (a_7 : Option Addr) (a_7n a_7c : Nat) (i_8 : Int) (h : AH) : Option (Go.Value × AH):=aO Tryz.prog n Tryz.f20 h0 (.head (aB (av Tryz.f20) [1,1,1,1,1,1,1,0,1,0,0]) [0,1,0,1,1,1,1,1,1,1] m0) [.block 0,.seq (aB (av Tryz.f20) [1,1,1,1,1,1,1,1]) [1,1,1,1,1,1,1,1]] (E [(2,.pointer (some f_2)),(3,.pointer (some in_3)),(5,.bool memory_5),(6,.int .i64 w_6),(7,.slice a_7 a_7n a_7c),(8,.int .i64 i_8)]) h
 noncomputable def wS (n : Nat) (h0 : AH) (f_2 in_3 : Addr) (w_6 : Int) (a_7 : Option Addr) (a_7n a_7c : Nat) (h : AH) : Option (Go.Value × AH):=aO Tryz.prog n Tryz.f20 h0 (.code (aB (av Tryz.f20) [1,1,1,1,1,1,1,1,1,0,1,0]) [0,1,0,1,1,1,1,1,1,1,1,1]) [.seq (aB (av Tryz.f20) [1,1,1,1,1,1,1,1,1,1]) [1,1,1,1,1,1,1,1,1,1]] (E [(2,.pointer (some f_2)),(3,.pointer (some in_3)),(6,.int .i64 w_6),(7,.slice a_7 a_7n a_7c)]) h
 noncomputable def Av (n : Nat) (h0 : AH) (f_2 in_3 : Addr) (memory_5 : Bool) (w_6 : Int) (a_7 : Option Addr) (a_7n a_7c : Nat) (m_9 : Int) (h : AH) : Option (Go.Value × AH):=aO Tryz.prog n Tryz.f20 h0 (.code (aB (av Tryz.f20) [1,1,1,1,1,1,1,1,1,0,1,1]) [1,1,0,1,1,1,1,1,1,1,1,1]) [.seq (aB (av Tryz.f20) [1,1,1,1,1,1,1,1,1,1]) [1,1,1,1,1,1,1,1,1,1]] (E [(2,.pointer (some f_2)),(3,.pointer (some in_3)),(5,.bool memory_5),(6,.int .i64 w_6),(7,.slice a_7 a_7n a_7c),(9,.int .i64 m_9)]) h
 noncomputable def tf (n : Nat) (h0 : AH) (in_3 : Addr) (w_6 : Int) (a_7 : Option Addr) (a_7n a_7c : Nat) (m_9 : Int) (h : AH) : Option (Go.Value × AH):=aO Tryz.prog n Tryz.f20 h0 (.code (aB (av Tryz.f20) [1,1,1,1,1,1,1,1,1,1]) [1,1,1,1,1,1,1,1,1,1]) [] (E [(3,.pointer (some in_3)),(6,.int .i64 w_6),(7,.slice a_7 a_7n a_7c),(9,.int .i64 m_9)]) h
 noncomputable def wT (n : Nat) (h0 : AH) (in_3 : Addr) (w_6 : Int) (a_7 : Option Addr) (a_7n a_7c : Nat) (m_9 t_121 : Int) (t_151 : Bool) (h : AH) : Option (Go.Value × AH):=aO Tryz.prog n Tryz.f20 h0 (.code (aB (av Tryz.f20) [1,1,1,1,1,1,1,1,1,1,0,1,0,1,1,1,1,1]) [1,1,1,1,1,0,1,0,1,1,1,1,1,1,1,1,1,1]) [.block 2,.seq (aB (av Tryz.f20) [1,1,1,1,1,1,1,1,1,1,1]) [1,1,1,1,1,1,1,1,1,1,1]] (E [(3,.pointer (some in_3)),(6,.int .i64 w_6),(7,.slice a_7 a_7n a_7c),(9,.int .i64 m_9),(121,.int .i64 t_121),(151,.bool t_151)]) h
 noncomputable def Aw (n : Nat) (h0 : AH) (in_3 : Addr) (w_6 : Int) (a_7 : Option Addr) (a_7n a_7c : Nat) (h : AH) : Option (Go.Value × AH):=aO Tryz.prog n Tryz.f20 h0 (.code (aB (av Tryz.f20) [1,1,1,1,1,1,1,1,1,1,1]) [1,1,1,1,1,1,1,1,1,1,1]) [] (E [(3,.pointer (some in_3)),(6,.int .i64 w_6),(7,.slice a_7 a_7n a_7c)]) h
theorem FJ {n : Nat} {f_0a : ByteArray} {f_0b : Option Addr} {f_0bn f_0bc : Nat} {f_0c : Option Addr} {f_0cn f_0cc : Nat} {f_0d : Option Addr} {f_0dn f_0dc : Nat} {f_0e : Option Addr} {f_0en f_0ec : Nat} {f_0f : Option Addr} {f_0fn f_0fc : Nat} {in_1a in_1b : Int} {in_1c : Option Addr} {in_1cn in_1cc : Nat} {in_1d in_1e : Int} {h : AH} {r : Go.Value × AH} (hv :
( ((aF (setLow h h.next) [(.string f_0a),(.slice f_0b f_0bn f_0bc),(.slice f_0c f_0cn f_0cc),(.slice f_0d f_0dn f_0dc),(.slice f_0e f_0en f_0ec),(.slice f_0f f_0fn f_0fc)] 0)).bind fun p0 =>
 ((aF p0.2 [(.int .i64 in_1a),(.int .i64 in_1b),(.slice in_1c in_1cn in_1cc),(.int .u64 in_1d),(.int .i64 in_1e)] 0)).bind fun p1 =>
 ((gI .u64 (rdC p1.2 (Addr.add ⟨p1.1,0,none⟩ 3) 0))).bind fun n2 =>
 cond (gz n2 0)
 (((gI .i64 (rdC p1.2 (Addr.add ⟨p1.1,0,none⟩ 0) 0))).bind fun n3 =>
 cond (gz n3 1)
 (some (ai h p1.2 (.bool false)))
 (wN n h ⟨p0.1,0,none⟩ ⟨p1.1,0,none⟩ p1.2))
 (wN n h ⟨p0.1,0,none⟩ ⟨p1.1,0,none⟩ p1.2)) = some r) : az Tryz.prog (n + 1) 20 [(.agg #[(.string f_0a),(.slice f_0b f_0bn f_0bc),(.slice f_0c f_0cn f_0cc),(.slice f_0d f_0dn f_0dc),(.slice f_0e f_0en f_0ec),(.slice f_0f f_0fn f_0fc)]),(.agg #[(.int .i64 in_1a),(.int .i64 in_1b),(.slice in_1c in_1cn in_1cc),(.int .u64 in_1d),(.int .i64 in_1e)])] h = some r:=eO (plan:=iy) (by kernel_rfl) hv
theorem Ax {n : Nat} {h0 : AH} {f_2 in_3 : Addr} {h : AH} {r : Go.Value × AH} (hv :
( ((gI .i64 (rdC h (Addr.add in_3 0) 0))).bind fun n0 =>
 cond (bS 25 n0)
 (((gI .i64 (rdC h (Addr.add in_3 0) 0))).bind fun n1 =>
 wO n h0 f_2 in_3 (bS n1 28) h)
 (wO n h0 f_2 in_3 false h)) = some r) : wN n h0 f_2 in_3 h = some r:=fO (plan:=iy) (by kernel_rfl) hv
theorem Ay {n : Nat} {h0 : AH} {f_2 in_3 : Addr} {memory_5 : Bool} {h : AH} {r : Go.Value × AH} (hv :
( ((gI .i64 (rdC h (Addr.add in_3 4) 0))).bind fun n0 =>
 cond (gz n0 0)
 (cond (Bool.not memory_5)
 (some (ai h0 h (.bool false)))
 (wP n h0 f_2 in_3 memory_5 h))
 (wP n h0 f_2 in_3 memory_5 h)) = some r) : wO n h0 f_2 in_3 memory_5 h = some r:=fO (plan:=iy) (by kernel_rfl) hv
theorem Az {n : Nat} {h0 : AH} {f_2 in_3 : Addr} {memory_5 : Bool} {h : AH} {r : Go.Value × AH} (hv :
( ((gI .i64 (rdC h (Addr.add in_3 0) 0))).bind fun n0 =>
 ((az Tryz.prog n 19 [(.int .i64 n0)] h)).bind fun p1 =>
 ((gB (some p1.1))).bind fun b2 =>
 cond b2
 (((gL (rdC p1.2 (Addr.add f_2 1) 0))).bind fun p3 =>
 ((gI .i64 (rdC p1.2 (Addr.add in_3 1) 0))).bind fun n4 =>
 (p3.1).bind fun a5 =>
 cond (bM n4 p3.2.1)
 (((gI .i64 (rdC p1.2 (Addr.add a5 ((Int.toNat n4) * 1)) 0))).bind fun n6 =>
 wQ n h0 f_2 in_3 memory_5 n6 p1.2)
 (none))
 (wQ n h0 f_2 in_3 memory_5 0 p1.2)) = some r) : wP n h0 f_2 in_3 memory_5 h = some r:=fO (plan:=iy) (by kernel_rfl) hv
theorem AB {n : Nat} {h0 : AH} {f_2 in_3 : Addr} {memory_5 : Bool} {w_6 : Int} {h : AH} {r : Go.Value × AH} (hv :
( ((aF h [(.int .i64 0),(.int .i64 0),(.int .i64 0)] 1)).bind fun p0 =>
 wR n n h0 f_2 in_3 memory_5 w_6 (some ⟨p0.1,0,none⟩) 3 3 0 p0.2) = some r) : wQ n h0 f_2 in_3 memory_5 w_6 h = some r:=fO (plan:=iy) (by kernel_rfl) hv
theorem tg {n m0 : Nat} {h0 : AH} {f_2 in_3 : Addr} {memory_5 : Bool} {w_6 : Int} {a_7 : Option Addr} {a_7n a_7c : Nat} {i_8 : Int} {h : AH} {r : Go.Value × AH} (hv :
( ((gL (rdC h (Addr.add in_3 2) 0))).bind fun p0 =>
 cond (bZ i_8 (Int.ofNat p0.2.1))
 (((gL (rdC h (Addr.add f_2 1) 0))).bind fun p1 =>
 ((gL (rdC h (Addr.add in_3 2) 0))).bind fun p2 =>
 (p2.1).bind fun a3 =>
 cond (bM i_8 p2.2.1)
 (((gI .i64 (rdC h (Addr.add a3 ((Int.toNat i_8) * 1)) 0))).bind fun n4 =>
 (p1.1).bind fun a5 =>
 cond (bM n4 p1.2.1)
 (((gI .i64 (rdC h (Addr.add a5 ((Int.toNat n4) * 1)) 0))).bind fun n6 =>
 (a_7).bind fun a7 =>
 cond (bM i_8 a_7n)
 (((di h (Addr.add a7 ((Int.toNat i_8) * 1)) [(.int .i64 n6)])).bind fun x8 =>
 wR n m0 h0 f_2 in_3 memory_5 w_6 a_7 a_7n a_7c (aT .i64 i_8 1) x8)
 (none))
 (none))
 (none))
 (((gI .i64 (rdC h (Addr.add in_3 0) 0))).bind fun n9 =>
 cond (aX n9 25)
 (wS n h0 f_2 in_3 w_6 a_7 a_7n a_7c h)
 (((gI .i64 (rdC h (Addr.add in_3 0) 0))).bind fun n10 =>
 cond (aX n10 26)
 (wS n h0 f_2 in_3 w_6 a_7 a_7n a_7c h)
 (Av n h0 f_2 in_3 memory_5 w_6 a_7 a_7n a_7c 0 h)))) = some r) : wR n (m0 + 1) h0 f_2 in_3 memory_5 w_6 a_7 a_7n a_7c i_8 h = some r:=gV (plan:=iy) (by kernel_rfl) hv
theorem AC {n : Nat} {h0 : AH} {f_2 in_3 : Addr} {w_6 : Int} {a_7 : Option Addr} {a_7n a_7c : Nat} {h : AH} {r : Go.Value × AH} (hv :
( ((gI .i64 (rdC h (Addr.add in_3 4) 0))).bind fun n0 =>
 cond (bZ n0 0)
 (some (ai h0 h (.bool false)))
 (((gI .i64 (rdC h (Addr.add in_3 4) 0))).bind fun n1 =>
 ((gL (rdC h (Addr.add f_2 2) 0))).bind fun p2 =>
 cond (bS (Int.ofNat p2.2.1) n1)
 (some (ai h0 h (.bool false)))
 (((gL (rdC h (Addr.add f_2 2) 0))).bind fun p3 =>
 ((gI .i64 (rdC h (Addr.add in_3 4) 0))).bind fun n4 =>
 (p3.1).bind fun a5 =>
 cond (bM n4 p3.2.1)
 (((gI .i64 (rdC h (Addr.add (Addr.add a5 ((Int.toNat n4) * 5)) 1) 0))).bind fun n6 =>
 tf n h0 in_3 w_6 a_7 a_7n a_7c n6 h)
 (none)))) = some r) : wS n h0 f_2 in_3 w_6 a_7 a_7n a_7c h = some r:=fO (plan:=iy) (by kernel_rfl) hv
theorem AD {n : Nat} {h0 : AH} {f_2 in_3 : Addr} {memory_5 : Bool} {w_6 : Int} {a_7 : Option Addr} {a_7n a_7c : Nat} {m_9 : Int} {h : AH} {r : Go.Value × AH} (hv :
( cond memory_5
 (((gI .i64 (rdC h (Addr.add in_3 4) 0))).bind fun n0 =>
 cond (bZ n0 0)
 (some (ai h0 h (.bool false)))
 (((gI .i64 (rdC h (Addr.add in_3 4) 0))).bind fun n1 =>
 ((gL (rdC h (Addr.add f_2 3) 0))).bind fun p2 =>
 cond (bS (Int.ofNat p2.2.1) n1)
 (some (ai h0 h (.bool false)))
 (((gL (rdC h (Addr.add f_2 3) 0))).bind fun p3 =>
 ((gI .i64 (rdC h (Addr.add in_3 4) 0))).bind fun n4 =>
 (p3.1).bind fun a5 =>
 cond (bM n4 p3.2.1)
 (((gB (rdC h (Addr.add (Addr.add a5 ((Int.toNat n4) * 3)) 2) 0))).bind fun b6 =>
 ((gI .i64 (rdC h (Addr.add in_3 0) 0))).bind fun n7 =>
 cond (Bool.not (BEq.beq b6 (aX n7 28)))
 (some (ai h0 h (.bool false)))
 (((gL (rdC h (Addr.add f_2 3) 0))).bind fun p8 =>
 ((gI .i64 (rdC h (Addr.add in_3 4) 0))).bind fun n9 =>
 (p8.1).bind fun a10 =>
 cond (bM n9 p8.2.1)
 (((gI .i64 (rdC h (Addr.add (Addr.add a10 ((Int.toNat n9) * 3)) 1) 0))).bind fun n11 =>
 tf n h0 in_3 w_6 a_7 a_7n a_7c n11 h)
 (none)))
 (none))))
 (tf n h0 in_3 w_6 a_7 a_7n a_7c m_9 h)) = some r) : Av n h0 f_2 in_3 memory_5 w_6 a_7 a_7n a_7c m_9 h = some r:=fO (plan:=iy) (by kernel_rfl) hv
theorem AE {n : Nat} {h0 : AH} {in_3 : Addr} {w_6 : Int} {a_7 : Option Addr} {a_7n a_7c : Nat} {m_9 : Int} {h : AH} {r : Go.Value × AH} (hv :
( ((gI .i64 (rdC h (Addr.add in_3 0) 0))).bind fun n0 =>
 cond (aX n0 1)
 (((gI .u64 (rdC h (Addr.add in_3 3) 0))).bind fun n1 =>
 ((az Tryz.prog n 47 [(.int .i64 w_6),(.int .u64 n1)] (setLow h h.next))).bind fun p2 =>
 ((gI .u64 (some p2.1))).bind fun n3 =>
 cond (Nat.beq p2.2.low h.next)
 (((gI .u64 (rdC (setLow p2.2 h.low) (Addr.add in_3 3) 0))).bind fun n4 =>
 some (ai h0 (setLow p2.2 h.low) (.bool (aX n3 n4))))
 (none))
 (cond (aX n0 21)
 ((a_7).bind fun a5 =>
 cond (bM 0 a_7n)
 (((gI .i64 (rdC h (Addr.add a5 0) 0))).bind fun n6 =>
 cond (aX n6 1)
 ((a_7).bind fun a7 =>
 cond (bM 1 a_7n)
 (((gI .i64 (rdC h (Addr.add a7 1) 0))).bind fun n8 =>
 cond (aX n8 w_6)
 ((a_7).bind fun a9 =>
 cond (bM 2 a_7n)
 (((gI .i64 (rdC h (Addr.add a9 2) 0))).bind fun n10 =>
 some (ai h0 h (.bool (aX n10 w_6))))
 (none))
 (some (ai h0 h (.bool false))))
 (none))
 (some (ai h0 h (.bool false))))
 (none))
 (cond (aX n0 22)
 (wT n h0 in_3 w_6 a_7 a_7n a_7c m_9 n0 true h)
 (wT n h0 in_3 w_6 a_7 a_7n a_7c m_9 n0 (aX n0 23) h)))) = some r) : tf n h0 in_3 w_6 a_7 a_7n a_7c m_9 h = some r:=fO (plan:=iy) (by kernel_rfl) hv
theorem AF {n : Nat} {h0 : AH} {in_3 : Addr} {w_6 : Int} {a_7 : Option Addr} {a_7n a_7c : Nat} {m_9 t_121 : Int} {t_151 : Bool} {h : AH} {r : Go.Value × AH} (hv :
( cond t_151
 ((a_7).bind fun a0 =>
 cond (bM 0 a_7n)
 (((gI .i64 (rdC h (Addr.add a0 0) 0))).bind fun n1 =>
 some (ai h0 h (.bool (bZ n1 w_6))))
 (none))
 (cond (aX t_121 24)
 ((a_7).bind fun a2 =>
 cond (bM 0 a_7n)
 (((gI .i64 (rdC h (Addr.add a2 0) 0))).bind fun n3 =>
 some (ai h0 h (.bool (bZ w_6 n3))))
 (none))
 (cond (aX t_121 25)
 (cond (aX m_9 w_6)
 ((a_7).bind fun a4 =>
 cond (bM 1 a_7n)
 (((gI .i64 (rdC h (Addr.add a4 1) 0))).bind fun n5 =>
 some (ai h0 h (.bool (aX n5 1))))
 (none))
 (some (ai h0 h (.bool false))))
 (cond (aX t_121 26)
 ((a_7).bind fun a6 =>
 cond (bM 1 a_7n)
 (((gI .i64 (rdC h (Addr.add a6 1) 0))).bind fun n7 =>
 cond (aX m_9 n7)
 ((a_7).bind fun a8 =>
 cond (bM 2 a_7n)
 (((gI .i64 (rdC h (Addr.add a8 2) 0))).bind fun n9 =>
 some (ai h0 h (.bool (aX n9 1))))
 (none))
 (some (ai h0 h (.bool false))))
 (none))
 (cond (aX t_121 27)
 (cond (aX m_9 w_6)
 ((a_7).bind fun a10 =>
 cond (bM 0 a_7n)
 (((gI .i64 (rdC h (Addr.add a10 0) 0))).bind fun n11 =>
 some (ai h0 h (.bool (aX n11 1))))
 (none))
 (some (ai h0 h (.bool false))))
 (cond (aX t_121 28)
 ((a_7).bind fun a12 =>
 cond (bM 0 a_7n)
 (((gI .i64 (rdC h (Addr.add a12 0) 0))).bind fun n13 =>
 cond (aX m_9 n13)
 ((a_7).bind fun a14 =>
 cond (bM 1 a_7n)
 (((gI .i64 (rdC h (Addr.add a14 1) 0))).bind fun n15 =>
 some (ai h0 h (.bool (aX n15 1))))
 (none))
 (some (ai h0 h (.bool false))))
 (none))
 (Aw n h0 in_3 w_6 a_7 a_7n a_7c h))))))) = some r) : wT n h0 in_3 w_6 a_7 a_7n a_7c m_9 t_121 t_151 h = some r:=fO (plan:=iy) (by kernel_rfl) hv
theorem AG {n : Nat} {h0 : AH} {in_3 : Addr} {w_6 : Int} {a_7 : Option Addr} {a_7n a_7c : Nat} {h : AH} {r : Go.Value × AH} (hv :
( ((gI .i64 (rdC h (Addr.add in_3 0) 0))).bind fun n0 =>
 ((az Tryz.prog n 48 [(.int .i64 n0)] h)).bind fun p1 =>
 ((gB (some p1.1))).bind fun b2 =>
 cond b2
 (cond (aX w_6 1)
 ((a_7).bind fun a3 =>
 cond (bM 0 a_7n)
 (((gI .i64 (rdC p1.2 (Addr.add a3 0) 0))).bind fun n4 =>
 (a_7).bind fun a5 =>
 cond (bM 1 a_7n)
 (((gI .i64 (rdC p1.2 (Addr.add a5 1) 0))).bind fun n6 =>
 some (ai h0 p1.2 (.bool (aX n4 n6))))
 (none))
 (none))
 (some (ai h0 p1.2 (.bool false))))
 ((a_7).bind fun a7 =>
 cond (bM 0 a_7n)
 (((gI .i64 (rdC p1.2 (Addr.add a7 0) 0))).bind fun n8 =>
 cond (aX n8 w_6)
 ((a_7).bind fun a9 =>
 cond (bM 1 a_7n)
 (((gI .i64 (rdC p1.2 (Addr.add a9 1) 0))).bind fun n10 =>
 some (ai h0 p1.2 (.bool (aX n10 w_6))))
 (none))
 (some (ai h0 p1.2 (.bool false))))
 (none))) = some r) : Aw n h0 in_3 w_6 a_7 a_7n a_7c h = some r:=fO (plan:=iy) (by kernel_rfl) hv
def jo : List (List Nat × List Nat):=[([0,1,1,0,1,1,1,1,1,0,1,0,1,1],[2,3,4,7,8]),([1,1,1],[2,3,4,7]),([1,1,1,1],[2,3,4]),([0,1,0,1,1,1,1,1],[2,3,4,9])]
 noncomputable def th (n : Nat) (h0 : AH) (known_2 : Option Addr) (known_2n known_2c : Nat) (f_3 t_4 : Addr) (size_7 : Int) (h : AH) : Option (Go.Value × AH):=aO Tryz.prog n Tryz.f21 h0 (.code (aB (av Tryz.f21) [1,1,1]) [1,1,1]) [] (E [(2,.slice known_2 known_2n known_2c),(3,.pointer (some f_3)),(4,.pointer (some t_4)),(7,.int .i64 size_7)]) h
 noncomputable def wU (n m0 : Nat) (h0 : AH) (known_2 : Option Addr) (known_2n known_2c : Nat) (f_3 t_4 : Addr) (size_7 i_8 : Int) (h : AH) : Option (Go.Value × AH):=aO Tryz.prog n Tryz.f21 h0 (.head (aB (av Tryz.f21) [1,1,0,1,0,1,1,1,1,1,0,1,1,0,0]) [0,1,1,0,1,1,1,1,1,0,1,0,1,1] m0) [.block 1,.block 0,.seq (aB (av Tryz.f21) [1,1,1]) [1,1,1]] (E [(2,.slice known_2 known_2n known_2c),(3,.pointer (some f_3)),(4,.pointer (some t_4)),(7,.int .i64 size_7),(8,.int .i64 i_8)]) h
 noncomputable def wV (n : Nat) (h0 : AH) (known_2 : Option Addr) (known_2n known_2c : Nat) (f_3 t_4 : Addr) (h : AH) : Option (Go.Value × AH):=aO Tryz.prog n Tryz.f21 h0 (.code (aB (av Tryz.f21) [1,1,1,1]) [1,1,1,1]) [] (E [(2,.slice known_2 known_2n known_2c),(3,.pointer (some f_3)),(4,.pointer (some t_4))]) h
 noncomputable def tj (n m0 : Nat) (h0 : AH) (known_2 : Option Addr) (known_2n known_2c : Nat) (f_3 t_4 : Addr) (i_9 : Int) (h : AH) : Option (Go.Value × AH):=aO Tryz.prog n Tryz.f21 h0 (.head (aB (av Tryz.f21) [1,1,1,1,1,0,1,0,0]) [0,1,0,1,1,1,1,1] m0) [.block 3,.seq (aB (av Tryz.f21) [1,1,1,1,1,1]) [1,1,1,1,1,1]] (E [(2,.slice known_2 known_2n known_2c),(3,.pointer (some f_3)),(4,.pointer (some t_4)),(9,.int .i64 i_9)]) h
theorem FK {n : Nat} {f_0a : ByteArray} {f_0b : Option Addr} {f_0bn f_0bc : Nat} {f_0c : Option Addr} {f_0cn f_0cc : Nat} {f_0d : Option Addr} {f_0dn f_0dc : Nat} {f_0e : Option Addr} {f_0en f_0ec : Nat} {f_0f : Option Addr} {f_0fn f_0fc : Nat} {t_1a t_1b : Int} {t_1c : Option Addr} {t_1cn t_1cc : Nat} {t_1d : Option Addr} {t_1dn t_1dc : Nat} {known_2 : Option Addr} {known_2n known_2c : Nat} {h : AH} {r : Go.Value × AH} (hv :
( ((aF (setLow h h.next) [(.string f_0a),(.slice f_0b f_0bn f_0bc),(.slice f_0c f_0cn f_0cc),(.slice f_0d f_0dn f_0dc),(.slice f_0e f_0en f_0ec),(.slice f_0f f_0fn f_0fc)] 0)).bind fun p0 =>
 ((aF p0.2 [(.int .i64 t_1a),(.int .i64 t_1b),(.slice t_1c t_1cn t_1cc),(.slice t_1d t_1dn t_1dc)] 0)).bind fun p1 =>
 ((gI .i64 (rdC p1.2 (Addr.add ⟨p1.1,0,none⟩ 0) 0))).bind fun n2 =>
 cond (aX n2 1)
 (th n h known_2 known_2n known_2c ⟨p0.1,0,none⟩ ⟨p1.1,0,none⟩ 1 p1.2)
 (cond (aX n2 2)
 (th n h known_2 known_2n known_2c ⟨p0.1,0,none⟩ ⟨p1.1,0,none⟩ 2 p1.2)
 (cond (aX n2 3)
 (((gL (rdC p1.2 (Addr.add ⟨p1.1,0,none⟩ 3) 0))).bind fun p3 =>
 ((gL (rdC p1.2 (Addr.add ⟨p0.1,0,none⟩ 4) 0))).bind fun p4 =>
 cond (gz (Int.ofNat p3.2.1) (Int.ofNat p4.2.1))
 (some (ai h p1.2 (.bool false)))
 (((gS (rdC p1.2 ⟨p0.1,0,none⟩ 0))).bind fun x5 =>
 ((gL (rdC p1.2 ⟨p0.1,0,none⟩ 1))).bind fun p6 =>
 ((gL (rdC p1.2 ⟨p0.1,0,none⟩ 2))).bind fun p7 =>
 ((gL (rdC p1.2 ⟨p0.1,0,none⟩ 3))).bind fun p8 =>
 ((gL (rdC p1.2 ⟨p0.1,0,none⟩ 4))).bind fun p9 =>
 ((gL (rdC p1.2 ⟨p0.1,0,none⟩ 5))).bind fun p10 =>
 ((gL (rdC p1.2 (Addr.add ⟨p1.1,0,none⟩ 3) 0))).bind fun p11 =>
 ((az Tryz.prog n 18 [(.agg #[(.string x5),(.slice p6.1 p6.2.1 p6.2.2),(.slice p7.1 p7.2.1 p7.2.2),(.slice p8.1 p8.2.1 p8.2.2),(.slice p9.1 p9.2.1 p9.2.2),(.slice p10.1 p10.2.1 p10.2.2)]),(.slice p11.1 p11.2.1 p11.2.2),(.slice known_2 known_2n known_2c)] p1.2)).bind fun p12 =>
 ((gB (some p12.1))).bind fun b13 =>
 cond (Bool.not b13)
 (some (ai h p12.2 (.bool false)))
 (wU n n h known_2 known_2n known_2c ⟨p0.1,0,none⟩ ⟨p1.1,0,none⟩ 0 0 p12.2)))
 (some (ai h p1.2 (.bool false)))))) = some r) : az Tryz.prog (n + 1) 21 [(.agg #[(.string f_0a),(.slice f_0b f_0bn f_0bc),(.slice f_0c f_0cn f_0cc),(.slice f_0d f_0dn f_0dc),(.slice f_0e f_0en f_0ec),(.slice f_0f f_0fn f_0fc)]),(.agg #[(.int .i64 t_1a),(.int .i64 t_1b),(.slice t_1c t_1cn t_1cc),(.slice t_1d t_1dn t_1dc)]),(.slice known_2 known_2n known_2c)] h = some r:=eO (plan:=jo) (by kernel_rfl) hv
theorem AI {n : Nat} {h0 : AH} {known_2 : Option Addr} {known_2n known_2c : Nat} {f_3 t_4 : Addr} {size_7 : Int} {h : AH} {r : Go.Value × AH} (hv :
( ((gL (rdC h (Addr.add t_4 2) 0))).bind fun p0 =>
 cond (gz (Int.ofNat p0.2.1) size_7)
 (some (ai h0 h (.bool false)))
 (((gI .i64 (rdC h (Addr.add t_4 0) 0))).bind fun n1 =>
 cond (gz n1 3)
 (((gL (rdC h (Addr.add t_4 3) 0))).bind fun p2 =>
 cond (bZ 0 (Int.ofNat p2.2.1))
 (some (ai h0 h (.bool false)))
 (wV n h0 known_2 known_2n known_2c f_3 t_4 h))
 (wV n h0 known_2 known_2n known_2c f_3 t_4 h))) = some r) : th n h0 known_2 known_2n known_2c f_3 t_4 size_7 h = some r:=fO (plan:=jo) (by kernel_rfl) hv
theorem tk {n m0 : Nat} {h0 : AH} {known_2 : Option Addr} {known_2n known_2c : Nat} {f_3 t_4 : Addr} {size_7 i_8 : Int} {h : AH} {r : Go.Value × AH} (hv :
( ((gL (rdC h (Addr.add t_4 3) 0))).bind fun p0 =>
 cond (bZ i_8 (Int.ofNat p0.2.1))
 (((gL (rdC h (Addr.add f_3 1) 0))).bind fun p1 =>
 ((gL (rdC h (Addr.add t_4 3) 0))).bind fun p2 =>
 (p2.1).bind fun a3 =>
 cond (bM i_8 p2.2.1)
 (((gI .i64 (rdC h (Addr.add a3 ((Int.toNat i_8) * 1)) 0))).bind fun n4 =>
 (p1.1).bind fun a5 =>
 cond (bM n4 p1.2.1)
 (((gI .i64 (rdC h (Addr.add a5 ((Int.toNat n4) * 1)) 0))).bind fun n6 =>
 ((gL (rdC h (Addr.add f_3 4) 0))).bind fun p7 =>
 (p7.1).bind fun a8 =>
 cond (bM i_8 p7.2.1)
 (((gI .i64 (rdC h (Addr.add a8 ((Int.toNat i_8) * 1)) 0))).bind fun n9 =>
 cond (gz n6 n9)
 (some (ai h0 h (.bool false)))
 (wU n m0 h0 known_2 known_2n known_2c f_3 t_4 size_7 (aT .i64 i_8 1) h))
 (none))
 (none))
 (none))
 (th n h0 known_2 known_2n known_2c f_3 t_4 size_7 h)) = some r) : wU n (m0 + 1) h0 known_2 known_2n known_2c f_3 t_4 size_7 i_8 h = some r:=gV (plan:=jo) (by kernel_rfl) hv
theorem AJ {n : Nat} {h0 : AH} {known_2 : Option Addr} {known_2n known_2c : Nat} {f_3 t_4 : Addr} {h : AH} {r : Go.Value × AH} (hv :
( ((gI .i64 (rdC h (Addr.add t_4 0) 0))).bind fun n0 =>
 cond (aX n0 2)
 (((gS (rdC h f_3 0))).bind fun x1 =>
 ((gL (rdC h f_3 1))).bind fun p2 =>
 ((gL (rdC h f_3 2))).bind fun p3 =>
 ((gL (rdC h f_3 3))).bind fun p4 =>
 ((gL (rdC h f_3 4))).bind fun p5 =>
 ((gL (rdC h f_3 5))).bind fun p6 =>
 ((gI .i64 (rdC h (Addr.add t_4 1) 0))).bind fun n7 =>
 ((aF h [(.int .i64 n7)] 1)).bind fun p8 =>
 ((az Tryz.prog n 18 [(.agg #[(.string x1),(.slice p2.1 p2.2.1 p2.2.2),(.slice p3.1 p3.2.1 p3.2.2),(.slice p4.1 p4.2.1 p4.2.2),(.slice p5.1 p5.2.1 p5.2.2),(.slice p6.1 p6.2.1 p6.2.2)]),(.slice (some ⟨p8.1,0,none⟩) 1 1),(.slice known_2 known_2n known_2c)] p8.2)).bind fun p9 =>
 ((gB (some p9.1))).bind fun b10 =>
 cond (Bool.not b10)
 (some (ai h0 p9.2 (.bool false)))
 (((gL (rdC p9.2 (Addr.add f_3 1) 0))).bind fun p11 =>
 ((gI .i64 (rdC p9.2 (Addr.add t_4 1) 0))).bind fun n12 =>
 (p11.1).bind fun a13 =>
 cond (bM n12 p11.2.1)
 (((gI .i64 (rdC p9.2 (Addr.add a13 ((Int.toNat n12) * 1)) 0))).bind fun n14 =>
 cond (gz n14 1)
 (some (ai h0 p9.2 (.bool false)))
 (tj n n h0 known_2 known_2n known_2c f_3 t_4 0 p9.2))
 (none)))
 (((gI .i64 (rdC h (Addr.add t_4 1) 0))).bind fun n15 =>
 cond (gz n15 (-1))
 (some (ai h0 h (.bool false)))
 (tj n n h0 known_2 known_2n known_2c f_3 t_4 0 h))) = some r) : wV n h0 known_2 known_2n known_2c f_3 t_4 h = some r:=fO (plan:=jo) (by kernel_rfl) hv
theorem tl {n m0 : Nat} {h0 : AH} {known_2 : Option Addr} {known_2n known_2c : Nat} {f_3 t_4 : Addr} {i_9 : Int} {h : AH} {r : Go.Value × AH} (hv :
( ((gL (rdC h (Addr.add t_4 2) 0))).bind fun p0 =>
 cond (bZ i_9 (Int.ofNat p0.2.1))
 (((gS (rdC h f_3 0))).bind fun x1 =>
 ((gL (rdC h f_3 1))).bind fun p2 =>
 ((gL (rdC h f_3 2))).bind fun p3 =>
 ((gL (rdC h f_3 3))).bind fun p4 =>
 ((gL (rdC h f_3 4))).bind fun p5 =>
 ((gL (rdC h f_3 5))).bind fun p6 =>
 ((gL (rdC h (Addr.add t_4 2) 0))).bind fun p7 =>
 (p7.1).bind fun a8 =>
 cond (bM i_9 p7.2.1)
 (((gI .i64 (rdC h (Addr.add a8 ((Int.toNat i_9) * 2)) 0))).bind fun n9 =>
 ((gL (rdC h (Addr.add a8 ((Int.toNat i_9) * 2)) 1))).bind fun p10 =>
 ((az Tryz.prog n 49 [(.agg #[(.string x1),(.slice p2.1 p2.2.1 p2.2.2),(.slice p3.1 p3.2.1 p3.2.2),(.slice p4.1 p4.2.1 p4.2.2),(.slice p5.1 p5.2.1 p5.2.2),(.slice p6.1 p6.2.1 p6.2.2)]),(.agg #[(.int .i64 n9),(.slice p10.1 p10.2.1 p10.2.2)]),(.slice known_2 known_2n known_2c)] h)).bind fun p11 =>
 ((gB (some p11.1))).bind fun b12 =>
 cond (Bool.not b12)
 (some (ai h0 p11.2 (.bool false)))
 (tj n m0 h0 known_2 known_2n known_2c f_3 t_4 (aT .i64 i_9 1) p11.2))
 (none))
 (some (ai h0 h (.bool true)))) = some r) : tj n (m0 + 1) h0 known_2 known_2n known_2c f_3 t_4 i_9 h = some r:=gV (plan:=jo) (by kernel_rfl) hv
def FL : List (List Nat × List Nat):=[([1,1],[3,4]),([0,1,0,1,1,1,1],[3,4,7,8])]
 noncomputable def EF (n : Nat) (h0 : AH) (f_3 e_4 : Addr) (h : AH) : Option (Go.Value × AH):=aO Tryz.prog n Tryz.f49 h0 (.code (aB (av Tryz.f49) [1,1]) [1,1]) [] (E [(3,.pointer (some f_3)),(4,.pointer (some e_4))]) h
 noncomputable def wW (n m0 : Nat) (h0 : AH) (f_3 e_4 : Addr) (p_7 : Option Addr) (p_7n p_7c : Nat) (i_8 : Int) (h : AH) : Option (Go.Value × AH):=aO Tryz.prog n Tryz.f49 h0 (.head (aB (av Tryz.f49) [1,1,1,1,0,1,0,0]) [0,1,0,1,1,1,1] m0) [.block 0,.seq (aB (av Tryz.f49) [1,1,1,1,1]) [1,1,1,1,1]] (E [(3,.pointer (some f_3)),(4,.pointer (some e_4)),(7,.slice p_7 p_7n p_7c),(8,.int .i64 i_8)]) h
theorem FM {n : Nat} {f_0a : ByteArray} {f_0b : Option Addr} {f_0bn f_0bc : Nat} {f_0c : Option Addr} {f_0cn f_0cc : Nat} {f_0d : Option Addr} {f_0dn f_0dc : Nat} {f_0e : Option Addr} {f_0en f_0ec : Nat} {f_0f : Option Addr} {f_0fn f_0fc : Nat} {e_1a : Int} {e_1b : Option Addr} {e_1bn e_1bc : Nat} {known_2 : Option Addr} {known_2n known_2c : Nat} {h : AH} {r : Go.Value × AH} (hv :
( ((aF (setLow h h.next) [(.string f_0a),(.slice f_0b f_0bn f_0bc),(.slice f_0c f_0cn f_0cc),(.slice f_0d f_0dn f_0dc),(.slice f_0e f_0en f_0ec),(.slice f_0f f_0fn f_0fc)] 0)).bind fun p0 =>
 ((aF p0.2 [(.int .i64 e_1a),(.slice e_1b e_1bn e_1bc)] 0)).bind fun p1 =>
 ((gI .i64 (rdC p1.2 (Addr.add ⟨p1.1,0,none⟩ 0) 0))).bind fun n2 =>
 cond (bZ n2 1)
 (some (ai h p1.2 (.bool false)))
 (((gI .i64 (rdC p1.2 (Addr.add ⟨p1.1,0,none⟩ 0) 0))).bind fun n3 =>
 ((gL (rdC p1.2 (Addr.add ⟨p0.1,0,none⟩ 5) 0))).bind fun p4 =>
 cond (bS (Int.ofNat p4.2.1) n3)
 (some (ai h p1.2 (.bool false)))
 (((gS (rdC p1.2 ⟨p0.1,0,none⟩ 0))).bind fun x5 =>
 ((gL (rdC p1.2 ⟨p0.1,0,none⟩ 1))).bind fun p6 =>
 ((gL (rdC p1.2 ⟨p0.1,0,none⟩ 2))).bind fun p7 =>
 ((gL (rdC p1.2 ⟨p0.1,0,none⟩ 3))).bind fun p8 =>
 ((gL (rdC p1.2 ⟨p0.1,0,none⟩ 4))).bind fun p9 =>
 ((gL (rdC p1.2 ⟨p0.1,0,none⟩ 5))).bind fun p10 =>
 ((gL (rdC p1.2 (Addr.add ⟨p1.1,0,none⟩ 1) 0))).bind fun p11 =>
 ((az Tryz.prog n 18 [(.agg #[(.string x5),(.slice p6.1 p6.2.1 p6.2.2),(.slice p7.1 p7.2.1 p7.2.2),(.slice p8.1 p8.2.1 p8.2.2),(.slice p9.1 p9.2.1 p9.2.2),(.slice p10.1 p10.2.1 p10.2.2)]),(.slice p11.1 p11.2.1 p11.2.2),(.slice known_2 known_2n known_2c)] p1.2)).bind fun p12 =>
 ((gB (some p12.1))).bind fun b13 =>
 cond (Bool.not b13)
 (some (ai h p12.2 (.bool false)))
 (EF n h ⟨p0.1,0,none⟩ ⟨p1.1,0,none⟩ p12.2)))) = some r) : az Tryz.prog (n + 1) 49 [(.agg #[(.string f_0a),(.slice f_0b f_0bn f_0bc),(.slice f_0c f_0cn f_0cc),(.slice f_0d f_0dn f_0dc),(.slice f_0e f_0en f_0ec),(.slice f_0f f_0fn f_0fc)]),(.agg #[(.int .i64 e_1a),(.slice e_1b e_1bn e_1bc)]),(.slice known_2 known_2n known_2c)] h = some r:=eO (plan:=FL) (by kernel_rfl) hv
theorem AK {n : Nat} {h0 : AH} {f_3 e_4 : Addr} {h : AH} {r : Go.Value × AH} (hv :
( ((gL (rdC h (Addr.add f_3 5) 0))).bind fun p0 =>
 ((gI .i64 (rdC h (Addr.add e_4 0) 0))).bind fun n1 =>
 (p0.1).bind fun a2 =>
 cond (bM n1 p0.2.1)
 (((gL (rdC h (Addr.add (Addr.add a2 ((Int.toNat n1) * 9)) 0) 0))).bind fun p3 =>
 ((gL (rdC h (Addr.add e_4 1) 0))).bind fun p4 =>
 cond (gz (Int.ofNat p3.2.1) (Int.ofNat p4.2.1))
 (some (ai h0 h (.bool false)))
 (wW n n h0 f_3 e_4 p3.1 p3.2.1 p3.2.2 0 h))
 (none)) = some r) : EF n h0 f_3 e_4 h = some r:=fO (plan:=FL) (by kernel_rfl) hv
theorem tp {n m0 : Nat} {h0 : AH} {f_3 e_4 : Addr} {p_7 : Option Addr} {p_7n p_7c : Nat} {i_8 : Int} {h : AH} {r : Go.Value × AH} (hv :
( cond (bZ i_8 (Int.ofNat p_7n))
 (((gS (rdC h f_3 0))).bind fun x0 =>
 ((gL (rdC h f_3 1))).bind fun p1 =>
 ((gL (rdC h f_3 2))).bind fun p2 =>
 ((gL (rdC h f_3 3))).bind fun p3 =>
 ((gL (rdC h f_3 4))).bind fun p4 =>
 ((gL (rdC h f_3 5))).bind fun p5 =>
 (p_7).bind fun a6 =>
 cond (bM i_8 p_7n)
 (((gI .i64 (rdC h (Addr.add a6 ((Int.toNat i_8) * 1)) 0))).bind fun n7 =>
 ((az Tryz.prog n 16 [(.agg #[(.string x0),(.slice p1.1 p1.2.1 p1.2.2),(.slice p2.1 p2.2.1 p2.2.2),(.slice p3.1 p3.2.1 p3.2.2),(.slice p4.1 p4.2.1 p4.2.2),(.slice p5.1 p5.2.1 p5.2.2)]),(.int .i64 n7)] (setLow h h.next))).bind fun p8 =>
 ((gB (some p8.1))).bind fun b9 =>
 cond (Nat.beq p8.2.low h.next)
 (cond (Bool.not b9)
 (some (ai h0 (setLow p8.2 h.low) (.bool false)))
 (((gL (rdC (setLow p8.2 h.low) (Addr.add f_3 1) 0))).bind fun p10 =>
 (p_7).bind fun a11 =>
 cond (bM i_8 p_7n)
 (((gI .i64 (rdC (setLow p8.2 h.low) (Addr.add a11 ((Int.toNat i_8) * 1)) 0))).bind fun n12 =>
 (p10.1).bind fun a13 =>
 cond (bM n12 p10.2.1)
 (((gI .i64 (rdC (setLow p8.2 h.low) (Addr.add a13 ((Int.toNat n12) * 1)) 0))).bind fun n14 =>
 ((gL (rdC (setLow p8.2 h.low) (Addr.add f_3 1) 0))).bind fun p15 =>
 ((gL (rdC (setLow p8.2 h.low) (Addr.add e_4 1) 0))).bind fun p16 =>
 (p16.1).bind fun a17 =>
 cond (bM i_8 p16.2.1)
 (((gI .i64 (rdC (setLow p8.2 h.low) (Addr.add a17 ((Int.toNat i_8) * 1)) 0))).bind fun n18 =>
 (p15.1).bind fun a19 =>
 cond (bM n18 p15.2.1)
 (((gI .i64 (rdC (setLow p8.2 h.low) (Addr.add a19 ((Int.toNat n18) * 1)) 0))).bind fun n20 =>
 cond (gz n14 n20)
 (some (ai h0 (setLow p8.2 h.low) (.bool false)))
 (wW n m0 h0 f_3 e_4 p_7 p_7n p_7c (aT .i64 i_8 1) (setLow p8.2 h.low)))
 (none))
 (none))
 (none))
 (none)))
 (none))
 (none))
 (some (ai h0 h (.bool true)))) = some r) : wW n (m0 + 1) h0 f_3 e_4 p_7 p_7n p_7c i_8 h = some r:=gV (plan:=FL) (by kernel_rfl) hv
def p7 : List (List Nat × List Nat):=[([1,1],[1]),([0,1,0,1,1,1],[1,3,46,47]),([0,1,0,1,1,1,1],[1,3,4]),([1,1,0,0,1,0,0,1,0,1,1,1,1],[1,3,4,5]),([0,1,0,1,1,1,0,0,1,0,0,1,0,1,1,1,1],[1,3,4,5,6,101,102]),([0,1,0,1,1,1,1,0,0,1,0,0,1,0,1,1,1,1],[1,3,4,5,6,7]),([0,1,0,1,1,1,1,1,0,0,1,0,0,1,0,1,1,1,1],[1,3,4,5,6,9]),([1,1,0,0,1,0,0,1,0,1,1,1,1,1,0,0,1,0,0,1,0,1,1,1,1],[1,3,4,5,6,9,10]),([1,1,1,0,0,1,0,0,1,0,1,1,1,1,1,0,0,1,0,0,1,0,1,1,1,1],[1,3,4,5,6,9,10])]
 noncomputable def FO (n : Nat) (h0 : AH) (f_1 : Addr) (h : AH) : Option (Go.Value × AH):=aO Tryz.prog n Tryz.f6 h0 (.code (aB (av Tryz.f6) [1,1]) [1,1]) [] (E [(1,.pointer (some f_1))]) h
 noncomputable def DK (n m0 : Nat) (h0 : AH) (f_1 : Addr) (defined_3 : Option Addr) (defined_3n defined_3c : Nat) (t_46 t_47 : Int) (h : AH) : Option (Go.Value × AH):=aO Tryz.prog n Tryz.f6 h0 (.head (aB (av Tryz.f6) [1,1,1,0,1,0,0]) [0,1,0,1,1,1] m0) [.block 0,.seq (aB (av Tryz.f6) [1,1,1,1]) [1,1,1,1]] (E [(1,.pointer (some f_1)),(3,.slice defined_3 defined_3n defined_3c),(46,.int .i64 t_46),(47,.int .i64 t_47)]) h
 noncomputable def vD (n m0 : Nat) (h0 : AH) (f_1 : Addr) (defined_3 : Option Addr) (defined_3n defined_3c : Nat) (b_4 : Int) (h : AH) : Option (Go.Value × AH):=aO Tryz.prog n Tryz.f6 h0 (.head (aB (av Tryz.f6) [1,1,1,1,0,1,0,0]) [0,1,0,1,1,1,1] m0) [.block 2,.seq (aB (av Tryz.f6) [1,1,1,1,1]) [1,1,1,1,1]] (E [(1,.pointer (some f_1)),(3,.slice defined_3 defined_3n defined_3c),(4,.int .i64 b_4)]) h
 noncomputable def FP (n m0 : Nat) (h0 : AH) (f_1 : Addr) (defined_3 : Option Addr) (defined_3n defined_3c : Nat) (b_4 : Int) (x_5 : Addr) (h : AH) : Option (Go.Value × AH):=aO Tryz.prog n Tryz.f6 h0 (.code (aB (av Tryz.f6) [1,1,1,1,0,1,0,0,1,0,0,1,1]) [1,1,0,0,1,0,0,1,0,1,1,1,1]) [.block 3,.seq (aB (av Tryz.f6) [1,1,1,1,0,1,0,0,1,1]) [1,1,0,0,1,0,1,1,1,1],.loop (aB (av Tryz.f6) [1,1,1,1,0,1,0,0]) [0,1,0,1,1,1,1] m0,.block 2,.seq (aB (av Tryz.f6) [1,1,1,1,1]) [1,1,1,1,1]] (E [(1,.pointer (some f_1)),(3,.slice defined_3 defined_3n defined_3c),(4,.int .i64 b_4),(5,.pointer (some x_5))]) h
 noncomputable def DL (n m0 m1 : Nat) (h0 : AH) (f_1 : Addr) (defined_3 : Option Addr) (defined_3n defined_3c : Nat) (b_4 : Int) (x_5 : Addr) (known_6 : Option Addr) (known_6n known_6c : Nat) (t_101 t_102 : Int) (h : AH) : Option (Go.Value × AH):=aO Tryz.prog n Tryz.f6 h0 (.head (aB (av Tryz.f6) [1,1,1,1,0,1,0,0,1,0,0,1,1,1,0,1,0,0]) [0,1,0,1,1,1,0,0,1,0,0,1,0,1,1,1,1] m0) [.block 4,.seq (aB (av Tryz.f6) [1,1,1,1,0,1,0,0,1,0,0,1,1,1,1]) [1,1,1,1,0,0,1,0,0,1,0,1,1,1,1],.block 3,.seq (aB (av Tryz.f6) [1,1,1,1,0,1,0,0,1,1]) [1,1,0,0,1,0,1,1,1,1],.loop (aB (av Tryz.f6) [1,1,1,1,0,1,0,0]) [0,1,0,1,1,1,1] m1,.block 2,.seq (aB (av Tryz.f6) [1,1,1,1,1]) [1,1,1,1,1]] (E [(1,.pointer (some f_1)),(3,.slice defined_3 defined_3n defined_3c),(4,.int .i64 b_4),(5,.pointer (some x_5)),(6,.slice known_6 known_6n known_6c),(101,.int .i64 t_101),(102,.int .i64 t_102)]) h
 noncomputable def DM (n m0 m1 : Nat) (h0 : AH) (f_1 : Addr) (defined_3 : Option Addr) (defined_3n defined_3c : Nat) (b_4 : Int) (x_5 : Addr) (known_6 : Option Addr) (known_6n known_6c : Nat) (i_7 : Int) (h : AH) : Option (Go.Value × AH):=aO Tryz.prog n Tryz.f6 h0 (.head (aB (av Tryz.f6) [1,1,1,1,0,1,0,0,1,0,0,1,1,1,1,0,1,0,0]) [0,1,0,1,1,1,1,0,0,1,0,0,1,0,1,1,1,1] m0) [.block 6,.seq (aB (av Tryz.f6) [1,1,1,1,0,1,0,0,1,0,0,1,1,1,1,1]) [1,1,1,1,1,0,0,1,0,0,1,0,1,1,1,1],.block 3,.seq (aB (av Tryz.f6) [1,1,1,1,0,1,0,0,1,1]) [1,1,0,0,1,0,1,1,1,1],.loop (aB (av Tryz.f6) [1,1,1,1,0,1,0,0]) [0,1,0,1,1,1,1] m1,.block 2,.seq (aB (av Tryz.f6) [1,1,1,1,1]) [1,1,1,1,1]] (E [(1,.pointer (some f_1)),(3,.slice defined_3 defined_3n defined_3c),(4,.int .i64 b_4),(5,.pointer (some x_5)),(6,.slice known_6 known_6n known_6c),(7,.int .i64 i_7)]) h
 noncomputable def AM (n m0 m1 : Nat) (h0 : AH) (f_1 : Addr) (defined_3 : Option Addr) (defined_3n defined_3c : Nat) (b_4 : Int) (x_5 : Addr) (known_6 : Option Addr) (known_6n known_6c : Nat) (i_9 : Int) (h : AH) : Option (Go.Value × AH):=aO Tryz.prog n Tryz.f6 h0 (.head (aB (av Tryz.f6) [1,1,1,1,0,1,0,0,1,0,0,1,1,1,1,1,0,1,0,0]) [0,1,0,1,1,1,1,1,0,0,1,0,0,1,0,1,1,1,1] m0) [.block 8,.seq (aB (av Tryz.f6) [1,1,1,1,0,1,0,0,1,0,0,1,1,1,1,1,1]) [1,1,1,1,1,1,0,0,1,0,0,1,0,1,1,1,1],.block 3,.seq (aB (av Tryz.f6) [1,1,1,1,0,1,0,0,1,1]) [1,1,0,0,1,0,1,1,1,1],.loop (aB (av Tryz.f6) [1,1,1,1,0,1,0,0]) [0,1,0,1,1,1,1] m1,.block 2,.seq (aB (av Tryz.f6) [1,1,1,1,1]) [1,1,1,1,1]] (E [(1,.pointer (some f_1)),(3,.slice defined_3 defined_3n defined_3c),(4,.int .i64 b_4),(5,.pointer (some x_5)),(6,.slice known_6 known_6n known_6c),(9,.int .i64 i_9)]) h
 noncomputable def FQ (n m0 m1 : Nat) (h0 : AH) (f_1 : Addr) (defined_3 : Option Addr) (defined_3n defined_3c : Nat) (b_4 : Int) (x_5 : Addr) (known_6 : Option Addr) (known_6n known_6c : Nat) (i_9 : Int) (in_10 : Addr) (h : AH) : Option (Go.Value × AH):=aO Tryz.prog n Tryz.f6 h0 (.code (aB (av Tryz.f6) [1,1,1,1,0,1,0,0,1,0,0,1,1,1,1,1,0,1,0,0,1,0,0,1,1]) [1,1,0,0,1,0,0,1,0,1,1,1,1,1,0,0,1,0,0,1,0,1,1,1,1]) [.block 9,.seq (aB (av Tryz.f6) [1,1,1,1,0,1,0,0,1,0,0,1,1,1,1,1,0,1,0,0,1,1]) [1,1,0,0,1,0,1,1,1,1,1,0,0,1,0,0,1,0,1,1,1,1],.loop (aB (av Tryz.f6) [1,1,1,1,0,1,0,0,1,0,0,1,1,1,1,1,0,1,0,0]) [0,1,0,1,1,1,1,1,0,0,1,0,0,1,0,1,1,1,1] m0,.block 8,.seq (aB (av Tryz.f6) [1,1,1,1,0,1,0,0,1,0,0,1,1,1,1,1,1]) [1,1,1,1,1,1,0,0,1,0,0,1,0,1,1,1,1],.block 3,.seq (aB (av Tryz.f6) [1,1,1,1,0,1,0,0,1,1]) [1,1,0,0,1,0,1,1,1,1],.loop (aB (av Tryz.f6) [1,1,1,1,0,1,0,0]) [0,1,0,1,1,1,1] m1,.block 2,.seq (aB (av Tryz.f6) [1,1,1,1,1]) [1,1,1,1,1]] (E [(1,.pointer (some f_1)),(3,.slice defined_3 defined_3n defined_3c),(4,.int .i64 b_4),(5,.pointer (some x_5)),(6,.slice known_6 known_6n known_6c),(9,.int .i64 i_9),(10,.pointer (some in_10))]) h
 noncomputable def DN (n m0 m1 : Nat) (h0 : AH) (f_1 : Addr) (defined_3 : Option Addr) (defined_3n defined_3c : Nat) (b_4 : Int) (x_5 : Addr) (known_6 : Option Addr) (known_6n known_6c : Nat) (i_9 : Int) (in_10 : Addr) (h : AH) : Option (Go.Value × AH):=aO Tryz.prog n Tryz.f6 h0 (.code (aB (av Tryz.f6) [1,1,1,1,0,1,0,0,1,0,0,1,1,1,1,1,0,1,0,0,1,0,0,1,1,1]) [1,1,1,0,0,1,0,0,1,0,1,1,1,1,1,0,0,1,0,0,1,0,1,1,1,1]) [.block 9,.seq (aB (av Tryz.f6) [1,1,1,1,0,1,0,0,1,0,0,1,1,1,1,1,0,1,0,0,1,1]) [1,1,0,0,1,0,1,1,1,1,1,0,0,1,0,0,1,0,1,1,1,1],.loop (aB (av Tryz.f6) [1,1,1,1,0,1,0,0,1,0,0,1,1,1,1,1,0,1,0,0]) [0,1,0,1,1,1,1,1,0,0,1,0,0,1,0,1,1,1,1] m0,.block 8,.seq (aB (av Tryz.f6) [1,1,1,1,0,1,0,0,1,0,0,1,1,1,1,1,1]) [1,1,1,1,1,1,0,0,1,0,0,1,0,1,1,1,1],.block 3,.seq (aB (av Tryz.f6) [1,1,1,1,0,1,0,0,1,1]) [1,1,0,0,1,0,1,1,1,1],.loop (aB (av Tryz.f6) [1,1,1,1,0,1,0,0]) [0,1,0,1,1,1,1] m1,.block 2,.seq (aB (av Tryz.f6) [1,1,1,1,1]) [1,1,1,1,1]] (E [(1,.pointer (some f_1)),(3,.slice defined_3 defined_3n defined_3c),(4,.int .i64 b_4),(5,.pointer (some x_5)),(6,.slice known_6 known_6n known_6c),(9,.int .i64 i_9),(10,.pointer (some in_10))]) h
theorem HN {n : Nat} {f_0a : ByteArray} {f_0b : Option Addr} {f_0bn f_0bc : Nat} {f_0c : Option Addr} {f_0cn f_0cc : Nat} {f_0d : Option Addr} {f_0dn f_0dc : Nat} {f_0e : Option Addr} {f_0en f_0ec : Nat} {f_0f : Option Addr} {f_0fn f_0fc : Nat} {h : AH} {r : Go.Value × AH} (hv :
( ((aF (setLow h h.next) [(.string f_0a),(.slice f_0b f_0bn f_0bc),(.slice f_0c f_0cn f_0cc),(.slice f_0d f_0dn f_0dc),(.slice f_0e f_0en f_0ec),(.slice f_0f f_0fn f_0fc)] 0)).bind fun p0 =>
 ((gS (rdC p0.2 (Addr.add ⟨p0.1,0,none⟩ 0) 0))).bind fun x1 =>
 ((az Tryz.prog n 13 [(.string x1)] p0.2)).bind fun p2 =>
 ((gB (some p2.1))).bind fun b3 =>
 cond (Bool.not b3)
 (some (ai h p2.2 (.bool false)))
 (((gS (rdC p2.2 ⟨p0.1,0,none⟩ 0))).bind fun x4 =>
 ((gL (rdC p2.2 ⟨p0.1,0,none⟩ 1))).bind fun p5 =>
 ((gL (rdC p2.2 ⟨p0.1,0,none⟩ 2))).bind fun p6 =>
 ((gL (rdC p2.2 ⟨p0.1,0,none⟩ 3))).bind fun p7 =>
 ((gL (rdC p2.2 ⟨p0.1,0,none⟩ 4))).bind fun p8 =>
 ((gL (rdC p2.2 ⟨p0.1,0,none⟩ 5))).bind fun p9 =>
 ((az Tryz.prog n 14 [(.agg #[(.string x4),(.slice p5.1 p5.2.1 p5.2.2),(.slice p6.1 p6.2.1 p6.2.2),(.slice p7.1 p7.2.1 p7.2.2),(.slice p8.1 p8.2.1 p8.2.2),(.slice p9.1 p9.2.1 p9.2.2)])] p2.2)).bind fun p10 =>
 ((gB (some p10.1))).bind fun b11 =>
 cond (Bool.not b11)
 (some (ai h p10.2 (.bool false)))
 (((gL (rdC p10.2 (Addr.add ⟨p0.1,0,none⟩ 1) 0))).bind fun p12 =>
 ((az Tryz.prog n 15 [(.slice p12.1 p12.2.1 p12.2.2),(.int .i64 65536)] p10.2)).bind fun p13 =>
 ((gB (some p13.1))).bind fun b14 =>
 cond (Bool.not b14)
 (some (ai h p13.2 (.bool false)))
 (((gL (rdC p13.2 (Addr.add ⟨p0.1,0,none⟩ 4) 0))).bind fun p15 =>
 ((az Tryz.prog n 15 [(.slice p15.1 p15.2.1 p15.2.2),(.int .i64 64)] p13.2)).bind fun p16 =>
 ((gB (some p16.1))).bind fun b17 =>
 cond (Bool.not b17)
 (some (ai h p16.2 (.bool false)))
 (((gL (rdC p16.2 (Addr.add ⟨p0.1,0,none⟩ 5) 0))).bind fun p18 =>
 cond (bZ (Int.ofNat p18.2.1) 1)
 (some (ai h p16.2 (.bool false)))
 (((gL (rdC p16.2 (Addr.add ⟨p0.1,0,none⟩ 5) 0))).bind fun gh =>
 cond (bZ 1024 (Int.ofNat gh.2.1))
 (some (ai h p16.2 (.bool false)))
 (FO n h ⟨p0.1,0,none⟩ p16.2))))))) = some r) : az Tryz.prog (n + 1) 6 [(.agg #[(.string f_0a),(.slice f_0b f_0bn f_0bc),(.slice f_0c f_0cn f_0cc),(.slice f_0d f_0dn f_0dc),(.slice f_0e f_0en f_0ec),(.slice f_0f f_0fn f_0fc)])] h = some r:=eO (plan:=p7) (by kernel_rfl) hv
theorem DO {n : Nat} {h0 : AH} {f_1 : Addr} {h : AH} {r : Go.Value × AH} (hv :
( ((gL (rdC h (Addr.add f_1 1) 0))).bind fun p0 =>
 DK n n h0 f_1 none 0 0 (Int.ofNat p0.2.1) 0 h) = some r) : FO n h0 f_1 h = some r:=fO (plan:=p7) (by kernel_rfl) hv
theorem wX {n m0 : Nat} {h0 : AH} {f_1 : Addr} {defined_3 : Option Addr} {defined_3n defined_3c : Nat} {t_46 t_47 : Int} {h : AH} {r : Go.Value × AH} (hv :
( cond (bZ t_47 t_46)
 (((aF h [(.bool false)] 1)).bind fun p0 =>
 ((dg 1 1 (.slice defined_3 defined_3n defined_3c) (.slice (some ⟨p0.1,0,none⟩) 1 1) p0.2)).bind fun p1 =>
 DK n m0 h0 f_1 p1.1.1 p1.1.2.1 p1.1.2.2 t_46 (aT .i64 t_47 1) p1.2)
 (vD n n h0 f_1 defined_3 defined_3n defined_3c 0 h)) = some r) : DK n (m0 + 1) h0 f_1 defined_3 defined_3n defined_3c t_46 t_47 h = some r:=gV (plan:=p7) (by kernel_rfl) hv
theorem wY {n m0 : Nat} {h0 : AH} {f_1 : Addr} {defined_3 : Option Addr} {defined_3n defined_3c : Nat} {b_4 : Int} {h : AH} {r : Go.Value × AH} (hv :
( ((gL (rdC h (Addr.add f_1 5) 0))).bind fun p0 =>
 cond (bZ b_4 (Int.ofNat p0.2.1))
 (((gL (rdC h (Addr.add f_1 5) 0))).bind fun p1 =>
 (p1.1).bind fun a2 =>
 cond (bM b_4 p1.2.1)
 (((gL (rdC h (Addr.add a2 ((Int.toNat b_4) * 9)) 0))).bind fun p3 =>
 ((gL (rdC h (Addr.add a2 ((Int.toNat b_4) * 9)) 1))).bind fun p4 =>
 ((gI .i64 (rdC h (Addr.add a2 ((Int.toNat b_4) * 9)) 2))).bind fun n5 =>
 ((gI .i64 (rdC h (Addr.add a2 ((Int.toNat b_4) * 9)) 3))).bind fun n6 =>
 ((gL (rdC h (Addr.add a2 ((Int.toNat b_4) * 9)) 4))).bind fun p7 =>
 ((gL (rdC h (Addr.add a2 ((Int.toNat b_4) * 9)) 5))).bind fun p8 =>
 ((gI .i64 (rdC h (Addr.add a2 ((Int.toNat b_4) * 9)) 6))).bind fun n9 =>
 ((gI .i64 (rdC h (Addr.add a2 ((Int.toNat b_4) * 9)) 7))).bind fun n10 =>
 ((gI .i64 (rdC h (Addr.add a2 ((Int.toNat b_4) * 9)) 8))).bind fun n11 =>
 ((aF h [(.slice none 0 0),(.slice none 0 0),(.int .i64 0),(.int .i64 0),(.slice none 0 0),(.slice none 0 0),(.int .i64 0),(.int .i64 0),(.int .i64 0)] 0)).bind fun p12 =>
 ((di p12.2 ⟨p12.1,0,none⟩ [(.slice p3.1 p3.2.1 p3.2.2),(.slice p4.1 p4.2.1 p4.2.2),(.int .i64 n5),(.int .i64 n6),(.slice p7.1 p7.2.1 p7.2.2),(.slice p8.1 p8.2.1 p8.2.2),(.int .i64 n9),(.int .i64 n10),(.int .i64 n11)])).bind fun x13 =>
 ((gL (rdC x13 (Addr.add ⟨p12.1,0,none⟩ 1) 0))).bind fun p14 =>
 cond (bZ 4096 (Int.ofNat p14.2.1))
 (some (ai h0 x13 (.bool false)))
 (((gI .i64 (rdC x13 (Addr.add ⟨p12.1,0,none⟩ 6) 0))).bind fun n15 =>
 cond (bZ n15 0)
 (some (ai h0 x13 (.bool false)))
 (((gI .i64 (rdC x13 (Addr.add ⟨p12.1,0,none⟩ 6) 0))).bind fun n16 =>
 cond (bZ 256 n16)
 (some (ai h0 x13 (.bool false)))
 (((gI .i64 (rdC x13 (Addr.add ⟨p12.1,0,none⟩ 7) 0))).bind fun n17 =>
 cond (bZ n17 0)
 (some (ai h0 x13 (.bool false)))
 (((gI .i64 (rdC x13 (Addr.add ⟨p12.1,0,none⟩ 7) 0))).bind fun n18 =>
 cond (bZ 64 n18)
 (some (ai h0 x13 (.bool false)))
 (((gI .i64 (rdC x13 (Addr.add ⟨p12.1,0,none⟩ 8) 0))).bind fun n19 =>
 cond (bZ n19 0)
 (some (ai h0 x13 (.bool false)))
 (((gI .i64 (rdC x13 (Addr.add ⟨p12.1,0,none⟩ 8) 0))).bind fun n20 =>
 cond (bZ 2147483647 n20)
 (some (ai h0 x13 (.bool false)))
 (FP n m0 h0 f_1 defined_3 defined_3n defined_3c b_4 ⟨p12.1,0,none⟩ x13))))))))
 (none))
 (some (ai h0 h (.bool true)))) = some r) : vD n (m0 + 1) h0 f_1 defined_3 defined_3n defined_3c b_4 h = some r:=gV (plan:=p7) (by kernel_rfl) hv
theorem DP {n m0 : Nat} {h0 : AH} {f_1 : Addr} {defined_3 : Option Addr} {defined_3n defined_3c : Nat} {b_4 : Int} {x_5 : Addr} {h : AH} {r : Go.Value × AH} (hv :
( ((gL (rdC h (Addr.add f_1 1) 0))).bind fun p0 =>
 DL n n m0 h0 f_1 defined_3 defined_3n defined_3c b_4 x_5 none 0 0 (Int.ofNat p0.2.1) 0 h) = some r) : FP n m0 h0 f_1 defined_3 defined_3n defined_3c b_4 x_5 h = some r:=fO (plan:=p7) (by kernel_rfl) hv
theorem wZ {n m0 m1 : Nat} {h0 : AH} {f_1 : Addr} {defined_3 : Option Addr} {defined_3n defined_3c : Nat} {b_4 : Int} {x_5 : Addr} {known_6 : Option Addr} {known_6n known_6c : Nat} {t_101 t_102 : Int} {h : AH} {r : Go.Value × AH} (hv :
( cond (bZ t_102 t_101)
 (((aF h [(.bool false)] 1)).bind fun p0 =>
 ((dg 1 1 (.slice known_6 known_6n known_6c) (.slice (some ⟨p0.1,0,none⟩) 1 1) p0.2)).bind fun p1 =>
 DL n m0 m1 h0 f_1 defined_3 defined_3n defined_3c b_4 x_5 p1.1.1 p1.1.2.1 p1.1.2.2 t_101 (aT .i64 t_102 1) p1.2)
 (DM n n m1 h0 f_1 defined_3 defined_3n defined_3c b_4 x_5 known_6 known_6n known_6c 0 h)) = some r) : DL n (m0 + 1) m1 h0 f_1 defined_3 defined_3n defined_3c b_4 x_5 known_6 known_6n known_6c t_101 t_102 h = some r:=gV (plan:=p7) (by kernel_rfl) hv
theorem w7 {n m0 m1 : Nat} {h0 : AH} {f_1 : Addr} {defined_3 : Option Addr} {defined_3n defined_3c : Nat} {b_4 : Int} {x_5 : Addr} {known_6 : Option Addr} {known_6n known_6c : Nat} {i_7 : Int} {h : AH} {r : Go.Value × AH} (hv :
( ((gL (rdC h (Addr.add x_5 0) 0))).bind fun p0 =>
 cond (bZ i_7 (Int.ofNat p0.2.1))
 (((gL (rdC h (Addr.add x_5 0) 0))).bind fun p1 =>
 (p1.1).bind fun a2 =>
 cond (bM i_7 p1.2.1)
 (((gI .i64 (rdC h (Addr.add a2 ((Int.toNat i_7) * 1)) 0))).bind fun n3 =>
 ((gS (rdC h f_1 0))).bind fun x4 =>
 ((gL (rdC h f_1 1))).bind fun p5 =>
 ((gL (rdC h f_1 2))).bind fun p6 =>
 ((gL (rdC h f_1 3))).bind fun p7 =>
 ((gL (rdC h f_1 4))).bind fun p8 =>
 ((gL (rdC h f_1 5))).bind fun p9 =>
 ((az Tryz.prog n 16 [(.agg #[(.string x4),(.slice p5.1 p5.2.1 p5.2.2),(.slice p6.1 p6.2.1 p6.2.2),(.slice p7.1 p7.2.1 p7.2.2),(.slice p8.1 p8.2.1 p8.2.2),(.slice p9.1 p9.2.1 p9.2.2)]),(.int .i64 n3)] h)).bind fun p10 =>
 ((gB (some p10.1))).bind fun b11 =>
 cond (Bool.not b11)
 (some (ai h0 p10.2 (.bool false)))
 ((defined_3).bind fun a12 =>
 cond (bM n3 defined_3n)
 (((gB (rdC p10.2 (Addr.add a12 ((Int.toNat n3) * 1)) 0))).bind fun b13 =>
 cond b13
 (some (ai h0 p10.2 (.bool false)))
 ((defined_3).bind fun a14 =>
 cond (bM n3 defined_3n)
 (((di p10.2 (Addr.add a14 ((Int.toNat n3) * 1)) [(.bool true)])).bind fun x15 =>
 (known_6).bind fun a16 =>
 cond (bM n3 known_6n)
 (((di x15 (Addr.add a16 ((Int.toNat n3) * 1)) [(.bool true)])).bind fun x17 =>
 DM n m0 m1 h0 f_1 defined_3 defined_3n defined_3c b_4 x_5 known_6 known_6n known_6c (aT .i64 i_7 1) x17)
 (none))
 (none)))
 (none)))
 (none))
 (AM n n m1 h0 f_1 defined_3 defined_3n defined_3c b_4 x_5 known_6 known_6n known_6c 0 h)) = some r) : DM n (m0 + 1) m1 h0 f_1 defined_3 defined_3n defined_3c b_4 x_5 known_6 known_6n known_6c i_7 h = some r:=gV (plan:=p7) (by kernel_rfl) hv
theorem w8 {n m0 m1 : Nat} {h0 : AH} {f_1 : Addr} {defined_3 : Option Addr} {defined_3n defined_3c : Nat} {b_4 : Int} {x_5 : Addr} {known_6 : Option Addr} {known_6n known_6c : Nat} {i_9 : Int} {h : AH} {r : Go.Value × AH} (hv :
( ((gL (rdC h (Addr.add x_5 1) 0))).bind fun p0 =>
 cond (bZ i_9 (Int.ofNat p0.2.1))
 (((gL (rdC h (Addr.add x_5 1) 0))).bind fun p1 =>
 (p1.1).bind fun a2 =>
 cond (bM i_9 p1.2.1)
 (((gI .i64 (rdC h (Addr.add a2 ((Int.toNat i_9) * 5)) 0))).bind fun n3 =>
 ((gI .i64 (rdC h (Addr.add a2 ((Int.toNat i_9) * 5)) 1))).bind fun n4 =>
 ((gL (rdC h (Addr.add a2 ((Int.toNat i_9) * 5)) 2))).bind fun p5 =>
 ((gI .u64 (rdC h (Addr.add a2 ((Int.toNat i_9) * 5)) 3))).bind fun n6 =>
 ((gI .i64 (rdC h (Addr.add a2 ((Int.toNat i_9) * 5)) 4))).bind fun n7 =>
 ((aF h [(.int .i64 0),(.int .i64 0),(.slice none 0 0),(.int .u64 0),(.int .i64 0)] 0)).bind fun p8 =>
 ((di p8.2 ⟨p8.1,0,none⟩ [(.int .i64 n3),(.int .i64 n4),(.slice p5.1 p5.2.1 p5.2.2),(.int .u64 n6),(.int .i64 n7)])).bind fun x9 =>
 ((gI .i64 (rdC x9 (Addr.add ⟨p8.1,0,none⟩ 0) 0))).bind fun n10 =>
 ((az Tryz.prog n 17 [(.int .i64 n10)] (setLow x9 x9.next))).bind fun p11 =>
 ((gI .i64 (some p11.1))).bind fun n12 =>
 cond (Nat.beq p11.2.low x9.next)
 (((gL (rdC (setLow p11.2 x9.low) (Addr.add ⟨p8.1,0,none⟩ 2) 0))).bind fun p13 =>
 cond (gz n12 (Int.ofNat p13.2.1))
 (some (ai h0 (setLow p11.2 x9.low) (.bool false)))
 (((gS (rdC (setLow p11.2 x9.low) f_1 0))).bind fun x14 =>
 ((gL (rdC (setLow p11.2 x9.low) f_1 1))).bind fun p15 =>
 ((gL (rdC (setLow p11.2 x9.low) f_1 2))).bind fun p16 =>
 ((gL (rdC (setLow p11.2 x9.low) f_1 3))).bind fun p17 =>
 ((gL (rdC (setLow p11.2 x9.low) f_1 4))).bind fun p18 =>
 ((gL (rdC (setLow p11.2 x9.low) f_1 5))).bind fun gh =>
 ((gL (rdC (setLow p11.2 x9.low) (Addr.add ⟨p8.1,0,none⟩ 2) 0))).bind fun jB =>
 ((az Tryz.prog n 18 [(.agg #[(.string x14),(.slice p15.1 p15.2.1 p15.2.2),(.slice p16.1 p16.2.1 p16.2.2),(.slice p17.1 p17.2.1 p17.2.2),(.slice p18.1 p18.2.1 p18.2.2),(.slice gh.1 gh.2.1 gh.2.2)]),(.slice jB.1 jB.2.1 jB.2.2),(.slice known_6 known_6n known_6c)] (setLow p11.2 x9.low))).bind fun gQ =>
 ((gB (some gQ.1))).bind fun b22 =>
 cond (Bool.not b22)
 (some (ai h0 gQ.2 (.bool false)))
 (FQ n m0 m1 h0 f_1 defined_3 defined_3n defined_3c b_4 x_5 known_6 known_6n known_6c i_9 ⟨p8.1,0,none⟩ gQ.2)))
 (none))
 (none))
 (((gS (rdC h f_1 0))).bind fun x23 =>
 ((gL (rdC h f_1 1))).bind fun iy =>
 ((gL (rdC h f_1 2))).bind fun jo =>
 ((gL (rdC h f_1 3))).bind fun p26 =>
 ((gL (rdC h f_1 4))).bind fun p27 =>
 ((gL (rdC h f_1 5))).bind fun p28 =>
 ((gI .i64 (rdC h (Addr.add x_5 2) 0))).bind fun n29 =>
 ((gI .i64 (rdC h (Addr.add x_5 2) 1))).bind fun n30 =>
 ((gL (rdC h (Addr.add x_5 2) 2))).bind fun p31 =>
 ((gL (rdC h (Addr.add x_5 2) 3))).bind fun p32 =>
 ((az Tryz.prog n 21 [(.agg #[(.string x23),(.slice iy.1 iy.2.1 iy.2.2),(.slice jo.1 jo.2.1 jo.2.2),(.slice p26.1 p26.2.1 p26.2.2),(.slice p27.1 p27.2.1 p27.2.2),(.slice p28.1 p28.2.1 p28.2.2)]),(.agg #[(.int .i64 n29),(.int .i64 n30),(.slice p31.1 p31.2.1 p31.2.2),(.slice p32.1 p32.2.1 p32.2.2)]),(.slice known_6 known_6n known_6c)] h)).bind fun p33 =>
 ((gB (some p33.1))).bind fun b34 =>
 cond (Bool.not b34)
 (some (ai h0 p33.2 (.bool false)))
 (vD n m1 h0 f_1 defined_3 defined_3n defined_3c (aT .i64 b_4 1) p33.2))) = some r) : AM n (m0 + 1) m1 h0 f_1 defined_3 defined_3n defined_3c b_4 x_5 known_6 known_6n known_6c i_9 h = some r:=gV (plan:=p7) (by kernel_rfl) hv
theorem DQ {n m0 m1 : Nat} {h0 : AH} {f_1 : Addr} {defined_3 : Option Addr} {defined_3n defined_3c : Nat} {b_4 : Int} {x_5 : Addr} {known_6 : Option Addr} {known_6n known_6c : Nat} {i_9 : Int} {in_10 : Addr} {h : AH} {r : Go.Value × AH} (hv :
( ((gI .i64 (rdC h (Addr.add in_10 0) 0))).bind fun n0 =>
 ((az Tryz.prog n 19 [(.int .i64 n0)] h)).bind fun p1 =>
 ((gB (some p1.1))).bind fun b2 =>
 cond b2
 (((gS (rdC p1.2 f_1 0))).bind fun x3 =>
 ((gL (rdC p1.2 f_1 1))).bind fun p4 =>
 ((gL (rdC p1.2 f_1 2))).bind fun p5 =>
 ((gL (rdC p1.2 f_1 3))).bind fun p6 =>
 ((gL (rdC p1.2 f_1 4))).bind fun p7 =>
 ((gL (rdC p1.2 f_1 5))).bind fun p8 =>
 ((gI .i64 (rdC p1.2 (Addr.add in_10 1) 0))).bind fun n9 =>
 ((az Tryz.prog n 16 [(.agg #[(.string x3),(.slice p4.1 p4.2.1 p4.2.2),(.slice p5.1 p5.2.1 p5.2.2),(.slice p6.1 p6.2.1 p6.2.2),(.slice p7.1 p7.2.1 p7.2.2),(.slice p8.1 p8.2.1 p8.2.2)]),(.int .i64 n9)] p1.2)).bind fun p10 =>
 ((gB (some p10.1))).bind fun b11 =>
 cond (Bool.not b11)
 (some (ai h0 p10.2 (.bool false)))
 (((gI .i64 (rdC p10.2 (Addr.add in_10 1) 0))).bind fun n12 =>
 (defined_3).bind fun a13 =>
 cond (bM n12 defined_3n)
 (((gB (rdC p10.2 (Addr.add a13 ((Int.toNat n12) * 1)) 0))).bind fun b14 =>
 cond b14
 (some (ai h0 p10.2 (.bool false)))
 (DN n m0 m1 h0 f_1 defined_3 defined_3n defined_3c b_4 x_5 known_6 known_6n known_6c i_9 in_10 p10.2))
 (none)))
 (((gI .i64 (rdC p1.2 (Addr.add in_10 1) 0))).bind fun n15 =>
 cond (gz n15 (-1))
 (some (ai h0 p1.2 (.bool false)))
 (DN n m0 m1 h0 f_1 defined_3 defined_3n defined_3c b_4 x_5 known_6 known_6n known_6c i_9 in_10 p1.2))) = some r) : FQ n m0 m1 h0 f_1 defined_3 defined_3n defined_3c b_4 x_5 known_6 known_6n known_6c i_9 in_10 h = some r:=fO (plan:=p7) (by kernel_rfl) hv
theorem DR {n m0 m1 : Nat} {h0 : AH} {f_1 : Addr} {defined_3 : Option Addr} {defined_3n defined_3c : Nat} {b_4 : Int} {x_5 : Addr} {known_6 : Option Addr} {known_6n known_6c : Nat} {i_9 : Int} {in_10 : Addr} {h : AH} {r : Go.Value × AH} (hv :
( ((gS (rdC h f_1 0))).bind fun x0 =>
 ((gL (rdC h f_1 1))).bind fun p1 =>
 ((gL (rdC h f_1 2))).bind fun p2 =>
 ((gL (rdC h f_1 3))).bind fun p3 =>
 ((gL (rdC h f_1 4))).bind fun p4 =>
 ((gL (rdC h f_1 5))).bind fun p5 =>
 ((gI .i64 (rdC h in_10 0))).bind fun n6 =>
 ((gI .i64 (rdC h in_10 1))).bind fun n7 =>
 ((gL (rdC h in_10 2))).bind fun p8 =>
 ((gI .u64 (rdC h in_10 3))).bind fun n9 =>
 ((gI .i64 (rdC h in_10 4))).bind fun n10 =>
 ((az Tryz.prog n 20 [(.agg #[(.string x0),(.slice p1.1 p1.2.1 p1.2.2),(.slice p2.1 p2.2.1 p2.2.2),(.slice p3.1 p3.2.1 p3.2.2),(.slice p4.1 p4.2.1 p4.2.2),(.slice p5.1 p5.2.1 p5.2.2)]),(.agg #[(.int .i64 n6),(.int .i64 n7),(.slice p8.1 p8.2.1 p8.2.2),(.int .u64 n9),(.int .i64 n10)])] h)).bind fun p11 =>
 ((gB (some p11.1))).bind fun b12 =>
 cond (Bool.not b12)
 (some (ai h0 p11.2 (.bool false)))
 (((gI .i64 (rdC p11.2 (Addr.add in_10 0) 0))).bind fun n13 =>
 ((az Tryz.prog n 19 [(.int .i64 n13)] p11.2)).bind fun p14 =>
 ((gB (some p14.1))).bind fun b15 =>
 cond b15
 (((gI .i64 (rdC p14.2 (Addr.add in_10 1) 0))).bind fun n16 =>
 (defined_3).bind fun a17 =>
 cond (bM n16 defined_3n)
 (((di p14.2 (Addr.add a17 ((Int.toNat n16) * 1)) [(.bool true)])).bind fun x18 =>
 ((gI .i64 (rdC x18 (Addr.add in_10 1) 0))).bind fun n19 =>
 (known_6).bind fun a20 =>
 cond (bM n19 known_6n)
 (((di x18 (Addr.add a20 ((Int.toNat n19) * 1)) [(.bool true)])).bind fun x21 =>
 AM n m0 m1 h0 f_1 defined_3 defined_3n defined_3c b_4 x_5 known_6 known_6n known_6c (aT .i64 i_9 1) x21)
 (none))
 (none))
 (AM n m0 m1 h0 f_1 defined_3 defined_3n defined_3c b_4 x_5 known_6 known_6n known_6c (aT .i64 i_9 1) p14.2))) = some r) : DN n m0 m1 h0 f_1 defined_3 defined_3n defined_3c b_4 x_5 known_6 known_6n known_6c i_9 in_10 h = some r:=fO (plan:=p7) (by kernel_rfl) hv
def p18 : List (List Nat × List Nat):=[([0,1,0,1,1],[1,3,4]),([1,1,1,0,0,1,0,0,1,0,1,1],[1,3,4,5]),([1,0,1,1,1,1,0,0,1,0,0,1,0,1,1],[1,3,4,5,41,42]),([1,1,1,0,1,1,1,1,0,0,1,0,0,1,0,1,1],[1,3,4,5,58]),([0,1,0,1,1,1],[1,3,6]),([0,1,0,1,1,1,1],[1,3,7]),([0,1,1,0,0,1,0,0,1,0,1,1,1,1],[1,3,7,8])]
 noncomputable def pT (n m0 : Nat) (h0 : AH) (f_1 : Addr) (names_3 : Option Addr) (names_3n names_3c : Nat) (i_4 : Int) (h : AH) : Option (Go.Value × AH):=aO Tryz.prog n Tryz.f14 h0 (.head (aB (av Tryz.f14) [1,1,0,1,0,0]) [0,1,0,1,1] m0) [.block 0,.seq (aB (av Tryz.f14) [1,1,1]) [1,1,1]] (E [(1,.pointer (some f_1)),(3,.slice names_3 names_3n names_3c),(4,.int .i64 i_4)]) h
 noncomputable def AN (n m0 : Nat) (h0 : AH) (f_1 : Addr) (names_3 : Option Addr) (names_3n names_3c : Nat) (i_4 : Int) (a_5 : Addr) (h : AH) : Option (Go.Value × AH):=aO Tryz.prog n Tryz.f14 h0 (.code (aB (av Tryz.f14) [1,1,0,1,0,0,1,0,0,1,1,1]) [1,1,1,0,0,1,0,0,1,0,1,1]) [.block 1,.seq (aB (av Tryz.f14) [1,1,0,1,0,0,1,1]) [1,1,0,0,1,0,1,1],.loop (aB (av Tryz.f14) [1,1,0,1,0,0]) [0,1,0,1,1] m0,.block 0,.seq (aB (av Tryz.f14) [1,1,1]) [1,1,1]] (E [(1,.pointer (some f_1)),(3,.slice names_3 names_3n names_3c),(4,.int .i64 i_4),(5,.pointer (some a_5))]) h
 noncomputable def w9 (n m0 : Nat) (h0 : AH) (f_1 : Addr) (names_3 : Option Addr) (names_3n names_3c : Nat) (i_6 : Int) (h : AH) : Option (Go.Value × AH):=aO Tryz.prog n Tryz.f14 h0 (.head (aB (av Tryz.f14) [1,1,1,0,1,0,0]) [0,1,0,1,1,1] m0) [.block 3,.seq (aB (av Tryz.f14) [1,1,1,1]) [1,1,1,1]] (E [(1,.pointer (some f_1)),(3,.slice names_3 names_3n names_3c),(6,.int .i64 i_6)]) h
 noncomputable def xd (n m0 : Nat) (h0 : AH) (f_1 : Addr) (names_3 : Option Addr) (names_3n names_3c : Nat) (i_4 : Int) (a_5 : Addr) (t_41 : Int) (t_42 : Bool) (h : AH) : Option (Go.Value × AH):=aO Tryz.prog n Tryz.f14 h0 (.code (aB (av Tryz.f14) [1,1,0,1,0,0,1,0,0,1,1,1,1,0,1]) [1,0,1,1,1,1,0,0,1,0,0,1,0,1,1]) [.block 2,.block 1,.seq (aB (av Tryz.f14) [1,1,0,1,0,0,1,1]) [1,1,0,0,1,0,1,1],.loop (aB (av Tryz.f14) [1,1,0,1,0,0]) [0,1,0,1,1] m0,.block 0,.seq (aB (av Tryz.f14) [1,1,1]) [1,1,1]] (E [(1,.pointer (some f_1)),(3,.slice names_3 names_3n names_3c),(4,.int .i64 i_4),(5,.pointer (some a_5)),(41,.int .i64 t_41),(42,.bool t_42)]) h
 noncomputable def xe (n m0 : Nat) (h0 : AH) (f_1 : Addr) (names_3 : Option Addr) (names_3n names_3c : Nat) (i_7 : Int) (h : AH) : Option (Go.Value × AH):=aO Tryz.prog n Tryz.f14 h0 (.head (aB (av Tryz.f14) [1,1,1,1,0,1,0,0]) [0,1,0,1,1,1,1] m0) [.block 5,.seq (aB (av Tryz.f14) [1,1,1,1,1]) [1,1,1,1,1]] (E [(1,.pointer (some f_1)),(3,.slice names_3 names_3n names_3c),(7,.int .i64 i_7)]) h
 noncomputable def xf (n m0 : Nat) (h0 : AH) (f_1 : Addr) (names_3 : Option Addr) (names_3n names_3c : Nat) (i_4 : Int) (a_5 : Addr) (t_58 : Bool) (h : AH) : Option (Go.Value × AH):=aO Tryz.prog n Tryz.f14 h0 (.code (aB (av Tryz.f14) [1,1,0,1,0,0,1,0,0,1,1,1,1,0,1,1,1]) [1,1,1,0,1,1,1,1,0,0,1,0,0,1,0,1,1]) [.block 2,.block 1,.seq (aB (av Tryz.f14) [1,1,0,1,0,0,1,1]) [1,1,0,0,1,0,1,1],.loop (aB (av Tryz.f14) [1,1,0,1,0,0]) [0,1,0,1,1] m0,.block 0,.seq (aB (av Tryz.f14) [1,1,1]) [1,1,1]] (E [(1,.pointer (some f_1)),(3,.slice names_3 names_3n names_3c),(4,.int .i64 i_4),(5,.pointer (some a_5)),(58,.bool t_58)]) h
 noncomputable def xg (n m0 m1 : Nat) (h0 : AH) (f_1 : Addr) (names_3 : Option Addr) (names_3n names_3c : Nat) (i_7 k_8 : Int) (h : AH) : Option (Go.Value × AH):=aO Tryz.prog n Tryz.f14 h0 (.head (aB (av Tryz.f14) [1,1,1,1,0,1,0,0,1,0,0,1,1,0,0]) [0,1,1,0,0,1,0,0,1,0,1,1,1,1] m0) [.block 7,.block 6,.seq (aB (av Tryz.f14) [1,1,1,1,0,1,0,0,1,1]) [1,1,0,0,1,0,1,1,1,1],.loop (aB (av Tryz.f14) [1,1,1,1,0,1,0,0]) [0,1,0,1,1,1,1] m1,.block 5,.seq (aB (av Tryz.f14) [1,1,1,1,1]) [1,1,1,1,1]] (E [(1,.pointer (some f_1)),(3,.slice names_3 names_3n names_3c),(7,.int .i64 i_7),(8,.int .i64 k_8)]) h
theorem FT {n : Nat} {f_0a : ByteArray} {f_0b : Option Addr} {f_0bn f_0bc : Nat} {f_0c : Option Addr} {f_0cn f_0cc : Nat} {f_0d : Option Addr} {f_0dn f_0dc : Nat} {f_0e : Option Addr} {f_0en f_0ec : Nat} {f_0f : Option Addr} {f_0fn f_0fc : Nat} {h : AH} {r : Go.Value × AH} (hv :
( ((aF (setLow h h.next) [(.string f_0a),(.slice f_0b f_0bn f_0bc),(.slice f_0c f_0cn f_0cc),(.slice f_0d f_0dn f_0dc),(.slice f_0e f_0en f_0ec),(.slice f_0f f_0fn f_0fc)] 0)).bind fun p0 =>
 pT n n h ⟨p0.1,0,none⟩ none 0 0 0 p0.2) = some r) : az Tryz.prog (n + 1) 14 [(.agg #[(.string f_0a),(.slice f_0b f_0bn f_0bc),(.slice f_0c f_0cn f_0cc),(.slice f_0d f_0dn f_0dc),(.slice f_0e f_0en f_0ec),(.slice f_0f f_0fn f_0fc)])] h = some r:=eO (plan:=p18) (by kernel_rfl) hv
theorem tq {n m0 : Nat} {h0 : AH} {f_1 : Addr} {names_3 : Option Addr} {names_3n names_3c : Nat} {i_4 : Int} {h : AH} {r : Go.Value × AH} (hv :
( ((gL (rdC h (Addr.add f_1 2) 0))).bind fun p0 =>
 cond (bZ i_4 (Int.ofNat p0.2.1))
 (((gL (rdC h (Addr.add f_1 2) 0))).bind fun p1 =>
 (p1.1).bind fun a2 =>
 cond (bM i_4 p1.2.1)
 (((gS (rdC h (Addr.add a2 ((Int.toNat i_4) * 5)) 0))).bind fun x3 =>
 ((gI .i64 (rdC h (Addr.add a2 ((Int.toNat i_4) * 5)) 1))).bind fun n4 =>
 ((gI .i64 (rdC h (Addr.add a2 ((Int.toNat i_4) * 5)) 2))).bind fun n5 =>
 ((gI .i64 (rdC h (Addr.add a2 ((Int.toNat i_4) * 5)) 3))).bind fun n6 =>
 ((gI .i64 (rdC h (Addr.add a2 ((Int.toNat i_4) * 5)) 4))).bind fun n7 =>
 ((aF h [(.string (ByteArray.mk (List.toArray []))),(.int .i64 0),(.int .i64 0),(.int .i64 0),(.int .i64 0)] 0)).bind fun p8 =>
 ((di p8.2 ⟨p8.1,0,none⟩ [(.string x3),(.int .i64 n4),(.int .i64 n5),(.int .i64 n6),(.int .i64 n7)])).bind fun x9 =>
 ((gS (rdC x9 (Addr.add ⟨p8.1,0,none⟩ 0) 0))).bind fun x10 =>
 ((aF x9 [(.string x10)] 1)).bind fun p11 =>
 ((dg 1 16 (.slice names_3 names_3n names_3c) (.slice (some ⟨p11.1,0,none⟩) 1 1) p11.2)).bind fun p12 =>
 ((gI .i64 (rdC p12.2 (Addr.add ⟨p8.1,0,none⟩ 1) 0))).bind fun n13 =>
 ((az Tryz.prog n 45 [(.int .i64 n13)] p12.2)).bind fun p14 =>
 ((gB (some p14.1))).bind fun b15 =>
 cond (Bool.not b15)
 (some (ai h0 p14.2 (.bool false)))
 (((gI .i64 (rdC p14.2 (Addr.add ⟨p8.1,0,none⟩ 2) 0))).bind fun n16 =>
 cond (bZ n16 1)
 (some (ai h0 p14.2 (.bool false)))
 (((gI .i64 (rdC p14.2 (Addr.add ⟨p8.1,0,none⟩ 2) 0))).bind fun n17 =>
 cond (bZ 4096 n17)
 (some (ai h0 p14.2 (.bool false)))
 (AN n m0 h0 f_1 p12.1.1 p12.1.2.1 p12.1.2.2 i_4 ⟨p8.1,0,none⟩ p14.2))))
 (none))
 (w9 n n h0 f_1 names_3 names_3n names_3c 0 h)) = some r) : pT n (m0 + 1) h0 f_1 names_3 names_3n names_3c i_4 h = some r:=gV (plan:=p18) (by kernel_rfl) hv
theorem AP {n m0 : Nat} {h0 : AH} {f_1 : Addr} {names_3 : Option Addr} {names_3n names_3c : Nat} {i_4 : Int} {a_5 : Addr} {h : AH} {r : Go.Value × AH} (hv :
( ((gI .i64 (rdC h (Addr.add a_5 3) 0))).bind fun n0 =>
 cond (aX n0 0)
 (xd n m0 h0 f_1 names_3 names_3n names_3c i_4 a_5 n0 true h)
 (xd n m0 h0 f_1 names_3 names_3n names_3c i_4 a_5 n0 (aX n0 3) h)) = some r) : AN n m0 h0 f_1 names_3 names_3n names_3c i_4 a_5 h = some r:=fO (plan:=p18) (by kernel_rfl) hv
theorem tt {n m0 : Nat} {h0 : AH} {f_1 : Addr} {names_3 : Option Addr} {names_3n names_3c : Nat} {i_6 : Int} {h : AH} {r : Go.Value × AH} (hv :
( ((gL (rdC h (Addr.add f_1 3) 0))).bind fun p0 =>
 cond (bZ i_6 (Int.ofNat p0.2.1))
 (((gL (rdC h (Addr.add f_1 3) 0))).bind fun p1 =>
 (p1.1).bind fun a2 =>
 cond (bM i_6 p1.2.1)
 (((gS (rdC h (Addr.add (Addr.add a2 ((Int.toNat i_6) * 3)) 0) 0))).bind fun x3 =>
 ((aF h [(.string x3)] 1)).bind fun p4 =>
 ((dg 1 16 (.slice names_3 names_3n names_3c) (.slice (some ⟨p4.1,0,none⟩) 1 1) p4.2)).bind fun p5 =>
 ((gL (rdC p5.2 (Addr.add f_1 3) 0))).bind fun p6 =>
 (p6.1).bind fun a7 =>
 cond (bM i_6 p6.2.1)
 (((gI .i64 (rdC p5.2 (Addr.add (Addr.add a7 ((Int.toNat i_6) * 3)) 1) 0))).bind fun n8 =>
 ((az Tryz.prog n 45 [(.int .i64 n8)] p5.2)).bind fun p9 =>
 ((gB (some p9.1))).bind fun b10 =>
 cond (Bool.not b10)
 (some (ai h0 p9.2 (.bool false)))
 (w9 n m0 h0 f_1 p5.1.1 p5.1.2.1 p5.1.2.2 (aT .i64 i_6 1) p9.2))
 (none))
 (none))
 (xe n n h0 f_1 names_3 names_3n names_3c 0 h)) = some r) : w9 n (m0 + 1) h0 f_1 names_3 names_3n names_3c i_6 h = some r:=gV (plan:=p18) (by kernel_rfl) hv
theorem AQ {n m0 : Nat} {h0 : AH} {f_1 : Addr} {names_3 : Option Addr} {names_3n names_3c : Nat} {i_4 : Int} {a_5 : Addr} {t_41 : Int} {t_42 : Bool} {h : AH} {r : Go.Value × AH} (hv :
( cond t_42
 (((gI .i64 (rdC h (Addr.add a_5 4) 0))).bind fun n0 =>
 cond (gz n0 0)
 (some (ai h0 h (.bool false)))
 (((gI .i64 (rdC h (Addr.add a_5 3) 0))).bind fun n1 =>
 cond (aX n1 3)
 (((gI .i64 (rdC h (Addr.add a_5 2) 0))).bind fun n2 =>
 cond (bZ 64 n2)
 (some (ai h0 h (.bool false)))
 (pT n m0 h0 f_1 names_3 names_3n names_3c (aT .i64 i_4 1) h))
 (pT n m0 h0 f_1 names_3 names_3n names_3c (aT .i64 i_4 1) h)))
 (cond (aX t_41 1)
 (xf n m0 h0 f_1 names_3 names_3n names_3c i_4 a_5 true h)
 (xf n m0 h0 f_1 names_3 names_3n names_3c i_4 a_5 (aX t_41 2) h))) = some r) : xd n m0 h0 f_1 names_3 names_3n names_3c i_4 a_5 t_41 t_42 h = some r:=fO (plan:=p18) (by kernel_rfl) hv
theorem tu {n m0 : Nat} {h0 : AH} {f_1 : Addr} {names_3 : Option Addr} {names_3n names_3c : Nat} {i_7 : Int} {h : AH} {r : Go.Value × AH} (hv :
( cond (bZ i_7 (Int.ofNat names_3n))
 ((names_3).bind fun a0 =>
 cond (bM i_7 names_3n)
 (((gS (rdC h (Addr.add a0 ((Int.toNat i_7) * 1)) 0))).bind fun x1 =>
 ((az Tryz.prog n 13 [(.string x1)] h)).bind fun p2 =>
 ((gB (some p2.1))).bind fun b3 =>
 cond (Bool.not b3)
 (some (ai h0 p2.2 (.bool false)))
 (xg n n m0 h0 f_1 names_3 names_3n names_3c i_7 0 p2.2))
 (none))
 (((gL (rdC h (Addr.add f_1 2) 0))).bind fun p4 =>
 cond (bS (Int.ofNat p4.2.1) 64)
 (((gL (rdC h (Addr.add f_1 3) 0))).bind fun p5 =>
 some (ai h0 h (.bool (bS (Int.ofNat p5.2.1) 64))))
 (some (ai h0 h (.bool false))))) = some r) : xe n (m0 + 1) h0 f_1 names_3 names_3n names_3c i_7 h = some r:=gV (plan:=p18) (by kernel_rfl) hv
theorem AR {n m0 : Nat} {h0 : AH} {f_1 : Addr} {names_3 : Option Addr} {names_3n names_3c : Nat} {i_4 : Int} {a_5 : Addr} {t_58 : Bool} {h : AH} {r : Go.Value × AH} (hv :
( cond t_58
 (((gI .i64 (rdC h (Addr.add a_5 4) 0))).bind fun n0 =>
 cond (bZ n0 1)
 (some (ai h0 h (.bool false)))
 (((gI .i64 (rdC h (Addr.add a_5 4) 0))).bind fun n1 =>
 ((gI .i64 (rdC h (Addr.add a_5 2) 0))).bind fun n2 =>
 cond (bZ (fM n2 64) n1)
 (some (ai h0 h (.bool false)))
 (pT n m0 h0 f_1 names_3 names_3n names_3c (aT .i64 i_4 1) h)))
 (some (ai h0 h (.bool false)))) = some r) : xf n m0 h0 f_1 names_3 names_3n names_3c i_4 a_5 t_58 h = some r:=fO (plan:=p18) (by kernel_rfl) hv
theorem tv {n m0 m1 : Nat} {h0 : AH} {f_1 : Addr} {names_3 : Option Addr} {names_3n names_3c : Nat} {i_7 k_8 : Int} {h : AH} {r : Go.Value × AH} (hv :
( cond (bZ k_8 i_7)
 ((names_3).bind fun a0 =>
 cond (bM k_8 names_3n)
 (((gS (rdC h (Addr.add a0 ((Int.toNat k_8) * 1)) 0))).bind fun x1 =>
 (names_3).bind fun a2 =>
 cond (bM i_7 names_3n)
 (((gS (rdC h (Addr.add a2 ((Int.toNat i_7) * 1)) 0))).bind fun x3 =>
 cond (BEq.beq (ByteArray.toList x1) (ByteArray.toList x3))
 (some (ai h0 h (.bool false)))
 (xg n m0 m1 h0 f_1 names_3 names_3n names_3c i_7 (aT .i64 k_8 1) h))
 (none))
 (none))
 (xe n m1 h0 f_1 names_3 names_3n names_3c (aT .i64 i_7 1) h)) = some r) : xg n (m0 + 1) m1 h0 f_1 names_3 names_3n names_3c i_7 k_8 h = some r:=gV (plan:=p18) (by kernel_rfl) hv
def p17 : List (List Nat × List Nat):=[([0,1,0,1],[0,3])]
 noncomputable def tw (n m0 : Nat) (h0 : AH) (s_0 : ByteArray) (i_3 : Int) (h : AH) : Option (Go.Value × AH):=aO Tryz.prog n Tryz.f13 h0 (.head (aB (av Tryz.f13) [1,0,1,0,0]) [0,1,0,1] m0) [.block 0,.seq (aB (av Tryz.f13) [1,1]) [1,1]] (E [(0,.string s_0),(3,.int .i64 i_3)]) h
theorem FU {n : Nat} {s_0 : ByteArray} {h : AH} {r : Go.Value × AH} (hv :
( tw n n h s_0 0 (setLow h h.next)) = some r) : az Tryz.prog (n + 1) 13 [(.string s_0)] h = some r:=eO (plan:=p17) (by kernel_rfl) hv
theorem tz {n m0 : Nat} {h0 : AH} {s_0 : ByteArray} {i_3 : Int} {h : AH} {r : Go.Value × AH} (hv :
( cond (bZ i_3 (Int.ofNat (ByteArray.size s_0)))
 (((Hw s_0 i_3)).bind fun n0 =>
 ((az Tryz.prog n 43 [(.int .u8 n0)] h)).bind fun p1 =>
 ((gB (some p1.1))).bind fun b2 =>
 cond (Bool.not b2)
 (cond (aX i_3 0)
 (some (ai h0 p1.2 (.bool false)))
 (((Hw s_0 i_3)).bind fun n3 =>
 ((az Tryz.prog n 44 [(.int .u8 n3),(.int .i64 10)] p1.2)).bind fun p4 =>
 ((gI .i64 (some p4.1))).bind fun n5 =>
 cond (bZ n5 0)
 (some (ai h0 p4.2 (.bool false)))
 (tw n m0 h0 s_0 (aT .i64 i_3 1) p4.2)))
 (tw n m0 h0 s_0 (aT .i64 i_3 1) p1.2))
 (cond (bS 1 (Int.ofNat (ByteArray.size s_0)))
 (some (ai h0 h (.bool (bS (Int.ofNat (ByteArray.size s_0)) 64))))
 (some (ai h0 h (.bool false))))) = some r) : tw n (m0 + 1) h0 s_0 i_3 h = some r:=gV (plan:=p17) (by kernel_rfl) hv
def HO : List (List Nat × List Nat):=[]
theorem FV {n : Nat} {c_0 : Int} {h : AH} {r : Go.Value × AH} (hv :
( cond (bS 97 c_0)
 (cond (bS c_0 122)
 (some (ai h (setLow h h.next) (.bool true)))
 (cond (bS 65 c_0)
 (cond (bS c_0 90)
 (some (ai h (setLow h h.next) (.bool true)))
 (some (ai h (setLow h h.next) (.bool (aX c_0 95)))))
 (some (ai h (setLow h h.next) (.bool (aX c_0 95))))))
 (cond (bS 65 c_0)
 (cond (bS c_0 90)
 (some (ai h (setLow h h.next) (.bool true)))
 (some (ai h (setLow h h.next) (.bool (aX c_0 95)))))
 (some (ai h (setLow h h.next) (.bool (aX c_0 95)))))) = some r) : az Tryz.prog (n + 1) 43 [(.int .u8 c_0)] h = some r:=eO (plan:=HO) (by kernel_rfl) hv
def AS : List (List Nat × List Nat):=[([1,1,1],[0,1,5]),([1,1,1,1],[0,1,5]),([1,1,1,1,1],[1,5])]
 noncomputable def tC (n : Nat) (h0 : AH) (c_0 base_1 n_5 : Int) (h : AH) : Option (Go.Value × AH):=aO Tryz.prog n Tryz.f44 h0 (.code (aB (av Tryz.f44) [1,1,1]) [1,1,1]) [] (E [(0,.int .u8 c_0),(1,.int .i64 base_1),(5,.int .i64 n_5)]) h
 noncomputable def tD (n : Nat) (h0 : AH) (c_0 base_1 n_5 : Int) (h : AH) : Option (Go.Value × AH):=aO Tryz.prog n Tryz.f44 h0 (.code (aB (av Tryz.f44) [1,1,1,1]) [1,1,1,1]) [] (E [(0,.int .u8 c_0),(1,.int .i64 base_1),(5,.int .i64 n_5)]) h
 noncomputable def tE (n : Nat) (h0 : AH) (base_1 n_5 : Int) (h : AH) : Option (Go.Value × AH):=aO Tryz.prog n Tryz.f44 h0 (.code (aB (av Tryz.f44) [1,1,1,1,1]) [1,1,1,1,1]) [] (E [(1,.int .i64 base_1),(5,.int .i64 n_5)]) h
theorem FW {n : Nat} {c_0 base_1 : Int} {h : AH} {r : Go.Value × AH} (hv :
( cond (bS 48 c_0)
 (cond (bS c_0 57)
 (tC n h c_0 base_1 (aQ .i64 (fC .u8 c_0 48)) (setLow h h.next))
 (tC n h c_0 base_1 (-1) (setLow h h.next)))
 (tC n h c_0 base_1 (-1) (setLow h h.next))) = some r) : az Tryz.prog (n + 1) 44 [(.int .u8 c_0),(.int .i64 base_1)] h = some r:=eO (plan:=AS) (by kernel_rfl) hv
theorem AT {n : Nat} {h0 : AH} {c_0 base_1 n_5 : Int} {h : AH} {r : Go.Value × AH} (hv :
( cond (bS 97 c_0)
 (cond (bS c_0 102)
 (tD n h0 c_0 base_1 (aT .i64 (aQ .i64 (fC .u8 c_0 97)) 10) h)
 (tD n h0 c_0 base_1 n_5 h))
 (tD n h0 c_0 base_1 n_5 h)) = some r) : tC n h0 c_0 base_1 n_5 h = some r:=fO (plan:=AS) (by kernel_rfl) hv
theorem AU {n : Nat} {h0 : AH} {c_0 base_1 n_5 : Int} {h : AH} {r : Go.Value × AH} (hv :
( cond (bS 65 c_0)
 (cond (bS c_0 70)
 (tE n h0 base_1 (aT .i64 (aQ .i64 (fC .u8 c_0 65)) 10) h)
 (tE n h0 base_1 n_5 h))
 (tE n h0 base_1 n_5 h)) = some r) : tD n h0 c_0 base_1 n_5 h = some r:=fO (plan:=AS) (by kernel_rfl) hv
theorem AV {n : Nat} {h0 : AH} {base_1 n_5 : Int} {h : AH} {r : Go.Value × AH} (hv :
( cond (bS base_1 n_5)
 (some (ai h0 h (.int .i64 (-1))))
 (some (ai h0 h (.int .i64 n_5)))) = some r) : tE n h0 base_1 n_5 h = some r:=fO (plan:=AS) (by kernel_rfl) hv
end Go.Proofs.YtjdomdndflfjdabGreatDoor.Kb
