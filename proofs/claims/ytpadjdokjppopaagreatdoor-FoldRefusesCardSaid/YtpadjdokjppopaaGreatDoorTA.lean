/- Joined texts: TA. -/
import Derived.KernelRfl
import Derived.Test.YtpadjdokjppopaaGreatDoorYA
import Derived.Test.YtpadjdokjppopaaGreatDoorProg
namespace Go.Proofs.YtpadjdokjppopaaGreatDoor.Kb
open Go Go.Proofs Go.Proofs.YtpadjdokjppopaaGreatDoor Go.Proofs.YtpadjdokjppopaaGreatDoor.X
set_option maxRecDepth 100000
set_option linter.unusedVariables false
def p20 : List (List Nat × List Nat):=[]
 noncomputable def t20Y (N : NewF) (n : Nat) (f_0a : ByteArray) (f_0b : Option Addr) (f_0bn f_0bc : Nat) (f_0c : Option Addr) (f_0cn f_0cc : Nat) (f_0d : Option Addr) (f_0dn f_0dc : Nat) (f_0e : Option Addr) (f_0en f_0ec : Nat) (f_0f : Option Addr) (f_0fn f_0fc : Nat) (v_1 : Int) (h : AH) : Option (Go.Value × AH):=yrun Tryz.prog (runS Tryz.prog n) n p20 N (resY Tryz.prog n) 14 [(.agg #[(.string f_0a),(.slice f_0b f_0bn f_0bc),(.slice f_0c f_0cn f_0cc),(.slice f_0d f_0dn f_0dc),(.slice f_0e f_0en f_0ec),(.slice f_0f f_0fn f_0fc)]),(.int .i64 v_1)] h
theorem t20_ok {n : Nat} {f_0a : ByteArray} {f_0b : Option Addr} {f_0bn f_0bc : Nat} {f_0c : Option Addr} {f_0cn f_0cc : Nat} {f_0d : Option Addr} {f_0dn f_0dc : Nat} {f_0e : Option Addr} {f_0en f_0ec : Nat} {f_0f : Option Addr} {f_0fn f_0fc : Nat} {v_1 : Int} {h : AH} {r : Go.Value × AH} (hv : t20Y hNew n f_0a f_0b f_0bn f_0bc f_0c f_0cn f_0cc f_0d f_0dn f_0dc f_0e f_0en f_0ec f_0f f_0fn f_0fc v_1 h = some r) : runS Tryz.prog (n + 1) 14 [(.agg #[(.string f_0a),(.slice f_0b f_0bn f_0bc),(.slice f_0c f_0cn f_0cc),(.slice f_0d f_0dn f_0dc),(.slice f_0e f_0en f_0ec),(.slice f_0f f_0fn f_0fc)]),(.int .i64 v_1)] h = some r:=yrun_ok hv
theorem t20 (N : NewF) (n : Nat) (f_0a : ByteArray) (f_0b : Option Addr) (f_0bn f_0bc : Nat) (f_0c : Option Addr) (f_0cn f_0cc : Nat) (f_0d : Option Addr) (f_0dn f_0dc : Nat) (f_0e : Option Addr) (f_0en f_0ec : Nat) (f_0f : Option Addr) (f_0fn f_0fc : Nat) (v_1 : Int) (h : AH) : t20Y N n f_0a f_0b f_0bn f_0bc f_0c f_0cn f_0cc f_0d f_0dn f_0dc f_0e f_0en f_0ec f_0f f_0fn f_0fc v_1 h =
 (N (setLow h h.next) [(.string f_0a),(.slice f_0b f_0bn f_0bc),(.slice f_0c f_0cn f_0cc),(.slice f_0d f_0dn f_0dc),(.slice f_0e f_0en f_0ec),(.slice f_0f f_0fn f_0fc)] 0).bind fun p0 =>
 cond (iLe 0 v_1)
 ((gL (rdC p0.2 (Addr.add ⟨p0.1,0,none⟩ 1) 0)).bind fun p1 =>
 some (exitR h p0.2 (.bool (iLt v_1 (Int.ofNat p1.2.1)))))
 (some (exitR h p0.2 (.bool false))):=by kernel_rfl
def p21 : List (List Nat × List Nat):=[([1,1,1,0,0,1],[0,6]),([1,1,1,1,1,0,0,1],[0,13])]
section
variable (N : NewF) (n : Nat) (h0 : AH) (op_0 : Int) (t_6 : Bool) (h : AH)
 noncomputable def c21_0 : Option (Go.Value × AH):=resY Tryz.prog n Tryz.f15 h0 (.code (subC (bodyC Tryz.f15) [1,0,0,1,1,1]) [1,1,1,0,0,1]) [.block 0,.seq (subC (bodyC Tryz.f15) [1,1]) [1,1]] (E [(0,.int .i64 op_0),(6,.bool t_6)]) h
 noncomputable def c21_0Y : Option (Go.Value × AH):=yfrom Tryz.prog (runS Tryz.prog n) n Tryz.f15 h0 p21 N (resY Tryz.prog n Tryz.f15 h0) (subC (bodyC Tryz.f15) [1,0,0,1,1,1]) [1,1,1,0,0,1] [.block 0,.seq (subC (bodyC Tryz.f15) [1,1]) [1,1]] (E [(0,.int .i64 op_0),(6,.bool t_6)]) h
variable {n} {h0} {op_0 t_6} {h}
theorem c21_0_ok {r : Go.Value × AH} (hv : c21_0Y hNew n h0 op_0 t_6 h = some r) : c21_0 n h0 op_0 t_6 h = some r:=yfrom_ok hv
end
section
variable (N : NewF) (n : Nat) (h0 : AH) (op_0 : Int) (t_13 : Bool) (h : AH)
 noncomputable def c21_1 : Option (Go.Value × AH):=resY Tryz.prog n Tryz.f15 h0 (.code (subC (bodyC Tryz.f15) [1,0,0,1,1,1,1,1]) [1,1,1,1,1,0,0,1]) [.block 0,.seq (subC (bodyC Tryz.f15) [1,1]) [1,1]] (E [(0,.int .i64 op_0),(13,.bool t_13)]) h
 noncomputable def c21_1Y : Option (Go.Value × AH):=yfrom Tryz.prog (runS Tryz.prog n) n Tryz.f15 h0 p21 N (resY Tryz.prog n Tryz.f15 h0) (subC (bodyC Tryz.f15) [1,0,0,1,1,1,1,1]) [1,1,1,1,1,0,0,1] [.block 0,.seq (subC (bodyC Tryz.f15) [1,1]) [1,1]] (E [(0,.int .i64 op_0),(13,.bool t_13)]) h
variable {n} {h0} {op_0 t_13} {h}
theorem c21_1_ok {r : Go.Value × AH} (hv : c21_1Y hNew n h0 op_0 t_13 h = some r) : c21_1 n h0 op_0 t_13 h = some r:=yfrom_ok hv
end
 noncomputable def t21Y (N : NewF) (n : Nat) (op_0 : Int) (h : AH) : Option (Go.Value × AH):=yrun Tryz.prog (runS Tryz.prog n) n p21 N (resY Tryz.prog n) 15 [(.int .i64 op_0)] h
theorem t21_ok {n : Nat} {op_0 : Int} {h : AH} {r : Go.Value × AH} (hv : t21Y hNew n op_0 h = some r) : runS Tryz.prog (n + 1) 15 [(.int .i64 op_0)] h = some r:=yrun_ok hv
theorem t21 (N : NewF) (n : Nat) (op_0 : Int) (h : AH) : t21Y N n op_0 h =
 cond (iEq op_0 1)
 (some (exitR h (setLow h h.next) (.int .i64 0)))
 ((runS Tryz.prog n 39 [(.int .i64 op_0)] (setLow h h.next)).bind fun p0 =>
 (gB (some p0.1)).bind fun b1 =>
 cond b1
 (c21_0 n h op_0 true p0.2)
 (cond (iEq op_0 25)
 (c21_0 n h op_0 true p0.2)
 (c21_0 n h op_0 (iEq op_0 28) p0.2))):=by kernel_rfl
theorem c21_0_eq (N : NewF) (n  : Nat) (h0 : AH) (op_0 : Int) (t_6 : Bool) (h : AH) : c21_0Y N n  h0 op_0 t_6 h =
 cond t_6
 (some (exitR h0 h (.int .i64 2)))
 (cond (iEq op_0 21)
 (c21_1 n h0 op_0 true h)
 (c21_1 n h0 op_0 (iEq op_0 26) h)):=by kernel_rfl
theorem c21_1_eq (N : NewF) (n  : Nat) (h0 : AH) (op_0 : Int) (t_13 : Bool) (h : AH) : c21_1Y N n  h0 op_0 t_13 h =
 cond t_13
 (some (exitR h0 h (.int .i64 3)))
 (cond (iEq op_0 22)
 (some (exitR h0 h (.int .i64 1)))
 (cond (iEq op_0 23)
 (some (exitR h0 h (.int .i64 1)))
 (cond (iEq op_0 24)
 (some (exitR h0 h (.int .i64 1)))
 (cond (iEq op_0 27)
 (some (exitR h0 h (.int .i64 1)))
 (some (exitR h0 h (.int .i64 (-1)))))))):=by kernel_rfl
def p23 : List (List Nat × List Nat):=[]
 noncomputable def t23Y (N : NewF) (n : Nat) (op_0 : Int) (h : AH) : Option (Go.Value × AH):=yrun Tryz.prog (runS Tryz.prog n) n p23 N (resY Tryz.prog n) 17 [(.int .i64 op_0)] h
theorem t23_ok {n : Nat} {op_0 : Int} {h : AH} {r : Go.Value × AH} (hv : t23Y hNew n op_0 h = some r) : runS Tryz.prog (n + 1) 17 [(.int .i64 op_0)] h = some r:=yrun_ok hv
theorem t23 (N : NewF) (n : Nat) (op_0 : Int) (h : AH) : t23Y N n op_0 h =
 (runS Tryz.prog n 15 [(.int .i64 op_0)] (setLow h h.next)).bind fun p0 =>
 (gI .i64 (some p0.1)).bind fun n1 =>
 cond (iLe 0 n1)
 (cond (iNe op_0 26)
 (some (exitR h p0.2 (.bool (iNe op_0 28))))
 (some (exitR h p0.2 (.bool false))))
 (some (exitR h p0.2 (.bool false))):=by kernel_rfl
def p53 : List (List Nat × List Nat):=[]
 noncomputable def t53Y (N : NewF) (n : Nat) (w_0 : Int) (h : AH) : Option (Go.Value × AH):=yrun Tryz.prog (runS Tryz.prog n) n p53 N (resY Tryz.prog n) 38 [(.int .i64 w_0)] h
theorem t53_ok {n : Nat} {w_0 : Int} {h : AH} {r : Go.Value × AH} (hv : t53Y hNew n w_0 h = some r) : runS Tryz.prog (n + 1) 38 [(.int .i64 w_0)] h = some r:=yrun_ok hv
theorem t53 (N : NewF) (n : Nat) (w_0 : Int) (h : AH) : t53Y N n w_0 h =
 cond (iLe 1 w_0)
 (some (exitR h (setLow h h.next) (.bool (iLe w_0 64))))
 (some (exitR h (setLow h h.next) (.bool false))):=by kernel_rfl
def p54 : List (List Nat × List Nat):=[]
 noncomputable def t54Y (N : NewF) (n : Nat) (op_0 : Int) (h : AH) : Option (Go.Value × AH):=yrun Tryz.prog (runS Tryz.prog n) n p54 N (resY Tryz.prog n) 39 [(.int .i64 op_0)] h
theorem t54_ok {n : Nat} {op_0 : Int} {h : AH} {r : Go.Value × AH} (hv : t54Y hNew n op_0 h = some r) : runS Tryz.prog (n + 1) 39 [(.int .i64 op_0)] h = some r:=yrun_ok hv
theorem t54 (N : NewF) (n : Nat) (op_0 : Int) (h : AH) : t54Y N n op_0 h =
 cond (iLe 2 op_0)
 (some (exitR h (setLow h h.next) (.bool (iLe op_0 20))))
 (some (exitR h (setLow h h.next) (.bool false))):=by kernel_rfl
def p55 : List (List Nat × List Nat):=[]
 noncomputable def t55Y (N : NewF) (n : Nat) (w_0 x_1 : Int) (h : AH) : Option (Go.Value × AH):=yrun Tryz.prog (runS Tryz.prog n) n p55 N (resY Tryz.prog n) 40 [(.int .i64 w_0),(.int .u64 x_1)] h
theorem t55_ok {n : Nat} {w_0 x_1 : Int} {h : AH} {r : Go.Value × AH} (hv : t55Y hNew n w_0 x_1 h = some r) : runS Tryz.prog (n + 1) 40 [(.int .i64 w_0),(.int .u64 x_1)] h = some r:=yrun_ok hv
theorem t55 (N : NewF) (n : Nat) (w_0 x_1 : Int) (h : AH) : t55Y N n w_0 x_1 h =
 (runS Tryz.prog n 71 [(.int .i64 w_0),(.int .u64 x_1)] (setLow h h.next)).bind fun p0 =>
 (gL (some p0.1)).bind fun p1 =>
 (runS Tryz.prog n 70 [(.slice p1.1 p1.2.1 p1.2.2)] p0.2).bind fun p2 =>
 (gI .u64 (some p2.1)).bind fun n3 =>
 some (exitR h p2.2 (.int .u64 n3)):=by kernel_rfl
def p56 : List (List Nat × List Nat):=[]
 noncomputable def t56Y (N : NewF) (n : Nat) (op_0 : Int) (h : AH) : Option (Go.Value × AH):=yrun Tryz.prog (runS Tryz.prog n) n p56 N (resY Tryz.prog n) 41 [(.int .i64 op_0)] h
theorem t56_ok {n : Nat} {op_0 : Int} {h : AH} {r : Go.Value × AH} (hv : t56Y hNew n op_0 h = some r) : runS Tryz.prog (n + 1) 41 [(.int .i64 op_0)] h = some r:=yrun_ok hv
theorem t56 (N : NewF) (n : Nat) (op_0 : Int) (h : AH) : t56Y N n op_0 h =
 cond (iLe 15 op_0)
 (some (exitR h (setLow h h.next) (.bool (iLe op_0 20))))
 (some (exitR h (setLow h h.next) (.bool false))):=by kernel_rfl
def p22 : List (List Nat × List Nat):=[([0,1,0,1],[1,2,3,7])]
section
variable (N : NewF) (n m0 : Nat) (h0 : AH) (l_1 : Option Addr) (l_1n l_1c : Nat) (known_2 : Option Addr) (known_2n known_2c : Nat) (f_3 : Addr) (i_7 : Int) (h : AH)
 noncomputable def c22_0 : Option (Go.Value × AH):=resY Tryz.prog n Tryz.f16 h0 (.head (subC (bodyC Tryz.f16) [1,0,1,0,0]) [0,1,0,1] m0) [.block 0,.seq (subC (bodyC Tryz.f16) [1,1]) [1,1]] (E [(1,.slice l_1 l_1n l_1c),(2,.slice known_2 known_2n known_2c),(3,.pointer (some f_3)),(7,.int .i64 i_7)]) h
 noncomputable def c22_0Y : Option (Go.Value × AH):=yhead Tryz.prog (runS Tryz.prog n) n Tryz.f16 h0 p22 N (resY Tryz.prog n Tryz.f16 h0) (subC (bodyC Tryz.f16) [1,0,1,0,0]) [0,1,0,1] m0 [.block 0,.seq (subC (bodyC Tryz.f16) [1,1]) [1,1]] (E [(1,.slice l_1 l_1n l_1c),(2,.slice known_2 known_2n known_2c),(3,.pointer (some f_3)),(7,.int .i64 i_7)]) h
variable {n m0} {h0} {l_1 l_1n l_1c known_2 known_2n known_2c f_3 i_7} {h}
theorem c22_0_ok {r : Go.Value × AH} (hv : c22_0Y hNew n m0 h0 l_1 l_1n l_1c known_2 known_2n known_2c f_3 i_7 h = some r) : c22_0 n (m0 + 1) h0 l_1 l_1n l_1c known_2 known_2n known_2c f_3 i_7 h = some r:=yhead_ok hv
end
 noncomputable def t22Y (N : NewF) (n : Nat) (f_0a : ByteArray) (f_0b : Option Addr) (f_0bn f_0bc : Nat) (f_0c : Option Addr) (f_0cn f_0cc : Nat) (f_0d : Option Addr) (f_0dn f_0dc : Nat) (f_0e : Option Addr) (f_0en f_0ec : Nat) (f_0f : Option Addr) (f_0fn f_0fc : Nat) (l_1 : Option Addr) (l_1n l_1c : Nat) (known_2 : Option Addr) (known_2n known_2c : Nat) (h : AH) : Option (Go.Value × AH):=yrun Tryz.prog (runS Tryz.prog n) n p22 N (resY Tryz.prog n) 16 [(.agg #[(.string f_0a),(.slice f_0b f_0bn f_0bc),(.slice f_0c f_0cn f_0cc),(.slice f_0d f_0dn f_0dc),(.slice f_0e f_0en f_0ec),(.slice f_0f f_0fn f_0fc)]),(.slice l_1 l_1n l_1c),(.slice known_2 known_2n known_2c)] h
theorem t22_ok {n : Nat} {f_0a : ByteArray} {f_0b : Option Addr} {f_0bn f_0bc : Nat} {f_0c : Option Addr} {f_0cn f_0cc : Nat} {f_0d : Option Addr} {f_0dn f_0dc : Nat} {f_0e : Option Addr} {f_0en f_0ec : Nat} {f_0f : Option Addr} {f_0fn f_0fc : Nat} {l_1 : Option Addr} {l_1n l_1c : Nat} {known_2 : Option Addr} {known_2n known_2c : Nat} {h : AH} {r : Go.Value × AH} (hv : t22Y hNew n f_0a f_0b f_0bn f_0bc f_0c f_0cn f_0cc f_0d f_0dn f_0dc f_0e f_0en f_0ec f_0f f_0fn f_0fc l_1 l_1n l_1c known_2 known_2n known_2c h = some r) : runS Tryz.prog (n + 1) 16 [(.agg #[(.string f_0a),(.slice f_0b f_0bn f_0bc),(.slice f_0c f_0cn f_0cc),(.slice f_0d f_0dn f_0dc),(.slice f_0e f_0en f_0ec),(.slice f_0f f_0fn f_0fc)]),(.slice l_1 l_1n l_1c),(.slice known_2 known_2n known_2c)] h = some r:=yrun_ok hv
theorem t22 (N : NewF) (n : Nat) (f_0a : ByteArray) (f_0b : Option Addr) (f_0bn f_0bc : Nat) (f_0c : Option Addr) (f_0cn f_0cc : Nat) (f_0d : Option Addr) (f_0dn f_0dc : Nat) (f_0e : Option Addr) (f_0en f_0ec : Nat) (f_0f : Option Addr) (f_0fn f_0fc : Nat) (l_1 : Option Addr) (l_1n l_1c : Nat) (known_2 : Option Addr) (known_2n known_2c : Nat) (h : AH) : t22Y N n f_0a f_0b f_0bn f_0bc f_0c f_0cn f_0cc f_0d f_0dn f_0dc f_0e f_0en f_0ec f_0f f_0fn f_0fc l_1 l_1n l_1c known_2 known_2n known_2c h =
 (N (setLow h h.next) [(.string f_0a),(.slice f_0b f_0bn f_0bc),(.slice f_0c f_0cn f_0cc),(.slice f_0d f_0dn f_0dc),(.slice f_0e f_0en f_0ec),(.slice f_0f f_0fn f_0fc)] 0).bind fun p0 =>
 c22_0 n n h l_1 l_1n l_1c known_2 known_2n known_2c ⟨p0.1,0,none⟩ 0 p0.2:=by kernel_rfl
theorem c22_0_eq (N : NewF) (n m0 : Nat) (h0 : AH) (l_1 : Option Addr) (l_1n l_1c : Nat) (known_2 : Option Addr) (known_2n known_2c : Nat) (f_3 : Addr) (i_7 : Int) (h : AH) : c22_0Y N n m0 h0 l_1 l_1n l_1c known_2 known_2n known_2c f_3 i_7 h =
 cond (iLt i_7 (Int.ofNat l_1n))
 ((gS (rdC h f_3 0)).bind fun x0 =>
 (gL (rdC h f_3 1)).bind fun p1 =>
 (gL (rdC h f_3 2)).bind fun p2 =>
 (gL (rdC h f_3 3)).bind fun p3 =>
 (gL (rdC h f_3 4)).bind fun p4 =>
 (gL (rdC h f_3 5)).bind fun p5 =>
 (l_1).bind fun a6 =>
 cond (inB i_7 l_1n)
 ((gI .i64 (rdC h (Addr.add a6 ((Int.toNat i_7) * 1)) 0)).bind fun n7 =>
 (runS Tryz.prog n 14 [(.agg #[(.string x0),(.slice p1.1 p1.2.1 p1.2.2),(.slice p2.1 p2.2.1 p2.2.2),(.slice p3.1 p3.2.1 p3.2.2),(.slice p4.1 p4.2.1 p4.2.2),(.slice p5.1 p5.2.1 p5.2.2)]),(.int .i64 n7)] (setLow h h.next)).bind fun p8 =>
 (gB (some p8.1)).bind fun b9 =>
 cond (Nat.beq p8.2.low h.next)
 (cond (Bool.not b9)
 (some (exitR h0 (setLow p8.2 h.low) (.bool false)))
 ((l_1).bind fun a10 =>
 cond (inB i_7 l_1n)
 ((gI .i64 (rdC (setLow p8.2 h.low) (Addr.add a10 ((Int.toNat i_7) * 1)) 0)).bind fun n11 =>
 (known_2).bind fun a12 =>
 cond (inB n11 known_2n)
 ((gB (rdC (setLow p8.2 h.low) (Addr.add a12 ((Int.toNat n11) * 1)) 0)).bind fun b13 =>
 cond (Bool.not b13)
 (some (exitR h0 (setLow p8.2 h.low) (.bool false)))
 (c22_0 n m0 h0 l_1 l_1n l_1c known_2 known_2n known_2c f_3 (iAdd .i64 i_7 1) (setLow p8.2 h.low)))
 (none))
 (none)))
 (none))
 (none))
 (some (exitR h0 h (.bool true))):=by kernel_rfl
def p19 : List (List Nat × List Nat):=[([0,1,0,1],[0,1,5])]
section
variable (N : NewF) (n m0 : Nat) (h0 : AH) (l_0 : Option Addr) (l_0n l_0c : Nat) (most_1 i_5 : Int) (h : AH)
 noncomputable def c19_0 : Option (Go.Value × AH):=resY Tryz.prog n Tryz.f13 h0 (.head (subC (bodyC Tryz.f13) [1,0,1,0,0]) [0,1,0,1] m0) [.block 0,.seq (subC (bodyC Tryz.f13) [1,1]) [1,1]] (E [(0,.slice l_0 l_0n l_0c),(1,.int .i64 most_1),(5,.int .i64 i_5)]) h
 noncomputable def c19_0Y : Option (Go.Value × AH):=yhead Tryz.prog (runS Tryz.prog n) n Tryz.f13 h0 p19 N (resY Tryz.prog n Tryz.f13 h0) (subC (bodyC Tryz.f13) [1,0,1,0,0]) [0,1,0,1] m0 [.block 0,.seq (subC (bodyC Tryz.f13) [1,1]) [1,1]] (E [(0,.slice l_0 l_0n l_0c),(1,.int .i64 most_1),(5,.int .i64 i_5)]) h
variable {n m0} {h0} {l_0 l_0n l_0c most_1 i_5} {h}
theorem c19_0_ok {r : Go.Value × AH} (hv : c19_0Y hNew n m0 h0 l_0 l_0n l_0c most_1 i_5 h = some r) : c19_0 n (m0 + 1) h0 l_0 l_0n l_0c most_1 i_5 h = some r:=yhead_ok hv
end
 noncomputable def t19Y (N : NewF) (n : Nat) (l_0 : Option Addr) (l_0n l_0c : Nat) (most_1 : Int) (h : AH) : Option (Go.Value × AH):=yrun Tryz.prog (runS Tryz.prog n) n p19 N (resY Tryz.prog n) 13 [(.slice l_0 l_0n l_0c),(.int .i64 most_1)] h
theorem t19_ok {n : Nat} {l_0 : Option Addr} {l_0n l_0c : Nat} {most_1 : Int} {h : AH} {r : Go.Value × AH} (hv : t19Y hNew n l_0 l_0n l_0c most_1 h = some r) : runS Tryz.prog (n + 1) 13 [(.slice l_0 l_0n l_0c),(.int .i64 most_1)] h = some r:=yrun_ok hv
theorem t19 (N : NewF) (n : Nat) (l_0 : Option Addr) (l_0n l_0c : Nat) (most_1 : Int) (h : AH) : t19Y N n l_0 l_0n l_0c most_1 h =
 c19_0 n n h l_0 l_0n l_0c most_1 0 (setLow h h.next):=by kernel_rfl
theorem c19_0_eq (N : NewF) (n m0 : Nat) (h0 : AH) (l_0 : Option Addr) (l_0n l_0c : Nat) (most_1 i_5 : Int) (h : AH) : c19_0Y N n m0 h0 l_0 l_0n l_0c most_1 i_5 h =
 cond (iLt i_5 (Int.ofNat l_0n))
 ((l_0).bind fun a0 =>
 cond (inB i_5 l_0n)
 ((gI .i64 (rdC h (Addr.add a0 ((Int.toNat i_5) * 1)) 0)).bind fun n1 =>
 (runS Tryz.prog n 38 [(.int .i64 n1)] h).bind fun p2 =>
 (gB (some p2.1)).bind fun b3 =>
 cond (Bool.not b3)
 (some (exitR h0 p2.2 (.bool false)))
 (c19_0 n m0 h0 l_0 l_0n l_0c most_1 (iAdd .i64 i_5 1) p2.2))
 (none))
 (some (exitR h0 h (.bool (iLe (Int.ofNat l_0n) most_1)))):=by kernel_rfl
def p83 : List (List Nat × List Nat):=[([0,1,0,1,1],[0,3,4])]
section
variable (N : NewF) (n m0 : Nat) (h0 : AH) (bits_0 : Option Addr) (bits_0n bits_0c : Nat) (x_3 i_4 : Int) (h : AH)
 noncomputable def c83_0 : Option (Go.Value × AH):=resY Tryz.prog n Tryz.f70 h0 (.head (subC (bodyC Tryz.f70) [1,1,0,1,0,0]) [0,1,0,1,1] m0) [.block 0,.seq (subC (bodyC Tryz.f70) [1,1,1]) [1,1,1]] (E [(0,.slice bits_0 bits_0n bits_0c),(3,.int .u64 x_3),(4,.int .i64 i_4)]) h
 noncomputable def c83_0Y : Option (Go.Value × AH):=yhead Tryz.prog (runS Tryz.prog n) n Tryz.f70 h0 p83 N (resY Tryz.prog n Tryz.f70 h0) (subC (bodyC Tryz.f70) [1,1,0,1,0,0]) [0,1,0,1,1] m0 [.block 0,.seq (subC (bodyC Tryz.f70) [1,1,1]) [1,1,1]] (E [(0,.slice bits_0 bits_0n bits_0c),(3,.int .u64 x_3),(4,.int .i64 i_4)]) h
variable {n m0} {h0} {bits_0 bits_0n bits_0c x_3 i_4} {h}
theorem c83_0_ok {r : Go.Value × AH} (hv : c83_0Y hNew n m0 h0 bits_0 bits_0n bits_0c x_3 i_4 h = some r) : c83_0 n (m0 + 1) h0 bits_0 bits_0n bits_0c x_3 i_4 h = some r:=yhead_ok hv
end
 noncomputable def t83Y (N : NewF) (n : Nat) (bits_0 : Option Addr) (bits_0n bits_0c : Nat) (h : AH) : Option (Go.Value × AH):=yrun Tryz.prog (runS Tryz.prog n) n p83 N (resY Tryz.prog n) 70 [(.slice bits_0 bits_0n bits_0c)] h
theorem t83_ok {n : Nat} {bits_0 : Option Addr} {bits_0n bits_0c : Nat} {h : AH} {r : Go.Value × AH} (hv : t83Y hNew n bits_0 bits_0n bits_0c h = some r) : runS Tryz.prog (n + 1) 70 [(.slice bits_0 bits_0n bits_0c)] h = some r:=yrun_ok hv
theorem t83 (N : NewF) (n : Nat) (bits_0 : Option Addr) (bits_0n bits_0c : Nat) (h : AH) : t83Y N n bits_0 bits_0n bits_0c h =
 c83_0 n n h bits_0 bits_0n bits_0c 0 (iSub .i64 (Int.ofNat bits_0n) 1) (setLow h h.next):=by kernel_rfl
theorem c83_0_eq (N : NewF) (n m0 : Nat) (h0 : AH) (bits_0 : Option Addr) (bits_0n bits_0c : Nat) (x_3 i_4 : Int) (h : AH) : c83_0Y N n m0 h0 bits_0 bits_0n bits_0c x_3 i_4 h =
 cond (iLe 0 i_4)
 ((bits_0).bind fun a0 =>
 cond (inB i_4 bits_0n)
 ((gI .i64 (rdC h (Addr.add a0 ((Int.toNat i_4) * 1)) 0)).bind fun n1 =>
 c83_0 n m0 h0 bits_0 bits_0n bits_0c (iAdd .u64 (mulS .u64 2 x_3) (iConv .u64 n1)) (iSub .i64 i_4 1) h)
 (none))
 (some (exitR h0 h (.int .u64 x_3))):=by kernel_rfl
def p84 : List (List Nat × List Nat):=[([0,1,0,1,1],[0,1,5,6])]
section
variable (N : NewF) (n m0 : Nat) (h0 : AH) (w_0 x_1 : Int) (out_5 : Option Addr) (out_5n out_5c : Nat) (i_6 : Int) (h : AH)
 noncomputable def c84_0 : Option (Go.Value × AH):=resY Tryz.prog n Tryz.f71 h0 (.head (subC (bodyC Tryz.f71) [1,1,0,1,0,0]) [0,1,0,1,1] m0) [.block 0,.seq (subC (bodyC Tryz.f71) [1,1,1]) [1,1,1]] (E [(0,.int .i64 w_0),(1,.int .u64 x_1),(5,.slice out_5 out_5n out_5c),(6,.int .i64 i_6)]) h
 noncomputable def c84_0Y : Option (Go.Value × AH):=yhead Tryz.prog (runS Tryz.prog n) n Tryz.f71 h0 p84 N (resY Tryz.prog n Tryz.f71 h0) (subC (bodyC Tryz.f71) [1,1,0,1,0,0]) [0,1,0,1,1] m0 [.block 0,.seq (subC (bodyC Tryz.f71) [1,1,1]) [1,1,1]] (E [(0,.int .i64 w_0),(1,.int .u64 x_1),(5,.slice out_5 out_5n out_5c),(6,.int .i64 i_6)]) h
variable {n m0} {h0} {w_0 x_1 out_5 out_5n out_5c i_6} {h}
theorem c84_0_ok {r : Go.Value × AH} (hv : c84_0Y hNew n m0 h0 w_0 x_1 out_5 out_5n out_5c i_6 h = some r) : c84_0 n (m0 + 1) h0 w_0 x_1 out_5 out_5n out_5c i_6 h = some r:=yhead_ok hv
end
 noncomputable def t84Y (N : NewF) (n : Nat) (w_0 x_1 : Int) (h : AH) : Option (Go.Value × AH):=yrun Tryz.prog (runS Tryz.prog n) n p84 N (resY Tryz.prog n) 71 [(.int .i64 w_0),(.int .u64 x_1)] h
theorem t84_ok {n : Nat} {w_0 x_1 : Int} {h : AH} {r : Go.Value × AH} (hv : t84Y hNew n w_0 x_1 h = some r) : runS Tryz.prog (n + 1) 71 [(.int .i64 w_0),(.int .u64 x_1)] h = some r:=yrun_ok hv
theorem t84 (N : NewF) (n : Nat) (w_0 x_1 : Int) (h : AH) : t84Y N n w_0 x_1 h =
 c84_0 n n h w_0 x_1 none 0 0 0 (setLow h h.next):=by kernel_rfl
theorem c84_0_eq (N : NewF) (n m0 : Nat) (h0 : AH) (w_0 x_1 : Int) (out_5 : Option Addr) (out_5n out_5c : Nat) (i_6 : Int) (h : AH) : c84_0Y N n m0 h0 w_0 x_1 out_5 out_5n out_5c i_6 h =
 (runS Tryz.prog n 109 [(.int .i64 w_0)] h).bind fun p0 =>
 (gI .i64 (some p0.1)).bind fun n1 =>
 cond (iLt i_6 n1)
 ((N p0.2 [(.int .i64 (iConv .i64 (iRem .u64 x_1 2)))] 1).bind fun p2 =>
 (appL 1 8 (.slice out_5 out_5n out_5c) (.slice (some ⟨p2.1,0,none⟩) 1 1) p2.2).bind fun p3 =>
 c84_0 n m0 h0 w_0 (iQuo .u64 x_1 2) p3.1.1 p3.1.2.1 p3.1.2.2 (iAdd .i64 i_6 1) p3.2)
 (some (exitR h0 p0.2 (.slice out_5 out_5n out_5c))):=by kernel_rfl
def p106 : List (List Nat × List Nat):=[]
 noncomputable def t106Y (N : NewF) (n : Nat) (w_0 : Int) (h : AH) : Option (Go.Value × AH):=yrun Tryz.prog (runS Tryz.prog n) n p106 N (resY Tryz.prog n) 109 [(.int .i64 w_0)] h
theorem t106_ok {n : Nat} {w_0 : Int} {h : AH} {r : Go.Value × AH} (hv : t106Y hNew n w_0 h = some r) : runS Tryz.prog (n + 1) 109 [(.int .i64 w_0)] h = some r:=yrun_ok hv
theorem t106 (N : NewF) (n : Nat) (w_0 : Int) (h : AH) : t106Y N n w_0 h =
 some (exitR h (setLow h h.next) (.int .i64 (iMin (iMax w_0 0) 64))):=by kernel_rfl
def p24 : List (List Nat × List Nat):=[([1,1],[2,3]),([1,1,1],[2,3,5]),([1,1,1,1],[2,3,5]),([1,1,1,1,1,1],[2,3,5,6]),([0,1,0,1,1,1,1,1,1,1],[2,3,5,6,7,8]),([0,1,0,1,1,1,1,1,1,1,1,1],[2,3,6,7]),([1,1,0,1,1,1,1,1,1,1,1,1],[2,3,5,6,7,9]),([1,1,1,1,1,1,1,1,1,1],[3,6,7,9]),([1,1,1,1,1,0,1,0,1,1,1,1,1,1,1,1,1,1],[3,6,7,9,121,151]),([1,1,1,1,1,1,1,1,1,1,1],[3,6,7])]
section
variable (N : NewF) (n : Nat) (h0 : AH) (f_2 in_3 : Addr) (h : AH)
 noncomputable def c24_0 : Option (Go.Value × AH):=resY Tryz.prog n Tryz.f18 h0 (.code (subC (bodyC Tryz.f18) [1,1]) [1,1]) [] (E [(2,.pointer (some f_2)),(3,.pointer (some in_3))]) h
 noncomputable def c24_0Y : Option (Go.Value × AH):=yfrom Tryz.prog (runS Tryz.prog n) n Tryz.f18 h0 p24 N (resY Tryz.prog n Tryz.f18 h0) (subC (bodyC Tryz.f18) [1,1]) [1,1] [] (E [(2,.pointer (some f_2)),(3,.pointer (some in_3))]) h
variable {n} {h0} {f_2 in_3} {h}
theorem c24_0_ok {r : Go.Value × AH} (hv : c24_0Y hNew n h0 f_2 in_3 h = some r) : c24_0 n h0 f_2 in_3 h = some r:=yfrom_ok hv
end
section
variable (N : NewF) (n : Nat) (h0 : AH) (f_2 in_3 : Addr) (memory_5 : Bool) (h : AH)
 noncomputable def c24_1 : Option (Go.Value × AH):=resY Tryz.prog n Tryz.f18 h0 (.code (subC (bodyC Tryz.f18) [1,1,1]) [1,1,1]) [] (E [(2,.pointer (some f_2)),(3,.pointer (some in_3)),(5,.bool memory_5)]) h
 noncomputable def c24_1Y : Option (Go.Value × AH):=yfrom Tryz.prog (runS Tryz.prog n) n Tryz.f18 h0 p24 N (resY Tryz.prog n Tryz.f18 h0) (subC (bodyC Tryz.f18) [1,1,1]) [1,1,1] [] (E [(2,.pointer (some f_2)),(3,.pointer (some in_3)),(5,.bool memory_5)]) h
variable {n} {h0} {f_2 in_3 memory_5} {h}
theorem c24_1_ok {r : Go.Value × AH} (hv : c24_1Y hNew n h0 f_2 in_3 memory_5 h = some r) : c24_1 n h0 f_2 in_3 memory_5 h = some r:=yfrom_ok hv
end
section
variable (N : NewF) (n : Nat) (h0 : AH) (f_2 in_3 : Addr) (memory_5 : Bool) (h : AH)
 noncomputable def c24_2 : Option (Go.Value × AH):=resY Tryz.prog n Tryz.f18 h0 (.code (subC (bodyC Tryz.f18) [1,1,1,1]) [1,1,1,1]) [] (E [(2,.pointer (some f_2)),(3,.pointer (some in_3)),(5,.bool memory_5)]) h
 noncomputable def c24_2Y : Option (Go.Value × AH):=yfrom Tryz.prog (runS Tryz.prog n) n Tryz.f18 h0 p24 N (resY Tryz.prog n Tryz.f18 h0) (subC (bodyC Tryz.f18) [1,1,1,1]) [1,1,1,1] [] (E [(2,.pointer (some f_2)),(3,.pointer (some in_3)),(5,.bool memory_5)]) h
variable {n} {h0} {f_2 in_3 memory_5} {h}
theorem c24_2_ok {r : Go.Value × AH} (hv : c24_2Y hNew n h0 f_2 in_3 memory_5 h = some r) : c24_2 n h0 f_2 in_3 memory_5 h = some r:=yfrom_ok hv
end
section
variable (N : NewF) (n : Nat) (h0 : AH) (f_2 in_3 : Addr) (memory_5 : Bool) (w_6 : Int) (h : AH)
 noncomputable def c24_3 : Option (Go.Value × AH):=resY Tryz.prog n Tryz.f18 h0 (.code (subC (bodyC Tryz.f18) [1,1,1,1,1,1]) [1,1,1,1,1,1]) [] (E [(2,.pointer (some f_2)),(3,.pointer (some in_3)),(5,.bool memory_5),(6,.int .i64 w_6)]) h
 noncomputable def c24_3Y : Option (Go.Value × AH):=yfrom Tryz.prog (runS Tryz.prog n) n Tryz.f18 h0 p24 N (resY Tryz.prog n Tryz.f18 h0) (subC (bodyC Tryz.f18) [1,1,1,1,1,1]) [1,1,1,1,1,1] [] (E [(2,.pointer (some f_2)),(3,.pointer (some in_3)),(5,.bool memory_5),(6,.int .i64 w_6)]) h
variable {n} {h0} {f_2 in_3 memory_5 w_6} {h}
theorem c24_3_ok {r : Go.Value × AH} (hv : c24_3Y hNew n h0 f_2 in_3 memory_5 w_6 h = some r) : c24_3 n h0 f_2 in_3 memory_5 w_6 h = some r:=yfrom_ok hv
end
section
variable (N : NewF) (n m0 : Nat) (h0 : AH) (f_2 in_3 : Addr) (memory_5 : Bool) (w_6 : Int) (a_7 : Option Addr) (a_7n a_7c : Nat) (i_8 : Int) (h : AH)
 noncomputable def c24_4 : Option (Go.Value × AH):=resY Tryz.prog n Tryz.f18 h0 (.head (subC (bodyC Tryz.f18) [1,1,1,1,1,1,1,0,1,0,0]) [0,1,0,1,1,1,1,1,1,1] m0) [.block 0,.seq (subC (bodyC Tryz.f18) [1,1,1,1,1,1,1,1]) [1,1,1,1,1,1,1,1]] (E [(2,.pointer (some f_2)),(3,.pointer (some in_3)),(5,.bool memory_5),(6,.int .i64 w_6),(7,.slice a_7 a_7n a_7c),(8,.int .i64 i_8)]) h
 noncomputable def c24_4Y : Option (Go.Value × AH):=yhead Tryz.prog (runS Tryz.prog n) n Tryz.f18 h0 p24 N (resY Tryz.prog n Tryz.f18 h0) (subC (bodyC Tryz.f18) [1,1,1,1,1,1,1,0,1,0,0]) [0,1,0,1,1,1,1,1,1,1] m0 [.block 0,.seq (subC (bodyC Tryz.f18) [1,1,1,1,1,1,1,1]) [1,1,1,1,1,1,1,1]] (E [(2,.pointer (some f_2)),(3,.pointer (some in_3)),(5,.bool memory_5),(6,.int .i64 w_6),(7,.slice a_7 a_7n a_7c),(8,.int .i64 i_8)]) h
variable {n m0} {h0} {f_2 in_3 memory_5 w_6 a_7 a_7n a_7c i_8} {h}
theorem c24_4_ok {r : Go.Value × AH} (hv : c24_4Y hNew n m0 h0 f_2 in_3 memory_5 w_6 a_7 a_7n a_7c i_8 h = some r) : c24_4 n (m0 + 1) h0 f_2 in_3 memory_5 w_6 a_7 a_7n a_7c i_8 h = some r:=yhead_ok hv
end
section
variable (N : NewF) (n : Nat) (h0 : AH) (f_2 in_3 : Addr) (w_6 : Int) (a_7 : Option Addr) (a_7n a_7c : Nat) (h : AH)
 noncomputable def c24_5 : Option (Go.Value × AH):=resY Tryz.prog n Tryz.f18 h0 (.code (subC (bodyC Tryz.f18) [1,1,1,1,1,1,1,1,1,0,1,0]) [0,1,0,1,1,1,1,1,1,1,1,1]) [.seq (subC (bodyC Tryz.f18) [1,1,1,1,1,1,1,1,1,1]) [1,1,1,1,1,1,1,1,1,1]] (E [(2,.pointer (some f_2)),(3,.pointer (some in_3)),(6,.int .i64 w_6),(7,.slice a_7 a_7n a_7c)]) h
 noncomputable def c24_5Y : Option (Go.Value × AH):=yfrom Tryz.prog (runS Tryz.prog n) n Tryz.f18 h0 p24 N (resY Tryz.prog n Tryz.f18 h0) (subC (bodyC Tryz.f18) [1,1,1,1,1,1,1,1,1,0,1,0]) [0,1,0,1,1,1,1,1,1,1,1,1] [.seq (subC (bodyC Tryz.f18) [1,1,1,1,1,1,1,1,1,1]) [1,1,1,1,1,1,1,1,1,1]] (E [(2,.pointer (some f_2)),(3,.pointer (some in_3)),(6,.int .i64 w_6),(7,.slice a_7 a_7n a_7c)]) h
variable {n} {h0} {f_2 in_3 w_6 a_7 a_7n a_7c} {h}
theorem c24_5_ok {r : Go.Value × AH} (hv : c24_5Y hNew n h0 f_2 in_3 w_6 a_7 a_7n a_7c h = some r) : c24_5 n h0 f_2 in_3 w_6 a_7 a_7n a_7c h = some r:=yfrom_ok hv
end
section
variable (N : NewF) (n : Nat) (h0 : AH) (f_2 in_3 : Addr) (memory_5 : Bool) (w_6 : Int) (a_7 : Option Addr) (a_7n a_7c : Nat) (m_9 : Int) (h : AH)
 noncomputable def c24_6 : Option (Go.Value × AH):=resY Tryz.prog n Tryz.f18 h0 (.code (subC (bodyC Tryz.f18) [1,1,1,1,1,1,1,1,1,0,1,1]) [1,1,0,1,1,1,1,1,1,1,1,1]) [.seq (subC (bodyC Tryz.f18) [1,1,1,1,1,1,1,1,1,1]) [1,1,1,1,1,1,1,1,1,1]] (E [(2,.pointer (some f_2)),(3,.pointer (some in_3)),(5,.bool memory_5),(6,.int .i64 w_6),(7,.slice a_7 a_7n a_7c),(9,.int .i64 m_9)]) h
 noncomputable def c24_6Y : Option (Go.Value × AH):=yfrom Tryz.prog (runS Tryz.prog n) n Tryz.f18 h0 p24 N (resY Tryz.prog n Tryz.f18 h0) (subC (bodyC Tryz.f18) [1,1,1,1,1,1,1,1,1,0,1,1]) [1,1,0,1,1,1,1,1,1,1,1,1] [.seq (subC (bodyC Tryz.f18) [1,1,1,1,1,1,1,1,1,1]) [1,1,1,1,1,1,1,1,1,1]] (E [(2,.pointer (some f_2)),(3,.pointer (some in_3)),(5,.bool memory_5),(6,.int .i64 w_6),(7,.slice a_7 a_7n a_7c),(9,.int .i64 m_9)]) h
variable {n} {h0} {f_2 in_3 memory_5 w_6 a_7 a_7n a_7c m_9} {h}
theorem c24_6_ok {r : Go.Value × AH} (hv : c24_6Y hNew n h0 f_2 in_3 memory_5 w_6 a_7 a_7n a_7c m_9 h = some r) : c24_6 n h0 f_2 in_3 memory_5 w_6 a_7 a_7n a_7c m_9 h = some r:=yfrom_ok hv
end
section
variable (N : NewF) (n : Nat) (h0 : AH) (in_3 : Addr) (w_6 : Int) (a_7 : Option Addr) (a_7n a_7c : Nat) (m_9 : Int) (h : AH)
 noncomputable def c24_7 : Option (Go.Value × AH):=resY Tryz.prog n Tryz.f18 h0 (.code (subC (bodyC Tryz.f18) [1,1,1,1,1,1,1,1,1,1]) [1,1,1,1,1,1,1,1,1,1]) [] (E [(3,.pointer (some in_3)),(6,.int .i64 w_6),(7,.slice a_7 a_7n a_7c),(9,.int .i64 m_9)]) h
 noncomputable def c24_7Y : Option (Go.Value × AH):=yfrom Tryz.prog (runS Tryz.prog n) n Tryz.f18 h0 p24 N (resY Tryz.prog n Tryz.f18 h0) (subC (bodyC Tryz.f18) [1,1,1,1,1,1,1,1,1,1]) [1,1,1,1,1,1,1,1,1,1] [] (E [(3,.pointer (some in_3)),(6,.int .i64 w_6),(7,.slice a_7 a_7n a_7c),(9,.int .i64 m_9)]) h
variable {n} {h0} {in_3 w_6 a_7 a_7n a_7c m_9} {h}
theorem c24_7_ok {r : Go.Value × AH} (hv : c24_7Y hNew n h0 in_3 w_6 a_7 a_7n a_7c m_9 h = some r) : c24_7 n h0 in_3 w_6 a_7 a_7n a_7c m_9 h = some r:=yfrom_ok hv
end
section
variable (N : NewF) (n : Nat) (h0 : AH) (in_3 : Addr) (w_6 : Int) (a_7 : Option Addr) (a_7n a_7c : Nat) (m_9 t_121 : Int) (t_151 : Bool) (h : AH)
 noncomputable def c24_8 : Option (Go.Value × AH):=resY Tryz.prog n Tryz.f18 h0 (.code (subC (bodyC Tryz.f18) [1,1,1,1,1,1,1,1,1,1,0,1,0,1,1,1,1,1]) [1,1,1,1,1,0,1,0,1,1,1,1,1,1,1,1,1,1]) [.block 2,.seq (subC (bodyC Tryz.f18) [1,1,1,1,1,1,1,1,1,1,1]) [1,1,1,1,1,1,1,1,1,1,1]] (E [(3,.pointer (some in_3)),(6,.int .i64 w_6),(7,.slice a_7 a_7n a_7c),(9,.int .i64 m_9),(121,.int .i64 t_121),(151,.bool t_151)]) h
 noncomputable def c24_8Y : Option (Go.Value × AH):=yfrom Tryz.prog (runS Tryz.prog n) n Tryz.f18 h0 p24 N (resY Tryz.prog n Tryz.f18 h0) (subC (bodyC Tryz.f18) [1,1,1,1,1,1,1,1,1,1,0,1,0,1,1,1,1,1]) [1,1,1,1,1,0,1,0,1,1,1,1,1,1,1,1,1,1] [.block 2,.seq (subC (bodyC Tryz.f18) [1,1,1,1,1,1,1,1,1,1,1]) [1,1,1,1,1,1,1,1,1,1,1]] (E [(3,.pointer (some in_3)),(6,.int .i64 w_6),(7,.slice a_7 a_7n a_7c),(9,.int .i64 m_9),(121,.int .i64 t_121),(151,.bool t_151)]) h
variable {n} {h0} {in_3 w_6 a_7 a_7n a_7c m_9 t_121 t_151} {h}
theorem c24_8_ok {r : Go.Value × AH} (hv : c24_8Y hNew n h0 in_3 w_6 a_7 a_7n a_7c m_9 t_121 t_151 h = some r) : c24_8 n h0 in_3 w_6 a_7 a_7n a_7c m_9 t_121 t_151 h = some r:=yfrom_ok hv
end
section
variable (N : NewF) (n : Nat) (h0 : AH) (in_3 : Addr) (w_6 : Int) (a_7 : Option Addr) (a_7n a_7c : Nat) (h : AH)
 noncomputable def c24_9 : Option (Go.Value × AH):=resY Tryz.prog n Tryz.f18 h0 (.code (subC (bodyC Tryz.f18) [1,1,1,1,1,1,1,1,1,1,1]) [1,1,1,1,1,1,1,1,1,1,1]) [] (E [(3,.pointer (some in_3)),(6,.int .i64 w_6),(7,.slice a_7 a_7n a_7c)]) h
 noncomputable def c24_9Y : Option (Go.Value × AH):=yfrom Tryz.prog (runS Tryz.prog n) n Tryz.f18 h0 p24 N (resY Tryz.prog n Tryz.f18 h0) (subC (bodyC Tryz.f18) [1,1,1,1,1,1,1,1,1,1,1]) [1,1,1,1,1,1,1,1,1,1,1] [] (E [(3,.pointer (some in_3)),(6,.int .i64 w_6),(7,.slice a_7 a_7n a_7c)]) h
variable {n} {h0} {in_3 w_6 a_7 a_7n a_7c} {h}
theorem c24_9_ok {r : Go.Value × AH} (hv : c24_9Y hNew n h0 in_3 w_6 a_7 a_7n a_7c h = some r) : c24_9 n h0 in_3 w_6 a_7 a_7n a_7c h = some r:=yfrom_ok hv
end
 noncomputable def t24Y (N : NewF) (n : Nat) (f_0a : ByteArray) (f_0b : Option Addr) (f_0bn f_0bc : Nat) (f_0c : Option Addr) (f_0cn f_0cc : Nat) (f_0d : Option Addr) (f_0dn f_0dc : Nat) (f_0e : Option Addr) (f_0en f_0ec : Nat) (f_0f : Option Addr) (f_0fn f_0fc : Nat) (in_1a in_1b : Int) (in_1c : Option Addr) (in_1cn in_1cc : Nat) (in_1d in_1e : Int) (h : AH) : Option (Go.Value × AH):=yrun Tryz.prog (runS Tryz.prog n) n p24 N (resY Tryz.prog n) 18 [(.agg #[(.string f_0a),(.slice f_0b f_0bn f_0bc),(.slice f_0c f_0cn f_0cc),(.slice f_0d f_0dn f_0dc),(.slice f_0e f_0en f_0ec),(.slice f_0f f_0fn f_0fc)]),(.agg #[(.int .i64 in_1a),(.int .i64 in_1b),(.slice in_1c in_1cn in_1cc),(.int .u64 in_1d),(.int .i64 in_1e)])] h
theorem t24_ok {n : Nat} {f_0a : ByteArray} {f_0b : Option Addr} {f_0bn f_0bc : Nat} {f_0c : Option Addr} {f_0cn f_0cc : Nat} {f_0d : Option Addr} {f_0dn f_0dc : Nat} {f_0e : Option Addr} {f_0en f_0ec : Nat} {f_0f : Option Addr} {f_0fn f_0fc : Nat} {in_1a in_1b : Int} {in_1c : Option Addr} {in_1cn in_1cc : Nat} {in_1d in_1e : Int} {h : AH} {r : Go.Value × AH} (hv : t24Y hNew n f_0a f_0b f_0bn f_0bc f_0c f_0cn f_0cc f_0d f_0dn f_0dc f_0e f_0en f_0ec f_0f f_0fn f_0fc in_1a in_1b in_1c in_1cn in_1cc in_1d in_1e h = some r) : runS Tryz.prog (n + 1) 18 [(.agg #[(.string f_0a),(.slice f_0b f_0bn f_0bc),(.slice f_0c f_0cn f_0cc),(.slice f_0d f_0dn f_0dc),(.slice f_0e f_0en f_0ec),(.slice f_0f f_0fn f_0fc)]),(.agg #[(.int .i64 in_1a),(.int .i64 in_1b),(.slice in_1c in_1cn in_1cc),(.int .u64 in_1d),(.int .i64 in_1e)])] h = some r:=yrun_ok hv
theorem t24 (N : NewF) (n : Nat) (f_0a : ByteArray) (f_0b : Option Addr) (f_0bn f_0bc : Nat) (f_0c : Option Addr) (f_0cn f_0cc : Nat) (f_0d : Option Addr) (f_0dn f_0dc : Nat) (f_0e : Option Addr) (f_0en f_0ec : Nat) (f_0f : Option Addr) (f_0fn f_0fc : Nat) (in_1a in_1b : Int) (in_1c : Option Addr) (in_1cn in_1cc : Nat) (in_1d in_1e : Int) (h : AH) : t24Y N n f_0a f_0b f_0bn f_0bc f_0c f_0cn f_0cc f_0d f_0dn f_0dc f_0e f_0en f_0ec f_0f f_0fn f_0fc in_1a in_1b in_1c in_1cn in_1cc in_1d in_1e h =
 (N (setLow h h.next) [(.string f_0a),(.slice f_0b f_0bn f_0bc),(.slice f_0c f_0cn f_0cc),(.slice f_0d f_0dn f_0dc),(.slice f_0e f_0en f_0ec),(.slice f_0f f_0fn f_0fc)] 0).bind fun p0 =>
 (N p0.2 [(.int .i64 in_1a),(.int .i64 in_1b),(.slice in_1c in_1cn in_1cc),(.int .u64 in_1d),(.int .i64 in_1e)] 0).bind fun p1 =>
 (gI .u64 (rdC p1.2 (Addr.add ⟨p1.1,0,none⟩ 3) 0)).bind fun n2 =>
 cond (iNe n2 0)
 ((gI .i64 (rdC p1.2 (Addr.add ⟨p1.1,0,none⟩ 0) 0)).bind fun n3 =>
 cond (iNe n3 1)
 (some (exitR h p1.2 (.bool false)))
 (c24_0 n h ⟨p0.1,0,none⟩ ⟨p1.1,0,none⟩ p1.2))
 (c24_0 n h ⟨p0.1,0,none⟩ ⟨p1.1,0,none⟩ p1.2):=by kernel_rfl
theorem c24_0_eq (N : NewF) (n  : Nat) (h0 : AH) (f_2 in_3 : Addr) (h : AH) : c24_0Y N n  h0 f_2 in_3 h =
 (gI .i64 (rdC h (Addr.add in_3 0) 0)).bind fun n0 =>
 cond (iLe 25 n0)
 ((gI .i64 (rdC h (Addr.add in_3 0) 0)).bind fun n1 =>
 c24_1 n h0 f_2 in_3 (iLe n1 28) h)
 (c24_1 n h0 f_2 in_3 false h):=by kernel_rfl
theorem c24_1_eq (N : NewF) (n  : Nat) (h0 : AH) (f_2 in_3 : Addr) (memory_5 : Bool) (h : AH) : c24_1Y N n  h0 f_2 in_3 memory_5 h =
 (gI .i64 (rdC h (Addr.add in_3 4) 0)).bind fun n0 =>
 cond (iNe n0 0)
 (cond (Bool.not memory_5)
 (some (exitR h0 h (.bool false)))
 (c24_2 n h0 f_2 in_3 memory_5 h))
 (c24_2 n h0 f_2 in_3 memory_5 h):=by kernel_rfl
theorem c24_2_eq (N : NewF) (n  : Nat) (h0 : AH) (f_2 in_3 : Addr) (memory_5 : Bool) (h : AH) : c24_2Y N n  h0 f_2 in_3 memory_5 h =
 (gI .i64 (rdC h (Addr.add in_3 0) 0)).bind fun n0 =>
 (runS Tryz.prog n 17 [(.int .i64 n0)] h).bind fun p1 =>
 (gB (some p1.1)).bind fun b2 =>
 cond b2
 ((gL (rdC p1.2 (Addr.add f_2 1) 0)).bind fun p3 =>
 (gI .i64 (rdC p1.2 (Addr.add in_3 1) 0)).bind fun n4 =>
 (p3.1).bind fun a5 =>
 cond (inB n4 p3.2.1)
 ((gI .i64 (rdC p1.2 (Addr.add a5 ((Int.toNat n4) * 1)) 0)).bind fun n6 =>
 c24_3 n h0 f_2 in_3 memory_5 n6 p1.2)
 (none))
 (c24_3 n h0 f_2 in_3 memory_5 0 p1.2):=by kernel_rfl
theorem c24_3_eq (N : NewF) (n  : Nat) (h0 : AH) (f_2 in_3 : Addr) (memory_5 : Bool) (w_6 : Int) (h : AH) : c24_3Y N n  h0 f_2 in_3 memory_5 w_6 h =
 (N h [(.int .i64 0),(.int .i64 0),(.int .i64 0)] 1).bind fun p0 =>
 c24_4 n n h0 f_2 in_3 memory_5 w_6 (some ⟨p0.1,0,none⟩) 3 3 0 p0.2:=by kernel_rfl
theorem c24_4_eq (N : NewF) (n m0 : Nat) (h0 : AH) (f_2 in_3 : Addr) (memory_5 : Bool) (w_6 : Int) (a_7 : Option Addr) (a_7n a_7c : Nat) (i_8 : Int) (h : AH) : c24_4Y N n m0 h0 f_2 in_3 memory_5 w_6 a_7 a_7n a_7c i_8 h =
 (gL (rdC h (Addr.add in_3 2) 0)).bind fun p0 =>
 cond (iLt i_8 (Int.ofNat p0.2.1))
 ((gL (rdC h (Addr.add f_2 1) 0)).bind fun p1 =>
 (gL (rdC h (Addr.add in_3 2) 0)).bind fun p2 =>
 (p2.1).bind fun a3 =>
 cond (inB i_8 p2.2.1)
 ((gI .i64 (rdC h (Addr.add a3 ((Int.toNat i_8) * 1)) 0)).bind fun n4 =>
 (p1.1).bind fun a5 =>
 cond (inB n4 p1.2.1)
 ((gI .i64 (rdC h (Addr.add a5 ((Int.toNat n4) * 1)) 0)).bind fun n6 =>
 (a_7).bind fun a7 =>
 cond (inB i_8 a_7n)
 ((stL h (Addr.add a7 ((Int.toNat i_8) * 1)) [(.int .i64 n6)]).bind fun x8 =>
 c24_4 n m0 h0 f_2 in_3 memory_5 w_6 a_7 a_7n a_7c (iAdd .i64 i_8 1) x8)
 (none))
 (none))
 (none))
 ((gI .i64 (rdC h (Addr.add in_3 0) 0)).bind fun n9 =>
 cond (iEq n9 25)
 (c24_5 n h0 f_2 in_3 w_6 a_7 a_7n a_7c h)
 ((gI .i64 (rdC h (Addr.add in_3 0) 0)).bind fun n10 =>
 cond (iEq n10 26)
 (c24_5 n h0 f_2 in_3 w_6 a_7 a_7n a_7c h)
 (c24_6 n h0 f_2 in_3 memory_5 w_6 a_7 a_7n a_7c 0 h))):=by kernel_rfl
theorem c24_5_eq (N : NewF) (n  : Nat) (h0 : AH) (f_2 in_3 : Addr) (w_6 : Int) (a_7 : Option Addr) (a_7n a_7c : Nat) (h : AH) : c24_5Y N n  h0 f_2 in_3 w_6 a_7 a_7n a_7c h =
 (gI .i64 (rdC h (Addr.add in_3 4) 0)).bind fun n0 =>
 cond (iLt n0 0)
 (some (exitR h0 h (.bool false)))
 ((gI .i64 (rdC h (Addr.add in_3 4) 0)).bind fun n1 =>
 (gL (rdC h (Addr.add f_2 2) 0)).bind fun p2 =>
 cond (iLe (Int.ofNat p2.2.1) n1)
 (some (exitR h0 h (.bool false)))
 ((gL (rdC h (Addr.add f_2 2) 0)).bind fun p3 =>
 (gI .i64 (rdC h (Addr.add in_3 4) 0)).bind fun n4 =>
 (p3.1).bind fun a5 =>
 cond (inB n4 p3.2.1)
 ((gI .i64 (rdC h (Addr.add (Addr.add a5 ((Int.toNat n4) * 5)) 1) 0)).bind fun n6 =>
 c24_7 n h0 in_3 w_6 a_7 a_7n a_7c n6 h)
 (none))):=by kernel_rfl
theorem c24_6_eq (N : NewF) (n  : Nat) (h0 : AH) (f_2 in_3 : Addr) (memory_5 : Bool) (w_6 : Int) (a_7 : Option Addr) (a_7n a_7c : Nat) (m_9 : Int) (h : AH) : c24_6Y N n  h0 f_2 in_3 memory_5 w_6 a_7 a_7n a_7c m_9 h =
 cond memory_5
 ((gI .i64 (rdC h (Addr.add in_3 4) 0)).bind fun n0 =>
 cond (iLt n0 0)
 (some (exitR h0 h (.bool false)))
 ((gI .i64 (rdC h (Addr.add in_3 4) 0)).bind fun n1 =>
 (gL (rdC h (Addr.add f_2 3) 0)).bind fun p2 =>
 cond (iLe (Int.ofNat p2.2.1) n1)
 (some (exitR h0 h (.bool false)))
 ((gL (rdC h (Addr.add f_2 3) 0)).bind fun p3 =>
 (gI .i64 (rdC h (Addr.add in_3 4) 0)).bind fun n4 =>
 (p3.1).bind fun a5 =>
 cond (inB n4 p3.2.1)
 ((gB (rdC h (Addr.add (Addr.add a5 ((Int.toNat n4) * 3)) 2) 0)).bind fun b6 =>
 (gI .i64 (rdC h (Addr.add in_3 0) 0)).bind fun n7 =>
 cond (Bool.not (BEq.beq b6 (iEq n7 28)))
 (some (exitR h0 h (.bool false)))
 ((gL (rdC h (Addr.add f_2 3) 0)).bind fun p8 =>
 (gI .i64 (rdC h (Addr.add in_3 4) 0)).bind fun n9 =>
 (p8.1).bind fun a10 =>
 cond (inB n9 p8.2.1)
 ((gI .i64 (rdC h (Addr.add (Addr.add a10 ((Int.toNat n9) * 3)) 1) 0)).bind fun n11 =>
 c24_7 n h0 in_3 w_6 a_7 a_7n a_7c n11 h)
 (none)))
 (none))))
 (c24_7 n h0 in_3 w_6 a_7 a_7n a_7c m_9 h):=by kernel_rfl
theorem c24_7_eq (N : NewF) (n  : Nat) (h0 : AH) (in_3 : Addr) (w_6 : Int) (a_7 : Option Addr) (a_7n a_7c : Nat) (m_9 : Int) (h : AH) : c24_7Y N n  h0 in_3 w_6 a_7 a_7n a_7c m_9 h =
 (gI .i64 (rdC h (Addr.add in_3 0) 0)).bind fun n0 =>
 cond (iEq n0 1)
 ((gI .u64 (rdC h (Addr.add in_3 3) 0)).bind fun n1 =>
 (runS Tryz.prog n 40 [(.int .i64 w_6),(.int .u64 n1)] (setLow h h.next)).bind fun p2 =>
 (gI .u64 (some p2.1)).bind fun n3 =>
 cond (Nat.beq p2.2.low h.next)
 ((gI .u64 (rdC (setLow p2.2 h.low) (Addr.add in_3 3) 0)).bind fun n4 =>
 some (exitR h0 (setLow p2.2 h.low) (.bool (iEq n3 n4))))
 (none))
 (cond (iEq n0 21)
 ((a_7).bind fun a5 =>
 cond (inB 0 a_7n)
 ((gI .i64 (rdC h (Addr.add a5 0) 0)).bind fun n6 =>
 cond (iEq n6 1)
 ((a_7).bind fun a7 =>
 cond (inB 1 a_7n)
 ((gI .i64 (rdC h (Addr.add a7 1) 0)).bind fun n8 =>
 cond (iEq n8 w_6)
 ((a_7).bind fun a9 =>
 cond (inB 2 a_7n)
 ((gI .i64 (rdC h (Addr.add a9 2) 0)).bind fun n10 =>
 some (exitR h0 h (.bool (iEq n10 w_6))))
 (none))
 (some (exitR h0 h (.bool false))))
 (none))
 (some (exitR h0 h (.bool false))))
 (none))
 (cond (iEq n0 22)
 (c24_8 n h0 in_3 w_6 a_7 a_7n a_7c m_9 n0 true h)
 (c24_8 n h0 in_3 w_6 a_7 a_7n a_7c m_9 n0 (iEq n0 23) h))):=by kernel_rfl
theorem c24_8_eq (N : NewF) (n  : Nat) (h0 : AH) (in_3 : Addr) (w_6 : Int) (a_7 : Option Addr) (a_7n a_7c : Nat) (m_9 t_121 : Int) (t_151 : Bool) (h : AH) : c24_8Y N n  h0 in_3 w_6 a_7 a_7n a_7c m_9 t_121 t_151 h =
 cond t_151
 ((a_7).bind fun a0 =>
 cond (inB 0 a_7n)
 ((gI .i64 (rdC h (Addr.add a0 0) 0)).bind fun n1 =>
 some (exitR h0 h (.bool (iLt n1 w_6))))
 (none))
 (cond (iEq t_121 24)
 ((a_7).bind fun a2 =>
 cond (inB 0 a_7n)
 ((gI .i64 (rdC h (Addr.add a2 0) 0)).bind fun n3 =>
 some (exitR h0 h (.bool (iLt w_6 n3))))
 (none))
 (cond (iEq t_121 25)
 (cond (iEq m_9 w_6)
 ((a_7).bind fun a4 =>
 cond (inB 1 a_7n)
 ((gI .i64 (rdC h (Addr.add a4 1) 0)).bind fun n5 =>
 some (exitR h0 h (.bool (iEq n5 1))))
 (none))
 (some (exitR h0 h (.bool false))))
 (cond (iEq t_121 26)
 ((a_7).bind fun a6 =>
 cond (inB 1 a_7n)
 ((gI .i64 (rdC h (Addr.add a6 1) 0)).bind fun n7 =>
 cond (iEq m_9 n7)
 ((a_7).bind fun a8 =>
 cond (inB 2 a_7n)
 ((gI .i64 (rdC h (Addr.add a8 2) 0)).bind fun n9 =>
 some (exitR h0 h (.bool (iEq n9 1))))
 (none))
 (some (exitR h0 h (.bool false))))
 (none))
 (cond (iEq t_121 27)
 (cond (iEq m_9 w_6)
 ((a_7).bind fun a10 =>
 cond (inB 0 a_7n)
 ((gI .i64 (rdC h (Addr.add a10 0) 0)).bind fun n11 =>
 some (exitR h0 h (.bool (iEq n11 1))))
 (none))
 (some (exitR h0 h (.bool false))))
 (cond (iEq t_121 28)
 ((a_7).bind fun a12 =>
 cond (inB 0 a_7n)
 ((gI .i64 (rdC h (Addr.add a12 0) 0)).bind fun n13 =>
 cond (iEq m_9 n13)
 ((a_7).bind fun a14 =>
 cond (inB 1 a_7n)
 ((gI .i64 (rdC h (Addr.add a14 1) 0)).bind fun n15 =>
 some (exitR h0 h (.bool (iEq n15 1))))
 (none))
 (some (exitR h0 h (.bool false))))
 (none))
 (c24_9 n h0 in_3 w_6 a_7 a_7n a_7c h)))))):=by kernel_rfl
theorem c24_9_eq (N : NewF) (n  : Nat) (h0 : AH) (in_3 : Addr) (w_6 : Int) (a_7 : Option Addr) (a_7n a_7c : Nat) (h : AH) : c24_9Y N n  h0 in_3 w_6 a_7 a_7n a_7c h =
 (gI .i64 (rdC h (Addr.add in_3 0) 0)).bind fun n0 =>
 (runS Tryz.prog n 41 [(.int .i64 n0)] h).bind fun p1 =>
 (gB (some p1.1)).bind fun b2 =>
 cond b2
 (cond (iEq w_6 1)
 ((a_7).bind fun a3 =>
 cond (inB 0 a_7n)
 ((gI .i64 (rdC p1.2 (Addr.add a3 0) 0)).bind fun n4 =>
 (a_7).bind fun a5 =>
 cond (inB 1 a_7n)
 ((gI .i64 (rdC p1.2 (Addr.add a5 1) 0)).bind fun n6 =>
 some (exitR h0 p1.2 (.bool (iEq n4 n6))))
 (none))
 (none))
 (some (exitR h0 p1.2 (.bool false))))
 ((a_7).bind fun a7 =>
 cond (inB 0 a_7n)
 ((gI .i64 (rdC p1.2 (Addr.add a7 0) 0)).bind fun n8 =>
 cond (iEq n8 w_6)
 ((a_7).bind fun a9 =>
 cond (inB 1 a_7n)
 ((gI .i64 (rdC p1.2 (Addr.add a9 1) 0)).bind fun n10 =>
 some (exitR h0 p1.2 (.bool (iEq n10 w_6))))
 (none))
 (some (exitR h0 p1.2 (.bool false))))
 (none)):=by kernel_rfl
def p25 : List (List Nat × List Nat):=[([0,1,1,0,1,1,1,1,1,0,1,0,1,1],[2,3,4,7,8]),([1,1,1],[2,3,4,7]),([1,1,1,1],[2,3,4]),([0,1,0,1,1,1,1,1],[2,3,4,9])]
section
variable (N : NewF) (n : Nat) (h0 : AH) (known_2 : Option Addr) (known_2n known_2c : Nat) (f_3 t_4 : Addr) (size_7 : Int) (h : AH)
 noncomputable def c25_0 : Option (Go.Value × AH):=resY Tryz.prog n Tryz.f19 h0 (.code (subC (bodyC Tryz.f19) [1,1,1]) [1,1,1]) [] (E [(2,.slice known_2 known_2n known_2c),(3,.pointer (some f_3)),(4,.pointer (some t_4)),(7,.int .i64 size_7)]) h
 noncomputable def c25_0Y : Option (Go.Value × AH):=yfrom Tryz.prog (runS Tryz.prog n) n Tryz.f19 h0 p25 N (resY Tryz.prog n Tryz.f19 h0) (subC (bodyC Tryz.f19) [1,1,1]) [1,1,1] [] (E [(2,.slice known_2 known_2n known_2c),(3,.pointer (some f_3)),(4,.pointer (some t_4)),(7,.int .i64 size_7)]) h
variable {n} {h0} {known_2 known_2n known_2c f_3 t_4 size_7} {h}
theorem c25_0_ok {r : Go.Value × AH} (hv : c25_0Y hNew n h0 known_2 known_2n known_2c f_3 t_4 size_7 h = some r) : c25_0 n h0 known_2 known_2n known_2c f_3 t_4 size_7 h = some r:=yfrom_ok hv
end
section
variable (N : NewF) (n m0 : Nat) (h0 : AH) (known_2 : Option Addr) (known_2n known_2c : Nat) (f_3 t_4 : Addr) (size_7 i_8 : Int) (h : AH)
 noncomputable def c25_1 : Option (Go.Value × AH):=resY Tryz.prog n Tryz.f19 h0 (.head (subC (bodyC Tryz.f19) [1,1,0,1,0,1,1,1,1,1,0,1,1,0,0]) [0,1,1,0,1,1,1,1,1,0,1,0,1,1] m0) [.block 1,.block 0,.seq (subC (bodyC Tryz.f19) [1,1,1]) [1,1,1]] (E [(2,.slice known_2 known_2n known_2c),(3,.pointer (some f_3)),(4,.pointer (some t_4)),(7,.int .i64 size_7),(8,.int .i64 i_8)]) h
 noncomputable def c25_1Y : Option (Go.Value × AH):=yhead Tryz.prog (runS Tryz.prog n) n Tryz.f19 h0 p25 N (resY Tryz.prog n Tryz.f19 h0) (subC (bodyC Tryz.f19) [1,1,0,1,0,1,1,1,1,1,0,1,1,0,0]) [0,1,1,0,1,1,1,1,1,0,1,0,1,1] m0 [.block 1,.block 0,.seq (subC (bodyC Tryz.f19) [1,1,1]) [1,1,1]] (E [(2,.slice known_2 known_2n known_2c),(3,.pointer (some f_3)),(4,.pointer (some t_4)),(7,.int .i64 size_7),(8,.int .i64 i_8)]) h
variable {n m0} {h0} {known_2 known_2n known_2c f_3 t_4 size_7 i_8} {h}
theorem c25_1_ok {r : Go.Value × AH} (hv : c25_1Y hNew n m0 h0 known_2 known_2n known_2c f_3 t_4 size_7 i_8 h = some r) : c25_1 n (m0 + 1) h0 known_2 known_2n known_2c f_3 t_4 size_7 i_8 h = some r:=yhead_ok hv
end
section
variable (N : NewF) (n : Nat) (h0 : AH) (known_2 : Option Addr) (known_2n known_2c : Nat) (f_3 t_4 : Addr) (h : AH)
 noncomputable def c25_2 : Option (Go.Value × AH):=resY Tryz.prog n Tryz.f19 h0 (.code (subC (bodyC Tryz.f19) [1,1,1,1]) [1,1,1,1]) [] (E [(2,.slice known_2 known_2n known_2c),(3,.pointer (some f_3)),(4,.pointer (some t_4))]) h
 noncomputable def c25_2Y : Option (Go.Value × AH):=yfrom Tryz.prog (runS Tryz.prog n) n Tryz.f19 h0 p25 N (resY Tryz.prog n Tryz.f19 h0) (subC (bodyC Tryz.f19) [1,1,1,1]) [1,1,1,1] [] (E [(2,.slice known_2 known_2n known_2c),(3,.pointer (some f_3)),(4,.pointer (some t_4))]) h
variable {n} {h0} {known_2 known_2n known_2c f_3 t_4} {h}
theorem c25_2_ok {r : Go.Value × AH} (hv : c25_2Y hNew n h0 known_2 known_2n known_2c f_3 t_4 h = some r) : c25_2 n h0 known_2 known_2n known_2c f_3 t_4 h = some r:=yfrom_ok hv
end
section
variable (N : NewF) (n m0 : Nat) (h0 : AH) (known_2 : Option Addr) (known_2n known_2c : Nat) (f_3 t_4 : Addr) (i_9 : Int) (h : AH)
 noncomputable def c25_3 : Option (Go.Value × AH):=resY Tryz.prog n Tryz.f19 h0 (.head (subC (bodyC Tryz.f19) [1,1,1,1,1,0,1,0,0]) [0,1,0,1,1,1,1,1] m0) [.block 3,.seq (subC (bodyC Tryz.f19) [1,1,1,1,1,1]) [1,1,1,1,1,1]] (E [(2,.slice known_2 known_2n known_2c),(3,.pointer (some f_3)),(4,.pointer (some t_4)),(9,.int .i64 i_9)]) h
 noncomputable def c25_3Y : Option (Go.Value × AH):=yhead Tryz.prog (runS Tryz.prog n) n Tryz.f19 h0 p25 N (resY Tryz.prog n Tryz.f19 h0) (subC (bodyC Tryz.f19) [1,1,1,1,1,0,1,0,0]) [0,1,0,1,1,1,1,1] m0 [.block 3,.seq (subC (bodyC Tryz.f19) [1,1,1,1,1,1]) [1,1,1,1,1,1]] (E [(2,.slice known_2 known_2n known_2c),(3,.pointer (some f_3)),(4,.pointer (some t_4)),(9,.int .i64 i_9)]) h
variable {n m0} {h0} {known_2 known_2n known_2c f_3 t_4 i_9} {h}
theorem c25_3_ok {r : Go.Value × AH} (hv : c25_3Y hNew n m0 h0 known_2 known_2n known_2c f_3 t_4 i_9 h = some r) : c25_3 n (m0 + 1) h0 known_2 known_2n known_2c f_3 t_4 i_9 h = some r:=yhead_ok hv
end
 noncomputable def t25Y (N : NewF) (n : Nat) (f_0a : ByteArray) (f_0b : Option Addr) (f_0bn f_0bc : Nat) (f_0c : Option Addr) (f_0cn f_0cc : Nat) (f_0d : Option Addr) (f_0dn f_0dc : Nat) (f_0e : Option Addr) (f_0en f_0ec : Nat) (f_0f : Option Addr) (f_0fn f_0fc : Nat) (t_1a t_1b : Int) (t_1c : Option Addr) (t_1cn t_1cc : Nat) (t_1d : Option Addr) (t_1dn t_1dc : Nat) (known_2 : Option Addr) (known_2n known_2c : Nat) (h : AH) : Option (Go.Value × AH):=yrun Tryz.prog (runS Tryz.prog n) n p25 N (resY Tryz.prog n) 19 [(.agg #[(.string f_0a),(.slice f_0b f_0bn f_0bc),(.slice f_0c f_0cn f_0cc),(.slice f_0d f_0dn f_0dc),(.slice f_0e f_0en f_0ec),(.slice f_0f f_0fn f_0fc)]),(.agg #[(.int .i64 t_1a),(.int .i64 t_1b),(.slice t_1c t_1cn t_1cc),(.slice t_1d t_1dn t_1dc)]),(.slice known_2 known_2n known_2c)] h
theorem t25_ok {n : Nat} {f_0a : ByteArray} {f_0b : Option Addr} {f_0bn f_0bc : Nat} {f_0c : Option Addr} {f_0cn f_0cc : Nat} {f_0d : Option Addr} {f_0dn f_0dc : Nat} {f_0e : Option Addr} {f_0en f_0ec : Nat} {f_0f : Option Addr} {f_0fn f_0fc : Nat} {t_1a t_1b : Int} {t_1c : Option Addr} {t_1cn t_1cc : Nat} {t_1d : Option Addr} {t_1dn t_1dc : Nat} {known_2 : Option Addr} {known_2n known_2c : Nat} {h : AH} {r : Go.Value × AH} (hv : t25Y hNew n f_0a f_0b f_0bn f_0bc f_0c f_0cn f_0cc f_0d f_0dn f_0dc f_0e f_0en f_0ec f_0f f_0fn f_0fc t_1a t_1b t_1c t_1cn t_1cc t_1d t_1dn t_1dc known_2 known_2n known_2c h = some r) : runS Tryz.prog (n + 1) 19 [(.agg #[(.string f_0a),(.slice f_0b f_0bn f_0bc),(.slice f_0c f_0cn f_0cc),(.slice f_0d f_0dn f_0dc),(.slice f_0e f_0en f_0ec),(.slice f_0f f_0fn f_0fc)]),(.agg #[(.int .i64 t_1a),(.int .i64 t_1b),(.slice t_1c t_1cn t_1cc),(.slice t_1d t_1dn t_1dc)]),(.slice known_2 known_2n known_2c)] h = some r:=yrun_ok hv
theorem t25 (N : NewF) (n : Nat) (f_0a : ByteArray) (f_0b : Option Addr) (f_0bn f_0bc : Nat) (f_0c : Option Addr) (f_0cn f_0cc : Nat) (f_0d : Option Addr) (f_0dn f_0dc : Nat) (f_0e : Option Addr) (f_0en f_0ec : Nat) (f_0f : Option Addr) (f_0fn f_0fc : Nat) (t_1a t_1b : Int) (t_1c : Option Addr) (t_1cn t_1cc : Nat) (t_1d : Option Addr) (t_1dn t_1dc : Nat) (known_2 : Option Addr) (known_2n known_2c : Nat) (h : AH) : t25Y N n f_0a f_0b f_0bn f_0bc f_0c f_0cn f_0cc f_0d f_0dn f_0dc f_0e f_0en f_0ec f_0f f_0fn f_0fc t_1a t_1b t_1c t_1cn t_1cc t_1d t_1dn t_1dc known_2 known_2n known_2c h =
 (N (setLow h h.next) [(.string f_0a),(.slice f_0b f_0bn f_0bc),(.slice f_0c f_0cn f_0cc),(.slice f_0d f_0dn f_0dc),(.slice f_0e f_0en f_0ec),(.slice f_0f f_0fn f_0fc)] 0).bind fun p0 =>
 (N p0.2 [(.int .i64 t_1a),(.int .i64 t_1b),(.slice t_1c t_1cn t_1cc),(.slice t_1d t_1dn t_1dc)] 0).bind fun p1 =>
 (gI .i64 (rdC p1.2 (Addr.add ⟨p1.1,0,none⟩ 0) 0)).bind fun n2 =>
 cond (iEq n2 1)
 (c25_0 n h known_2 known_2n known_2c ⟨p0.1,0,none⟩ ⟨p1.1,0,none⟩ 1 p1.2)
 (cond (iEq n2 2)
 (c25_0 n h known_2 known_2n known_2c ⟨p0.1,0,none⟩ ⟨p1.1,0,none⟩ 2 p1.2)
 (cond (iEq n2 3)
 ((gL (rdC p1.2 (Addr.add ⟨p1.1,0,none⟩ 3) 0)).bind fun p3 =>
 (gL (rdC p1.2 (Addr.add ⟨p0.1,0,none⟩ 4) 0)).bind fun p4 =>
 cond (iNe (Int.ofNat p3.2.1) (Int.ofNat p4.2.1))
 (some (exitR h p1.2 (.bool false)))
 ((gS (rdC p1.2 ⟨p0.1,0,none⟩ 0)).bind fun x5 =>
 (gL (rdC p1.2 ⟨p0.1,0,none⟩ 1)).bind fun p6 =>
 (gL (rdC p1.2 ⟨p0.1,0,none⟩ 2)).bind fun p7 =>
 (gL (rdC p1.2 ⟨p0.1,0,none⟩ 3)).bind fun p8 =>
 (gL (rdC p1.2 ⟨p0.1,0,none⟩ 4)).bind fun p9 =>
 (gL (rdC p1.2 ⟨p0.1,0,none⟩ 5)).bind fun p10 =>
 (gL (rdC p1.2 (Addr.add ⟨p1.1,0,none⟩ 3) 0)).bind fun p11 =>
 (runS Tryz.prog n 16 [(.agg #[(.string x5),(.slice p6.1 p6.2.1 p6.2.2),(.slice p7.1 p7.2.1 p7.2.2),(.slice p8.1 p8.2.1 p8.2.2),(.slice p9.1 p9.2.1 p9.2.2),(.slice p10.1 p10.2.1 p10.2.2)]),(.slice p11.1 p11.2.1 p11.2.2),(.slice known_2 known_2n known_2c)] p1.2).bind fun p12 =>
 (gB (some p12.1)).bind fun b13 =>
 cond (Bool.not b13)
 (some (exitR h p12.2 (.bool false)))
 (c25_1 n n h known_2 known_2n known_2c ⟨p0.1,0,none⟩ ⟨p1.1,0,none⟩ 0 0 p12.2)))
 (some (exitR h p1.2 (.bool false))))):=by kernel_rfl
theorem c25_0_eq (N : NewF) (n  : Nat) (h0 : AH) (known_2 : Option Addr) (known_2n known_2c : Nat) (f_3 t_4 : Addr) (size_7 : Int) (h : AH) : c25_0Y N n  h0 known_2 known_2n known_2c f_3 t_4 size_7 h =
 (gL (rdC h (Addr.add t_4 2) 0)).bind fun p0 =>
 cond (iNe (Int.ofNat p0.2.1) size_7)
 (some (exitR h0 h (.bool false)))
 ((gI .i64 (rdC h (Addr.add t_4 0) 0)).bind fun n1 =>
 cond (iNe n1 3)
 ((gL (rdC h (Addr.add t_4 3) 0)).bind fun p2 =>
 cond (iLt 0 (Int.ofNat p2.2.1))
 (some (exitR h0 h (.bool false)))
 (c25_2 n h0 known_2 known_2n known_2c f_3 t_4 h))
 (c25_2 n h0 known_2 known_2n known_2c f_3 t_4 h)):=by kernel_rfl
theorem c25_1_eq (N : NewF) (n m0 : Nat) (h0 : AH) (known_2 : Option Addr) (known_2n known_2c : Nat) (f_3 t_4 : Addr) (size_7 i_8 : Int) (h : AH) : c25_1Y N n m0 h0 known_2 known_2n known_2c f_3 t_4 size_7 i_8 h =
 (gL (rdC h (Addr.add t_4 3) 0)).bind fun p0 =>
 cond (iLt i_8 (Int.ofNat p0.2.1))
 ((gL (rdC h (Addr.add f_3 1) 0)).bind fun p1 =>
 (gL (rdC h (Addr.add t_4 3) 0)).bind fun p2 =>
 (p2.1).bind fun a3 =>
 cond (inB i_8 p2.2.1)
 ((gI .i64 (rdC h (Addr.add a3 ((Int.toNat i_8) * 1)) 0)).bind fun n4 =>
 (p1.1).bind fun a5 =>
 cond (inB n4 p1.2.1)
 ((gI .i64 (rdC h (Addr.add a5 ((Int.toNat n4) * 1)) 0)).bind fun n6 =>
 (gL (rdC h (Addr.add f_3 4) 0)).bind fun p7 =>
 (p7.1).bind fun a8 =>
 cond (inB i_8 p7.2.1)
 ((gI .i64 (rdC h (Addr.add a8 ((Int.toNat i_8) * 1)) 0)).bind fun n9 =>
 cond (iNe n6 n9)
 (some (exitR h0 h (.bool false)))
 (c25_1 n m0 h0 known_2 known_2n known_2c f_3 t_4 size_7 (iAdd .i64 i_8 1) h))
 (none))
 (none))
 (none))
 (c25_0 n h0 known_2 known_2n known_2c f_3 t_4 size_7 h):=by kernel_rfl
theorem c25_2_eq (N : NewF) (n  : Nat) (h0 : AH) (known_2 : Option Addr) (known_2n known_2c : Nat) (f_3 t_4 : Addr) (h : AH) : c25_2Y N n  h0 known_2 known_2n known_2c f_3 t_4 h =
 (gI .i64 (rdC h (Addr.add t_4 0) 0)).bind fun n0 =>
 cond (iEq n0 2)
 ((gS (rdC h f_3 0)).bind fun x1 =>
 (gL (rdC h f_3 1)).bind fun p2 =>
 (gL (rdC h f_3 2)).bind fun p3 =>
 (gL (rdC h f_3 3)).bind fun p4 =>
 (gL (rdC h f_3 4)).bind fun p5 =>
 (gL (rdC h f_3 5)).bind fun p6 =>
 (gI .i64 (rdC h (Addr.add t_4 1) 0)).bind fun n7 =>
 (N h [(.int .i64 n7)] 1).bind fun p8 =>
 (runS Tryz.prog n 16 [(.agg #[(.string x1),(.slice p2.1 p2.2.1 p2.2.2),(.slice p3.1 p3.2.1 p3.2.2),(.slice p4.1 p4.2.1 p4.2.2),(.slice p5.1 p5.2.1 p5.2.2),(.slice p6.1 p6.2.1 p6.2.2)]),(.slice (some ⟨p8.1,0,none⟩) 1 1),(.slice known_2 known_2n known_2c)] p8.2).bind fun p9 =>
 (gB (some p9.1)).bind fun b10 =>
 cond (Bool.not b10)
 (some (exitR h0 p9.2 (.bool false)))
 ((gL (rdC p9.2 (Addr.add f_3 1) 0)).bind fun p11 =>
 (gI .i64 (rdC p9.2 (Addr.add t_4 1) 0)).bind fun n12 =>
 (p11.1).bind fun a13 =>
 cond (inB n12 p11.2.1)
 ((gI .i64 (rdC p9.2 (Addr.add a13 ((Int.toNat n12) * 1)) 0)).bind fun n14 =>
 cond (iNe n14 1)
 (some (exitR h0 p9.2 (.bool false)))
 (c25_3 n n h0 known_2 known_2n known_2c f_3 t_4 0 p9.2))
 (none)))
 ((gI .i64 (rdC h (Addr.add t_4 1) 0)).bind fun n15 =>
 cond (iNe n15 (-1))
 (some (exitR h0 h (.bool false)))
 (c25_3 n n h0 known_2 known_2n known_2c f_3 t_4 0 h)):=by kernel_rfl
theorem c25_3_eq (N : NewF) (n m0 : Nat) (h0 : AH) (known_2 : Option Addr) (known_2n known_2c : Nat) (f_3 t_4 : Addr) (i_9 : Int) (h : AH) : c25_3Y N n m0 h0 known_2 known_2n known_2c f_3 t_4 i_9 h =
 (gL (rdC h (Addr.add t_4 2) 0)).bind fun p0 =>
 cond (iLt i_9 (Int.ofNat p0.2.1))
 ((gS (rdC h f_3 0)).bind fun x1 =>
 (gL (rdC h f_3 1)).bind fun p2 =>
 (gL (rdC h f_3 2)).bind fun p3 =>
 (gL (rdC h f_3 3)).bind fun p4 =>
 (gL (rdC h f_3 4)).bind fun p5 =>
 (gL (rdC h f_3 5)).bind fun p6 =>
 (gL (rdC h (Addr.add t_4 2) 0)).bind fun p7 =>
 (p7.1).bind fun a8 =>
 cond (inB i_9 p7.2.1)
 ((gI .i64 (rdC h (Addr.add a8 ((Int.toNat i_9) * 2)) 0)).bind fun n9 =>
 (gL (rdC h (Addr.add a8 ((Int.toNat i_9) * 2)) 1)).bind fun p10 =>
 (runS Tryz.prog n 42 [(.agg #[(.string x1),(.slice p2.1 p2.2.1 p2.2.2),(.slice p3.1 p3.2.1 p3.2.2),(.slice p4.1 p4.2.1 p4.2.2),(.slice p5.1 p5.2.1 p5.2.2),(.slice p6.1 p6.2.1 p6.2.2)]),(.agg #[(.int .i64 n9),(.slice p10.1 p10.2.1 p10.2.2)]),(.slice known_2 known_2n known_2c)] h).bind fun p11 =>
 (gB (some p11.1)).bind fun b12 =>
 cond (Bool.not b12)
 (some (exitR h0 p11.2 (.bool false)))
 (c25_3 n m0 h0 known_2 known_2n known_2c f_3 t_4 (iAdd .i64 i_9 1) p11.2))
 (none))
 (some (exitR h0 h (.bool true))):=by kernel_rfl
def p57 : List (List Nat × List Nat):=[([1,1],[3,4]),([0,1,0,1,1,1,1],[3,4,7,8])]
section
variable (N : NewF) (n : Nat) (h0 : AH) (f_3 e_4 : Addr) (h : AH)
 noncomputable def c57_0 : Option (Go.Value × AH):=resY Tryz.prog n Tryz.f42 h0 (.code (subC (bodyC Tryz.f42) [1,1]) [1,1]) [] (E [(3,.pointer (some f_3)),(4,.pointer (some e_4))]) h
 noncomputable def c57_0Y : Option (Go.Value × AH):=yfrom Tryz.prog (runS Tryz.prog n) n Tryz.f42 h0 p57 N (resY Tryz.prog n Tryz.f42 h0) (subC (bodyC Tryz.f42) [1,1]) [1,1] [] (E [(3,.pointer (some f_3)),(4,.pointer (some e_4))]) h
variable {n} {h0} {f_3 e_4} {h}
theorem c57_0_ok {r : Go.Value × AH} (hv : c57_0Y hNew n h0 f_3 e_4 h = some r) : c57_0 n h0 f_3 e_4 h = some r:=yfrom_ok hv
end
section
variable (N : NewF) (n m0 : Nat) (h0 : AH) (f_3 e_4 : Addr) (p_7 : Option Addr) (p_7n p_7c : Nat) (i_8 : Int) (h : AH)
 noncomputable def c57_1 : Option (Go.Value × AH):=resY Tryz.prog n Tryz.f42 h0 (.head (subC (bodyC Tryz.f42) [1,1,1,1,0,1,0,0]) [0,1,0,1,1,1,1] m0) [.block 0,.seq (subC (bodyC Tryz.f42) [1,1,1,1,1]) [1,1,1,1,1]] (E [(3,.pointer (some f_3)),(4,.pointer (some e_4)),(7,.slice p_7 p_7n p_7c),(8,.int .i64 i_8)]) h
 noncomputable def c57_1Y : Option (Go.Value × AH):=yhead Tryz.prog (runS Tryz.prog n) n Tryz.f42 h0 p57 N (resY Tryz.prog n Tryz.f42 h0) (subC (bodyC Tryz.f42) [1,1,1,1,0,1,0,0]) [0,1,0,1,1,1,1] m0 [.block 0,.seq (subC (bodyC Tryz.f42) [1,1,1,1,1]) [1,1,1,1,1]] (E [(3,.pointer (some f_3)),(4,.pointer (some e_4)),(7,.slice p_7 p_7n p_7c),(8,.int .i64 i_8)]) h
variable {n m0} {h0} {f_3 e_4 p_7 p_7n p_7c i_8} {h}
theorem c57_1_ok {r : Go.Value × AH} (hv : c57_1Y hNew n m0 h0 f_3 e_4 p_7 p_7n p_7c i_8 h = some r) : c57_1 n (m0 + 1) h0 f_3 e_4 p_7 p_7n p_7c i_8 h = some r:=yhead_ok hv
end
 noncomputable def t57Y (N : NewF) (n : Nat) (f_0a : ByteArray) (f_0b : Option Addr) (f_0bn f_0bc : Nat) (f_0c : Option Addr) (f_0cn f_0cc : Nat) (f_0d : Option Addr) (f_0dn f_0dc : Nat) (f_0e : Option Addr) (f_0en f_0ec : Nat) (f_0f : Option Addr) (f_0fn f_0fc : Nat) (e_1a : Int) (e_1b : Option Addr) (e_1bn e_1bc : Nat) (known_2 : Option Addr) (known_2n known_2c : Nat) (h : AH) : Option (Go.Value × AH):=yrun Tryz.prog (runS Tryz.prog n) n p57 N (resY Tryz.prog n) 42 [(.agg #[(.string f_0a),(.slice f_0b f_0bn f_0bc),(.slice f_0c f_0cn f_0cc),(.slice f_0d f_0dn f_0dc),(.slice f_0e f_0en f_0ec),(.slice f_0f f_0fn f_0fc)]),(.agg #[(.int .i64 e_1a),(.slice e_1b e_1bn e_1bc)]),(.slice known_2 known_2n known_2c)] h
theorem t57_ok {n : Nat} {f_0a : ByteArray} {f_0b : Option Addr} {f_0bn f_0bc : Nat} {f_0c : Option Addr} {f_0cn f_0cc : Nat} {f_0d : Option Addr} {f_0dn f_0dc : Nat} {f_0e : Option Addr} {f_0en f_0ec : Nat} {f_0f : Option Addr} {f_0fn f_0fc : Nat} {e_1a : Int} {e_1b : Option Addr} {e_1bn e_1bc : Nat} {known_2 : Option Addr} {known_2n known_2c : Nat} {h : AH} {r : Go.Value × AH} (hv : t57Y hNew n f_0a f_0b f_0bn f_0bc f_0c f_0cn f_0cc f_0d f_0dn f_0dc f_0e f_0en f_0ec f_0f f_0fn f_0fc e_1a e_1b e_1bn e_1bc known_2 known_2n known_2c h = some r) : runS Tryz.prog (n + 1) 42 [(.agg #[(.string f_0a),(.slice f_0b f_0bn f_0bc),(.slice f_0c f_0cn f_0cc),(.slice f_0d f_0dn f_0dc),(.slice f_0e f_0en f_0ec),(.slice f_0f f_0fn f_0fc)]),(.agg #[(.int .i64 e_1a),(.slice e_1b e_1bn e_1bc)]),(.slice known_2 known_2n known_2c)] h = some r:=yrun_ok hv
theorem t57 (N : NewF) (n : Nat) (f_0a : ByteArray) (f_0b : Option Addr) (f_0bn f_0bc : Nat) (f_0c : Option Addr) (f_0cn f_0cc : Nat) (f_0d : Option Addr) (f_0dn f_0dc : Nat) (f_0e : Option Addr) (f_0en f_0ec : Nat) (f_0f : Option Addr) (f_0fn f_0fc : Nat) (e_1a : Int) (e_1b : Option Addr) (e_1bn e_1bc : Nat) (known_2 : Option Addr) (known_2n known_2c : Nat) (h : AH) : t57Y N n f_0a f_0b f_0bn f_0bc f_0c f_0cn f_0cc f_0d f_0dn f_0dc f_0e f_0en f_0ec f_0f f_0fn f_0fc e_1a e_1b e_1bn e_1bc known_2 known_2n known_2c h =
 (N (setLow h h.next) [(.string f_0a),(.slice f_0b f_0bn f_0bc),(.slice f_0c f_0cn f_0cc),(.slice f_0d f_0dn f_0dc),(.slice f_0e f_0en f_0ec),(.slice f_0f f_0fn f_0fc)] 0).bind fun p0 =>
 (N p0.2 [(.int .i64 e_1a),(.slice e_1b e_1bn e_1bc)] 0).bind fun p1 =>
 (gI .i64 (rdC p1.2 (Addr.add ⟨p1.1,0,none⟩ 0) 0)).bind fun n2 =>
 cond (iLt n2 1)
 (some (exitR h p1.2 (.bool false)))
 ((gI .i64 (rdC p1.2 (Addr.add ⟨p1.1,0,none⟩ 0) 0)).bind fun n3 =>
 (gL (rdC p1.2 (Addr.add ⟨p0.1,0,none⟩ 5) 0)).bind fun p4 =>
 cond (iLe (Int.ofNat p4.2.1) n3)
 (some (exitR h p1.2 (.bool false)))
 ((gS (rdC p1.2 ⟨p0.1,0,none⟩ 0)).bind fun x5 =>
 (gL (rdC p1.2 ⟨p0.1,0,none⟩ 1)).bind fun p6 =>
 (gL (rdC p1.2 ⟨p0.1,0,none⟩ 2)).bind fun p7 =>
 (gL (rdC p1.2 ⟨p0.1,0,none⟩ 3)).bind fun p8 =>
 (gL (rdC p1.2 ⟨p0.1,0,none⟩ 4)).bind fun p9 =>
 (gL (rdC p1.2 ⟨p0.1,0,none⟩ 5)).bind fun p10 =>
 (gL (rdC p1.2 (Addr.add ⟨p1.1,0,none⟩ 1) 0)).bind fun p11 =>
 (runS Tryz.prog n 16 [(.agg #[(.string x5),(.slice p6.1 p6.2.1 p6.2.2),(.slice p7.1 p7.2.1 p7.2.2),(.slice p8.1 p8.2.1 p8.2.2),(.slice p9.1 p9.2.1 p9.2.2),(.slice p10.1 p10.2.1 p10.2.2)]),(.slice p11.1 p11.2.1 p11.2.2),(.slice known_2 known_2n known_2c)] p1.2).bind fun p12 =>
 (gB (some p12.1)).bind fun b13 =>
 cond (Bool.not b13)
 (some (exitR h p12.2 (.bool false)))
 (c57_0 n h ⟨p0.1,0,none⟩ ⟨p1.1,0,none⟩ p12.2))):=by kernel_rfl
theorem c57_0_eq (N : NewF) (n  : Nat) (h0 : AH) (f_3 e_4 : Addr) (h : AH) : c57_0Y N n  h0 f_3 e_4 h =
 (gL (rdC h (Addr.add f_3 5) 0)).bind fun p0 =>
 (gI .i64 (rdC h (Addr.add e_4 0) 0)).bind fun n1 =>
 (p0.1).bind fun a2 =>
 cond (inB n1 p0.2.1)
 ((gL (rdC h (Addr.add (Addr.add a2 ((Int.toNat n1) * 9)) 0) 0)).bind fun p3 =>
 (gL (rdC h (Addr.add e_4 1) 0)).bind fun p4 =>
 cond (iNe (Int.ofNat p3.2.1) (Int.ofNat p4.2.1))
 (some (exitR h0 h (.bool false)))
 (c57_1 n n h0 f_3 e_4 p3.1 p3.2.1 p3.2.2 0 h))
 (none):=by kernel_rfl
theorem c57_1_eq (N : NewF) (n m0 : Nat) (h0 : AH) (f_3 e_4 : Addr) (p_7 : Option Addr) (p_7n p_7c : Nat) (i_8 : Int) (h : AH) : c57_1Y N n m0 h0 f_3 e_4 p_7 p_7n p_7c i_8 h =
 cond (iLt i_8 (Int.ofNat p_7n))
 ((gS (rdC h f_3 0)).bind fun x0 =>
 (gL (rdC h f_3 1)).bind fun p1 =>
 (gL (rdC h f_3 2)).bind fun p2 =>
 (gL (rdC h f_3 3)).bind fun p3 =>
 (gL (rdC h f_3 4)).bind fun p4 =>
 (gL (rdC h f_3 5)).bind fun p5 =>
 (p_7).bind fun a6 =>
 cond (inB i_8 p_7n)
 ((gI .i64 (rdC h (Addr.add a6 ((Int.toNat i_8) * 1)) 0)).bind fun n7 =>
 (runS Tryz.prog n 14 [(.agg #[(.string x0),(.slice p1.1 p1.2.1 p1.2.2),(.slice p2.1 p2.2.1 p2.2.2),(.slice p3.1 p3.2.1 p3.2.2),(.slice p4.1 p4.2.1 p4.2.2),(.slice p5.1 p5.2.1 p5.2.2)]),(.int .i64 n7)] (setLow h h.next)).bind fun p8 =>
 (gB (some p8.1)).bind fun b9 =>
 cond (Nat.beq p8.2.low h.next)
 (cond (Bool.not b9)
 (some (exitR h0 (setLow p8.2 h.low) (.bool false)))
 ((gL (rdC (setLow p8.2 h.low) (Addr.add f_3 1) 0)).bind fun p10 =>
 (p_7).bind fun a11 =>
 cond (inB i_8 p_7n)
 ((gI .i64 (rdC (setLow p8.2 h.low) (Addr.add a11 ((Int.toNat i_8) * 1)) 0)).bind fun n12 =>
 (p10.1).bind fun a13 =>
 cond (inB n12 p10.2.1)
 ((gI .i64 (rdC (setLow p8.2 h.low) (Addr.add a13 ((Int.toNat n12) * 1)) 0)).bind fun n14 =>
 (gL (rdC (setLow p8.2 h.low) (Addr.add f_3 1) 0)).bind fun p15 =>
 (gL (rdC (setLow p8.2 h.low) (Addr.add e_4 1) 0)).bind fun p16 =>
 (p16.1).bind fun a17 =>
 cond (inB i_8 p16.2.1)
 ((gI .i64 (rdC (setLow p8.2 h.low) (Addr.add a17 ((Int.toNat i_8) * 1)) 0)).bind fun n18 =>
 (p15.1).bind fun a19 =>
 cond (inB n18 p15.2.1)
 ((gI .i64 (rdC (setLow p8.2 h.low) (Addr.add a19 ((Int.toNat n18) * 1)) 0)).bind fun n20 =>
 cond (iNe n14 n20)
 (some (exitR h0 (setLow p8.2 h.low) (.bool false)))
 (c57_1 n m0 h0 f_3 e_4 p_7 p_7n p_7c (iAdd .i64 i_8 1) (setLow p8.2 h.low)))
 (none))
 (none))
 (none))
 (none)))
 (none))
 (none))
 (some (exitR h0 h (.bool true))):=by kernel_rfl
def p7 : List (List Nat × List Nat):=[([1,1],[1]),([0,1,0,1,1,1],[1,3,46,47]),([0,1,0,1,1,1,1],[1,3,4]),([1,1,0,0,1,0,0,1,0,1,1,1,1],[1,3,4,5]),([0,1,0,1,1,1,0,0,1,0,0,1,0,1,1,1,1],[1,3,4,5,6,101,102]),([0,1,0,1,1,1,1,0,0,1,0,0,1,0,1,1,1,1],[1,3,4,5,6,7]),([0,1,0,1,1,1,1,1,0,0,1,0,0,1,0,1,1,1,1],[1,3,4,5,6,9]),([1,1,0,0,1,0,0,1,0,1,1,1,1,1,0,0,1,0,0,1,0,1,1,1,1],[1,3,4,5,6,9,10]),([1,1,1,0,0,1,0,0,1,0,1,1,1,1,1,0,0,1,0,0,1,0,1,1,1,1],[1,3,4,5,6,9,10])]
section
variable (N : NewF) (n : Nat) (h0 : AH) (f_1 : Addr) (h : AH)
 noncomputable def c7_0 : Option (Go.Value × AH):=resY Tryz.prog n Tryz.f6 h0 (.code (subC (bodyC Tryz.f6) [1,1]) [1,1]) [] (E [(1,.pointer (some f_1))]) h
 noncomputable def c7_0Y : Option (Go.Value × AH):=yfrom Tryz.prog (runS Tryz.prog n) n Tryz.f6 h0 p7 N (resY Tryz.prog n Tryz.f6 h0) (subC (bodyC Tryz.f6) [1,1]) [1,1] [] (E [(1,.pointer (some f_1))]) h
variable {n} {h0} {f_1} {h}
theorem c7_0_ok {r : Go.Value × AH} (hv : c7_0Y hNew n h0 f_1 h = some r) : c7_0 n h0 f_1 h = some r:=yfrom_ok hv
end
section
variable (N : NewF) (n m0 : Nat) (h0 : AH) (f_1 : Addr) (defined_3 : Option Addr) (defined_3n defined_3c : Nat) (t_46 t_47 : Int) (h : AH)
 noncomputable def c7_1 : Option (Go.Value × AH):=resY Tryz.prog n Tryz.f6 h0 (.head (subC (bodyC Tryz.f6) [1,1,1,0,1,0,0]) [0,1,0,1,1,1] m0) [.block 0,.seq (subC (bodyC Tryz.f6) [1,1,1,1]) [1,1,1,1]] (E [(1,.pointer (some f_1)),(3,.slice defined_3 defined_3n defined_3c),(46,.int .i64 t_46),(47,.int .i64 t_47)]) h
 noncomputable def c7_1Y : Option (Go.Value × AH):=yhead Tryz.prog (runS Tryz.prog n) n Tryz.f6 h0 p7 N (resY Tryz.prog n Tryz.f6 h0) (subC (bodyC Tryz.f6) [1,1,1,0,1,0,0]) [0,1,0,1,1,1] m0 [.block 0,.seq (subC (bodyC Tryz.f6) [1,1,1,1]) [1,1,1,1]] (E [(1,.pointer (some f_1)),(3,.slice defined_3 defined_3n defined_3c),(46,.int .i64 t_46),(47,.int .i64 t_47)]) h
variable {n m0} {h0} {f_1 defined_3 defined_3n defined_3c t_46 t_47} {h}
theorem c7_1_ok {r : Go.Value × AH} (hv : c7_1Y hNew n m0 h0 f_1 defined_3 defined_3n defined_3c t_46 t_47 h = some r) : c7_1 n (m0 + 1) h0 f_1 defined_3 defined_3n defined_3c t_46 t_47 h = some r:=yhead_ok hv
end
section
variable (N : NewF) (n m0 : Nat) (h0 : AH) (f_1 : Addr) (defined_3 : Option Addr) (defined_3n defined_3c : Nat) (b_4 : Int) (h : AH)
 noncomputable def c7_2 : Option (Go.Value × AH):=resY Tryz.prog n Tryz.f6 h0 (.head (subC (bodyC Tryz.f6) [1,1,1,1,0,1,0,0]) [0,1,0,1,1,1,1] m0) [.block 2,.seq (subC (bodyC Tryz.f6) [1,1,1,1,1]) [1,1,1,1,1]] (E [(1,.pointer (some f_1)),(3,.slice defined_3 defined_3n defined_3c),(4,.int .i64 b_4)]) h
 noncomputable def c7_2Y : Option (Go.Value × AH):=yhead Tryz.prog (runS Tryz.prog n) n Tryz.f6 h0 p7 N (resY Tryz.prog n Tryz.f6 h0) (subC (bodyC Tryz.f6) [1,1,1,1,0,1,0,0]) [0,1,0,1,1,1,1] m0 [.block 2,.seq (subC (bodyC Tryz.f6) [1,1,1,1,1]) [1,1,1,1,1]] (E [(1,.pointer (some f_1)),(3,.slice defined_3 defined_3n defined_3c),(4,.int .i64 b_4)]) h
variable {n m0} {h0} {f_1 defined_3 defined_3n defined_3c b_4} {h}
theorem c7_2_ok {r : Go.Value × AH} (hv : c7_2Y hNew n m0 h0 f_1 defined_3 defined_3n defined_3c b_4 h = some r) : c7_2 n (m0 + 1) h0 f_1 defined_3 defined_3n defined_3c b_4 h = some r:=yhead_ok hv
end
section
variable (N : NewF) (n m0 : Nat) (h0 : AH) (f_1 : Addr) (defined_3 : Option Addr) (defined_3n defined_3c : Nat) (b_4 : Int) (x_5 : Addr) (h : AH)
 noncomputable def c7_3 : Option (Go.Value × AH):=resY Tryz.prog n Tryz.f6 h0 (.code (subC (bodyC Tryz.f6) [1,1,1,1,0,1,0,0,1,0,0,1,1]) [1,1,0,0,1,0,0,1,0,1,1,1,1]) [.block 3,.seq (subC (bodyC Tryz.f6) [1,1,1,1,0,1,0,0,1,1]) [1,1,0,0,1,0,1,1,1,1],.loop (subC (bodyC Tryz.f6) [1,1,1,1,0,1,0,0]) [0,1,0,1,1,1,1] m0,.block 2,.seq (subC (bodyC Tryz.f6) [1,1,1,1,1]) [1,1,1,1,1]] (E [(1,.pointer (some f_1)),(3,.slice defined_3 defined_3n defined_3c),(4,.int .i64 b_4),(5,.pointer (some x_5))]) h
 noncomputable def c7_3Y : Option (Go.Value × AH):=yfrom Tryz.prog (runS Tryz.prog n) n Tryz.f6 h0 p7 N (resY Tryz.prog n Tryz.f6 h0) (subC (bodyC Tryz.f6) [1,1,1,1,0,1,0,0,1,0,0,1,1]) [1,1,0,0,1,0,0,1,0,1,1,1,1] [.block 3,.seq (subC (bodyC Tryz.f6) [1,1,1,1,0,1,0,0,1,1]) [1,1,0,0,1,0,1,1,1,1],.loop (subC (bodyC Tryz.f6) [1,1,1,1,0,1,0,0]) [0,1,0,1,1,1,1] m0,.block 2,.seq (subC (bodyC Tryz.f6) [1,1,1,1,1]) [1,1,1,1,1]] (E [(1,.pointer (some f_1)),(3,.slice defined_3 defined_3n defined_3c),(4,.int .i64 b_4),(5,.pointer (some x_5))]) h
variable {n m0} {h0} {f_1 defined_3 defined_3n defined_3c b_4 x_5} {h}
theorem c7_3_ok {r : Go.Value × AH} (hv : c7_3Y hNew n m0 h0 f_1 defined_3 defined_3n defined_3c b_4 x_5 h = some r) : c7_3 n m0 h0 f_1 defined_3 defined_3n defined_3c b_4 x_5 h = some r:=yfrom_ok hv
end
section
variable (N : NewF) (n m0 m1 : Nat) (h0 : AH) (f_1 : Addr) (defined_3 : Option Addr) (defined_3n defined_3c : Nat) (b_4 : Int) (x_5 : Addr) (known_6 : Option Addr) (known_6n known_6c : Nat) (t_101 t_102 : Int) (h : AH)
 noncomputable def c7_4 : Option (Go.Value × AH):=resY Tryz.prog n Tryz.f6 h0 (.head (subC (bodyC Tryz.f6) [1,1,1,1,0,1,0,0,1,0,0,1,1,1,0,1,0,0]) [0,1,0,1,1,1,0,0,1,0,0,1,0,1,1,1,1] m0) [.block 4,.seq (subC (bodyC Tryz.f6) [1,1,1,1,0,1,0,0,1,0,0,1,1,1,1]) [1,1,1,1,0,0,1,0,0,1,0,1,1,1,1],.block 3,.seq (subC (bodyC Tryz.f6) [1,1,1,1,0,1,0,0,1,1]) [1,1,0,0,1,0,1,1,1,1],.loop (subC (bodyC Tryz.f6) [1,1,1,1,0,1,0,0]) [0,1,0,1,1,1,1] m1,.block 2,.seq (subC (bodyC Tryz.f6) [1,1,1,1,1]) [1,1,1,1,1]] (E [(1,.pointer (some f_1)),(3,.slice defined_3 defined_3n defined_3c),(4,.int .i64 b_4),(5,.pointer (some x_5)),(6,.slice known_6 known_6n known_6c),(101,.int .i64 t_101),(102,.int .i64 t_102)]) h
 noncomputable def c7_4Y : Option (Go.Value × AH):=yhead Tryz.prog (runS Tryz.prog n) n Tryz.f6 h0 p7 N (resY Tryz.prog n Tryz.f6 h0) (subC (bodyC Tryz.f6) [1,1,1,1,0,1,0,0,1,0,0,1,1,1,0,1,0,0]) [0,1,0,1,1,1,0,0,1,0,0,1,0,1,1,1,1] m0 [.block 4,.seq (subC (bodyC Tryz.f6) [1,1,1,1,0,1,0,0,1,0,0,1,1,1,1]) [1,1,1,1,0,0,1,0,0,1,0,1,1,1,1],.block 3,.seq (subC (bodyC Tryz.f6) [1,1,1,1,0,1,0,0,1,1]) [1,1,0,0,1,0,1,1,1,1],.loop (subC (bodyC Tryz.f6) [1,1,1,1,0,1,0,0]) [0,1,0,1,1,1,1] m1,.block 2,.seq (subC (bodyC Tryz.f6) [1,1,1,1,1]) [1,1,1,1,1]] (E [(1,.pointer (some f_1)),(3,.slice defined_3 defined_3n defined_3c),(4,.int .i64 b_4),(5,.pointer (some x_5)),(6,.slice known_6 known_6n known_6c),(101,.int .i64 t_101),(102,.int .i64 t_102)]) h
variable {n m0 m1} {h0} {f_1 defined_3 defined_3n defined_3c b_4 x_5 known_6 known_6n known_6c t_101 t_102} {h}
theorem c7_4_ok {r : Go.Value × AH} (hv : c7_4Y hNew n m0 m1 h0 f_1 defined_3 defined_3n defined_3c b_4 x_5 known_6 known_6n known_6c t_101 t_102 h = some r) : c7_4 n (m0 + 1) m1 h0 f_1 defined_3 defined_3n defined_3c b_4 x_5 known_6 known_6n known_6c t_101 t_102 h = some r:=yhead_ok hv
end
section
variable (N : NewF) (n m0 m1 : Nat) (h0 : AH) (f_1 : Addr) (defined_3 : Option Addr) (defined_3n defined_3c : Nat) (b_4 : Int) (x_5 : Addr) (known_6 : Option Addr) (known_6n known_6c : Nat) (i_7 : Int) (h : AH)
 noncomputable def c7_5 : Option (Go.Value × AH):=resY Tryz.prog n Tryz.f6 h0 (.head (subC (bodyC Tryz.f6) [1,1,1,1,0,1,0,0,1,0,0,1,1,1,1,0,1,0,0]) [0,1,0,1,1,1,1,0,0,1,0,0,1,0,1,1,1,1] m0) [.block 6,.seq (subC (bodyC Tryz.f6) [1,1,1,1,0,1,0,0,1,0,0,1,1,1,1,1]) [1,1,1,1,1,0,0,1,0,0,1,0,1,1,1,1],.block 3,.seq (subC (bodyC Tryz.f6) [1,1,1,1,0,1,0,0,1,1]) [1,1,0,0,1,0,1,1,1,1],.loop (subC (bodyC Tryz.f6) [1,1,1,1,0,1,0,0]) [0,1,0,1,1,1,1] m1,.block 2,.seq (subC (bodyC Tryz.f6) [1,1,1,1,1]) [1,1,1,1,1]] (E [(1,.pointer (some f_1)),(3,.slice defined_3 defined_3n defined_3c),(4,.int .i64 b_4),(5,.pointer (some x_5)),(6,.slice known_6 known_6n known_6c),(7,.int .i64 i_7)]) h
 noncomputable def c7_5Y : Option (Go.Value × AH):=yhead Tryz.prog (runS Tryz.prog n) n Tryz.f6 h0 p7 N (resY Tryz.prog n Tryz.f6 h0) (subC (bodyC Tryz.f6) [1,1,1,1,0,1,0,0,1,0,0,1,1,1,1,0,1,0,0]) [0,1,0,1,1,1,1,0,0,1,0,0,1,0,1,1,1,1] m0 [.block 6,.seq (subC (bodyC Tryz.f6) [1,1,1,1,0,1,0,0,1,0,0,1,1,1,1,1]) [1,1,1,1,1,0,0,1,0,0,1,0,1,1,1,1],.block 3,.seq (subC (bodyC Tryz.f6) [1,1,1,1,0,1,0,0,1,1]) [1,1,0,0,1,0,1,1,1,1],.loop (subC (bodyC Tryz.f6) [1,1,1,1,0,1,0,0]) [0,1,0,1,1,1,1] m1,.block 2,.seq (subC (bodyC Tryz.f6) [1,1,1,1,1]) [1,1,1,1,1]] (E [(1,.pointer (some f_1)),(3,.slice defined_3 defined_3n defined_3c),(4,.int .i64 b_4),(5,.pointer (some x_5)),(6,.slice known_6 known_6n known_6c),(7,.int .i64 i_7)]) h
variable {n m0 m1} {h0} {f_1 defined_3 defined_3n defined_3c b_4 x_5 known_6 known_6n known_6c i_7} {h}
theorem c7_5_ok {r : Go.Value × AH} (hv : c7_5Y hNew n m0 m1 h0 f_1 defined_3 defined_3n defined_3c b_4 x_5 known_6 known_6n known_6c i_7 h = some r) : c7_5 n (m0 + 1) m1 h0 f_1 defined_3 defined_3n defined_3c b_4 x_5 known_6 known_6n known_6c i_7 h = some r:=yhead_ok hv
end
section
variable (N : NewF) (n m0 m1 : Nat) (h0 : AH) (f_1 : Addr) (defined_3 : Option Addr) (defined_3n defined_3c : Nat) (b_4 : Int) (x_5 : Addr) (known_6 : Option Addr) (known_6n known_6c : Nat) (i_9 : Int) (h : AH)
 noncomputable def c7_6 : Option (Go.Value × AH):=resY Tryz.prog n Tryz.f6 h0 (.head (subC (bodyC Tryz.f6) [1,1,1,1,0,1,0,0,1,0,0,1,1,1,1,1,0,1,0,0]) [0,1,0,1,1,1,1,1,0,0,1,0,0,1,0,1,1,1,1] m0) [.block 8,.seq (subC (bodyC Tryz.f6) [1,1,1,1,0,1,0,0,1,0,0,1,1,1,1,1,1]) [1,1,1,1,1,1,0,0,1,0,0,1,0,1,1,1,1],.block 3,.seq (subC (bodyC Tryz.f6) [1,1,1,1,0,1,0,0,1,1]) [1,1,0,0,1,0,1,1,1,1],.loop (subC (bodyC Tryz.f6) [1,1,1,1,0,1,0,0]) [0,1,0,1,1,1,1] m1,.block 2,.seq (subC (bodyC Tryz.f6) [1,1,1,1,1]) [1,1,1,1,1]] (E [(1,.pointer (some f_1)),(3,.slice defined_3 defined_3n defined_3c),(4,.int .i64 b_4),(5,.pointer (some x_5)),(6,.slice known_6 known_6n known_6c),(9,.int .i64 i_9)]) h
 noncomputable def c7_6Y : Option (Go.Value × AH):=yhead Tryz.prog (runS Tryz.prog n) n Tryz.f6 h0 p7 N (resY Tryz.prog n Tryz.f6 h0) (subC (bodyC Tryz.f6) [1,1,1,1,0,1,0,0,1,0,0,1,1,1,1,1,0,1,0,0]) [0,1,0,1,1,1,1,1,0,0,1,0,0,1,0,1,1,1,1] m0 [.block 8,.seq (subC (bodyC Tryz.f6) [1,1,1,1,0,1,0,0,1,0,0,1,1,1,1,1,1]) [1,1,1,1,1,1,0,0,1,0,0,1,0,1,1,1,1],.block 3,.seq (subC (bodyC Tryz.f6) [1,1,1,1,0,1,0,0,1,1]) [1,1,0,0,1,0,1,1,1,1],.loop (subC (bodyC Tryz.f6) [1,1,1,1,0,1,0,0]) [0,1,0,1,1,1,1] m1,.block 2,.seq (subC (bodyC Tryz.f6) [1,1,1,1,1]) [1,1,1,1,1]] (E [(1,.pointer (some f_1)),(3,.slice defined_3 defined_3n defined_3c),(4,.int .i64 b_4),(5,.pointer (some x_5)),(6,.slice known_6 known_6n known_6c),(9,.int .i64 i_9)]) h
variable {n m0 m1} {h0} {f_1 defined_3 defined_3n defined_3c b_4 x_5 known_6 known_6n known_6c i_9} {h}
theorem c7_6_ok {r : Go.Value × AH} (hv : c7_6Y hNew n m0 m1 h0 f_1 defined_3 defined_3n defined_3c b_4 x_5 known_6 known_6n known_6c i_9 h = some r) : c7_6 n (m0 + 1) m1 h0 f_1 defined_3 defined_3n defined_3c b_4 x_5 known_6 known_6n known_6c i_9 h = some r:=yhead_ok hv
end
section
variable (N : NewF) (n m0 m1 : Nat) (h0 : AH) (f_1 : Addr) (defined_3 : Option Addr) (defined_3n defined_3c : Nat) (b_4 : Int) (x_5 : Addr) (known_6 : Option Addr) (known_6n known_6c : Nat) (i_9 : Int) (in_10 : Addr) (h : AH)
 noncomputable def c7_7 : Option (Go.Value × AH):=resY Tryz.prog n Tryz.f6 h0 (.code (subC (bodyC Tryz.f6) [1,1,1,1,0,1,0,0,1,0,0,1,1,1,1,1,0,1,0,0,1,0,0,1,1]) [1,1,0,0,1,0,0,1,0,1,1,1,1,1,0,0,1,0,0,1,0,1,1,1,1]) [.block 9,.seq (subC (bodyC Tryz.f6) [1,1,1,1,0,1,0,0,1,0,0,1,1,1,1,1,0,1,0,0,1,1]) [1,1,0,0,1,0,1,1,1,1,1,0,0,1,0,0,1,0,1,1,1,1],.loop (subC (bodyC Tryz.f6) [1,1,1,1,0,1,0,0,1,0,0,1,1,1,1,1,0,1,0,0]) [0,1,0,1,1,1,1,1,0,0,1,0,0,1,0,1,1,1,1] m0,.block 8,.seq (subC (bodyC Tryz.f6) [1,1,1,1,0,1,0,0,1,0,0,1,1,1,1,1,1]) [1,1,1,1,1,1,0,0,1,0,0,1,0,1,1,1,1],.block 3,.seq (subC (bodyC Tryz.f6) [1,1,1,1,0,1,0,0,1,1]) [1,1,0,0,1,0,1,1,1,1],.loop (subC (bodyC Tryz.f6) [1,1,1,1,0,1,0,0]) [0,1,0,1,1,1,1] m1,.block 2,.seq (subC (bodyC Tryz.f6) [1,1,1,1,1]) [1,1,1,1,1]] (E [(1,.pointer (some f_1)),(3,.slice defined_3 defined_3n defined_3c),(4,.int .i64 b_4),(5,.pointer (some x_5)),(6,.slice known_6 known_6n known_6c),(9,.int .i64 i_9),(10,.pointer (some in_10))]) h
 noncomputable def c7_7Y : Option (Go.Value × AH):=yfrom Tryz.prog (runS Tryz.prog n) n Tryz.f6 h0 p7 N (resY Tryz.prog n Tryz.f6 h0) (subC (bodyC Tryz.f6) [1,1,1,1,0,1,0,0,1,0,0,1,1,1,1,1,0,1,0,0,1,0,0,1,1]) [1,1,0,0,1,0,0,1,0,1,1,1,1,1,0,0,1,0,0,1,0,1,1,1,1] [.block 9,.seq (subC (bodyC Tryz.f6) [1,1,1,1,0,1,0,0,1,0,0,1,1,1,1,1,0,1,0,0,1,1]) [1,1,0,0,1,0,1,1,1,1,1,0,0,1,0,0,1,0,1,1,1,1],.loop (subC (bodyC Tryz.f6) [1,1,1,1,0,1,0,0,1,0,0,1,1,1,1,1,0,1,0,0]) [0,1,0,1,1,1,1,1,0,0,1,0,0,1,0,1,1,1,1] m0,.block 8,.seq (subC (bodyC Tryz.f6) [1,1,1,1,0,1,0,0,1,0,0,1,1,1,1,1,1]) [1,1,1,1,1,1,0,0,1,0,0,1,0,1,1,1,1],.block 3,.seq (subC (bodyC Tryz.f6) [1,1,1,1,0,1,0,0,1,1]) [1,1,0,0,1,0,1,1,1,1],.loop (subC (bodyC Tryz.f6) [1,1,1,1,0,1,0,0]) [0,1,0,1,1,1,1] m1,.block 2,.seq (subC (bodyC Tryz.f6) [1,1,1,1,1]) [1,1,1,1,1]] (E [(1,.pointer (some f_1)),(3,.slice defined_3 defined_3n defined_3c),(4,.int .i64 b_4),(5,.pointer (some x_5)),(6,.slice known_6 known_6n known_6c),(9,.int .i64 i_9),(10,.pointer (some in_10))]) h
variable {n m0 m1} {h0} {f_1 defined_3 defined_3n defined_3c b_4 x_5 known_6 known_6n known_6c i_9 in_10} {h}
theorem c7_7_ok {r : Go.Value × AH} (hv : c7_7Y hNew n m0 m1 h0 f_1 defined_3 defined_3n defined_3c b_4 x_5 known_6 known_6n known_6c i_9 in_10 h = some r) : c7_7 n m0 m1 h0 f_1 defined_3 defined_3n defined_3c b_4 x_5 known_6 known_6n known_6c i_9 in_10 h = some r:=yfrom_ok hv
end
section
variable (N : NewF) (n m0 m1 : Nat) (h0 : AH) (f_1 : Addr) (defined_3 : Option Addr) (defined_3n defined_3c : Nat) (b_4 : Int) (x_5 : Addr) (known_6 : Option Addr) (known_6n known_6c : Nat) (i_9 : Int) (in_10 : Addr) (h : AH)
 noncomputable def c7_8 : Option (Go.Value × AH):=resY Tryz.prog n Tryz.f6 h0 (.code (subC (bodyC Tryz.f6) [1,1,1,1,0,1,0,0,1,0,0,1,1,1,1,1,0,1,0,0,1,0,0,1,1,1]) [1,1,1,0,0,1,0,0,1,0,1,1,1,1,1,0,0,1,0,0,1,0,1,1,1,1]) [.block 9,.seq (subC (bodyC Tryz.f6) [1,1,1,1,0,1,0,0,1,0,0,1,1,1,1,1,0,1,0,0,1,1]) [1,1,0,0,1,0,1,1,1,1,1,0,0,1,0,0,1,0,1,1,1,1],.loop (subC (bodyC Tryz.f6) [1,1,1,1,0,1,0,0,1,0,0,1,1,1,1,1,0,1,0,0]) [0,1,0,1,1,1,1,1,0,0,1,0,0,1,0,1,1,1,1] m0,.block 8,.seq (subC (bodyC Tryz.f6) [1,1,1,1,0,1,0,0,1,0,0,1,1,1,1,1,1]) [1,1,1,1,1,1,0,0,1,0,0,1,0,1,1,1,1],.block 3,.seq (subC (bodyC Tryz.f6) [1,1,1,1,0,1,0,0,1,1]) [1,1,0,0,1,0,1,1,1,1],.loop (subC (bodyC Tryz.f6) [1,1,1,1,0,1,0,0]) [0,1,0,1,1,1,1] m1,.block 2,.seq (subC (bodyC Tryz.f6) [1,1,1,1,1]) [1,1,1,1,1]] (E [(1,.pointer (some f_1)),(3,.slice defined_3 defined_3n defined_3c),(4,.int .i64 b_4),(5,.pointer (some x_5)),(6,.slice known_6 known_6n known_6c),(9,.int .i64 i_9),(10,.pointer (some in_10))]) h
 noncomputable def c7_8Y : Option (Go.Value × AH):=yfrom Tryz.prog (runS Tryz.prog n) n Tryz.f6 h0 p7 N (resY Tryz.prog n Tryz.f6 h0) (subC (bodyC Tryz.f6) [1,1,1,1,0,1,0,0,1,0,0,1,1,1,1,1,0,1,0,0,1,0,0,1,1,1]) [1,1,1,0,0,1,0,0,1,0,1,1,1,1,1,0,0,1,0,0,1,0,1,1,1,1] [.block 9,.seq (subC (bodyC Tryz.f6) [1,1,1,1,0,1,0,0,1,0,0,1,1,1,1,1,0,1,0,0,1,1]) [1,1,0,0,1,0,1,1,1,1,1,0,0,1,0,0,1,0,1,1,1,1],.loop (subC (bodyC Tryz.f6) [1,1,1,1,0,1,0,0,1,0,0,1,1,1,1,1,0,1,0,0]) [0,1,0,1,1,1,1,1,0,0,1,0,0,1,0,1,1,1,1] m0,.block 8,.seq (subC (bodyC Tryz.f6) [1,1,1,1,0,1,0,0,1,0,0,1,1,1,1,1,1]) [1,1,1,1,1,1,0,0,1,0,0,1,0,1,1,1,1],.block 3,.seq (subC (bodyC Tryz.f6) [1,1,1,1,0,1,0,0,1,1]) [1,1,0,0,1,0,1,1,1,1],.loop (subC (bodyC Tryz.f6) [1,1,1,1,0,1,0,0]) [0,1,0,1,1,1,1] m1,.block 2,.seq (subC (bodyC Tryz.f6) [1,1,1,1,1]) [1,1,1,1,1]] (E [(1,.pointer (some f_1)),(3,.slice defined_3 defined_3n defined_3c),(4,.int .i64 b_4),(5,.pointer (some x_5)),(6,.slice known_6 known_6n known_6c),(9,.int .i64 i_9),(10,.pointer (some in_10))]) h
variable {n m0 m1} {h0} {f_1 defined_3 defined_3n defined_3c b_4 x_5 known_6 known_6n known_6c i_9 in_10} {h}
theorem c7_8_ok {r : Go.Value × AH} (hv : c7_8Y hNew n m0 m1 h0 f_1 defined_3 defined_3n defined_3c b_4 x_5 known_6 known_6n known_6c i_9 in_10 h = some r) : c7_8 n m0 m1 h0 f_1 defined_3 defined_3n defined_3c b_4 x_5 known_6 known_6n known_6c i_9 in_10 h = some r:=yfrom_ok hv
end
 noncomputable def t7Y (N : NewF) (n : Nat) (f_0a : ByteArray) (f_0b : Option Addr) (f_0bn f_0bc : Nat) (f_0c : Option Addr) (f_0cn f_0cc : Nat) (f_0d : Option Addr) (f_0dn f_0dc : Nat) (f_0e : Option Addr) (f_0en f_0ec : Nat) (f_0f : Option Addr) (f_0fn f_0fc : Nat) (h : AH) : Option (Go.Value × AH):=yrun Tryz.prog (runS Tryz.prog n) n p7 N (resY Tryz.prog n) 6 [(.agg #[(.string f_0a),(.slice f_0b f_0bn f_0bc),(.slice f_0c f_0cn f_0cc),(.slice f_0d f_0dn f_0dc),(.slice f_0e f_0en f_0ec),(.slice f_0f f_0fn f_0fc)])] h
theorem t7_ok {n : Nat} {f_0a : ByteArray} {f_0b : Option Addr} {f_0bn f_0bc : Nat} {f_0c : Option Addr} {f_0cn f_0cc : Nat} {f_0d : Option Addr} {f_0dn f_0dc : Nat} {f_0e : Option Addr} {f_0en f_0ec : Nat} {f_0f : Option Addr} {f_0fn f_0fc : Nat} {h : AH} {r : Go.Value × AH} (hv : t7Y hNew n f_0a f_0b f_0bn f_0bc f_0c f_0cn f_0cc f_0d f_0dn f_0dc f_0e f_0en f_0ec f_0f f_0fn f_0fc h = some r) : runS Tryz.prog (n + 1) 6 [(.agg #[(.string f_0a),(.slice f_0b f_0bn f_0bc),(.slice f_0c f_0cn f_0cc),(.slice f_0d f_0dn f_0dc),(.slice f_0e f_0en f_0ec),(.slice f_0f f_0fn f_0fc)])] h = some r:=yrun_ok hv
theorem t7 (N : NewF) (n : Nat) (f_0a : ByteArray) (f_0b : Option Addr) (f_0bn f_0bc : Nat) (f_0c : Option Addr) (f_0cn f_0cc : Nat) (f_0d : Option Addr) (f_0dn f_0dc : Nat) (f_0e : Option Addr) (f_0en f_0ec : Nat) (f_0f : Option Addr) (f_0fn f_0fc : Nat) (h : AH) : t7Y N n f_0a f_0b f_0bn f_0bc f_0c f_0cn f_0cc f_0d f_0dn f_0dc f_0e f_0en f_0ec f_0f f_0fn f_0fc h =
 (N (setLow h h.next) [(.string f_0a),(.slice f_0b f_0bn f_0bc),(.slice f_0c f_0cn f_0cc),(.slice f_0d f_0dn f_0dc),(.slice f_0e f_0en f_0ec),(.slice f_0f f_0fn f_0fc)] 0).bind fun p0 =>
 (gS (rdC p0.2 (Addr.add ⟨p0.1,0,none⟩ 0) 0)).bind fun x1 =>
 (runS Tryz.prog n 11 [(.string x1)] p0.2).bind fun p2 =>
 (gB (some p2.1)).bind fun b3 =>
 cond (Bool.not b3)
 (some (exitR h p2.2 (.bool false)))
 ((gS (rdC p2.2 ⟨p0.1,0,none⟩ 0)).bind fun x4 =>
 (gL (rdC p2.2 ⟨p0.1,0,none⟩ 1)).bind fun p5 =>
 (gL (rdC p2.2 ⟨p0.1,0,none⟩ 2)).bind fun p6 =>
 (gL (rdC p2.2 ⟨p0.1,0,none⟩ 3)).bind fun p7 =>
 (gL (rdC p2.2 ⟨p0.1,0,none⟩ 4)).bind fun p8 =>
 (gL (rdC p2.2 ⟨p0.1,0,none⟩ 5)).bind fun p9 =>
 (runS Tryz.prog n 12 [(.agg #[(.string x4),(.slice p5.1 p5.2.1 p5.2.2),(.slice p6.1 p6.2.1 p6.2.2),(.slice p7.1 p7.2.1 p7.2.2),(.slice p8.1 p8.2.1 p8.2.2),(.slice p9.1 p9.2.1 p9.2.2)])] p2.2).bind fun p10 =>
 (gB (some p10.1)).bind fun b11 =>
 cond (Bool.not b11)
 (some (exitR h p10.2 (.bool false)))
 ((gL (rdC p10.2 (Addr.add ⟨p0.1,0,none⟩ 1) 0)).bind fun p12 =>
 (runS Tryz.prog n 13 [(.slice p12.1 p12.2.1 p12.2.2),(.int .i64 65536)] p10.2).bind fun p13 =>
 (gB (some p13.1)).bind fun b14 =>
 cond (Bool.not b14)
 (some (exitR h p13.2 (.bool false)))
 ((gL (rdC p13.2 (Addr.add ⟨p0.1,0,none⟩ 4) 0)).bind fun p15 =>
 (runS Tryz.prog n 13 [(.slice p15.1 p15.2.1 p15.2.2),(.int .i64 64)] p13.2).bind fun p16 =>
 (gB (some p16.1)).bind fun b17 =>
 cond (Bool.not b17)
 (some (exitR h p16.2 (.bool false)))
 ((gL (rdC p16.2 (Addr.add ⟨p0.1,0,none⟩ 5) 0)).bind fun p18 =>
 cond (iLt (Int.ofNat p18.2.1) 1)
 (some (exitR h p16.2 (.bool false)))
 ((gL (rdC p16.2 (Addr.add ⟨p0.1,0,none⟩ 5) 0)).bind fun p19 =>
 cond (iLt 1024 (Int.ofNat p19.2.1))
 (some (exitR h p16.2 (.bool false)))
 (c7_0 n h ⟨p0.1,0,none⟩ p16.2)))))):=by kernel_rfl
theorem c7_0_eq (N : NewF) (n  : Nat) (h0 : AH) (f_1 : Addr) (h : AH) : c7_0Y N n  h0 f_1 h =
 (gL (rdC h (Addr.add f_1 1) 0)).bind fun p0 =>
 c7_1 n n h0 f_1 none 0 0 (Int.ofNat p0.2.1) 0 h:=by kernel_rfl
theorem c7_1_eq (N : NewF) (n m0 : Nat) (h0 : AH) (f_1 : Addr) (defined_3 : Option Addr) (defined_3n defined_3c : Nat) (t_46 t_47 : Int) (h : AH) : c7_1Y N n m0 h0 f_1 defined_3 defined_3n defined_3c t_46 t_47 h =
 cond (iLt t_47 t_46)
 ((N h [(.bool false)] 1).bind fun p0 =>
 (appL 1 1 (.slice defined_3 defined_3n defined_3c) (.slice (some ⟨p0.1,0,none⟩) 1 1) p0.2).bind fun p1 =>
 c7_1 n m0 h0 f_1 p1.1.1 p1.1.2.1 p1.1.2.2 t_46 (iAdd .i64 t_47 1) p1.2)
 (c7_2 n n h0 f_1 defined_3 defined_3n defined_3c 0 h):=by kernel_rfl
theorem c7_2_eq (N : NewF) (n m0 : Nat) (h0 : AH) (f_1 : Addr) (defined_3 : Option Addr) (defined_3n defined_3c : Nat) (b_4 : Int) (h : AH) : c7_2Y N n m0 h0 f_1 defined_3 defined_3n defined_3c b_4 h =
 (gL (rdC h (Addr.add f_1 5) 0)).bind fun p0 =>
 cond (iLt b_4 (Int.ofNat p0.2.1))
 ((gL (rdC h (Addr.add f_1 5) 0)).bind fun p1 =>
 (p1.1).bind fun a2 =>
 cond (inB b_4 p1.2.1)
 ((gL (rdC h (Addr.add a2 ((Int.toNat b_4) * 9)) 0)).bind fun p3 =>
 (gL (rdC h (Addr.add a2 ((Int.toNat b_4) * 9)) 1)).bind fun p4 =>
 (gI .i64 (rdC h (Addr.add a2 ((Int.toNat b_4) * 9)) 2)).bind fun n5 =>
 (gI .i64 (rdC h (Addr.add a2 ((Int.toNat b_4) * 9)) 3)).bind fun n6 =>
 (gL (rdC h (Addr.add a2 ((Int.toNat b_4) * 9)) 4)).bind fun p7 =>
 (gL (rdC h (Addr.add a2 ((Int.toNat b_4) * 9)) 5)).bind fun p8 =>
 (gI .i64 (rdC h (Addr.add a2 ((Int.toNat b_4) * 9)) 6)).bind fun n9 =>
 (gI .i64 (rdC h (Addr.add a2 ((Int.toNat b_4) * 9)) 7)).bind fun n10 =>
 (gI .i64 (rdC h (Addr.add a2 ((Int.toNat b_4) * 9)) 8)).bind fun n11 =>
 (N h [(.slice none 0 0),(.slice none 0 0),(.int .i64 0),(.int .i64 0),(.slice none 0 0),(.slice none 0 0),(.int .i64 0),(.int .i64 0),(.int .i64 0)] 0).bind fun p12 =>
 (stL p12.2 ⟨p12.1,0,none⟩ [(.slice p3.1 p3.2.1 p3.2.2),(.slice p4.1 p4.2.1 p4.2.2),(.int .i64 n5),(.int .i64 n6),(.slice p7.1 p7.2.1 p7.2.2),(.slice p8.1 p8.2.1 p8.2.2),(.int .i64 n9),(.int .i64 n10),(.int .i64 n11)]).bind fun x13 =>
 (gL (rdC x13 (Addr.add ⟨p12.1,0,none⟩ 1) 0)).bind fun p14 =>
 cond (iLt 4096 (Int.ofNat p14.2.1))
 (some (exitR h0 x13 (.bool false)))
 ((gI .i64 (rdC x13 (Addr.add ⟨p12.1,0,none⟩ 6) 0)).bind fun n15 =>
 cond (iLt n15 0)
 (some (exitR h0 x13 (.bool false)))
 ((gI .i64 (rdC x13 (Addr.add ⟨p12.1,0,none⟩ 6) 0)).bind fun n16 =>
 cond (iLt 256 n16)
 (some (exitR h0 x13 (.bool false)))
 ((gI .i64 (rdC x13 (Addr.add ⟨p12.1,0,none⟩ 7) 0)).bind fun n17 =>
 cond (iLt n17 0)
 (some (exitR h0 x13 (.bool false)))
 ((gI .i64 (rdC x13 (Addr.add ⟨p12.1,0,none⟩ 7) 0)).bind fun n18 =>
 cond (iLt 64 n18)
 (some (exitR h0 x13 (.bool false)))
 ((gI .i64 (rdC x13 (Addr.add ⟨p12.1,0,none⟩ 8) 0)).bind fun n19 =>
 cond (iLt n19 0)
 (some (exitR h0 x13 (.bool false)))
 ((gI .i64 (rdC x13 (Addr.add ⟨p12.1,0,none⟩ 8) 0)).bind fun n20 =>
 cond (iLt 2147483647 n20)
 (some (exitR h0 x13 (.bool false)))
 (c7_3 n m0 h0 f_1 defined_3 defined_3n defined_3c b_4 ⟨p12.1,0,none⟩ x13))))))))
 (none))
 (some (exitR h0 h (.bool true))):=by kernel_rfl
theorem c7_3_eq (N : NewF) (n m0 : Nat) (h0 : AH) (f_1 : Addr) (defined_3 : Option Addr) (defined_3n defined_3c : Nat) (b_4 : Int) (x_5 : Addr) (h : AH) : c7_3Y N n m0 h0 f_1 defined_3 defined_3n defined_3c b_4 x_5 h =
 (gL (rdC h (Addr.add f_1 1) 0)).bind fun p0 =>
 c7_4 n n m0 h0 f_1 defined_3 defined_3n defined_3c b_4 x_5 none 0 0 (Int.ofNat p0.2.1) 0 h:=by kernel_rfl
theorem c7_4_eq (N : NewF) (n m0 m1 : Nat) (h0 : AH) (f_1 : Addr) (defined_3 : Option Addr) (defined_3n defined_3c : Nat) (b_4 : Int) (x_5 : Addr) (known_6 : Option Addr) (known_6n known_6c : Nat) (t_101 t_102 : Int) (h : AH) : c7_4Y N n m0 m1 h0 f_1 defined_3 defined_3n defined_3c b_4 x_5 known_6 known_6n known_6c t_101 t_102 h =
 cond (iLt t_102 t_101)
 ((N h [(.bool false)] 1).bind fun p0 =>
 (appL 1 1 (.slice known_6 known_6n known_6c) (.slice (some ⟨p0.1,0,none⟩) 1 1) p0.2).bind fun p1 =>
 c7_4 n m0 m1 h0 f_1 defined_3 defined_3n defined_3c b_4 x_5 p1.1.1 p1.1.2.1 p1.1.2.2 t_101 (iAdd .i64 t_102 1) p1.2)
 (c7_5 n n m1 h0 f_1 defined_3 defined_3n defined_3c b_4 x_5 known_6 known_6n known_6c 0 h):=by kernel_rfl
theorem c7_5_eq (N : NewF) (n m0 m1 : Nat) (h0 : AH) (f_1 : Addr) (defined_3 : Option Addr) (defined_3n defined_3c : Nat) (b_4 : Int) (x_5 : Addr) (known_6 : Option Addr) (known_6n known_6c : Nat) (i_7 : Int) (h : AH) : c7_5Y N n m0 m1 h0 f_1 defined_3 defined_3n defined_3c b_4 x_5 known_6 known_6n known_6c i_7 h =
 (gL (rdC h (Addr.add x_5 0) 0)).bind fun p0 =>
 cond (iLt i_7 (Int.ofNat p0.2.1))
 ((gL (rdC h (Addr.add x_5 0) 0)).bind fun p1 =>
 (p1.1).bind fun a2 =>
 cond (inB i_7 p1.2.1)
 ((gI .i64 (rdC h (Addr.add a2 ((Int.toNat i_7) * 1)) 0)).bind fun n3 =>
 (gS (rdC h f_1 0)).bind fun x4 =>
 (gL (rdC h f_1 1)).bind fun p5 =>
 (gL (rdC h f_1 2)).bind fun p6 =>
 (gL (rdC h f_1 3)).bind fun p7 =>
 (gL (rdC h f_1 4)).bind fun p8 =>
 (gL (rdC h f_1 5)).bind fun p9 =>
 (runS Tryz.prog n 14 [(.agg #[(.string x4),(.slice p5.1 p5.2.1 p5.2.2),(.slice p6.1 p6.2.1 p6.2.2),(.slice p7.1 p7.2.1 p7.2.2),(.slice p8.1 p8.2.1 p8.2.2),(.slice p9.1 p9.2.1 p9.2.2)]),(.int .i64 n3)] h).bind fun p10 =>
 (gB (some p10.1)).bind fun b11 =>
 cond (Bool.not b11)
 (some (exitR h0 p10.2 (.bool false)))
 ((defined_3).bind fun a12 =>
 cond (inB n3 defined_3n)
 ((gB (rdC p10.2 (Addr.add a12 ((Int.toNat n3) * 1)) 0)).bind fun b13 =>
 cond b13
 (some (exitR h0 p10.2 (.bool false)))
 ((defined_3).bind fun a14 =>
 cond (inB n3 defined_3n)
 ((stL p10.2 (Addr.add a14 ((Int.toNat n3) * 1)) [(.bool true)]).bind fun x15 =>
 (known_6).bind fun a16 =>
 cond (inB n3 known_6n)
 ((stL x15 (Addr.add a16 ((Int.toNat n3) * 1)) [(.bool true)]).bind fun x17 =>
 c7_5 n m0 m1 h0 f_1 defined_3 defined_3n defined_3c b_4 x_5 known_6 known_6n known_6c (iAdd .i64 i_7 1) x17)
 (none))
 (none)))
 (none)))
 (none))
 (c7_6 n n m1 h0 f_1 defined_3 defined_3n defined_3c b_4 x_5 known_6 known_6n known_6c 0 h):=by kernel_rfl
theorem c7_6_eq (N : NewF) (n m0 m1 : Nat) (h0 : AH) (f_1 : Addr) (defined_3 : Option Addr) (defined_3n defined_3c : Nat) (b_4 : Int) (x_5 : Addr) (known_6 : Option Addr) (known_6n known_6c : Nat) (i_9 : Int) (h : AH) : c7_6Y N n m0 m1 h0 f_1 defined_3 defined_3n defined_3c b_4 x_5 known_6 known_6n known_6c i_9 h =
 (gL (rdC h (Addr.add x_5 1) 0)).bind fun p0 =>
 cond (iLt i_9 (Int.ofNat p0.2.1))
 ((gL (rdC h (Addr.add x_5 1) 0)).bind fun p1 =>
 (p1.1).bind fun a2 =>
 cond (inB i_9 p1.2.1)
 ((gI .i64 (rdC h (Addr.add a2 ((Int.toNat i_9) * 5)) 0)).bind fun n3 =>
 (gI .i64 (rdC h (Addr.add a2 ((Int.toNat i_9) * 5)) 1)).bind fun n4 =>
 (gL (rdC h (Addr.add a2 ((Int.toNat i_9) * 5)) 2)).bind fun p5 =>
 (gI .u64 (rdC h (Addr.add a2 ((Int.toNat i_9) * 5)) 3)).bind fun n6 =>
 (gI .i64 (rdC h (Addr.add a2 ((Int.toNat i_9) * 5)) 4)).bind fun n7 =>
 (N h [(.int .i64 0),(.int .i64 0),(.slice none 0 0),(.int .u64 0),(.int .i64 0)] 0).bind fun p8 =>
 (stL p8.2 ⟨p8.1,0,none⟩ [(.int .i64 n3),(.int .i64 n4),(.slice p5.1 p5.2.1 p5.2.2),(.int .u64 n6),(.int .i64 n7)]).bind fun x9 =>
 (gI .i64 (rdC x9 (Addr.add ⟨p8.1,0,none⟩ 0) 0)).bind fun n10 =>
 (runS Tryz.prog n 15 [(.int .i64 n10)] (setLow x9 x9.next)).bind fun p11 =>
 (gI .i64 (some p11.1)).bind fun n12 =>
 cond (Nat.beq p11.2.low x9.next)
 ((gL (rdC (setLow p11.2 x9.low) (Addr.add ⟨p8.1,0,none⟩ 2) 0)).bind fun p13 =>
 cond (iNe n12 (Int.ofNat p13.2.1))
 (some (exitR h0 (setLow p11.2 x9.low) (.bool false)))
 ((gS (rdC (setLow p11.2 x9.low) f_1 0)).bind fun x14 =>
 (gL (rdC (setLow p11.2 x9.low) f_1 1)).bind fun p15 =>
 (gL (rdC (setLow p11.2 x9.low) f_1 2)).bind fun p16 =>
 (gL (rdC (setLow p11.2 x9.low) f_1 3)).bind fun p17 =>
 (gL (rdC (setLow p11.2 x9.low) f_1 4)).bind fun p18 =>
 (gL (rdC (setLow p11.2 x9.low) f_1 5)).bind fun p19 =>
 (gL (rdC (setLow p11.2 x9.low) (Addr.add ⟨p8.1,0,none⟩ 2) 0)).bind fun p20 =>
 (runS Tryz.prog n 16 [(.agg #[(.string x14),(.slice p15.1 p15.2.1 p15.2.2),(.slice p16.1 p16.2.1 p16.2.2),(.slice p17.1 p17.2.1 p17.2.2),(.slice p18.1 p18.2.1 p18.2.2),(.slice p19.1 p19.2.1 p19.2.2)]),(.slice p20.1 p20.2.1 p20.2.2),(.slice known_6 known_6n known_6c)] (setLow p11.2 x9.low)).bind fun p21 =>
 (gB (some p21.1)).bind fun b22 =>
 cond (Bool.not b22)
 (some (exitR h0 p21.2 (.bool false)))
 (c7_7 n m0 m1 h0 f_1 defined_3 defined_3n defined_3c b_4 x_5 known_6 known_6n known_6c i_9 ⟨p8.1,0,none⟩ p21.2)))
 (none))
 (none))
 ((gS (rdC h f_1 0)).bind fun x23 =>
 (gL (rdC h f_1 1)).bind fun p24 =>
 (gL (rdC h f_1 2)).bind fun p25 =>
 (gL (rdC h f_1 3)).bind fun p26 =>
 (gL (rdC h f_1 4)).bind fun p27 =>
 (gL (rdC h f_1 5)).bind fun p28 =>
 (gI .i64 (rdC h (Addr.add x_5 2) 0)).bind fun n29 =>
 (gI .i64 (rdC h (Addr.add x_5 2) 1)).bind fun n30 =>
 (gL (rdC h (Addr.add x_5 2) 2)).bind fun p31 =>
 (gL (rdC h (Addr.add x_5 2) 3)).bind fun p32 =>
 (runS Tryz.prog n 19 [(.agg #[(.string x23),(.slice p24.1 p24.2.1 p24.2.2),(.slice p25.1 p25.2.1 p25.2.2),(.slice p26.1 p26.2.1 p26.2.2),(.slice p27.1 p27.2.1 p27.2.2),(.slice p28.1 p28.2.1 p28.2.2)]),(.agg #[(.int .i64 n29),(.int .i64 n30),(.slice p31.1 p31.2.1 p31.2.2),(.slice p32.1 p32.2.1 p32.2.2)]),(.slice known_6 known_6n known_6c)] h).bind fun p33 =>
 (gB (some p33.1)).bind fun b34 =>
 cond (Bool.not b34)
 (some (exitR h0 p33.2 (.bool false)))
 (c7_2 n m1 h0 f_1 defined_3 defined_3n defined_3c (iAdd .i64 b_4 1) p33.2)):=by kernel_rfl
theorem c7_7_eq (N : NewF) (n m0 m1 : Nat) (h0 : AH) (f_1 : Addr) (defined_3 : Option Addr) (defined_3n defined_3c : Nat) (b_4 : Int) (x_5 : Addr) (known_6 : Option Addr) (known_6n known_6c : Nat) (i_9 : Int) (in_10 : Addr) (h : AH) : c7_7Y N n m0 m1 h0 f_1 defined_3 defined_3n defined_3c b_4 x_5 known_6 known_6n known_6c i_9 in_10 h =
 (gI .i64 (rdC h (Addr.add in_10 0) 0)).bind fun n0 =>
 (runS Tryz.prog n 17 [(.int .i64 n0)] h).bind fun p1 =>
 (gB (some p1.1)).bind fun b2 =>
 cond b2
 ((gS (rdC p1.2 f_1 0)).bind fun x3 =>
 (gL (rdC p1.2 f_1 1)).bind fun p4 =>
 (gL (rdC p1.2 f_1 2)).bind fun p5 =>
 (gL (rdC p1.2 f_1 3)).bind fun p6 =>
 (gL (rdC p1.2 f_1 4)).bind fun p7 =>
 (gL (rdC p1.2 f_1 5)).bind fun p8 =>
 (gI .i64 (rdC p1.2 (Addr.add in_10 1) 0)).bind fun n9 =>
 (runS Tryz.prog n 14 [(.agg #[(.string x3),(.slice p4.1 p4.2.1 p4.2.2),(.slice p5.1 p5.2.1 p5.2.2),(.slice p6.1 p6.2.1 p6.2.2),(.slice p7.1 p7.2.1 p7.2.2),(.slice p8.1 p8.2.1 p8.2.2)]),(.int .i64 n9)] p1.2).bind fun p10 =>
 (gB (some p10.1)).bind fun b11 =>
 cond (Bool.not b11)
 (some (exitR h0 p10.2 (.bool false)))
 ((gI .i64 (rdC p10.2 (Addr.add in_10 1) 0)).bind fun n12 =>
 (defined_3).bind fun a13 =>
 cond (inB n12 defined_3n)
 ((gB (rdC p10.2 (Addr.add a13 ((Int.toNat n12) * 1)) 0)).bind fun b14 =>
 cond b14
 (some (exitR h0 p10.2 (.bool false)))
 (c7_8 n m0 m1 h0 f_1 defined_3 defined_3n defined_3c b_4 x_5 known_6 known_6n known_6c i_9 in_10 p10.2))
 (none)))
 ((gI .i64 (rdC p1.2 (Addr.add in_10 1) 0)).bind fun n15 =>
 cond (iNe n15 (-1))
 (some (exitR h0 p1.2 (.bool false)))
 (c7_8 n m0 m1 h0 f_1 defined_3 defined_3n defined_3c b_4 x_5 known_6 known_6n known_6c i_9 in_10 p1.2)):=by kernel_rfl
theorem c7_8_eq (N : NewF) (n m0 m1 : Nat) (h0 : AH) (f_1 : Addr) (defined_3 : Option Addr) (defined_3n defined_3c : Nat) (b_4 : Int) (x_5 : Addr) (known_6 : Option Addr) (known_6n known_6c : Nat) (i_9 : Int) (in_10 : Addr) (h : AH) : c7_8Y N n m0 m1 h0 f_1 defined_3 defined_3n defined_3c b_4 x_5 known_6 known_6n known_6c i_9 in_10 h =
 (gS (rdC h f_1 0)).bind fun x0 =>
 (gL (rdC h f_1 1)).bind fun p1 =>
 (gL (rdC h f_1 2)).bind fun p2 =>
 (gL (rdC h f_1 3)).bind fun p3 =>
 (gL (rdC h f_1 4)).bind fun p4 =>
 (gL (rdC h f_1 5)).bind fun p5 =>
 (gI .i64 (rdC h in_10 0)).bind fun n6 =>
 (gI .i64 (rdC h in_10 1)).bind fun n7 =>
 (gL (rdC h in_10 2)).bind fun p8 =>
 (gI .u64 (rdC h in_10 3)).bind fun n9 =>
 (gI .i64 (rdC h in_10 4)).bind fun n10 =>
 (runS Tryz.prog n 18 [(.agg #[(.string x0),(.slice p1.1 p1.2.1 p1.2.2),(.slice p2.1 p2.2.1 p2.2.2),(.slice p3.1 p3.2.1 p3.2.2),(.slice p4.1 p4.2.1 p4.2.2),(.slice p5.1 p5.2.1 p5.2.2)]),(.agg #[(.int .i64 n6),(.int .i64 n7),(.slice p8.1 p8.2.1 p8.2.2),(.int .u64 n9),(.int .i64 n10)])] h).bind fun p11 =>
 (gB (some p11.1)).bind fun b12 =>
 cond (Bool.not b12)
 (some (exitR h0 p11.2 (.bool false)))
 ((gI .i64 (rdC p11.2 (Addr.add in_10 0) 0)).bind fun n13 =>
 (runS Tryz.prog n 17 [(.int .i64 n13)] p11.2).bind fun p14 =>
 (gB (some p14.1)).bind fun b15 =>
 cond b15
 ((gI .i64 (rdC p14.2 (Addr.add in_10 1) 0)).bind fun n16 =>
 (defined_3).bind fun a17 =>
 cond (inB n16 defined_3n)
 ((stL p14.2 (Addr.add a17 ((Int.toNat n16) * 1)) [(.bool true)]).bind fun x18 =>
 (gI .i64 (rdC x18 (Addr.add in_10 1) 0)).bind fun n19 =>
 (known_6).bind fun a20 =>
 cond (inB n19 known_6n)
 ((stL x18 (Addr.add a20 ((Int.toNat n19) * 1)) [(.bool true)]).bind fun x21 =>
 c7_6 n m0 m1 h0 f_1 defined_3 defined_3n defined_3c b_4 x_5 known_6 known_6n known_6c (iAdd .i64 i_9 1) x21)
 (none))
 (none))
 (c7_6 n m0 m1 h0 f_1 defined_3 defined_3n defined_3c b_4 x_5 known_6 known_6n known_6c (iAdd .i64 i_9 1) p14.2)):=by kernel_rfl
def p18 : List (List Nat × List Nat):=[([0,1,0,1,1],[1,3,4]),([1,1,1,0,0,1,0,0,1,0,1,1],[1,3,4,5]),([1,0,1,1,1,1,0,0,1,0,0,1,0,1,1],[1,3,4,5,41,42]),([1,1,1,0,1,1,1,1,0,0,1,0,0,1,0,1,1],[1,3,4,5,58]),([0,1,0,1,1,1],[1,3,6]),([0,1,0,1,1,1,1],[1,3,7]),([0,1,1,0,0,1,0,0,1,0,1,1,1,1],[1,3,7,8])]
section
variable (N : NewF) (n m0 : Nat) (h0 : AH) (f_1 : Addr) (names_3 : Option Addr) (names_3n names_3c : Nat) (i_4 : Int) (h : AH)
 noncomputable def c18_0 : Option (Go.Value × AH):=resY Tryz.prog n Tryz.f12 h0 (.head (subC (bodyC Tryz.f12) [1,1,0,1,0,0]) [0,1,0,1,1] m0) [.block 0,.seq (subC (bodyC Tryz.f12) [1,1,1]) [1,1,1]] (E [(1,.pointer (some f_1)),(3,.slice names_3 names_3n names_3c),(4,.int .i64 i_4)]) h
 noncomputable def c18_0Y : Option (Go.Value × AH):=yhead Tryz.prog (runS Tryz.prog n) n Tryz.f12 h0 p18 N (resY Tryz.prog n Tryz.f12 h0) (subC (bodyC Tryz.f12) [1,1,0,1,0,0]) [0,1,0,1,1] m0 [.block 0,.seq (subC (bodyC Tryz.f12) [1,1,1]) [1,1,1]] (E [(1,.pointer (some f_1)),(3,.slice names_3 names_3n names_3c),(4,.int .i64 i_4)]) h
variable {n m0} {h0} {f_1 names_3 names_3n names_3c i_4} {h}
theorem c18_0_ok {r : Go.Value × AH} (hv : c18_0Y hNew n m0 h0 f_1 names_3 names_3n names_3c i_4 h = some r) : c18_0 n (m0 + 1) h0 f_1 names_3 names_3n names_3c i_4 h = some r:=yhead_ok hv
end
section
variable (N : NewF) (n m0 : Nat) (h0 : AH) (f_1 : Addr) (names_3 : Option Addr) (names_3n names_3c : Nat) (i_4 : Int) (a_5 : Addr) (h : AH)
 noncomputable def c18_1 : Option (Go.Value × AH):=resY Tryz.prog n Tryz.f12 h0 (.code (subC (bodyC Tryz.f12) [1,1,0,1,0,0,1,0,0,1,1,1]) [1,1,1,0,0,1,0,0,1,0,1,1]) [.block 1,.seq (subC (bodyC Tryz.f12) [1,1,0,1,0,0,1,1]) [1,1,0,0,1,0,1,1],.loop (subC (bodyC Tryz.f12) [1,1,0,1,0,0]) [0,1,0,1,1] m0,.block 0,.seq (subC (bodyC Tryz.f12) [1,1,1]) [1,1,1]] (E [(1,.pointer (some f_1)),(3,.slice names_3 names_3n names_3c),(4,.int .i64 i_4),(5,.pointer (some a_5))]) h
 noncomputable def c18_1Y : Option (Go.Value × AH):=yfrom Tryz.prog (runS Tryz.prog n) n Tryz.f12 h0 p18 N (resY Tryz.prog n Tryz.f12 h0) (subC (bodyC Tryz.f12) [1,1,0,1,0,0,1,0,0,1,1,1]) [1,1,1,0,0,1,0,0,1,0,1,1] [.block 1,.seq (subC (bodyC Tryz.f12) [1,1,0,1,0,0,1,1]) [1,1,0,0,1,0,1,1],.loop (subC (bodyC Tryz.f12) [1,1,0,1,0,0]) [0,1,0,1,1] m0,.block 0,.seq (subC (bodyC Tryz.f12) [1,1,1]) [1,1,1]] (E [(1,.pointer (some f_1)),(3,.slice names_3 names_3n names_3c),(4,.int .i64 i_4),(5,.pointer (some a_5))]) h
variable {n m0} {h0} {f_1 names_3 names_3n names_3c i_4 a_5} {h}
theorem c18_1_ok {r : Go.Value × AH} (hv : c18_1Y hNew n m0 h0 f_1 names_3 names_3n names_3c i_4 a_5 h = some r) : c18_1 n m0 h0 f_1 names_3 names_3n names_3c i_4 a_5 h = some r:=yfrom_ok hv
end
section
variable (N : NewF) (n m0 : Nat) (h0 : AH) (f_1 : Addr) (names_3 : Option Addr) (names_3n names_3c : Nat) (i_6 : Int) (h : AH)
 noncomputable def c18_2 : Option (Go.Value × AH):=resY Tryz.prog n Tryz.f12 h0 (.head (subC (bodyC Tryz.f12) [1,1,1,0,1,0,0]) [0,1,0,1,1,1] m0) [.block 3,.seq (subC (bodyC Tryz.f12) [1,1,1,1]) [1,1,1,1]] (E [(1,.pointer (some f_1)),(3,.slice names_3 names_3n names_3c),(6,.int .i64 i_6)]) h
 noncomputable def c18_2Y : Option (Go.Value × AH):=yhead Tryz.prog (runS Tryz.prog n) n Tryz.f12 h0 p18 N (resY Tryz.prog n Tryz.f12 h0) (subC (bodyC Tryz.f12) [1,1,1,0,1,0,0]) [0,1,0,1,1,1] m0 [.block 3,.seq (subC (bodyC Tryz.f12) [1,1,1,1]) [1,1,1,1]] (E [(1,.pointer (some f_1)),(3,.slice names_3 names_3n names_3c),(6,.int .i64 i_6)]) h
variable {n m0} {h0} {f_1 names_3 names_3n names_3c i_6} {h}
theorem c18_2_ok {r : Go.Value × AH} (hv : c18_2Y hNew n m0 h0 f_1 names_3 names_3n names_3c i_6 h = some r) : c18_2 n (m0 + 1) h0 f_1 names_3 names_3n names_3c i_6 h = some r:=yhead_ok hv
end
section
variable (N : NewF) (n m0 : Nat) (h0 : AH) (f_1 : Addr) (names_3 : Option Addr) (names_3n names_3c : Nat) (i_4 : Int) (a_5 : Addr) (t_41 : Int) (t_42 : Bool) (h : AH)
 noncomputable def c18_3 : Option (Go.Value × AH):=resY Tryz.prog n Tryz.f12 h0 (.code (subC (bodyC Tryz.f12) [1,1,0,1,0,0,1,0,0,1,1,1,1,0,1]) [1,0,1,1,1,1,0,0,1,0,0,1,0,1,1]) [.block 2,.block 1,.seq (subC (bodyC Tryz.f12) [1,1,0,1,0,0,1,1]) [1,1,0,0,1,0,1,1],.loop (subC (bodyC Tryz.f12) [1,1,0,1,0,0]) [0,1,0,1,1] m0,.block 0,.seq (subC (bodyC Tryz.f12) [1,1,1]) [1,1,1]] (E [(1,.pointer (some f_1)),(3,.slice names_3 names_3n names_3c),(4,.int .i64 i_4),(5,.pointer (some a_5)),(41,.int .i64 t_41),(42,.bool t_42)]) h
 noncomputable def c18_3Y : Option (Go.Value × AH):=yfrom Tryz.prog (runS Tryz.prog n) n Tryz.f12 h0 p18 N (resY Tryz.prog n Tryz.f12 h0) (subC (bodyC Tryz.f12) [1,1,0,1,0,0,1,0,0,1,1,1,1,0,1]) [1,0,1,1,1,1,0,0,1,0,0,1,0,1,1] [.block 2,.block 1,.seq (subC (bodyC Tryz.f12) [1,1,0,1,0,0,1,1]) [1,1,0,0,1,0,1,1],.loop (subC (bodyC Tryz.f12) [1,1,0,1,0,0]) [0,1,0,1,1] m0,.block 0,.seq (subC (bodyC Tryz.f12) [1,1,1]) [1,1,1]] (E [(1,.pointer (some f_1)),(3,.slice names_3 names_3n names_3c),(4,.int .i64 i_4),(5,.pointer (some a_5)),(41,.int .i64 t_41),(42,.bool t_42)]) h
variable {n m0} {h0} {f_1 names_3 names_3n names_3c i_4 a_5 t_41 t_42} {h}
theorem c18_3_ok {r : Go.Value × AH} (hv : c18_3Y hNew n m0 h0 f_1 names_3 names_3n names_3c i_4 a_5 t_41 t_42 h = some r) : c18_3 n m0 h0 f_1 names_3 names_3n names_3c i_4 a_5 t_41 t_42 h = some r:=yfrom_ok hv
end
section
variable (N : NewF) (n m0 : Nat) (h0 : AH) (f_1 : Addr) (names_3 : Option Addr) (names_3n names_3c : Nat) (i_7 : Int) (h : AH)
 noncomputable def c18_4 : Option (Go.Value × AH):=resY Tryz.prog n Tryz.f12 h0 (.head (subC (bodyC Tryz.f12) [1,1,1,1,0,1,0,0]) [0,1,0,1,1,1,1] m0) [.block 5,.seq (subC (bodyC Tryz.f12) [1,1,1,1,1]) [1,1,1,1,1]] (E [(1,.pointer (some f_1)),(3,.slice names_3 names_3n names_3c),(7,.int .i64 i_7)]) h
 noncomputable def c18_4Y : Option (Go.Value × AH):=yhead Tryz.prog (runS Tryz.prog n) n Tryz.f12 h0 p18 N (resY Tryz.prog n Tryz.f12 h0) (subC (bodyC Tryz.f12) [1,1,1,1,0,1,0,0]) [0,1,0,1,1,1,1] m0 [.block 5,.seq (subC (bodyC Tryz.f12) [1,1,1,1,1]) [1,1,1,1,1]] (E [(1,.pointer (some f_1)),(3,.slice names_3 names_3n names_3c),(7,.int .i64 i_7)]) h
variable {n m0} {h0} {f_1 names_3 names_3n names_3c i_7} {h}
theorem c18_4_ok {r : Go.Value × AH} (hv : c18_4Y hNew n m0 h0 f_1 names_3 names_3n names_3c i_7 h = some r) : c18_4 n (m0 + 1) h0 f_1 names_3 names_3n names_3c i_7 h = some r:=yhead_ok hv
end
section
variable (N : NewF) (n m0 : Nat) (h0 : AH) (f_1 : Addr) (names_3 : Option Addr) (names_3n names_3c : Nat) (i_4 : Int) (a_5 : Addr) (t_58 : Bool) (h : AH)
 noncomputable def c18_5 : Option (Go.Value × AH):=resY Tryz.prog n Tryz.f12 h0 (.code (subC (bodyC Tryz.f12) [1,1,0,1,0,0,1,0,0,1,1,1,1,0,1,1,1]) [1,1,1,0,1,1,1,1,0,0,1,0,0,1,0,1,1]) [.block 2,.block 1,.seq (subC (bodyC Tryz.f12) [1,1,0,1,0,0,1,1]) [1,1,0,0,1,0,1,1],.loop (subC (bodyC Tryz.f12) [1,1,0,1,0,0]) [0,1,0,1,1] m0,.block 0,.seq (subC (bodyC Tryz.f12) [1,1,1]) [1,1,1]] (E [(1,.pointer (some f_1)),(3,.slice names_3 names_3n names_3c),(4,.int .i64 i_4),(5,.pointer (some a_5)),(58,.bool t_58)]) h
 noncomputable def c18_5Y : Option (Go.Value × AH):=yfrom Tryz.prog (runS Tryz.prog n) n Tryz.f12 h0 p18 N (resY Tryz.prog n Tryz.f12 h0) (subC (bodyC Tryz.f12) [1,1,0,1,0,0,1,0,0,1,1,1,1,0,1,1,1]) [1,1,1,0,1,1,1,1,0,0,1,0,0,1,0,1,1] [.block 2,.block 1,.seq (subC (bodyC Tryz.f12) [1,1,0,1,0,0,1,1]) [1,1,0,0,1,0,1,1],.loop (subC (bodyC Tryz.f12) [1,1,0,1,0,0]) [0,1,0,1,1] m0,.block 0,.seq (subC (bodyC Tryz.f12) [1,1,1]) [1,1,1]] (E [(1,.pointer (some f_1)),(3,.slice names_3 names_3n names_3c),(4,.int .i64 i_4),(5,.pointer (some a_5)),(58,.bool t_58)]) h
variable {n m0} {h0} {f_1 names_3 names_3n names_3c i_4 a_5 t_58} {h}
theorem c18_5_ok {r : Go.Value × AH} (hv : c18_5Y hNew n m0 h0 f_1 names_3 names_3n names_3c i_4 a_5 t_58 h = some r) : c18_5 n m0 h0 f_1 names_3 names_3n names_3c i_4 a_5 t_58 h = some r:=yfrom_ok hv
end
section
variable (N : NewF) (n m0 m1 : Nat) (h0 : AH) (f_1 : Addr) (names_3 : Option Addr) (names_3n names_3c : Nat) (i_7 k_8 : Int) (h : AH)
 noncomputable def c18_6 : Option (Go.Value × AH):=resY Tryz.prog n Tryz.f12 h0 (.head (subC (bodyC Tryz.f12) [1,1,1,1,0,1,0,0,1,0,0,1,1,0,0]) [0,1,1,0,0,1,0,0,1,0,1,1,1,1] m0) [.block 7,.block 6,.seq (subC (bodyC Tryz.f12) [1,1,1,1,0,1,0,0,1,1]) [1,1,0,0,1,0,1,1,1,1],.loop (subC (bodyC Tryz.f12) [1,1,1,1,0,1,0,0]) [0,1,0,1,1,1,1] m1,.block 5,.seq (subC (bodyC Tryz.f12) [1,1,1,1,1]) [1,1,1,1,1]] (E [(1,.pointer (some f_1)),(3,.slice names_3 names_3n names_3c),(7,.int .i64 i_7),(8,.int .i64 k_8)]) h
 noncomputable def c18_6Y : Option (Go.Value × AH):=yhead Tryz.prog (runS Tryz.prog n) n Tryz.f12 h0 p18 N (resY Tryz.prog n Tryz.f12 h0) (subC (bodyC Tryz.f12) [1,1,1,1,0,1,0,0,1,0,0,1,1,0,0]) [0,1,1,0,0,1,0,0,1,0,1,1,1,1] m0 [.block 7,.block 6,.seq (subC (bodyC Tryz.f12) [1,1,1,1,0,1,0,0,1,1]) [1,1,0,0,1,0,1,1,1,1],.loop (subC (bodyC Tryz.f12) [1,1,1,1,0,1,0,0]) [0,1,0,1,1,1,1] m1,.block 5,.seq (subC (bodyC Tryz.f12) [1,1,1,1,1]) [1,1,1,1,1]] (E [(1,.pointer (some f_1)),(3,.slice names_3 names_3n names_3c),(7,.int .i64 i_7),(8,.int .i64 k_8)]) h
variable {n m0 m1} {h0} {f_1 names_3 names_3n names_3c i_7 k_8} {h}
theorem c18_6_ok {r : Go.Value × AH} (hv : c18_6Y hNew n m0 m1 h0 f_1 names_3 names_3n names_3c i_7 k_8 h = some r) : c18_6 n (m0 + 1) m1 h0 f_1 names_3 names_3n names_3c i_7 k_8 h = some r:=yhead_ok hv
end
 noncomputable def t18Y (N : NewF) (n : Nat) (f_0a : ByteArray) (f_0b : Option Addr) (f_0bn f_0bc : Nat) (f_0c : Option Addr) (f_0cn f_0cc : Nat) (f_0d : Option Addr) (f_0dn f_0dc : Nat) (f_0e : Option Addr) (f_0en f_0ec : Nat) (f_0f : Option Addr) (f_0fn f_0fc : Nat) (h : AH) : Option (Go.Value × AH):=yrun Tryz.prog (runS Tryz.prog n) n p18 N (resY Tryz.prog n) 12 [(.agg #[(.string f_0a),(.slice f_0b f_0bn f_0bc),(.slice f_0c f_0cn f_0cc),(.slice f_0d f_0dn f_0dc),(.slice f_0e f_0en f_0ec),(.slice f_0f f_0fn f_0fc)])] h
theorem t18_ok {n : Nat} {f_0a : ByteArray} {f_0b : Option Addr} {f_0bn f_0bc : Nat} {f_0c : Option Addr} {f_0cn f_0cc : Nat} {f_0d : Option Addr} {f_0dn f_0dc : Nat} {f_0e : Option Addr} {f_0en f_0ec : Nat} {f_0f : Option Addr} {f_0fn f_0fc : Nat} {h : AH} {r : Go.Value × AH} (hv : t18Y hNew n f_0a f_0b f_0bn f_0bc f_0c f_0cn f_0cc f_0d f_0dn f_0dc f_0e f_0en f_0ec f_0f f_0fn f_0fc h = some r) : runS Tryz.prog (n + 1) 12 [(.agg #[(.string f_0a),(.slice f_0b f_0bn f_0bc),(.slice f_0c f_0cn f_0cc),(.slice f_0d f_0dn f_0dc),(.slice f_0e f_0en f_0ec),(.slice f_0f f_0fn f_0fc)])] h = some r:=yrun_ok hv
theorem t18 (N : NewF) (n : Nat) (f_0a : ByteArray) (f_0b : Option Addr) (f_0bn f_0bc : Nat) (f_0c : Option Addr) (f_0cn f_0cc : Nat) (f_0d : Option Addr) (f_0dn f_0dc : Nat) (f_0e : Option Addr) (f_0en f_0ec : Nat) (f_0f : Option Addr) (f_0fn f_0fc : Nat) (h : AH) : t18Y N n f_0a f_0b f_0bn f_0bc f_0c f_0cn f_0cc f_0d f_0dn f_0dc f_0e f_0en f_0ec f_0f f_0fn f_0fc h =
 (N (setLow h h.next) [(.string f_0a),(.slice f_0b f_0bn f_0bc),(.slice f_0c f_0cn f_0cc),(.slice f_0d f_0dn f_0dc),(.slice f_0e f_0en f_0ec),(.slice f_0f f_0fn f_0fc)] 0).bind fun p0 =>
 c18_0 n n h ⟨p0.1,0,none⟩ none 0 0 0 p0.2:=by kernel_rfl
theorem c18_0_eq (N : NewF) (n m0 : Nat) (h0 : AH) (f_1 : Addr) (names_3 : Option Addr) (names_3n names_3c : Nat) (i_4 : Int) (h : AH) : c18_0Y N n m0 h0 f_1 names_3 names_3n names_3c i_4 h =
 (gL (rdC h (Addr.add f_1 2) 0)).bind fun p0 =>
 cond (iLt i_4 (Int.ofNat p0.2.1))
 ((gL (rdC h (Addr.add f_1 2) 0)).bind fun p1 =>
 (p1.1).bind fun a2 =>
 cond (inB i_4 p1.2.1)
 ((gS (rdC h (Addr.add a2 ((Int.toNat i_4) * 5)) 0)).bind fun x3 =>
 (gI .i64 (rdC h (Addr.add a2 ((Int.toNat i_4) * 5)) 1)).bind fun n4 =>
 (gI .i64 (rdC h (Addr.add a2 ((Int.toNat i_4) * 5)) 2)).bind fun n5 =>
 (gI .i64 (rdC h (Addr.add a2 ((Int.toNat i_4) * 5)) 3)).bind fun n6 =>
 (gI .i64 (rdC h (Addr.add a2 ((Int.toNat i_4) * 5)) 4)).bind fun n7 =>
 (N h [(.string (ByteArray.mk (List.toArray []))),(.int .i64 0),(.int .i64 0),(.int .i64 0),(.int .i64 0)] 0).bind fun p8 =>
 (stL p8.2 ⟨p8.1,0,none⟩ [(.string x3),(.int .i64 n4),(.int .i64 n5),(.int .i64 n6),(.int .i64 n7)]).bind fun x9 =>
 (gS (rdC x9 (Addr.add ⟨p8.1,0,none⟩ 0) 0)).bind fun x10 =>
 (N x9 [(.string x10)] 1).bind fun p11 =>
 (appL 1 16 (.slice names_3 names_3n names_3c) (.slice (some ⟨p11.1,0,none⟩) 1 1) p11.2).bind fun p12 =>
 (gI .i64 (rdC p12.2 (Addr.add ⟨p8.1,0,none⟩ 1) 0)).bind fun n13 =>
 (runS Tryz.prog n 38 [(.int .i64 n13)] p12.2).bind fun p14 =>
 (gB (some p14.1)).bind fun b15 =>
 cond (Bool.not b15)
 (some (exitR h0 p14.2 (.bool false)))
 ((gI .i64 (rdC p14.2 (Addr.add ⟨p8.1,0,none⟩ 2) 0)).bind fun n16 =>
 cond (iLt n16 1)
 (some (exitR h0 p14.2 (.bool false)))
 ((gI .i64 (rdC p14.2 (Addr.add ⟨p8.1,0,none⟩ 2) 0)).bind fun n17 =>
 cond (iLt 4096 n17)
 (some (exitR h0 p14.2 (.bool false)))
 (c18_1 n m0 h0 f_1 p12.1.1 p12.1.2.1 p12.1.2.2 i_4 ⟨p8.1,0,none⟩ p14.2))))
 (none))
 (c18_2 n n h0 f_1 names_3 names_3n names_3c 0 h):=by kernel_rfl
theorem c18_1_eq (N : NewF) (n m0 : Nat) (h0 : AH) (f_1 : Addr) (names_3 : Option Addr) (names_3n names_3c : Nat) (i_4 : Int) (a_5 : Addr) (h : AH) : c18_1Y N n m0 h0 f_1 names_3 names_3n names_3c i_4 a_5 h =
 (gI .i64 (rdC h (Addr.add a_5 3) 0)).bind fun n0 =>
 cond (iEq n0 0)
 (c18_3 n m0 h0 f_1 names_3 names_3n names_3c i_4 a_5 n0 true h)
 (c18_3 n m0 h0 f_1 names_3 names_3n names_3c i_4 a_5 n0 (iEq n0 3) h):=by kernel_rfl
theorem c18_2_eq (N : NewF) (n m0 : Nat) (h0 : AH) (f_1 : Addr) (names_3 : Option Addr) (names_3n names_3c : Nat) (i_6 : Int) (h : AH) : c18_2Y N n m0 h0 f_1 names_3 names_3n names_3c i_6 h =
 (gL (rdC h (Addr.add f_1 3) 0)).bind fun p0 =>
 cond (iLt i_6 (Int.ofNat p0.2.1))
 ((gL (rdC h (Addr.add f_1 3) 0)).bind fun p1 =>
 (p1.1).bind fun a2 =>
 cond (inB i_6 p1.2.1)
 ((gS (rdC h (Addr.add (Addr.add a2 ((Int.toNat i_6) * 3)) 0) 0)).bind fun x3 =>
 (N h [(.string x3)] 1).bind fun p4 =>
 (appL 1 16 (.slice names_3 names_3n names_3c) (.slice (some ⟨p4.1,0,none⟩) 1 1) p4.2).bind fun p5 =>
 (gL (rdC p5.2 (Addr.add f_1 3) 0)).bind fun p6 =>
 (p6.1).bind fun a7 =>
 cond (inB i_6 p6.2.1)
 ((gI .i64 (rdC p5.2 (Addr.add (Addr.add a7 ((Int.toNat i_6) * 3)) 1) 0)).bind fun n8 =>
 (runS Tryz.prog n 38 [(.int .i64 n8)] p5.2).bind fun p9 =>
 (gB (some p9.1)).bind fun b10 =>
 cond (Bool.not b10)
 (some (exitR h0 p9.2 (.bool false)))
 (c18_2 n m0 h0 f_1 p5.1.1 p5.1.2.1 p5.1.2.2 (iAdd .i64 i_6 1) p9.2))
 (none))
 (none))
 (c18_4 n n h0 f_1 names_3 names_3n names_3c 0 h):=by kernel_rfl
theorem c18_3_eq (N : NewF) (n m0 : Nat) (h0 : AH) (f_1 : Addr) (names_3 : Option Addr) (names_3n names_3c : Nat) (i_4 : Int) (a_5 : Addr) (t_41 : Int) (t_42 : Bool) (h : AH) : c18_3Y N n m0 h0 f_1 names_3 names_3n names_3c i_4 a_5 t_41 t_42 h =
 cond t_42
 ((gI .i64 (rdC h (Addr.add a_5 4) 0)).bind fun n0 =>
 cond (iNe n0 0)
 (some (exitR h0 h (.bool false)))
 ((gI .i64 (rdC h (Addr.add a_5 3) 0)).bind fun n1 =>
 cond (iEq n1 3)
 ((gI .i64 (rdC h (Addr.add a_5 2) 0)).bind fun n2 =>
 cond (iLt 64 n2)
 (some (exitR h0 h (.bool false)))
 (c18_0 n m0 h0 f_1 names_3 names_3n names_3c (iAdd .i64 i_4 1) h))
 (c18_0 n m0 h0 f_1 names_3 names_3n names_3c (iAdd .i64 i_4 1) h)))
 (cond (iEq t_41 1)
 (c18_5 n m0 h0 f_1 names_3 names_3n names_3c i_4 a_5 true h)
 (c18_5 n m0 h0 f_1 names_3 names_3n names_3c i_4 a_5 (iEq t_41 2) h)):=by kernel_rfl
theorem c18_4_eq (N : NewF) (n m0 : Nat) (h0 : AH) (f_1 : Addr) (names_3 : Option Addr) (names_3n names_3c : Nat) (i_7 : Int) (h : AH) : c18_4Y N n m0 h0 f_1 names_3 names_3n names_3c i_7 h =
 cond (iLt i_7 (Int.ofNat names_3n))
 ((names_3).bind fun a0 =>
 cond (inB i_7 names_3n)
 ((gS (rdC h (Addr.add a0 ((Int.toNat i_7) * 1)) 0)).bind fun x1 =>
 (runS Tryz.prog n 11 [(.string x1)] h).bind fun p2 =>
 (gB (some p2.1)).bind fun b3 =>
 cond (Bool.not b3)
 (some (exitR h0 p2.2 (.bool false)))
 (c18_6 n n m0 h0 f_1 names_3 names_3n names_3c i_7 0 p2.2))
 (none))
 ((gL (rdC h (Addr.add f_1 2) 0)).bind fun p4 =>
 cond (iLe (Int.ofNat p4.2.1) 64)
 ((gL (rdC h (Addr.add f_1 3) 0)).bind fun p5 =>
 some (exitR h0 h (.bool (iLe (Int.ofNat p5.2.1) 64))))
 (some (exitR h0 h (.bool false)))):=by kernel_rfl
theorem c18_5_eq (N : NewF) (n m0 : Nat) (h0 : AH) (f_1 : Addr) (names_3 : Option Addr) (names_3n names_3c : Nat) (i_4 : Int) (a_5 : Addr) (t_58 : Bool) (h : AH) : c18_5Y N n m0 h0 f_1 names_3 names_3n names_3c i_4 a_5 t_58 h =
 cond t_58
 ((gI .i64 (rdC h (Addr.add a_5 4) 0)).bind fun n0 =>
 cond (iLt n0 1)
 (some (exitR h0 h (.bool false)))
 ((gI .i64 (rdC h (Addr.add a_5 4) 0)).bind fun n1 =>
 (gI .i64 (rdC h (Addr.add a_5 2) 0)).bind fun n2 =>
 cond (iLt (iMin n2 64) n1)
 (some (exitR h0 h (.bool false)))
 (c18_0 n m0 h0 f_1 names_3 names_3n names_3c (iAdd .i64 i_4 1) h)))
 (some (exitR h0 h (.bool false))):=by kernel_rfl
theorem c18_6_eq (N : NewF) (n m0 m1 : Nat) (h0 : AH) (f_1 : Addr) (names_3 : Option Addr) (names_3n names_3c : Nat) (i_7 k_8 : Int) (h : AH) : c18_6Y N n m0 m1 h0 f_1 names_3 names_3n names_3c i_7 k_8 h =
 cond (iLt k_8 i_7)
 ((names_3).bind fun a0 =>
 cond (inB k_8 names_3n)
 ((gS (rdC h (Addr.add a0 ((Int.toNat k_8) * 1)) 0)).bind fun x1 =>
 (names_3).bind fun a2 =>
 cond (inB i_7 names_3n)
 ((gS (rdC h (Addr.add a2 ((Int.toNat i_7) * 1)) 0)).bind fun x3 =>
 cond (BEq.beq (ByteArray.toList x1) (ByteArray.toList x3))
 (some (exitR h0 h (.bool false)))
 (c18_6 n m0 m1 h0 f_1 names_3 names_3n names_3c i_7 (iAdd .i64 k_8 1) h))
 (none))
 (none))
 (c18_4 n m1 h0 f_1 names_3 names_3n names_3c (iAdd .i64 i_7 1) h):=by kernel_rfl
def p17 : List (List Nat × List Nat):=[([0,1,0,1],[0,3])]
section
variable (N : NewF) (n m0 : Nat) (h0 : AH) (s_0 : ByteArray) (i_3 : Int) (h : AH)
 noncomputable def c17_0 : Option (Go.Value × AH):=resY Tryz.prog n Tryz.f11 h0 (.head (subC (bodyC Tryz.f11) [1,0,1,0,0]) [0,1,0,1] m0) [.block 0,.seq (subC (bodyC Tryz.f11) [1,1]) [1,1]] (E [(0,.string s_0),(3,.int .i64 i_3)]) h
 noncomputable def c17_0Y : Option (Go.Value × AH):=yhead Tryz.prog (runS Tryz.prog n) n Tryz.f11 h0 p17 N (resY Tryz.prog n Tryz.f11 h0) (subC (bodyC Tryz.f11) [1,0,1,0,0]) [0,1,0,1] m0 [.block 0,.seq (subC (bodyC Tryz.f11) [1,1]) [1,1]] (E [(0,.string s_0),(3,.int .i64 i_3)]) h
variable {n m0} {h0} {s_0 i_3} {h}
theorem c17_0_ok {r : Go.Value × AH} (hv : c17_0Y hNew n m0 h0 s_0 i_3 h = some r) : c17_0 n (m0 + 1) h0 s_0 i_3 h = some r:=yhead_ok hv
end
 noncomputable def t17Y (N : NewF) (n : Nat) (s_0 : ByteArray) (h : AH) : Option (Go.Value × AH):=yrun Tryz.prog (runS Tryz.prog n) n p17 N (resY Tryz.prog n) 11 [(.string s_0)] h
theorem t17_ok {n : Nat} {s_0 : ByteArray} {h : AH} {r : Go.Value × AH} (hv : t17Y hNew n s_0 h = some r) : runS Tryz.prog (n + 1) 11 [(.string s_0)] h = some r:=yrun_ok hv
theorem t17 (N : NewF) (n : Nat) (s_0 : ByteArray) (h : AH) : t17Y N n s_0 h =
 c17_0 n n h s_0 0 (setLow h h.next):=by kernel_rfl
theorem c17_0_eq (N : NewF) (n m0 : Nat) (h0 : AH) (s_0 : ByteArray) (i_3 : Int) (h : AH) : c17_0Y N n m0 h0 s_0 i_3 h =
 cond (iLt i_3 (Int.ofNat (ByteArray.size s_0)))
 ((sIx s_0 i_3).bind fun n0 =>
 (runS Tryz.prog n 36 [(.int .u8 n0)] h).bind fun p1 =>
 (gB (some p1.1)).bind fun b2 =>
 cond (Bool.not b2)
 (cond (iEq i_3 0)
 (some (exitR h0 p1.2 (.bool false)))
 ((sIx s_0 i_3).bind fun n3 =>
 (runS Tryz.prog n 37 [(.int .u8 n3),(.int .i64 10)] p1.2).bind fun p4 =>
 (gI .i64 (some p4.1)).bind fun n5 =>
 cond (iLt n5 0)
 (some (exitR h0 p4.2 (.bool false)))
 (c17_0 n m0 h0 s_0 (iAdd .i64 i_3 1) p4.2)))
 (c17_0 n m0 h0 s_0 (iAdd .i64 i_3 1) p1.2))
 (cond (iLe 1 (Int.ofNat (ByteArray.size s_0)))
 (some (exitR h0 h (.bool (iLe (Int.ofNat (ByteArray.size s_0)) 64))))
 (some (exitR h0 h (.bool false)))):=by kernel_rfl
def p51 : List (List Nat × List Nat):=[]
 noncomputable def t51Y (N : NewF) (n : Nat) (c_0 : Int) (h : AH) : Option (Go.Value × AH):=yrun Tryz.prog (runS Tryz.prog n) n p51 N (resY Tryz.prog n) 36 [(.int .u8 c_0)] h
theorem t51_ok {n : Nat} {c_0 : Int} {h : AH} {r : Go.Value × AH} (hv : t51Y hNew n c_0 h = some r) : runS Tryz.prog (n + 1) 36 [(.int .u8 c_0)] h = some r:=yrun_ok hv
theorem t51 (N : NewF) (n : Nat) (c_0 : Int) (h : AH) : t51Y N n c_0 h =
 cond (iLe 97 c_0)
 (cond (iLe c_0 122)
 (some (exitR h (setLow h h.next) (.bool true)))
 (cond (iLe 65 c_0)
 (cond (iLe c_0 90)
 (some (exitR h (setLow h h.next) (.bool true)))
 (some (exitR h (setLow h h.next) (.bool (iEq c_0 95)))))
 (some (exitR h (setLow h h.next) (.bool (iEq c_0 95))))))
 (cond (iLe 65 c_0)
 (cond (iLe c_0 90)
 (some (exitR h (setLow h h.next) (.bool true)))
 (some (exitR h (setLow h h.next) (.bool (iEq c_0 95)))))
 (some (exitR h (setLow h h.next) (.bool (iEq c_0 95))))):=by kernel_rfl
def p52 : List (List Nat × List Nat):=[([1,1,1],[0,1,5]),([1,1,1,1],[0,1,5]),([1,1,1,1,1],[1,5])]
section
variable (N : NewF) (n : Nat) (h0 : AH) (c_0 base_1 n_5 : Int) (h : AH)
 noncomputable def c52_0 : Option (Go.Value × AH):=resY Tryz.prog n Tryz.f37 h0 (.code (subC (bodyC Tryz.f37) [1,1,1]) [1,1,1]) [] (E [(0,.int .u8 c_0),(1,.int .i64 base_1),(5,.int .i64 n_5)]) h
 noncomputable def c52_0Y : Option (Go.Value × AH):=yfrom Tryz.prog (runS Tryz.prog n) n Tryz.f37 h0 p52 N (resY Tryz.prog n Tryz.f37 h0) (subC (bodyC Tryz.f37) [1,1,1]) [1,1,1] [] (E [(0,.int .u8 c_0),(1,.int .i64 base_1),(5,.int .i64 n_5)]) h
variable {n} {h0} {c_0 base_1 n_5} {h}
theorem c52_0_ok {r : Go.Value × AH} (hv : c52_0Y hNew n h0 c_0 base_1 n_5 h = some r) : c52_0 n h0 c_0 base_1 n_5 h = some r:=yfrom_ok hv
end
section
variable (N : NewF) (n : Nat) (h0 : AH) (c_0 base_1 n_5 : Int) (h : AH)
 noncomputable def c52_1 : Option (Go.Value × AH):=resY Tryz.prog n Tryz.f37 h0 (.code (subC (bodyC Tryz.f37) [1,1,1,1]) [1,1,1,1]) [] (E [(0,.int .u8 c_0),(1,.int .i64 base_1),(5,.int .i64 n_5)]) h
 noncomputable def c52_1Y : Option (Go.Value × AH):=yfrom Tryz.prog (runS Tryz.prog n) n Tryz.f37 h0 p52 N (resY Tryz.prog n Tryz.f37 h0) (subC (bodyC Tryz.f37) [1,1,1,1]) [1,1,1,1] [] (E [(0,.int .u8 c_0),(1,.int .i64 base_1),(5,.int .i64 n_5)]) h
variable {n} {h0} {c_0 base_1 n_5} {h}
theorem c52_1_ok {r : Go.Value × AH} (hv : c52_1Y hNew n h0 c_0 base_1 n_5 h = some r) : c52_1 n h0 c_0 base_1 n_5 h = some r:=yfrom_ok hv
end
section
variable (N : NewF) (n : Nat) (h0 : AH) (base_1 n_5 : Int) (h : AH)
 noncomputable def c52_2 : Option (Go.Value × AH):=resY Tryz.prog n Tryz.f37 h0 (.code (subC (bodyC Tryz.f37) [1,1,1,1,1]) [1,1,1,1,1]) [] (E [(1,.int .i64 base_1),(5,.int .i64 n_5)]) h
 noncomputable def c52_2Y : Option (Go.Value × AH):=yfrom Tryz.prog (runS Tryz.prog n) n Tryz.f37 h0 p52 N (resY Tryz.prog n Tryz.f37 h0) (subC (bodyC Tryz.f37) [1,1,1,1,1]) [1,1,1,1,1] [] (E [(1,.int .i64 base_1),(5,.int .i64 n_5)]) h
variable {n} {h0} {base_1 n_5} {h}
theorem c52_2_ok {r : Go.Value × AH} (hv : c52_2Y hNew n h0 base_1 n_5 h = some r) : c52_2 n h0 base_1 n_5 h = some r:=yfrom_ok hv
end
 noncomputable def t52Y (N : NewF) (n : Nat) (c_0 base_1 : Int) (h : AH) : Option (Go.Value × AH):=yrun Tryz.prog (runS Tryz.prog n) n p52 N (resY Tryz.prog n) 37 [(.int .u8 c_0),(.int .i64 base_1)] h
theorem t52_ok {n : Nat} {c_0 base_1 : Int} {h : AH} {r : Go.Value × AH} (hv : t52Y hNew n c_0 base_1 h = some r) : runS Tryz.prog (n + 1) 37 [(.int .u8 c_0),(.int .i64 base_1)] h = some r:=yrun_ok hv
theorem t52 (N : NewF) (n : Nat) (c_0 base_1 : Int) (h : AH) : t52Y N n c_0 base_1 h =
 cond (iLe 48 c_0)
 (cond (iLe c_0 57)
 (c52_0 n h c_0 base_1 (iConv .i64 (iSub .u8 c_0 48)) (setLow h h.next))
 (c52_0 n h c_0 base_1 (-1) (setLow h h.next)))
 (c52_0 n h c_0 base_1 (-1) (setLow h h.next)):=by kernel_rfl
theorem c52_0_eq (N : NewF) (n  : Nat) (h0 : AH) (c_0 base_1 n_5 : Int) (h : AH) : c52_0Y N n  h0 c_0 base_1 n_5 h =
 cond (iLe 97 c_0)
 (cond (iLe c_0 102)
 (c52_1 n h0 c_0 base_1 (iAdd .i64 (iConv .i64 (iSub .u8 c_0 97)) 10) h)
 (c52_1 n h0 c_0 base_1 n_5 h))
 (c52_1 n h0 c_0 base_1 n_5 h):=by kernel_rfl
theorem c52_1_eq (N : NewF) (n  : Nat) (h0 : AH) (c_0 base_1 n_5 : Int) (h : AH) : c52_1Y N n  h0 c_0 base_1 n_5 h =
 cond (iLe 65 c_0)
 (cond (iLe c_0 70)
 (c52_2 n h0 base_1 (iAdd .i64 (iConv .i64 (iSub .u8 c_0 65)) 10) h)
 (c52_2 n h0 base_1 n_5 h))
 (c52_2 n h0 base_1 n_5 h):=by kernel_rfl
theorem c52_2_eq (N : NewF) (n  : Nat) (h0 : AH) (base_1 n_5 : Int) (h : AH) : c52_2Y N n  h0 base_1 n_5 h =
 cond (iLe base_1 n_5)
 (some (exitR h0 h (.int .i64 (-1))))
 (some (exitR h0 h (.int .i64 n_5))):=by kernel_rfl
end Go.Proofs.YtpadjdokjppopaaGreatDoor.Kb
