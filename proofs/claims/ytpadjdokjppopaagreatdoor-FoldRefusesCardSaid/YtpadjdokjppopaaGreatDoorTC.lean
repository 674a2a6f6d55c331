/- Joined texts: TC. -/
import Derived.KernelRfl
import Derived.Test.YtpadjdokjppopaaGreatDoorYA
import Derived.Test.YtpadjdokjppopaaGreatDoorProg
namespace Go.Proofs.YtpadjdokjppopaaGreatDoor.Kb
open Go Go.Proofs Go.Proofs.YtpadjdokjppopaaGreatDoor Go.Proofs.YtpadjdokjppopaaGreatDoor.X
set_option maxRecDepth 100000
set_option linter.unusedVariables false
def p28 : List (List Nat × List Nat):=[([0,1,0,1],[1,3])]
section
variable (N : NewF) (n m0 : Nat) (h0 : AH) (p_1 : Addr) (i_3 : Int) (h : AH)
 noncomputable def c28_0 : Option (Go.Value × AH):=resY Tryz.prog n Tryz.f9 h0 (.head (subC (bodyC Tryz.f9) [1,0,1,0,0]) [0,1,0,1] m0) [.block 0,.seq (subC (bodyC Tryz.f9) [1,1]) [1,1]] (E [(1,.pointer (some p_1)),(3,.int .i64 i_3)]) h
 noncomputable def c28_0Y : Option (Go.Value × AH):=yhead Tryz.prog (runS Tryz.prog n) n Tryz.f9 h0 p28 N (resY Tryz.prog n Tryz.f9 h0) (subC (bodyC Tryz.f9) [1,0,1,0,0]) [0,1,0,1] m0 [.block 0,.seq (subC (bodyC Tryz.f9) [1,1]) [1,1]] (E [(1,.pointer (some p_1)),(3,.int .i64 i_3)]) h
variable {n m0} {h0} {p_1 i_3} {h}
theorem c28_0_ok {r : Go.Value × AH} (hv : c28_0Y hNew n m0 h0 p_1 i_3 h = some r) : c28_0 n (m0 + 1) h0 p_1 i_3 h = some r:=yhead_ok hv
end
 noncomputable def t28Y (N : NewF) (n : Nat) (p_0a : Option Addr) (p_0an p_0ac : Nat) (p_0b : Option Addr) (p_0bn p_0bc : Nat) (h : AH) : Option (Go.Value × AH):=yrun Tryz.prog (runS Tryz.prog n) n p28 N (resY Tryz.prog n) 9 [(.agg #[(.slice p_0a p_0an p_0ac),(.slice p_0b p_0bn p_0bc)])] h
theorem t28_ok {n : Nat} {p_0a : Option Addr} {p_0an p_0ac : Nat} {p_0b : Option Addr} {p_0bn p_0bc : Nat} {h : AH} {r : Go.Value × AH} (hv : t28Y hNew n p_0a p_0an p_0ac p_0b p_0bn p_0bc h = some r) : runS Tryz.prog (n + 1) 9 [(.agg #[(.slice p_0a p_0an p_0ac),(.slice p_0b p_0bn p_0bc)])] h = some r:=yrun_ok hv
theorem t28 (N : NewF) (n : Nat) (p_0a : Option Addr) (p_0an p_0ac : Nat) (p_0b : Option Addr) (p_0bn p_0bc : Nat) (h : AH) : t28Y N n p_0a p_0an p_0ac p_0b p_0bn p_0bc h =
 (N (setLow h h.next) [(.slice p_0a p_0an p_0ac),(.slice p_0b p_0bn p_0bc)] 0).bind fun p0 =>
 c28_0 n n h ⟨p0.1,0,none⟩ 0 p0.2:=by kernel_rfl
theorem c28_0_eq (N : NewF) (n m0 : Nat) (h0 : AH) (p_1 : Addr) (i_3 : Int) (h : AH) : c28_0Y N n m0 h0 p_1 i_3 h =
 (gL (rdC h (Addr.add p_1 0) 0)).bind fun p0 =>
 cond (iLt i_3 (Int.ofNat p0.2.1))
 ((gL (rdC h (Addr.add p_1 0) 0)).bind fun p1 =>
 (p1.1).bind fun a2 =>
 cond (inB i_3 p1.2.1)
 ((gL (rdC h (Addr.add (Addr.add a2 ((Int.toNat i_3) * 9)) 0) 0)).bind fun p3 =>
 cond (iLt 4 (Int.ofNat p3.2.1))
 (some (exitR h0 h (.bool false)))
 ((gL (rdC h (Addr.add p_1 0) 0)).bind fun p4 =>
 (p4.1).bind fun a5 =>
 cond (inB i_3 p4.2.1)
 ((gL (rdC h (Addr.add (Addr.add a5 ((Int.toNat i_3) * 9)) 1) 0)).bind fun p6 =>
 cond (iLt 12 (Int.ofNat p6.2.1))
 (some (exitR h0 h (.bool false)))
 (c28_0 n m0 h0 p_1 (iAdd .i64 i_3 1) h))
 (none)))
 (none))
 ((gL (rdC h (Addr.add p_1 0) 0)).bind fun p7 =>
 cond (iLe 1 (Int.ofNat p7.2.1))
 ((gL (rdC h (Addr.add p_1 0) 0)).bind fun p8 =>
 cond (iLe (Int.ofNat p8.2.1) 5)
 ((gL (rdC h (Addr.add p_1 1) 0)).bind fun p9 =>
 some (exitR h0 h (.bool (iLe (Int.ofNat p9.2.1) 3))))
 (some (exitR h0 h (.bool false))))
 (some (exitR h0 h (.bool false)))):=by kernel_rfl
def p29 : List (List Nat × List Nat):=[([0,1,0,1,1,1,1],[1,2,3,4]),([0,1,0,1,1,1,1,1,1],[1,2,3,5,6]),([0,1,0,1,0,0,1,0,0,1,0,1,1,1,1,1,1],[1,2,3,5,6,7,8]),([0,1,0,1,1,1,1,1,1,1],[1,2,3,5,9]),([0,1,0,1,1,1,0,0,1,0,0,1,0,1,1,1,1,1,1,1],[1,2,3,5,9,10,11]),([1,1,0,0,1,1,1,1,1,1,0,0,1,0,0,1,0,1,1,1,1,1,1,1],[1,2,3,5,9,10,12,13]),([0,1,0,1,0,0,1,1,1,1,1,1,0,0,1,0,0,1,0,1,1,1,1,1,1,1],[1,2,3,5,9,10,12,14]),([1,1,1,1,1,1,1,0,0,1,0,0,1,0,1,1,1,1,1,1,1],[1,2,3,5,9,12]),([9],[])]
section
variable (N : NewF) (n m0 : Nat) (h0 : AH) (p_1 t_2 b_3 : Addr) (i_4 : Int) (h : AH)
 noncomputable def c29_0 : Option (Go.Value × AH):=resY Tryz.prog n Tryz.f10 h0 (.head (subC (bodyC Tryz.f10) [1,1,1,1,0,1,0,0]) [0,1,0,1,1,1,1] m0) [.block 0,.seq (subC (bodyC Tryz.f10) [1,1,1,1,1]) [1,1,1,1,1]] (E [(1,.pointer (some p_1)),(2,.pointer (some t_2)),(3,.pointer (some b_3)),(4,.int .i64 i_4)]) h
 noncomputable def c29_0Y : Option (Go.Value × AH):=yhead Tryz.prog (runS Tryz.prog n) n Tryz.f10 h0 p29 N (resY Tryz.prog n Tryz.f10 h0) (subC (bodyC Tryz.f10) [1,1,1,1,0,1,0,0]) [0,1,0,1,1,1,1] m0 [.block 0,.seq (subC (bodyC Tryz.f10) [1,1,1,1,1]) [1,1,1,1,1]] (E [(1,.pointer (some p_1)),(2,.pointer (some t_2)),(3,.pointer (some b_3)),(4,.int .i64 i_4)]) h
variable {n m0} {h0} {p_1 t_2 b_3 i_4} {h}
theorem c29_0_ok {r : Go.Value × AH} (hv : c29_0Y hNew n m0 h0 p_1 t_2 b_3 i_4 h = some r) : c29_0 n (m0 + 1) h0 p_1 t_2 b_3 i_4 h = some r:=yhead_ok hv
end
section
variable (N : NewF) (n m0 : Nat) (h0 : AH) (p_1 t_2 b_3 : Addr) (params_5 : Option Addr) (params_5n params_5c : Nat) (i_6 : Int) (h : AH)
 noncomputable def c29_1 : Option (Go.Value × AH):=resY Tryz.prog n Tryz.f10 h0 (.head (subC (bodyC Tryz.f10) [1,1,1,1,1,1,0,1,0,0]) [0,1,0,1,1,1,1,1,1] m0) [.block 2,.seq (subC (bodyC Tryz.f10) [1,1,1,1,1,1,1]) [1,1,1,1,1,1,1]] (E [(1,.pointer (some p_1)),(2,.pointer (some t_2)),(3,.pointer (some b_3)),(5,.slice params_5 params_5n params_5c),(6,.int .i64 i_6)]) h
 noncomputable def c29_1Y : Option (Go.Value × AH):=yhead Tryz.prog (runS Tryz.prog n) n Tryz.f10 h0 p29 N (resY Tryz.prog n Tryz.f10 h0) (subC (bodyC Tryz.f10) [1,1,1,1,1,1,0,1,0,0]) [0,1,0,1,1,1,1,1,1] m0 [.block 2,.seq (subC (bodyC Tryz.f10) [1,1,1,1,1,1,1]) [1,1,1,1,1,1,1]] (E [(1,.pointer (some p_1)),(2,.pointer (some t_2)),(3,.pointer (some b_3)),(5,.slice params_5 params_5n params_5c),(6,.int .i64 i_6)]) h
variable {n m0} {h0} {p_1 t_2 b_3 params_5 params_5n params_5c i_6} {h}
theorem c29_1_ok {r : Go.Value × AH} (hv : c29_1Y hNew n m0 h0 p_1 t_2 b_3 params_5 params_5n params_5c i_6 h = some r) : c29_1 n (m0 + 1) h0 p_1 t_2 b_3 params_5 params_5n params_5c i_6 h = some r:=yhead_ok hv
end
section
variable (N : NewF) (n m0 m1 : Nat) (h0 : AH) (p_1 t_2 b_3 : Addr) (params_5 : Option Addr) (params_5n params_5c : Nat) (i_6 : Int) (l_7 : Option Addr) (l_7n l_7c : Nat) (k_8 : Int) (h : AH)
 noncomputable def c29_2 : Option (Go.Value × AH):=resY Tryz.prog n Tryz.f10 h0 (.head (subC (bodyC Tryz.f10) [1,1,1,1,1,1,0,1,0,0,1,0,0,1,0,1,0,0]) [0,1,0,1,0,0,1,0,0,1,0,1,1,1,1,1,1] m0) [.block 4,.seq (subC (bodyC Tryz.f10) [1,1,1,1,1,1,0,1,0,0,1,0,0,1,1]) [1,1,0,0,1,0,0,1,0,1,1,1,1,1,1],.block 3,.seq (subC (bodyC Tryz.f10) [1,1,1,1,1,1,0,1,0,0,1,1]) [1,1,0,0,1,0,1,1,1,1,1,1],.loop (subC (bodyC Tryz.f10) [1,1,1,1,1,1,0,1,0,0]) [0,1,0,1,1,1,1,1,1] m1,.block 2,.seq (subC (bodyC Tryz.f10) [1,1,1,1,1,1,1]) [1,1,1,1,1,1,1]] (E [(1,.pointer (some p_1)),(2,.pointer (some t_2)),(3,.pointer (some b_3)),(5,.slice params_5 params_5n params_5c),(6,.int .i64 i_6),(7,.slice l_7 l_7n l_7c),(8,.int .i64 k_8)]) h
 noncomputable def c29_2Y : Option (Go.Value × AH):=yhead Tryz.prog (runS Tryz.prog n) n Tryz.f10 h0 p29 N (resY Tryz.prog n Tryz.f10 h0) (subC (bodyC Tryz.f10) [1,1,1,1,1,1,0,1,0,0,1,0,0,1,0,1,0,0]) [0,1,0,1,0,0,1,0,0,1,0,1,1,1,1,1,1] m0 [.block 4,.seq (subC (bodyC Tryz.f10) [1,1,1,1,1,1,0,1,0,0,1,0,0,1,1]) [1,1,0,0,1,0,0,1,0,1,1,1,1,1,1],.block 3,.seq (subC (bodyC Tryz.f10) [1,1,1,1,1,1,0,1,0,0,1,1]) [1,1,0,0,1,0,1,1,1,1,1,1],.loop (subC (bodyC Tryz.f10) [1,1,1,1,1,1,0,1,0,0]) [0,1,0,1,1,1,1,1,1] m1,.block 2,.seq (subC (bodyC Tryz.f10) [1,1,1,1,1,1,1]) [1,1,1,1,1,1,1]] (E [(1,.pointer (some p_1)),(2,.pointer (some t_2)),(3,.pointer (some b_3)),(5,.slice params_5 params_5n params_5c),(6,.int .i64 i_6),(7,.slice l_7 l_7n l_7c),(8,.int .i64 k_8)]) h
variable {n m0 m1} {h0} {p_1 t_2 b_3 params_5 params_5n params_5c i_6 l_7 l_7n l_7c k_8} {h}
theorem c29_2_ok {r : Go.Value × AH} (hv : c29_2Y hNew n m0 m1 h0 p_1 t_2 b_3 params_5 params_5n params_5c i_6 l_7 l_7n l_7c k_8 h = some r) : c29_2 n (m0 + 1) m1 h0 p_1 t_2 b_3 params_5 params_5n params_5c i_6 l_7 l_7n l_7c k_8 h = some r:=yhead_ok hv
end
section
variable (N : NewF) (n m0 : Nat) (h0 : AH) (p_1 t_2 b_3 : Addr) (params_5 : Option Addr) (params_5n params_5c : Nat) (i_9 : Int) (h : AH)
 noncomputable def c29_3 : Option (Go.Value × AH):=resY Tryz.prog n Tryz.f10 h0 (.head (subC (bodyC Tryz.f10) [1,1,1,1,1,1,1,0,1,0,0]) [0,1,0,1,1,1,1,1,1,1] m0) [.block 6,.seq (subC (bodyC Tryz.f10) [1,1,1,1,1,1,1,1]) [1,1,1,1,1,1,1,1]] (E [(1,.pointer (some p_1)),(2,.pointer (some t_2)),(3,.pointer (some b_3)),(5,.slice params_5 params_5n params_5c),(9,.int .i64 i_9)]) h
 noncomputable def c29_3Y : Option (Go.Value × AH):=yhead Tryz.prog (runS Tryz.prog n) n Tryz.f10 h0 p29 N (resY Tryz.prog n Tryz.f10 h0) (subC (bodyC Tryz.f10) [1,1,1,1,1,1,1,0,1,0,0]) [0,1,0,1,1,1,1,1,1,1] m0 [.block 6,.seq (subC (bodyC Tryz.f10) [1,1,1,1,1,1,1,1]) [1,1,1,1,1,1,1,1]] (E [(1,.pointer (some p_1)),(2,.pointer (some t_2)),(3,.pointer (some b_3)),(5,.slice params_5 params_5n params_5c),(9,.int .i64 i_9)]) h
variable {n m0} {h0} {p_1 t_2 b_3 params_5 params_5n params_5c i_9} {h}
theorem c29_3_ok {r : Go.Value × AH} (hv : c29_3Y hNew n m0 h0 p_1 t_2 b_3 params_5 params_5n params_5c i_9 h = some r) : c29_3 n (m0 + 1) h0 p_1 t_2 b_3 params_5 params_5n params_5c i_9 h = some r:=yhead_ok hv
end
section
variable (N : NewF) (n m0 m1 : Nat) (h0 : AH) (p_1 t_2 b_3 : Addr) (params_5 : Option Addr) (params_5n params_5c : Nat) (i_9 : Int) (x_10 : Addr) (k_11 : Int) (h : AH)
 noncomputable def c29_4 : Option (Go.Value × AH):=resY Tryz.prog n Tryz.f10 h0 (.head (subC (bodyC Tryz.f10) [1,1,1,1,1,1,1,0,1,0,0,1,0,0,1,1,1,0,1,0,0]) [0,1,0,1,1,1,0,0,1,0,0,1,0,1,1,1,1,1,1,1] m0) [.block 8,.seq (subC (bodyC Tryz.f10) [1,1,1,1,1,1,1,0,1,0,0,1,0,0,1,1,1,1]) [1,1,1,1,0,0,1,0,0,1,0,1,1,1,1,1,1,1],.block 7,.seq (subC (bodyC Tryz.f10) [1,1,1,1,1,1,1,0,1,0,0,1,1]) [1,1,0,0,1,0,1,1,1,1,1,1,1],.loop (subC (bodyC Tryz.f10) [1,1,1,1,1,1,1,0,1,0,0]) [0,1,0,1,1,1,1,1,1,1] m1,.block 6,.seq (subC (bodyC Tryz.f10) [1,1,1,1,1,1,1,1]) [1,1,1,1,1,1,1,1]] (E [(1,.pointer (some p_1)),(2,.pointer (some t_2)),(3,.pointer (some b_3)),(5,.slice params_5 params_5n params_5c),(9,.int .i64 i_9),(10,.pointer (some x_10)),(11,.int .i64 k_11)]) h
 noncomputable def c29_4Y : Option (Go.Value × AH):=yhead Tryz.prog (runS Tryz.prog n) n Tryz.f10 h0 p29 N (resY Tryz.prog n Tryz.f10 h0) (subC (bodyC Tryz.f10) [1,1,1,1,1,1,1,0,1,0,0,1,0,0,1,1,1,0,1,0,0]) [0,1,0,1,1,1,0,0,1,0,0,1,0,1,1,1,1,1,1,1] m0 [.block 8,.seq (subC (bodyC Tryz.f10) [1,1,1,1,1,1,1,0,1,0,0,1,0,0,1,1,1,1]) [1,1,1,1,0,0,1,0,0,1,0,1,1,1,1,1,1,1],.block 7,.seq (subC (bodyC Tryz.f10) [1,1,1,1,1,1,1,0,1,0,0,1,1]) [1,1,0,0,1,0,1,1,1,1,1,1,1],.loop (subC (bodyC Tryz.f10) [1,1,1,1,1,1,1,0,1,0,0]) [0,1,0,1,1,1,1,1,1,1] m1,.block 6,.seq (subC (bodyC Tryz.f10) [1,1,1,1,1,1,1,1]) [1,1,1,1,1,1,1,1]] (E [(1,.pointer (some p_1)),(2,.pointer (some t_2)),(3,.pointer (some b_3)),(5,.slice params_5 params_5n params_5c),(9,.int .i64 i_9),(10,.pointer (some x_10)),(11,.int .i64 k_11)]) h
variable {n m0 m1} {h0} {p_1 t_2 b_3 params_5 params_5n params_5c i_9 x_10 k_11} {h}
theorem c29_4_ok {r : Go.Value × AH} (hv : c29_4Y hNew n m0 m1 h0 p_1 t_2 b_3 params_5 params_5n params_5c i_9 x_10 k_11 h = some r) : c29_4 n (m0 + 1) m1 h0 p_1 t_2 b_3 params_5 params_5n params_5c i_9 x_10 k_11 h = some r:=yhead_ok hv
end
section
variable (N : NewF) (n m0 m1 : Nat) (h0 : AH) (p_1 t_2 b_3 : Addr) (params_5 : Option Addr) (params_5n params_5c : Nat) (i_9 : Int) (x_10 t_12 : Addr) (k_14 : Int) (h : AH)
 noncomputable def c29_5 : Option (Go.Value × AH):=resY Tryz.prog n Tryz.f10 h0 (.head (subC (bodyC Tryz.f10) [1,1,1,1,1,1,1,0,1,0,0,1,0,0,1,1,1,1,1,1,0,0,1,0,1,0,0]) [0,1,0,1,0,0,1,1,1,1,1,1,0,0,1,0,0,1,0,1,1,1,1,1,1,1] m0) [.block 11,.block 10,.seq (subC (bodyC Tryz.f10) [1,1,1,1,1,1,1,0,1,0,0,1,0,0,1,1,1,1,1,1,1]) [1,1,1,1,1,1,1,0,0,1,0,0,1,0,1,1,1,1,1,1,1],.block 7,.seq (subC (bodyC Tryz.f10) [1,1,1,1,1,1,1,0,1,0,0,1,1]) [1,1,0,0,1,0,1,1,1,1,1,1,1],.loop (subC (bodyC Tryz.f10) [1,1,1,1,1,1,1,0,1,0,0]) [0,1,0,1,1,1,1,1,1,1] m1,.block 6,.seq (subC (bodyC Tryz.f10) [1,1,1,1,1,1,1,1]) [1,1,1,1,1,1,1,1]] (E [(1,.pointer (some p_1)),(2,.pointer (some t_2)),(3,.pointer (some b_3)),(5,.slice params_5 params_5n params_5c),(9,.int .i64 i_9),(10,.pointer (some x_10)),(12,.pointer (some t_12)),(14,.int .i64 k_14)]) h
 noncomputable def c29_5Y : Option (Go.Value × AH):=yhead Tryz.prog (runS Tryz.prog n) n Tryz.f10 h0 p29 N (resY Tryz.prog n Tryz.f10 h0) (subC (bodyC Tryz.f10) [1,1,1,1,1,1,1,0,1,0,0,1,0,0,1,1,1,1,1,1,0,0,1,0,1,0,0]) [0,1,0,1,0,0,1,1,1,1,1,1,0,0,1,0,0,1,0,1,1,1,1,1,1,1] m0 [.block 11,.block 10,.seq (subC (bodyC Tryz.f10) [1,1,1,1,1,1,1,0,1,0,0,1,0,0,1,1,1,1,1,1,1]) [1,1,1,1,1,1,1,0,0,1,0,0,1,0,1,1,1,1,1,1,1],.block 7,.seq (subC (bodyC Tryz.f10) [1,1,1,1,1,1,1,0,1,0,0,1,1]) [1,1,0,0,1,0,1,1,1,1,1,1,1],.loop (subC (bodyC Tryz.f10) [1,1,1,1,1,1,1,0,1,0,0]) [0,1,0,1,1,1,1,1,1,1] m1,.block 6,.seq (subC (bodyC Tryz.f10) [1,1,1,1,1,1,1,1]) [1,1,1,1,1,1,1,1]] (E [(1,.pointer (some p_1)),(2,.pointer (some t_2)),(3,.pointer (some b_3)),(5,.slice params_5 params_5n params_5c),(9,.int .i64 i_9),(10,.pointer (some x_10)),(12,.pointer (some t_12)),(14,.int .i64 k_14)]) h
variable {n m0 m1} {h0} {p_1 t_2 b_3 params_5 params_5n params_5c i_9 x_10 t_12 k_14} {h}
theorem c29_5_ok {r : Go.Value × AH} (hv : c29_5Y hNew n m0 m1 h0 p_1 t_2 b_3 params_5 params_5n params_5c i_9 x_10 t_12 k_14 h = some r) : c29_5 n (m0 + 1) m1 h0 p_1 t_2 b_3 params_5 params_5n params_5c i_9 x_10 t_12 k_14 h = some r:=yhead_ok hv
end
section
variable (N : NewF) (n m0 : Nat) (h0 : AH) (p_1 t_2 b_3 : Addr) (params_5 : Option Addr) (params_5n params_5c : Nat) (i_9 : Int) (x_10 t_12 : Addr) (kind_13 : Int) (h : AH)
 noncomputable def c29_6 : Option (Go.Value × AH):=resY Tryz.prog n Tryz.f10 h0 (.code (subC (bodyC Tryz.f10) [1,1,1,1,1,1,1,0,1,0,0,1,0,0,1,1,1,1,1,1,0,0,1,1]) [1,1,0,0,1,1,1,1,1,1,0,0,1,0,0,1,0,1,1,1,1,1,1,1]) [.block 10,.seq (subC (bodyC Tryz.f10) [1,1,1,1,1,1,1,0,1,0,0,1,0,0,1,1,1,1,1,1,1]) [1,1,1,1,1,1,1,0,0,1,0,0,1,0,1,1,1,1,1,1,1],.block 7,.seq (subC (bodyC Tryz.f10) [1,1,1,1,1,1,1,0,1,0,0,1,1]) [1,1,0,0,1,0,1,1,1,1,1,1,1],.loop (subC (bodyC Tryz.f10) [1,1,1,1,1,1,1,0,1,0,0]) [0,1,0,1,1,1,1,1,1,1] m0,.block 6,.seq (subC (bodyC Tryz.f10) [1,1,1,1,1,1,1,1]) [1,1,1,1,1,1,1,1]] (E [(1,.pointer (some p_1)),(2,.pointer (some t_2)),(3,.pointer (some b_3)),(5,.slice params_5 params_5n params_5c),(9,.int .i64 i_9),(10,.pointer (some x_10)),(12,.pointer (some t_12)),(13,.int .i64 kind_13)]) h
 noncomputable def c29_6Y : Option (Go.Value × AH):=yfrom Tryz.prog (runS Tryz.prog n) n Tryz.f10 h0 p29 N (resY Tryz.prog n Tryz.f10 h0) (subC (bodyC Tryz.f10) [1,1,1,1,1,1,1,0,1,0,0,1,0,0,1,1,1,1,1,1,0,0,1,1]) [1,1,0,0,1,1,1,1,1,1,0,0,1,0,0,1,0,1,1,1,1,1,1,1] [.block 10,.seq (subC (bodyC Tryz.f10) [1,1,1,1,1,1,1,0,1,0,0,1,0,0,1,1,1,1,1,1,1]) [1,1,1,1,1,1,1,0,0,1,0,0,1,0,1,1,1,1,1,1,1],.block 7,.seq (subC (bodyC Tryz.f10) [1,1,1,1,1,1,1,0,1,0,0,1,1]) [1,1,0,0,1,0,1,1,1,1,1,1,1],.loop (subC (bodyC Tryz.f10) [1,1,1,1,1,1,1,0,1,0,0]) [0,1,0,1,1,1,1,1,1,1] m0,.block 6,.seq (subC (bodyC Tryz.f10) [1,1,1,1,1,1,1,1]) [1,1,1,1,1,1,1,1]] (E [(1,.pointer (some p_1)),(2,.pointer (some t_2)),(3,.pointer (some b_3)),(5,.slice params_5 params_5n params_5c),(9,.int .i64 i_9),(10,.pointer (some x_10)),(12,.pointer (some t_12)),(13,.int .i64 kind_13)]) h
variable {n m0} {h0} {p_1 t_2 b_3 params_5 params_5n params_5c i_9 x_10 t_12 kind_13} {h}
theorem c29_6_ok {r : Go.Value × AH} (hv : c29_6Y hNew n m0 h0 p_1 t_2 b_3 params_5 params_5n params_5c i_9 x_10 t_12 kind_13 h = some r) : c29_6 n m0 h0 p_1 t_2 b_3 params_5 params_5n params_5c i_9 x_10 t_12 kind_13 h = some r:=yfrom_ok hv
end
section
variable (N : NewF) (n m0 : Nat) (h0 : AH) (p_1 t_2 b_3 : Addr) (params_5 : Option Addr) (params_5n params_5c : Nat) (i_9 : Int) (t_12 : Addr) (h : AH)
 noncomputable def c29_7 : Option (Go.Value × AH):=resY Tryz.prog n Tryz.f10 h0 (.code (subC (bodyC Tryz.f10) [1,1,1,1,1,1,1,0,1,0,0,1,0,0,1,1,1,1,1,1,1]) [1,1,1,1,1,1,1,0,0,1,0,0,1,0,1,1,1,1,1,1,1]) [.block 7,.seq (subC (bodyC Tryz.f10) [1,1,1,1,1,1,1,0,1,0,0,1,1]) [1,1,0,0,1,0,1,1,1,1,1,1,1],.loop (subC (bodyC Tryz.f10) [1,1,1,1,1,1,1,0,1,0,0]) [0,1,0,1,1,1,1,1,1,1] m0,.block 6,.seq (subC (bodyC Tryz.f10) [1,1,1,1,1,1,1,1]) [1,1,1,1,1,1,1,1]] (E [(1,.pointer (some p_1)),(2,.pointer (some t_2)),(3,.pointer (some b_3)),(5,.slice params_5 params_5n params_5c),(9,.int .i64 i_9),(12,.pointer (some t_12))]) h
 noncomputable def c29_7Y : Option (Go.Value × AH):=yfrom Tryz.prog (runS Tryz.prog n) n Tryz.f10 h0 p29 N (resY Tryz.prog n Tryz.f10 h0) (subC (bodyC Tryz.f10) [1,1,1,1,1,1,1,0,1,0,0,1,0,0,1,1,1,1,1,1,1]) [1,1,1,1,1,1,1,0,0,1,0,0,1,0,1,1,1,1,1,1,1] [.block 7,.seq (subC (bodyC Tryz.f10) [1,1,1,1,1,1,1,0,1,0,0,1,1]) [1,1,0,0,1,0,1,1,1,1,1,1,1],.loop (subC (bodyC Tryz.f10) [1,1,1,1,1,1,1,0,1,0,0]) [0,1,0,1,1,1,1,1,1,1] m0,.block 6,.seq (subC (bodyC Tryz.f10) [1,1,1,1,1,1,1,1]) [1,1,1,1,1,1,1,1]] (E [(1,.pointer (some p_1)),(2,.pointer (some t_2)),(3,.pointer (some b_3)),(5,.slice params_5 params_5n params_5c),(9,.int .i64 i_9),(12,.pointer (some t_12))]) h
variable {n m0} {h0} {p_1 t_2 b_3 params_5 params_5n params_5c i_9 t_12} {h}
theorem c29_7_ok {r : Go.Value × AH} (hv : c29_7Y hNew n m0 h0 p_1 t_2 b_3 params_5 params_5n params_5c i_9 t_12 h = some r) : c29_7 n m0 h0 p_1 t_2 b_3 params_5 params_5n params_5c i_9 t_12 h = some r:=yfrom_ok hv
end
 noncomputable def t29Y (N : NewF) (n : Nat) (p_0a : Option Addr) (p_0an p_0ac : Nat) (p_0b : Option Addr) (p_0bn p_0bc : Nat) (h : AH) : Option (Go.Value × AH):=yrun Tryz.prog (runS Tryz.prog n) n p29 N (resY Tryz.prog n) 10 [(.agg #[(.slice p_0a p_0an p_0ac),(.slice p_0b p_0bn p_0bc)])] h
theorem t29_ok {n : Nat} {p_0a : Option Addr} {p_0an p_0ac : Nat} {p_0b : Option Addr} {p_0bn p_0bc : Nat} {h : AH} {r : Go.Value × AH} (hv : t29Y hNew n p_0a p_0an p_0ac p_0b p_0bn p_0bc h = some r) : runS Tryz.prog (n + 1) 10 [(.agg #[(.slice p_0a p_0an p_0ac),(.slice p_0b p_0bn p_0bc)])] h = some r:=yrun_ok hv
theorem t29 (N : NewF) (n : Nat) (p_0a : Option Addr) (p_0an p_0ac : Nat) (p_0b : Option Addr) (p_0bn p_0bc : Nat) (h : AH) : t29Y N n p_0a p_0an p_0ac p_0b p_0bn p_0bc h =
 (N (setLow h h.next) [(.slice p_0a p_0an p_0ac),(.slice p_0b p_0bn p_0bc)] 0).bind fun p0 =>
 (N p0.2 [(.string (ByteArray.mk (List.toArray []))),(.slice none 0 0),(.slice none 0 0),(.slice none 0 0),(.slice none 0 0),(.slice none 0 0)] 0).bind fun p1 =>
 (N p1.2 [(.string (ByteArray.mk (List.toArray []))),(.slice none 0 0),(.slice none 0 0),(.slice none 0 0),(.slice none 0 0),(.slice none 0 0),(.slice none 0 0),(.slice none 0 0)] 0).bind fun p2 =>
 (stL p2.2 ⟨p2.1,0,none⟩ [(.string (ByteArray.mk (List.toArray [(OfNat.ofNat 102)]))),(.slice none 0 0),(.slice none 0 0),(.slice none 0 0),(.slice none 0 0),(.slice none 0 0),(.slice none 0 0),(.slice none 0 0)]).bind fun x3 =>
 (N x3 [(.string (ByteArray.mk (List.toArray [(OfNat.ofNat 97)]))),(.int .i64 8),(.int .i64 5),(.int .i64 0),(.int .i64 0),(.string (ByteArray.mk (List.toArray [(OfNat.ofNat 98)]))),(.int .i64 16),(.int .i64 3),(.int .i64 0),(.int .i64 0)] 5).bind fun p4 =>
 (stL p4.2 (Addr.add (Addr.add ⟨p2.1,0,none⟩ 0) 2) [(.slice (some ⟨p4.1,0,none⟩) 2 2)]).bind fun x5 =>
 (N x5 [(.string (ByteArray.mk (List.toArray [(OfNat.ofNat 105),(OfNat.ofNat 110)]))),(.int .i64 8),(.bool false),(.string (ByteArray.mk (List.toArray [(OfNat.ofNat 111),(OfNat.ofNat 117),(OfNat.ofNat 116)]))),(.int .i64 8),(.bool true)] 3).bind fun p6 =>
 (stL p6.2 (Addr.add (Addr.add ⟨p2.1,0,none⟩ 0) 3) [(.slice (some ⟨p6.1,0,none⟩) 2 2)]).bind fun x7 =>
 c29_0 n n h ⟨p0.1,0,none⟩ ⟨p1.1,0,none⟩ ⟨p2.1,0,none⟩ 0 x7:=by kernel_rfl
theorem c29_0_eq (N : NewF) (n m0 : Nat) (h0 : AH) (p_1 t_2 b_3 : Addr) (i_4 : Int) (h : AH) : c29_0Y N n m0 h0 p_1 t_2 b_3 i_4 h =
 (gL (rdC h (Addr.add p_1 1) 0)).bind fun p0 =>
 cond (iLt i_4 (Int.ofNat p0.2.1))
 ((gL (rdC h (Addr.add (Addr.add b_3 0) 4) 0)).bind fun p1 =>
 (gL (rdC h (Addr.add p_1 1) 0)).bind fun p2 =>
 (p2.1).bind fun a3 =>
 cond (inB i_4 p2.2.1)
 ((gI .u8 (rdC h (Addr.add a3 ((Int.toNat i_4) * 1)) 0)).bind fun n4 =>
 (runS Tryz.prog n 31 [(.int .u8 n4)] (setLow h h.next)).bind fun p5 =>
 (gI .i64 (some p5.1)).bind fun n6 =>
 cond (Nat.beq p5.2.low h.next)
 ((N (setLow p5.2 h.low) [(.int .i64 n6)] 1).bind fun p7 =>
 (appL 1 8 (.slice p1.1 p1.2.1 p1.2.2) (.slice (some ⟨p7.1,0,none⟩) 1 1) p7.2).bind fun p8 =>
 (stL p8.2 (Addr.add (Addr.add b_3 0) 4) [(.slice p8.1.1 p8.1.2.1 p8.1.2.2)]).bind fun x9 =>
 c29_0 n m0 h0 p_1 t_2 b_3 (iAdd .i64 i_4 1) x9)
 ((gL (rdC h (Addr.add (Addr.add b_3 0) 4) 0)).bind fun p10 =>
 (gL (rdC h (Addr.add p_1 1) 0)).bind fun p11 =>
 (p11.1).bind fun a12 =>
 cond (inB i_4 p11.2.1)
 ((gI .u8 (rdC h (Addr.add a12 ((Int.toNat i_4) * 1)) 0)).bind fun n13 =>
 (runS Tryz.prog n 31 [(.int .u8 n13)] h).bind fun p14 =>
 (gI .i64 (some p14.1)).bind fun n15 =>
 (N p14.2 [(.int .i64 n15)] 1).bind fun p16 =>
 (appL 1 8 (.slice p10.1 p10.2.1 p10.2.2) (.slice (some ⟨p16.1,0,none⟩) 1 1) p16.2).bind fun p17 =>
 (stL p17.2 (Addr.add (Addr.add b_3 0) 4) [(.slice p17.1.1 p17.1.2.1 p17.1.2.2)]).bind fun x18 =>
 cond (Bool.and (Bool.and (sameC h p14.2 (Addr.add (Addr.add b_3 0) 4) 1) (Bool.and (sameC h p16.2 (Addr.add (Addr.add b_3 0) 4) 1) true)) true)
 (c29_0 n m0 h0 p_1 t_2 b_3 (iAdd .i64 i_4 1) x18)
 (none))
 (none)))
 (none))
 (c29_1 n n h0 p_1 t_2 b_3 none 0 0 0 h):=by kernel_rfl
theorem c29_1_eq (N : NewF) (n m0 : Nat) (h0 : AH) (p_1 t_2 b_3 : Addr) (params_5 : Option Addr) (params_5n params_5c : Nat) (i_6 : Int) (h : AH) : c29_1Y N n m0 h0 p_1 t_2 b_3 params_5 params_5n params_5c i_6 h =
 (gL (rdC h (Addr.add p_1 0) 0)).bind fun p0 =>
 cond (iLt i_6 (Int.ofNat p0.2.1))
 (c29_2 n n m0 h0 p_1 t_2 b_3 params_5 params_5n params_5c i_6 none 0 0 0 h)
 (c29_3 n n h0 p_1 t_2 b_3 params_5 params_5n params_5c 0 h):=by kernel_rfl
theorem c29_2_eq (N : NewF) (n m0 m1 : Nat) (h0 : AH) (p_1 t_2 b_3 : Addr) (params_5 : Option Addr) (params_5n params_5c : Nat) (i_6 : Int) (l_7 : Option Addr) (l_7n l_7c : Nat) (k_8 : Int) (h : AH) : c29_2Y N n m0 m1 h0 p_1 t_2 b_3 params_5 params_5n params_5c i_6 l_7 l_7n l_7c k_8 h =
 (gL (rdC h (Addr.add p_1 0) 0)).bind fun p0 =>
 (p0.1).bind fun a1 =>
 cond (inB i_6 p0.2.1)
 ((gL (rdC h (Addr.add (Addr.add a1 ((Int.toNat i_6) * 9)) 0) 0)).bind fun p2 =>
 cond (iLt k_8 (Int.ofNat p2.2.1))
 ((gL (rdC h (Addr.add p_1 0) 0)).bind fun p3 =>
 (p3.1).bind fun a4 =>
 cond (inB i_6 p3.2.1)
 ((gL (rdC h (Addr.add (Addr.add a4 ((Int.toNat i_6) * 9)) 0) 0)).bind fun p5 =>
 (p5.1).bind fun a6 =>
 cond (inB k_8 p5.2.1)
 ((gI .u8 (rdC h (Addr.add a6 ((Int.toNat k_8) * 1)) 0)).bind fun n7 =>
 (runS Tryz.prog n 31 [(.int .u8 n7)] h).bind fun p8 =>
 (gI .i64 (some p8.1)).bind fun n9 =>
 (runS Tryz.prog n 32 [(.pointer (some b_3)),(.int .i64 n9)] p8.2).bind fun p10 =>
 (gI .i64 (some p10.1)).bind fun n11 =>
 (N p10.2 [(.int .i64 n11)] 1).bind fun p12 =>
 (appL 1 8 (.slice l_7 l_7n l_7c) (.slice (some ⟨p12.1,0,none⟩) 1 1) p12.2).bind fun p13 =>
 c29_2 n m0 m1 h0 p_1 t_2 b_3 params_5 params_5n params_5c i_6 p13.1.1 p13.1.2.1 p13.1.2.2 (iAdd .i64 k_8 1) p13.2)
 (none))
 (none))
 ((N h [(.slice l_7 l_7n l_7c)] 1).bind fun p14 =>
 (appL 1 24 (.slice params_5 params_5n params_5c) (.slice (some ⟨p14.1,0,none⟩) 1 1) p14.2).bind fun p15 =>
 c29_1 n m1 h0 p_1 t_2 b_3 p15.1.1 p15.1.2.1 p15.1.2.2 (iAdd .i64 i_6 1) p15.2))
 (none):=by kernel_rfl
theorem c29_3_eq (N : NewF) (n m0 : Nat) (h0 : AH) (p_1 t_2 b_3 : Addr) (params_5 : Option Addr) (params_5n params_5c : Nat) (i_9 : Int) (h : AH) : c29_3Y N n m0 h0 p_1 t_2 b_3 params_5 params_5n params_5c i_9 h =
 (gL (rdC h (Addr.add p_1 0) 0)).bind fun p0 =>
 cond (iLt i_9 (Int.ofNat p0.2.1))
 ((gL (rdC h (Addr.add p_1 0) 0)).bind fun p1 =>
 (p1.1).bind fun a2 =>
 cond (inB i_9 p1.2.1)
 ((gL (rdC h (Addr.add a2 ((Int.toNat i_9) * 9)) 0)).bind fun p3 =>
 (gL (rdC h (Addr.add a2 ((Int.toNat i_9) * 9)) 1)).bind fun p4 =>
 (gI .u8 (rdC h (Addr.add a2 ((Int.toNat i_9) * 9)) 2)).bind fun n5 =>
 (gI .u8 (rdC h (Addr.add a2 ((Int.toNat i_9) * 9)) 3)).bind fun n6 =>
 (gI .u8 (rdC h (Addr.add a2 ((Int.toNat i_9) * 9)) 4)).bind fun n7 =>
 (gI .u8 (rdC h (Addr.add a2 ((Int.toNat i_9) * 9)) 5)).bind fun n8 =>
 (gI .u8 (rdC h (Addr.add a2 ((Int.toNat i_9) * 9)) 6)).bind fun n9 =>
 (gI .u8 (rdC h (Addr.add a2 ((Int.toNat i_9) * 9)) 7)).bind fun n10 =>
 (gI .u8 (rdC h (Addr.add a2 ((Int.toNat i_9) * 9)) 8)).bind fun n11 =>
 (N h [(.slice none 0 0),(.slice none 0 0),(.int .u8 0),(.int .u8 0),(.int .u8 0),(.int .u8 0),(.int .u8 0),(.int .u8 0),(.int .u8 0)] 0).bind fun p12 =>
 (stL p12.2 ⟨p12.1,0,none⟩ [(.slice p3.1 p3.2.1 p3.2.2),(.slice p4.1 p4.2.1 p4.2.2),(.int .u8 n5),(.int .u8 n6),(.int .u8 n7),(.int .u8 n8),(.int .u8 n9),(.int .u8 n10),(.int .u8 n11)]).bind fun x13 =>
 (N x13 [] 1).bind fun p14 =>
 (params_5).bind fun a15 =>
 cond (inB i_9 params_5n)
 ((gL (rdC p14.2 (Addr.add a15 ((Int.toNat i_9) * 1)) 0)).bind fun p16 =>
 (appL 1 8 (.slice (some ⟨p14.1,0,none⟩) 0 0) (.slice p16.1 p16.2.1 p16.2.2) p14.2).bind fun p17 =>
 (stL p17.2 (Addr.add b_3 6) [(.slice p17.1.1 p17.1.2.1 p17.1.2.2)]).bind fun x18 =>
 (stL x18 (Addr.add b_3 7) [(.slice none 0 0)]).bind fun x19 =>
 c29_4 n n m0 h0 p_1 t_2 b_3 params_5 params_5n params_5c i_9 ⟨p12.1,0,none⟩ 0 x19)
 (none))
 (none))
 ((gS (rdC h (Addr.add b_3 0) 0)).bind fun x20 =>
 (gL (rdC h (Addr.add b_3 0) 1)).bind fun p21 =>
 (gL (rdC h (Addr.add b_3 0) 2)).bind fun p22 =>
 (gL (rdC h (Addr.add b_3 0) 3)).bind fun p23 =>
 (gL (rdC h (Addr.add b_3 0) 4)).bind fun p24 =>
 (gL (rdC h (Addr.add b_3 0) 5)).bind fun p25 =>
 (stL h t_2 [(.string x20),(.slice p21.1 p21.2.1 p21.2.2),(.slice p22.1 p22.2.1 p22.2.2),(.slice p23.1 p23.2.1 p23.2.2),(.slice p24.1 p24.2.1 p24.2.2),(.slice p25.1 p25.2.1 p25.2.2)]).bind fun x26 =>
 (gS (rdC x26 t_2 0)).bind fun x27 =>
 (gL (rdC x26 t_2 1)).bind fun p28 =>
 (gL (rdC x26 t_2 2)).bind fun p29 =>
 (gL (rdC x26 t_2 3)).bind fun p30 =>
 (gL (rdC x26 t_2 4)).bind fun p31 =>
 (gL (rdC x26 t_2 5)).bind fun p32 =>
 some (exitR h0 x26 (.agg #[(.string x27),(.slice p28.1 p28.2.1 p28.2.2),(.slice p29.1 p29.2.1 p29.2.2),(.slice p30.1 p30.2.1 p30.2.2),(.slice p31.1 p31.2.1 p31.2.2),(.slice p32.1 p32.2.1 p32.2.2)]))):=by kernel_rfl
theorem c29_4_eq (N : NewF) (n m0 m1 : Nat) (h0 : AH) (p_1 t_2 b_3 : Addr) (params_5 : Option Addr) (params_5n params_5c : Nat) (i_9 : Int) (x_10 : Addr) (k_11 : Int) (h : AH) : c29_4Y N n m0 m1 h0 p_1 t_2 b_3 params_5 params_5n params_5c i_9 x_10 k_11 h =
 (gL (rdC h (Addr.add x_10 1) 0)).bind fun p0 =>
 cond (iLt k_11 (Int.ofNat p0.2.1))
 ((gL (rdC h (Addr.add x_10 1) 0)).bind fun p1 =>
 (p1.1).bind fun a2 =>
 cond (inB k_11 p1.2.1)
 ((gI .u8 (rdC h (Addr.add a2 ((Int.toNat k_11) * 6)) 0)).bind fun n3 =>
 (gI .u8 (rdC h (Addr.add a2 ((Int.toNat k_11) * 6)) 1)).bind fun n4 =>
 (gI .u8 (rdC h (Addr.add a2 ((Int.toNat k_11) * 6)) 2)).bind fun n5 =>
 (gI .u8 (rdC h (Addr.add a2 ((Int.toNat k_11) * 6)) 3)).bind fun n6 =>
 (gI .u8 (rdC h (Addr.add a2 ((Int.toNat k_11) * 6)) 4)).bind fun n7 =>
 (gI .u64 (rdC h (Addr.add a2 ((Int.toNat k_11) * 6)) 5)).bind fun n8 =>
 (runS Tryz.prog n 33 [(.pointer (some b_3)),(.agg #[(.int .u8 n3),(.int .u8 n4),(.int .u8 n5),(.int .u8 n6),(.int .u8 n7),(.int .u64 n8)])] h).bind fun p9 =>
 c29_4 n m0 m1 h0 p_1 t_2 b_3 params_5 params_5n params_5c i_9 x_10 (iAdd .i64 k_11 1) p9.2)
 (none))
 ((N h [(.int .i64 0),(.int .i64 0),(.slice none 0 0),(.slice none 0 0)] 0).bind fun p10 =>
 (stL p10.2 ⟨p10.1,0,none⟩ [(.int .i64 3),(.int .i64 (-1)),(.slice none 0 0),(.slice none 0 0)]).bind fun x11 =>
 (gI .u8 (rdC x11 (Addr.add x_10 2) 0)).bind fun n12 =>
 cond (iEq (iRem .i64 (iConv .i64 n12) 4) 0)
 (c29_5 n n m1 h0 p_1 t_2 b_3 params_5 params_5n params_5c i_9 x_10 ⟨p10.1,0,none⟩ 0 x11)
 ((gL (rdC x11 (Addr.add p_1 0) 0)).bind fun p13 =>
 cond (iEq (Int.ofNat p13.2.1) 1)
 (c29_5 n n m1 h0 p_1 t_2 b_3 params_5 params_5n params_5c i_9 x_10 ⟨p10.1,0,none⟩ 0 x11)
 (c29_6 n m1 h0 p_1 t_2 b_3 params_5 params_5n params_5c i_9 x_10 ⟨p10.1,0,none⟩ (iRem .i64 (iConv .i64 n12) 4) x11))):=by kernel_rfl
theorem c29_5_eq (N : NewF) (n m0 m1 : Nat) (h0 : AH) (p_1 t_2 b_3 : Addr) (params_5 : Option Addr) (params_5n params_5c : Nat) (i_9 : Int) (x_10 t_12 : Addr) (k_14 : Int) (h : AH) : c29_5Y N n m0 m1 h0 p_1 t_2 b_3 params_5 params_5n params_5c i_9 x_10 t_12 k_14 h =
 (gL (rdC h (Addr.add (Addr.add b_3 0) 4) 0)).bind fun p0 =>
 cond (iLt k_14 (Int.ofNat p0.2.1))
 ((gL (rdC h (Addr.add t_12 3) 0)).bind fun p1 =>
 (gL (rdC h (Addr.add (Addr.add b_3 0) 4) 0)).bind fun p2 =>
 (p2.1).bind fun a3 =>
 cond (inB k_14 p2.2.1)
 ((gI .i64 (rdC h (Addr.add a3 ((Int.toNat k_14) * 1)) 0)).bind fun n4 =>
 (gI .u8 (rdC h (Addr.add (Addr.add x_10 5) 0) 0)).bind fun n5 =>
 (runS Tryz.prog n 34 [(.pointer (some b_3)),(.int .i64 n4),(.int .u8 (iAdd .u8 n5 (iConv .u8 k_14)))] (setLow h h.next)).bind fun p6 =>
 (gI .i64 (some p6.1)).bind fun n7 =>
 cond (Nat.beq p6.2.low h.next)
 ((N (setLow p6.2 h.low) [(.int .i64 n7)] 1).bind fun p8 =>
 (appL 1 8 (.slice p1.1 p1.2.1 p1.2.2) (.slice (some ⟨p8.1,0,none⟩) 1 1) p8.2).bind fun p9 =>
 (stL p9.2 (Addr.add t_12 3) [(.slice p9.1.1 p9.1.2.1 p9.1.2.2)]).bind fun x10 =>
 c29_5 n m0 m1 h0 p_1 t_2 b_3 params_5 params_5n params_5c i_9 x_10 t_12 (iAdd .i64 k_14 1) x10)
 ((gL (rdC h (Addr.add t_12 3) 0)).bind fun p11 =>
 (gL (rdC h (Addr.add (Addr.add b_3 0) 4) 0)).bind fun p12 =>
 (p12.1).bind fun a13 =>
 cond (inB k_14 p12.2.1)
 ((gI .i64 (rdC h (Addr.add a13 ((Int.toNat k_14) * 1)) 0)).bind fun n14 =>
 (gI .u8 (rdC h (Addr.add (Addr.add x_10 5) 0) 0)).bind fun n15 =>
 (runS Tryz.prog n 34 [(.pointer (some b_3)),(.int .i64 n14),(.int .u8 (iAdd .u8 n15 (iConv .u8 k_14)))] h).bind fun p16 =>
 (gI .i64 (some p16.1)).bind fun n17 =>
 (N p16.2 [(.int .i64 n17)] 1).bind fun p18 =>
 (appL 1 8 (.slice p11.1 p11.2.1 p11.2.2) (.slice (some ⟨p18.1,0,none⟩) 1 1) p18.2).bind fun p19 =>
 (stL p19.2 (Addr.add t_12 3) [(.slice p19.1.1 p19.1.2.1 p19.1.2.2)]).bind fun x20 =>
 cond (Bool.and (Bool.and (sameC h p16.2 (Addr.add t_12 3) 1) (Bool.and (sameC h p18.2 (Addr.add t_12 3) 1) true)) true)
 (c29_5 n m0 m1 h0 p_1 t_2 b_3 params_5 params_5n params_5c i_9 x_10 t_12 (iAdd .i64 k_14 1) x20)
 (none))
 (none)))
 (none))
 (c29_7 n m1 h0 p_1 t_2 b_3 params_5 params_5n params_5c i_9 t_12 h):=by kernel_rfl
theorem c29_6_eq (N : NewF) (n m0 : Nat) (h0 : AH) (p_1 t_2 b_3 : Addr) (params_5 : Option Addr) (params_5n params_5c : Nat) (i_9 : Int) (x_10 t_12 : Addr) (kind_13 : Int) (h : AH) : c29_6Y N n m0 h0 p_1 t_2 b_3 params_5 params_5n params_5c i_9 x_10 t_12 kind_13 h =
 cond (iEq kind_13 1)
 ((stL h (Addr.add t_12 0) [(.int .i64 1)]).bind fun x0 =>
 (gL (rdC x0 p_1 0)).bind fun p1 =>
 (gL (rdC x0 p_1 1)).bind fun p2 =>
 (gI .u8 (rdC x0 (Addr.add (Addr.add x_10 3) 0) 0)).bind fun n3 =>
 (gI .u8 (rdC x0 (Addr.add (Addr.add x_10 5) 0) 0)).bind fun n4 =>
 (runS Tryz.prog n 35 [(.pointer (some b_3)),(.agg #[(.slice p1.1 p1.2.1 p1.2.2),(.slice p2.1 p2.2.1 p2.2.2)]),(.int .u8 n3),(.int .u8 n4)] x0).bind fun p5 =>
 cond (aggIs 2 p5.1)
 ((gI .i64 (aggC 0 p5.1)).bind fun n6 =>
 (gL (aggC 1 p5.1)).bind fun p7 =>
 (N p5.2 [(.int .i64 n6),(.slice p7.1 p7.2.1 p7.2.2)] 2).bind fun p8 =>
 (stL p8.2 (Addr.add t_12 2) [(.slice (some ⟨p8.1,0,none⟩) 1 1)]).bind fun x9 =>
 c29_7 n m0 h0 p_1 t_2 b_3 params_5 params_5n params_5c i_9 t_12 x9)
 (none))
 ((stL h (Addr.add t_12 0) [(.int .i64 2)]).bind fun x10 =>
 (gI .u8 (rdC x10 (Addr.add (Addr.add x_10 5) 1) 0)).bind fun n11 =>
 (runS Tryz.prog n 34 [(.pointer (some b_3)),(.int .i64 1),(.int .u8 n11)] x10).bind fun p12 =>
 (gI .i64 (some p12.1)).bind fun n13 =>
 (stL p12.2 (Addr.add t_12 1) [(.int .i64 n13)]).bind fun x14 =>
 (gL (rdC x14 p_1 0)).bind fun p15 =>
 (gL (rdC x14 p_1 1)).bind fun p16 =>
 (gI .u8 (rdC x14 (Addr.add (Addr.add x_10 3) 0) 0)).bind fun n17 =>
 (gI .u8 (rdC x14 (Addr.add (Addr.add x_10 5) 2) 0)).bind fun n18 =>
 (runS Tryz.prog n 35 [(.pointer (some b_3)),(.agg #[(.slice p15.1 p15.2.1 p15.2.2),(.slice p16.1 p16.2.1 p16.2.2)]),(.int .u8 n17),(.int .u8 n18)] x14).bind fun p19 =>
 cond (aggIs 2 p19.1)
 ((gI .i64 (aggC 0 p19.1)).bind fun n20 =>
 (gL (aggC 1 p19.1)).bind fun p21 =>
 (N p19.2 [(.int .i64 0),(.slice none 0 0)] 0).bind fun p22 =>
 (stL p22.2 ⟨p22.1,0,none⟩ [(.int .i64 n20),(.slice p21.1 p21.2.1 p21.2.2)]).bind fun x23 =>
 (gI .i64 (rdC x23 ⟨p22.1,0,none⟩ 0)).bind fun n24 =>
 (gL (rdC x23 ⟨p22.1,0,none⟩ 1)).bind fun p25 =>
 (gL (rdC x23 p_1 0)).bind fun p26 =>
 (gL (rdC x23 p_1 1)).bind fun p27 =>
 (gI .u8 (rdC x23 (Addr.add (Addr.add x_10 3) 1) 0)).bind fun n28 =>
 (gI .u8 (rdC x23 (Addr.add (Addr.add x_10 5) 3) 0)).bind fun n29 =>
 (runS Tryz.prog n 35 [(.pointer (some b_3)),(.agg #[(.slice p26.1 p26.2.1 p26.2.2),(.slice p27.1 p27.2.1 p27.2.2)]),(.int .u8 n28),(.int .u8 n29)] (setLow x23 x23.next)).bind fun p30 =>
 cond (aggIs 2 p30.1)
 ((gI .i64 (aggC 0 p30.1)).bind fun n31 =>
 (gL (aggC 1 p30.1)).bind fun p32 =>
 cond (Nat.beq p30.2.low x23.next)
 ((N (setLow p30.2 x23.low) [(.int .i64 n24),(.slice p25.1 p25.2.1 p25.2.2),(.int .i64 n31),(.slice p32.1 p32.2.1 p32.2.2)] 2).bind fun p33 =>
 (stL p33.2 (Addr.add t_12 2) [(.slice (some ⟨p33.1,0,none⟩) 2 2)]).bind fun x34 =>
 c29_7 n m0 h0 p_1 t_2 b_3 params_5 params_5n params_5c i_9 t_12 x34)
 ((gI .i64 (rdC x23 ⟨p22.1,0,none⟩ 0)).bind fun n35 =>
 (gL (rdC x23 ⟨p22.1,0,none⟩ 1)).bind fun p36 =>
 (gL (rdC x23 p_1 0)).bind fun p37 =>
 (gL (rdC x23 p_1 1)).bind fun p38 =>
 (gI .u8 (rdC x23 (Addr.add (Addr.add x_10 3) 1) 0)).bind fun n39 =>
 (gI .u8 (rdC x23 (Addr.add (Addr.add x_10 5) 3) 0)).bind fun n40 =>
 (runS Tryz.prog n 35 [(.pointer (some b_3)),(.agg #[(.slice p37.1 p37.2.1 p37.2.2),(.slice p38.1 p38.2.1 p38.2.2)]),(.int .u8 n39),(.int .u8 n40)] x23).bind fun p41 =>
 cond (aggIs 2 p41.1)
 ((gI .i64 (aggC 0 p41.1)).bind fun n42 =>
 (gL (aggC 1 p41.1)).bind fun p43 =>
 (N p41.2 [(.int .i64 n35),(.slice p36.1 p36.2.1 p36.2.2),(.int .i64 n42),(.slice p43.1 p43.2.1 p43.2.2)] 2).bind fun p44 =>
 (stL p44.2 (Addr.add t_12 2) [(.slice (some ⟨p44.1,0,none⟩) 2 2)]).bind fun x45 =>
 cond (Bool.and (Bool.and (sameC x23 p41.2 ⟨p22.1,0,none⟩ 2) true) true)
 (c29_7 n m0 h0 p_1 t_2 b_3 params_5 params_5n params_5c i_9 t_12 x45)
 (none))
 (none)))
 (none))
 (none)):=by kernel_rfl
theorem c29_7_eq (N : NewF) (n m0 : Nat) (h0 : AH) (p_1 t_2 b_3 : Addr) (params_5 : Option Addr) (params_5n params_5c : Nat) (i_9 : Int) (t_12 : Addr) (h : AH) : c29_7Y N n m0 h0 p_1 t_2 b_3 params_5 params_5n params_5c i_9 t_12 h =
 (gL (rdC h (Addr.add (Addr.add b_3 0) 5) 0)).bind fun p0 =>
 (params_5).bind fun a1 =>
 cond (inB i_9 params_5n)
 ((gL (rdC h (Addr.add a1 ((Int.toNat i_9) * 1)) 0)).bind fun p2 =>
 (gL (rdC h (Addr.add b_3 7) 0)).bind fun p3 =>
 (gI .i64 (rdC h t_12 0)).bind fun n4 =>
 (gI .i64 (rdC h t_12 1)).bind fun n5 =>
 (gL (rdC h t_12 2)).bind fun p6 =>
 (gL (rdC h t_12 3)).bind fun p7 =>
 (N h [(.slice p2.1 p2.2.1 p2.2.2),(.slice p3.1 p3.2.1 p3.2.2),(.int .i64 n4),(.int .i64 n5),(.slice p6.1 p6.2.1 p6.2.2),(.slice p7.1 p7.2.1 p7.2.2),(.int .i64 0),(.int .i64 0),(.int .i64 0)] 9).bind fun p8 =>
 (appL 9 136 (.slice p0.1 p0.2.1 p0.2.2) (.slice (some ⟨p8.1,0,none⟩) 1 1) p8.2).bind fun p9 =>
 (stL p9.2 (Addr.add (Addr.add b_3 0) 5) [(.slice p9.1.1 p9.1.2.1 p9.1.2.2)]).bind fun x10 =>
 c29_3 n m0 h0 p_1 t_2 b_3 params_5 params_5n params_5c (iAdd .i64 i_9 1) x10)
 (none):=by kernel_rfl
def p61 : List (List Nat × List Nat):=[]
 noncomputable def t61Y (N : NewF) (n : Nat) (n_0 : Int) (h : AH) : Option (Go.Value × AH):=yrun Tryz.prog (runS Tryz.prog n) n p61 N (resY Tryz.prog n) 31 [(.int .u8 n_0)] h
theorem t61_ok {n : Nat} {n_0 : Int} {h : AH} {r : Go.Value × AH} (hv : t61Y hNew n n_0 h = some r) : runS Tryz.prog (n + 1) 31 [(.int .u8 n_0)] h = some r:=yrun_ok hv
theorem t61 (N : NewF) (n : Nat) (n_0 : Int) (h : AH) : t61Y N n n_0 h =
 (N (setLow h h.next) [(.int .i64 8),(.int .i64 1),(.int .i64 4),(.int .i64 16),(.int .i64 3),(.int .i64 64),(.int .i64 32),(.int .i64 7)] 1).bind fun p0 =>
 cond (inB (iRem .u8 n_0 8) 8)
 ((gI .i64 (rdC p0.2 (Addr.add ⟨p0.1,0,none⟩ ((Int.toNat (iRem .u8 n_0 8)) * 1)) 0)).bind fun n1 =>
 some (exitR h p0.2 (.int .i64 n1)))
 (none):=by kernel_rfl
def p62 : List (List Nat × List Nat):=[]
 noncomputable def t62Y (N : NewF) (n : Nat) (b_0 : Addr) (w_1 : Int) (h : AH) : Option (Go.Value × AH):=yrun Tryz.prog (runS Tryz.prog n) n p62 N (resY Tryz.prog n) 32 [(.pointer (some b_0)),(.int .i64 w_1)] h
theorem t62_ok {n : Nat} {b_0 : Addr} {w_1 : Int} {h : AH} {r : Go.Value × AH} (hv : t62Y hNew n b_0 w_1 h = some r) : runS Tryz.prog (n + 1) 32 [(.pointer (some b_0)),(.int .i64 w_1)] h = some r:=yrun_ok hv
theorem t62 (N : NewF) (n : Nat) (b_0 : Addr) (w_1 : Int) (h : AH) : t62Y N n b_0 w_1 h =
 (gL (rdC (setLow h h.next) (Addr.add (Addr.add b_0 0) 1) 0)).bind fun p0 =>
 (N (setLow h h.next) [(.int .i64 w_1)] 1).bind fun p1 =>
 (appL 1 8 (.slice p0.1 p0.2.1 p0.2.2) (.slice (some ⟨p1.1,0,none⟩) 1 1) p1.2).bind fun p2 =>
 (stL p2.2 (Addr.add (Addr.add b_0 0) 1) [(.slice p2.1.1 p2.1.2.1 p2.1.2.2)]).bind fun x3 =>
 (gL (rdC x3 (Addr.add (Addr.add b_0 0) 1) 0)).bind fun p4 =>
 some (exitR h x3 (.int .i64 (iSub .i64 (Int.ofNat p4.2.1) 1))):=by kernel_rfl
def p63 : List (List Nat × List Nat):=[([9],[])]
 noncomputable def t63Y (N : NewF) (n : Nat) (b_0 : Addr) (p_1a p_1b p_1c p_1d p_1e p_1f : Int) (h : AH) : Option (Go.Value × AH):=yrun Tryz.prog (runS Tryz.prog n) n p63 N (resY Tryz.prog n) 33 [(.pointer (some b_0)),(.agg #[(.int .u8 p_1a),(.int .u8 p_1b),(.int .u8 p_1c),(.int .u8 p_1d),(.int .u8 p_1e),(.int .u64 p_1f)])] h
theorem t63_ok {n : Nat} {b_0 : Addr} {p_1a p_1b p_1c p_1d p_1e p_1f : Int} {h : AH} {r : Go.Value × AH} (hv : t63Y hNew n b_0 p_1a p_1b p_1c p_1d p_1e p_1f h = some r) : runS Tryz.prog (n + 1) 33 [(.pointer (some b_0)),(.agg #[(.int .u8 p_1a),(.int .u8 p_1b),(.int .u8 p_1c),(.int .u8 p_1d),(.int .u8 p_1e),(.int .u64 p_1f)])] h = some r:=yrun_ok hv
theorem t63 (N : NewF) (n : Nat) (b_0 : Addr) (p_1a p_1b p_1c p_1d p_1e p_1f : Int) (h : AH) : t63Y N n b_0 p_1a p_1b p_1c p_1d p_1e p_1f h =
 (N (setLow h h.next) [(.int .u8 p_1a),(.int .u8 p_1b),(.int .u8 p_1c),(.int .u8 p_1d),(.int .u8 p_1e),(.int .u64 p_1f)] 0).bind fun p0 =>
 (gI .u8 (rdC p0.2 (Addr.add ⟨p0.1,0,none⟩ 0) 0)).bind fun n1 =>
 (gI .u8 (rdC p0.2 (Addr.add ⟨p0.1,0,none⟩ 1) 0)).bind fun n2 =>
 (runS Tryz.prog n 31 [(.int .u8 n2)] p0.2).bind fun p3 =>
 (gI .i64 (some p3.1)).bind fun n4 =>
 cond (iEq (iAdd .i64 1 (iRem .i64 (iConv .i64 n1) 28)) 1)
 ((gI .u64 (rdC p3.2 (Addr.add ⟨p0.1,0,none⟩ 5) 0)).bind fun n5 =>
 (runS Tryz.prog n 69 [(.int .i64 n4)] (setLow p3.2 p3.2.next)).bind fun p6 =>
 (gI .u64 (some p6.1)).bind fun n7 =>
 cond (Nat.beq p6.2.low p3.2.next)
 ((runS Tryz.prog n 68 [(.pointer (some b_0)),(.int .i64 (iAdd .i64 1 (iRem .i64 (iConv .i64 n1) 28))),(.int .i64 n4),(.slice none 0 0),(.int .u64 (iAnd .u64 n5 n7)),(.int .i64 0)] (setLow p6.2 p3.2.low)).bind fun p8 =>
 (gI .i64 (some p8.1)).bind fun n9 =>
 some (exitR h p8.2 (.tuple #[])))
 ((gI .u64 (rdC p3.2 (Addr.add ⟨p0.1,0,none⟩ 5) 0)).bind fun n10 =>
 (runS Tryz.prog n 69 [(.int .i64 n4)] p3.2).bind fun p11 =>
 (gI .u64 (some p11.1)).bind fun n12 =>
 (runS Tryz.prog n 68 [(.pointer (some b_0)),(.int .i64 (iAdd .i64 1 (iRem .i64 (iConv .i64 n1) 28))),(.int .i64 n4),(.slice none 0 0),(.int .u64 (iAnd .u64 n10 n12)),(.int .i64 0)] p11.2).bind fun p13 =>
 (gI .i64 (some p13.1)).bind fun n14 =>
 cond (Bool.and (Bool.and (sameC p3.2 p11.2 (Addr.add ⟨p0.1,0,none⟩ 5) 1) true) true)
 (some (exitR h p13.2 (.tuple #[])))
 (none)))
 (cond (iLe (iAdd .i64 1 (iRem .i64 (iConv .i64 n1) 28)) 14)
 ((gI .u8 (rdC p3.2 (Addr.add ⟨p0.1,0,none⟩ 2) 0)).bind fun n15 =>
 (runS Tryz.prog n 34 [(.pointer (some b_0)),(.int .i64 n4),(.int .u8 n15)] p3.2).bind fun p16 =>
 (gI .i64 (some p16.1)).bind fun n17 =>
 (gI .u8 (rdC p16.2 (Addr.add ⟨p0.1,0,none⟩ 3) 0)).bind fun n18 =>
 (runS Tryz.prog n 34 [(.pointer (some b_0)),(.int .i64 n4),(.int .u8 n18)] p16.2).bind fun p19 =>
 (gI .i64 (some p19.1)).bind fun n20 =>
 (N p19.2 [(.int .i64 n17),(.int .i64 n20)] 1).bind fun p21 =>
 (runS Tryz.prog n 68 [(.pointer (some b_0)),(.int .i64 (iAdd .i64 1 (iRem .i64 (iConv .i64 n1) 28))),(.int .i64 n4),(.slice (some ⟨p21.1,0,none⟩) 2 2),(.int .u64 0),(.int .i64 0)] p21.2).bind fun p22 =>
 (gI .i64 (some p22.1)).bind fun n23 =>
 some (exitR h p22.2 (.tuple #[])))
 (cond (iLe (iAdd .i64 1 (iRem .i64 (iConv .i64 n1) 28)) 20)
 ((gI .u8 (rdC p3.2 (Addr.add ⟨p0.1,0,none⟩ 2) 0)).bind fun n24 =>
 (runS Tryz.prog n 34 [(.pointer (some b_0)),(.int .i64 n4),(.int .u8 n24)] p3.2).bind fun p25 =>
 (gI .i64 (some p25.1)).bind fun n26 =>
 (gI .u8 (rdC p25.2 (Addr.add ⟨p0.1,0,none⟩ 3) 0)).bind fun n27 =>
 (runS Tryz.prog n 34 [(.pointer (some b_0)),(.int .i64 n4),(.int .u8 n27)] p25.2).bind fun p28 =>
 (gI .i64 (some p28.1)).bind fun n29 =>
 (N p28.2 [(.int .i64 n26),(.int .i64 n29)] 1).bind fun p30 =>
 (runS Tryz.prog n 68 [(.pointer (some b_0)),(.int .i64 (iAdd .i64 1 (iRem .i64 (iConv .i64 n1) 28))),(.int .i64 1),(.slice (some ⟨p30.1,0,none⟩) 2 2),(.int .u64 0),(.int .i64 0)] p30.2).bind fun p31 =>
 (gI .i64 (some p31.1)).bind fun n32 =>
 some (exitR h p31.2 (.tuple #[])))
 (cond (iEq (iAdd .i64 1 (iRem .i64 (iConv .i64 n1) 28)) 21)
 ((gI .u8 (rdC p3.2 (Addr.add ⟨p0.1,0,none⟩ 4) 0)).bind fun n33 =>
 (runS Tryz.prog n 34 [(.pointer (some b_0)),(.int .i64 1),(.int .u8 n33)] p3.2).bind fun p34 =>
 (gI .i64 (some p34.1)).bind fun n35 =>
 (gI .u8 (rdC p34.2 (Addr.add ⟨p0.1,0,none⟩ 2) 0)).bind fun n36 =>
 (runS Tryz.prog n 34 [(.pointer (some b_0)),(.int .i64 n4),(.int .u8 n36)] p34.2).bind fun p37 =>
 (gI .i64 (some p37.1)).bind fun n38 =>
 (gI .u8 (rdC p37.2 (Addr.add ⟨p0.1,0,none⟩ 3) 0)).bind fun n39 =>
 (runS Tryz.prog n 34 [(.pointer (some b_0)),(.int .i64 n4),(.int .u8 n39)] p37.2).bind fun p40 =>
 (gI .i64 (some p40.1)).bind fun n41 =>
 (N p40.2 [(.int .i64 n35),(.int .i64 n38),(.int .i64 n41)] 1).bind fun p42 =>
 (runS Tryz.prog n 68 [(.pointer (some b_0)),(.int .i64 (iAdd .i64 1 (iRem .i64 (iConv .i64 n1) 28))),(.int .i64 n4),(.slice (some ⟨p42.1,0,none⟩) 3 3),(.int .u64 0),(.int .i64 0)] p42.2).bind fun p43 =>
 (gI .i64 (some p43.1)).bind fun n44 =>
 some (exitR h p43.2 (.tuple #[])))
 (cond (iLe (iAdd .i64 1 (iRem .i64 (iConv .i64 n1) 28)) 24)
 ((gI .u8 (rdC p3.2 (Addr.add ⟨p0.1,0,none⟩ 3) 0)).bind fun n45 =>
 (runS Tryz.prog n 31 [(.int .u8 n45)] p3.2).bind fun p46 =>
 (gI .i64 (some p46.1)).bind fun n47 =>
 cond (iEq (iMin n4 n47) (iMax n4 n47))
 ((gI .u8 (rdC p46.2 (Addr.add ⟨p0.1,0,none⟩ 2) 0)).bind fun n48 =>
 (runS Tryz.prog n 34 [(.pointer (some b_0)),(.int .i64 n4),(.int .u8 n48)] (setLow p46.2 p46.2.next)).bind fun p49 =>
 (gI .i64 (some p49.1)).bind fun n50 =>
 cond (Nat.beq p49.2.low p46.2.next)
 ((gI .u8 (rdC (setLow p49.2 p46.2.low) (Addr.add ⟨p0.1,0,none⟩ 4) 0)).bind fun n51 =>
 (runS Tryz.prog n 34 [(.pointer (some b_0)),(.int .i64 n4),(.int .u8 n51)] (setLow p49.2 p46.2.low)).bind fun p52 =>
 (gI .i64 (some p52.1)).bind fun n53 =>
 (N p52.2 [(.int .i64 n50),(.int .i64 n53)] 1).bind fun p54 =>
 (runS Tryz.prog n 68 [(.pointer (some b_0)),(.int .i64 10),(.int .i64 n4),(.slice (some ⟨p54.1,0,none⟩) 2 2),(.int .u64 0),(.int .i64 0)] p54.2).bind fun p55 =>
 (gI .i64 (some p55.1)).bind fun n56 =>
 some (exitR h p55.2 (.tuple #[])))
 ((gI .u8 (rdC p46.2 (Addr.add ⟨p0.1,0,none⟩ 2) 0)).bind fun n57 =>
 (runS Tryz.prog n 34 [(.pointer (some b_0)),(.int .i64 n4),(.int .u8 n57)] p46.2).bind fun p58 =>
 (gI .i64 (some p58.1)).bind fun n59 =>
 (gI .u8 (rdC p58.2 (Addr.add ⟨p0.1,0,none⟩ 4) 0)).bind fun n60 =>
 (runS Tryz.prog n 34 [(.pointer (some b_0)),(.int .i64 n4),(.int .u8 n60)] p58.2).bind fun p61 =>
 (gI .i64 (some p61.1)).bind fun n62 =>
 (N p61.2 [(.int .i64 n59),(.int .i64 n62)] 1).bind fun p63 =>
 (runS Tryz.prog n 68 [(.pointer (some b_0)),(.int .i64 10),(.int .i64 n4),(.slice (some ⟨p63.1,0,none⟩) 2 2),(.int .u64 0),(.int .i64 0)] p63.2).bind fun p64 =>
 (gI .i64 (some p64.1)).bind fun n65 =>
 cond (Bool.and (Bool.and (sameC p58.2 p46.2 (Addr.add ⟨p0.1,0,none⟩ 4) 1) true) true)
 (some (exitR h p64.2 (.tuple #[])))
 (none)))
 (cond (iEq (iAdd .i64 1 (iRem .i64 (iConv .i64 n1) 28)) 24)
 ((gI .u8 (rdC p46.2 (Addr.add ⟨p0.1,0,none⟩ 2) 0)).bind fun n66 =>
 (runS Tryz.prog n 34 [(.pointer (some b_0)),(.int .i64 (iMax n4 n47)),(.int .u8 n66)] p46.2).bind fun p67 =>
 (gI .i64 (some p67.1)).bind fun n68 =>
 (N p67.2 [(.int .i64 n68)] 1).bind fun p69 =>
 (runS Tryz.prog n 68 [(.pointer (some b_0)),(.int .i64 (iAdd .i64 1 (iRem .i64 (iConv .i64 n1) 28))),(.int .i64 (iMin n4 n47)),(.slice (some ⟨p69.1,0,none⟩) 1 1),(.int .u64 0),(.int .i64 0)] p69.2).bind fun p70 =>
 (gI .i64 (some p70.1)).bind fun n71 =>
 some (exitR h p70.2 (.tuple #[])))
 ((gI .u8 (rdC p46.2 (Addr.add ⟨p0.1,0,none⟩ 2) 0)).bind fun n72 =>
 (runS Tryz.prog n 34 [(.pointer (some b_0)),(.int .i64 (iMin n4 n47)),(.int .u8 n72)] p46.2).bind fun p73 =>
 (gI .i64 (some p73.1)).bind fun n74 =>
 (N p73.2 [(.int .i64 n74)] 1).bind fun p75 =>
 (runS Tryz.prog n 68 [(.pointer (some b_0)),(.int .i64 (iAdd .i64 1 (iRem .i64 (iConv .i64 n1) 28))),(.int .i64 (iMax n4 n47)),(.slice (some ⟨p75.1,0,none⟩) 1 1),(.int .u64 0),(.int .i64 0)] p75.2).bind fun p76 =>
 (gI .i64 (some p76.1)).bind fun n77 =>
 some (exitR h p76.2 (.tuple #[])))))
 (cond (iEq (iAdd .i64 1 (iRem .i64 (iConv .i64 n1) 28)) 25)
 ((gI .u8 (rdC p3.2 (Addr.add ⟨p0.1,0,none⟩ 4) 0)).bind fun n78 =>
 (gI .u8 (rdC p3.2 (Addr.add ⟨p0.1,0,none⟩ 2) 0)).bind fun n79 =>
 (runS Tryz.prog n 34 [(.pointer (some b_0)),(.int .i64 8),(.int .u8 n79)] p3.2).bind fun p80 =>
 (gI .i64 (some p80.1)).bind fun n81 =>
 (gL (rdC p80.2 (Addr.add (Addr.add b_0 0) 2) 0)).bind fun p82 =>
 (p82.1).bind fun a83 =>
 cond (inB (iRem .i64 (iConv .i64 n78) 2) p82.2.1)
 ((gI .i64 (rdC p80.2 (Addr.add (Addr.add a83 ((Int.toNat (iRem .i64 (iConv .i64 n78) 2)) * 5)) 1) 0)).bind fun n84 =>
 (gI .u8 (rdC p80.2 (Addr.add ⟨p0.1,0,none⟩ 3) 0)).bind fun n85 =>
 (runS Tryz.prog n 34 [(.pointer (some b_0)),(.int .i64 1),(.int .u8 n85)] (setLow p80.2 p80.2.next)).bind fun p86 =>
 (gI .i64 (some p86.1)).bind fun n87 =>
 cond (Nat.beq p86.2.low p80.2.next)
 ((N (setLow p86.2 p80.2.low) [(.int .i64 n81),(.int .i64 n87)] 1).bind fun p88 =>
 (runS Tryz.prog n 68 [(.pointer (some b_0)),(.int .i64 (iAdd .i64 1 (iRem .i64 (iConv .i64 n1) 28))),(.int .i64 n84),(.slice (some ⟨p88.1,0,none⟩) 2 2),(.int .u64 0),(.int .i64 (iRem .i64 (iConv .i64 n78) 2))] p88.2).bind fun p89 =>
 (gI .i64 (some p89.1)).bind fun n90 =>
 some (exitR h p89.2 (.tuple #[])))
 ((gL (rdC p80.2 (Addr.add (Addr.add b_0 0) 2) 0)).bind fun p91 =>
 (p91.1).bind fun a92 =>
 cond (inB (iRem .i64 (iConv .i64 n78) 2) p91.2.1)
 ((gI .i64 (rdC p80.2 (Addr.add (Addr.add a92 ((Int.toNat (iRem .i64 (iConv .i64 n78) 2)) * 5)) 1) 0)).bind fun n93 =>
 (gI .u8 (rdC p80.2 (Addr.add ⟨p0.1,0,none⟩ 3) 0)).bind fun n94 =>
 (runS Tryz.prog n 34 [(.pointer (some b_0)),(.int .i64 1),(.int .u8 n94)] p80.2).bind fun p95 =>
 (gI .i64 (some p95.1)).bind fun n96 =>
 (N p95.2 [(.int .i64 n81),(.int .i64 n96)] 1).bind fun p97 =>
 (runS Tryz.prog n 68 [(.pointer (some b_0)),(.int .i64 (iAdd .i64 1 (iRem .i64 (iConv .i64 n1) 28))),(.int .i64 n93),(.slice (some ⟨p97.1,0,none⟩) 2 2),(.int .u64 0),(.int .i64 (iRem .i64 (iConv .i64 n78) 2))] p97.2).bind fun p98 =>
 (gI .i64 (some p98.1)).bind fun n99 =>
 cond (Bool.and (Bool.and (sameC p80.2 p95.2 (Addr.add (Addr.add b_0 0) 2) 1) (Bool.and (sameC p80.2 p97.2 (Addr.add (Addr.add b_0 0) 2) 1) true)) (Bool.and (Bool.and (sameC p80.2 p95.2 (Addr.add (Addr.add a92 ((Int.toNat (iRem .i64 (iConv .i64 n78) 2)) * 5)) 1) 1) (Bool.and (sameC p80.2 p97.2 (Addr.add (Addr.add a92 ((Int.toNat (iRem .i64 (iConv .i64 n78) 2)) * 5)) 1) 1) true)) true))
 (some (exitR h p98.2 (.tuple #[])))
 (none))
 (none)))
 (none))
 (cond (iEq (iAdd .i64 1 (iRem .i64 (iConv .i64 n1) 28)) 26)
 ((gI .u8 (rdC p3.2 (Addr.add ⟨p0.1,0,none⟩ 4) 0)).bind fun n100 =>
 (gI .u8 (rdC p3.2 (Addr.add ⟨p0.1,0,none⟩ 2) 0)).bind fun n101 =>
 (runS Tryz.prog n 34 [(.pointer (some b_0)),(.int .i64 8),(.int .u8 n101)] p3.2).bind fun p102 =>
 (gI .i64 (some p102.1)).bind fun n103 =>
 (gL (rdC p102.2 (Addr.add (Addr.add b_0 0) 2) 0)).bind fun p104 =>
 (p104.1).bind fun a105 =>
 cond (inB (iRem .i64 (iConv .i64 n100) 2) p104.2.1)
 ((gI .i64 (rdC p102.2 (Addr.add (Addr.add a105 ((Int.toNat (iRem .i64 (iConv .i64 n100) 2)) * 5)) 1) 0)).bind fun n106 =>
 (gI .u8 (rdC p102.2 (Addr.add ⟨p0.1,0,none⟩ 3) 0)).bind fun n107 =>
 (runS Tryz.prog n 34 [(.pointer (some b_0)),(.int .i64 n106),(.int .u8 n107)] p102.2).bind fun p108 =>
 (gI .i64 (some p108.1)).bind fun n109 =>
 (gI .u8 (rdC p108.2 (Addr.add ⟨p0.1,0,none⟩ 4) 0)).bind fun n110 =>
 (runS Tryz.prog n 34 [(.pointer (some b_0)),(.int .i64 1),(.int .u8 (iQuo .u8 n110 2))] p108.2).bind fun p111 =>
 (gI .i64 (some p111.1)).bind fun n112 =>
 (gL (rdC p111.2 (Addr.add b_0 7) 0)).bind fun p113 =>
 (N p111.2 [(.int .i64 n103),(.int .i64 n109),(.int .i64 n112)] 1).bind fun p114 =>
 (N p114.2 [(.int .i64 (iAdd .i64 1 (iRem .i64 (iConv .i64 n1) 28))),(.int .i64 (-1)),(.slice (some ⟨p114.1,0,none⟩) 3 3),(.int .u64 0),(.int .i64 (iRem .i64 (iConv .i64 n100) 2))] 5).bind fun p115 =>
 (appL 5 56 (.slice p113.1 p113.2.1 p113.2.2) (.slice (some ⟨p115.1,0,none⟩) 1 1) p115.2).bind fun p116 =>
 (stL p116.2 (Addr.add b_0 7) [(.slice p116.1.1 p116.1.2.1 p116.1.2.2)]).bind fun x117 =>
 some (exitR h x117 (.tuple #[])))
 (none))
 (cond (iEq (iAdd .i64 1 (iRem .i64 (iConv .i64 n1) 28)) 27)
 ((gI .u8 (rdC p3.2 (Addr.add ⟨p0.1,0,none⟩ 2) 0)).bind fun n118 =>
 (runS Tryz.prog n 34 [(.pointer (some b_0)),(.int .i64 1),(.int .u8 n118)] p3.2).bind fun p119 =>
 (gI .i64 (some p119.1)).bind fun n120 =>
 (N p119.2 [(.int .i64 n120)] 1).bind fun p121 =>
 (runS Tryz.prog n 68 [(.pointer (some b_0)),(.int .i64 (iAdd .i64 1 (iRem .i64 (iConv .i64 n1) 28))),(.int .i64 8),(.slice (some ⟨p121.1,0,none⟩) 1 1),(.int .u64 0),(.int .i64 0)] p121.2).bind fun p122 =>
 (gI .i64 (some p122.1)).bind fun n123 =>
 some (exitR h p122.2 (.tuple #[])))
 ((gI .u8 (rdC p3.2 (Addr.add ⟨p0.1,0,none⟩ 2) 0)).bind fun n124 =>
 (runS Tryz.prog n 34 [(.pointer (some b_0)),(.int .i64 8),(.int .u8 n124)] p3.2).bind fun p125 =>
 (gI .i64 (some p125.1)).bind fun n126 =>
 (gI .u8 (rdC p125.2 (Addr.add ⟨p0.1,0,none⟩ 3) 0)).bind fun n127 =>
 (runS Tryz.prog n 34 [(.pointer (some b_0)),(.int .i64 1),(.int .u8 n127)] p125.2).bind fun p128 =>
 (gI .i64 (some p128.1)).bind fun n129 =>
 (gL (rdC p128.2 (Addr.add b_0 7) 0)).bind fun p130 =>
 (N p128.2 [(.int .i64 n126),(.int .i64 n129)] 1).bind fun p131 =>
 (N p131.2 [(.int .i64 (iAdd .i64 1 (iRem .i64 (iConv .i64 n1) 28))),(.int .i64 (-1)),(.slice (some ⟨p131.1,0,none⟩) 2 2),(.int .u64 0),(.int .i64 1)] 5).bind fun p132 =>
 (appL 5 56 (.slice p130.1 p130.2.1 p130.2.2) (.slice (some ⟨p132.1,0,none⟩) 1 1) p132.2).bind fun p133 =>
 (stL p133.2 (Addr.add b_0 7) [(.slice p133.1.1 p133.1.2.1 p133.1.2.2)]).bind fun x134 =>
 some (exitR h x134 (.tuple #[])))))))))):=by kernel_rfl
def p64 : List (List Nat × List Nat):=[([0,1,0,1,1],[0,1,2,7,8]),([0,1,0,1,1,1],[0,1,2]),([1,1,1,1],[2,7])]
section
variable (N : NewF) (n m0 : Nat) (h0 : AH) (b_0 : Addr) (w_1 n_2 : Int) (l_7 : Option Addr) (l_7n l_7c : Nat) (i_8 : Int) (h : AH)
 noncomputable def c64_0 : Option (Go.Value × AH):=resY Tryz.prog n Tryz.f34 h0 (.head (subC (bodyC Tryz.f34) [1,1,0,1,0,0]) [0,1,0,1,1] m0) [.block 0,.seq (subC (bodyC Tryz.f34) [1,1,1]) [1,1,1]] (E [(0,.pointer (some b_0)),(1,.int .i64 w_1),(2,.int .u8 n_2),(7,.slice l_7 l_7n l_7c),(8,.int .i64 i_8)]) h
 noncomputable def c64_0Y : Option (Go.Value × AH):=yhead Tryz.prog (runS Tryz.prog n) n Tryz.f34 h0 p64 N (resY Tryz.prog n Tryz.f34 h0) (subC (bodyC Tryz.f34) [1,1,0,1,0,0]) [0,1,0,1,1] m0 [.block 0,.seq (subC (bodyC Tryz.f34) [1,1,1]) [1,1,1]] (E [(0,.pointer (some b_0)),(1,.int .i64 w_1),(2,.int .u8 n_2),(7,.slice l_7 l_7n l_7c),(8,.int .i64 i_8)]) h
variable {n m0} {h0} {b_0 w_1 n_2 l_7 l_7n l_7c i_8} {h}
theorem c64_0_ok {r : Go.Value × AH} (hv : c64_0Y hNew n m0 h0 b_0 w_1 n_2 l_7 l_7n l_7c i_8 h = some r) : c64_0 n (m0 + 1) h0 b_0 w_1 n_2 l_7 l_7n l_7c i_8 h = some r:=yhead_ok hv
end
section
variable (N : NewF) (n : Nat) (h0 : AH) (b_0 : Addr) (w_1 n_2 : Int) (h : AH)
 noncomputable def c64_1 : Option (Go.Value × AH):=resY Tryz.prog n Tryz.f34 h0 (.code (subC (bodyC Tryz.f34) [1,1,1,0,1,0]) [0,1,0,1,1,1]) [.seq (subC (bodyC Tryz.f34) [1,1,1,1]) [1,1,1,1]] (E [(0,.pointer (some b_0)),(1,.int .i64 w_1),(2,.int .u8 n_2)]) h
 noncomputable def c64_1Y : Option (Go.Value × AH):=yfrom Tryz.prog (runS Tryz.prog n) n Tryz.f34 h0 p64 N (resY Tryz.prog n Tryz.f34 h0) (subC (bodyC Tryz.f34) [1,1,1,0,1,0]) [0,1,0,1,1,1] [.seq (subC (bodyC Tryz.f34) [1,1,1,1]) [1,1,1,1]] (E [(0,.pointer (some b_0)),(1,.int .i64 w_1),(2,.int .u8 n_2)]) h
variable {n} {h0} {b_0 w_1 n_2} {h}
theorem c64_1_ok {r : Go.Value × AH} (hv : c64_1Y hNew n h0 b_0 w_1 n_2 h = some r) : c64_1 n h0 b_0 w_1 n_2 h = some r:=yfrom_ok hv
end
section
variable (N : NewF) (n : Nat) (h0 : AH) (n_2 : Int) (l_7 : Option Addr) (l_7n l_7c : Nat) (h : AH)
 noncomputable def c64_2 : Option (Go.Value × AH):=resY Tryz.prog n Tryz.f34 h0 (.code (subC (bodyC Tryz.f34) [1,1,1,1]) [1,1,1,1]) [] (E [(2,.int .u8 n_2),(7,.slice l_7 l_7n l_7c)]) h
 noncomputable def c64_2Y : Option (Go.Value × AH):=yfrom Tryz.prog (runS Tryz.prog n) n Tryz.f34 h0 p64 N (resY Tryz.prog n Tryz.f34 h0) (subC (bodyC Tryz.f34) [1,1,1,1]) [1,1,1,1] [] (E [(2,.int .u8 n_2),(7,.slice l_7 l_7n l_7c)]) h
variable {n} {h0} {n_2 l_7 l_7n l_7c} {h}
theorem c64_2_ok {r : Go.Value × AH} (hv : c64_2Y hNew n h0 n_2 l_7 l_7n l_7c h = some r) : c64_2 n h0 n_2 l_7 l_7n l_7c h = some r:=yfrom_ok hv
end
 noncomputable def t64Y (N : NewF) (n : Nat) (b_0 : Addr) (w_1 n_2 : Int) (h : AH) : Option (Go.Value × AH):=yrun Tryz.prog (runS Tryz.prog n) n p64 N (resY Tryz.prog n) 34 [(.pointer (some b_0)),(.int .i64 w_1),(.int .u8 n_2)] h
theorem t64_ok {n : Nat} {b_0 : Addr} {w_1 n_2 : Int} {h : AH} {r : Go.Value × AH} (hv : t64Y hNew n b_0 w_1 n_2 h = some r) : runS Tryz.prog (n + 1) 34 [(.pointer (some b_0)),(.int .i64 w_1),(.int .u8 n_2)] h = some r:=yrun_ok hv
theorem t64 (N : NewF) (n : Nat) (b_0 : Addr) (w_1 n_2 : Int) (h : AH) : t64Y N n b_0 w_1 n_2 h =
 (gL (rdC (setLow h h.next) (Addr.add b_0 6) 0)).bind fun p0 =>
 c64_0 n n h b_0 w_1 n_2 none 0 0 (iSub .i64 (Int.ofNat p0.2.1) 1) (setLow h h.next):=by kernel_rfl
theorem c64_0_eq (N : NewF) (n m0 : Nat) (h0 : AH) (b_0 : Addr) (w_1 n_2 : Int) (l_7 : Option Addr) (l_7n l_7c : Nat) (i_8 : Int) (h : AH) : c64_0Y N n m0 h0 b_0 w_1 n_2 l_7 l_7n l_7c i_8 h =
 cond (iLe 0 i_8)
 ((gL (rdC h (Addr.add (Addr.add b_0 0) 1) 0)).bind fun p0 =>
 (gL (rdC h (Addr.add b_0 6) 0)).bind fun p1 =>
 (p1.1).bind fun a2 =>
 cond (inB i_8 p1.2.1)
 ((gI .i64 (rdC h (Addr.add a2 ((Int.toNat i_8) * 1)) 0)).bind fun n3 =>
 (p0.1).bind fun a4 =>
 cond (inB n3 p0.2.1)
 ((gI .i64 (rdC h (Addr.add a4 ((Int.toNat n3) * 1)) 0)).bind fun n5 =>
 cond (iEq n5 w_1)
 ((gL (rdC h (Addr.add b_0 6) 0)).bind fun p6 =>
 (p6.1).bind fun a7 =>
 cond (inB i_8 p6.2.1)
 ((gI .i64 (rdC h (Addr.add a7 ((Int.toNat i_8) * 1)) 0)).bind fun n8 =>
 (N h [(.int .i64 n8)] 1).bind fun p9 =>
 (appL 1 8 (.slice l_7 l_7n l_7c) (.slice (some ⟨p9.1,0,none⟩) 1 1) p9.2).bind fun p10 =>
 c64_0 n m0 h0 b_0 w_1 n_2 p10.1.1 p10.1.2.1 p10.1.2.2 (iSub .i64 i_8 1) p10.2)
 (none))
 (c64_0 n m0 h0 b_0 w_1 n_2 l_7 l_7n l_7c (iSub .i64 i_8 1) h))
 (none))
 (none))
 (cond (iEq (Int.ofNat l_7n) 0)
 (c64_1 n h0 b_0 w_1 n_2 h)
 (cond (iLe 250 n_2)
 (c64_1 n h0 b_0 w_1 n_2 h)
 (c64_2 n h0 n_2 l_7 l_7n l_7c h))):=by kernel_rfl
theorem c64_1_eq (N : NewF) (n  : Nat) (h0 : AH) (b_0 : Addr) (w_1 n_2 : Int) (h : AH) : c64_1Y N n  h0 b_0 w_1 n_2 h =
 (runS Tryz.prog n 69 [(.int .i64 w_1)] h).bind fun p0 =>
 (gI .u64 (some p0.1)).bind fun n1 =>
 (runS Tryz.prog n 68 [(.pointer (some b_0)),(.int .i64 1),(.int .i64 w_1),(.slice none 0 0),(.int .u64 (iAnd .u64 (iConv .u64 n_2) n1)),(.int .i64 0)] p0.2).bind fun p2 =>
 (gI .i64 (some p2.1)).bind fun n3 =>
 some (exitR h0 p2.2 (.int .i64 n3)):=by kernel_rfl
theorem c64_2_eq (N : NewF) (n  : Nat) (h0 : AH) (n_2 : Int) (l_7 : Option Addr) (l_7n l_7c : Nat) (h : AH) : c64_2Y N n  h0 n_2 l_7 l_7n l_7c h =
 cond (iEq (Int.ofNat l_7n) 0)
 (none)
 ((l_7).bind fun a0 =>
 cond (inB (iRem .i64 (iConv .i64 n_2) (Int.ofNat l_7n)) l_7n)
 ((gI .i64 (rdC h (Addr.add a0 ((Int.toNat (iRem .i64 (iConv .i64 n_2) (Int.ofNat l_7n))) * 1)) 0)).bind fun n1 =>
 some (exitR h0 h (.int .i64 n1)))
 (none)):=by kernel_rfl
def p65 : List (List Nat × List Nat):=[([1,1,1],[0,3,5,8,9]),([0,1,0,1,1,1,1],[0,3,5,8,9,10,11]),([9],[])]
section
variable (N : NewF) (n : Nat) (h0 : AH) (b_0 : Addr) (n_3 : Int) (p_5 t_8 : Addr) (k_9 : Int) (h : AH)
 noncomputable def c65_0 : Option (Go.Value × AH):=resY Tryz.prog n Tryz.f35 h0 (.code (subC (bodyC Tryz.f35) [1,1,1]) [1,1,1]) [] (E [(0,.pointer (some b_0)),(3,.int .u8 n_3),(5,.pointer (some p_5)),(8,.pointer (some t_8)),(9,.int .i64 k_9)]) h
 noncomputable def c65_0Y : Option (Go.Value × AH):=yfrom Tryz.prog (runS Tryz.prog n) n Tryz.f35 h0 p65 N (resY Tryz.prog n Tryz.f35 h0) (subC (bodyC Tryz.f35) [1,1,1]) [1,1,1] [] (E [(0,.pointer (some b_0)),(3,.int .u8 n_3),(5,.pointer (some p_5)),(8,.pointer (some t_8)),(9,.int .i64 k_9)]) h
variable {n} {h0} {b_0 n_3 p_5 t_8 k_9} {h}
theorem c65_0_ok {r : Go.Value × AH} (hv : c65_0Y hNew n h0 b_0 n_3 p_5 t_8 k_9 h = some r) : c65_0 n h0 b_0 n_3 p_5 t_8 k_9 h = some r:=yfrom_ok hv
end
section
variable (N : NewF) (n m0 : Nat) (h0 : AH) (b_0 : Addr) (n_3 : Int) (p_5 t_8 : Addr) (k_9 : Int) (e_10 : Addr) (i_11 : Int) (h : AH)
 noncomputable def c65_1 : Option (Go.Value × AH):=resY Tryz.prog n Tryz.f35 h0 (.head (subC (bodyC Tryz.f35) [1,1,1,1,0,1,0,0]) [0,1,0,1,1,1,1] m0) [.block 0,.seq (subC (bodyC Tryz.f35) [1,1,1,1,1]) [1,1,1,1,1]] (E [(0,.pointer (some b_0)),(3,.int .u8 n_3),(5,.pointer (some p_5)),(8,.pointer (some t_8)),(9,.int .i64 k_9),(10,.pointer (some e_10)),(11,.int .i64 i_11)]) h
 noncomputable def c65_1Y : Option (Go.Value × AH):=yhead Tryz.prog (runS Tryz.prog n) n Tryz.f35 h0 p65 N (resY Tryz.prog n Tryz.f35 h0) (subC (bodyC Tryz.f35) [1,1,1,1,0,1,0,0]) [0,1,0,1,1,1,1] m0 [.block 0,.seq (subC (bodyC Tryz.f35) [1,1,1,1,1]) [1,1,1,1,1]] (E [(0,.pointer (some b_0)),(3,.int .u8 n_3),(5,.pointer (some p_5)),(8,.pointer (some t_8)),(9,.int .i64 k_9),(10,.pointer (some e_10)),(11,.int .i64 i_11)]) h
variable {n m0} {h0} {b_0 n_3 p_5 t_8 k_9 e_10 i_11} {h}
theorem c65_1_ok {r : Go.Value × AH} (hv : c65_1Y hNew n m0 h0 b_0 n_3 p_5 t_8 k_9 e_10 i_11 h = some r) : c65_1 n (m0 + 1) h0 b_0 n_3 p_5 t_8 k_9 e_10 i_11 h = some r:=yhead_ok hv
end
 noncomputable def t65Y (N : NewF) (n : Nat) (b_0 : Addr) (p_1a : Option Addr) (p_1an p_1ac : Nat) (p_1b : Option Addr) (p_1bn p_1bc : Nat) (to_2 n_3 : Int) (h : AH) : Option (Go.Value × AH):=yrun Tryz.prog (runS Tryz.prog n) n p65 N (resY Tryz.prog n) 35 [(.pointer (some b_0)),(.agg #[(.slice p_1a p_1an p_1ac),(.slice p_1b p_1bn p_1bc)]),(.int .u8 to_2),(.int .u8 n_3)] h
theorem t65_ok {n : Nat} {b_0 : Addr} {p_1a : Option Addr} {p_1an p_1ac : Nat} {p_1b : Option Addr} {p_1bn p_1bc : Nat} {to_2 n_3 : Int} {h : AH} {r : Go.Value × AH} (hv : t65Y hNew n b_0 p_1a p_1an p_1ac p_1b p_1bn p_1bc to_2 n_3 h = some r) : runS Tryz.prog (n + 1) 35 [(.pointer (some b_0)),(.agg #[(.slice p_1a p_1an p_1ac),(.slice p_1b p_1bn p_1bc)]),(.int .u8 to_2),(.int .u8 n_3)] h = some r:=yrun_ok hv
theorem t65 (N : NewF) (n : Nat) (b_0 : Addr) (p_1a : Option Addr) (p_1an p_1ac : Nat) (p_1b : Option Addr) (p_1bn p_1bc : Nat) (to_2 n_3 : Int) (h : AH) : t65Y N n b_0 p_1a p_1an p_1ac p_1b p_1bn p_1bc to_2 n_3 h =
 (N (setLow h h.next) [(.slice p_1a p_1an p_1ac),(.slice p_1b p_1bn p_1bc)] 0).bind fun p0 =>
 (N p0.2 [(.int .i64 0),(.slice none 0 0)] 0).bind fun p1 =>
 (gL (rdC p1.2 (Addr.add ⟨p0.1,0,none⟩ 0) 0)).bind fun p2 =>
 cond (iLt 1 (Int.ofNat p2.2.1))
 ((gL (rdC p1.2 (Addr.add ⟨p0.1,0,none⟩ 0) 0)).bind fun p3 =>
 cond (iEq (iSub .i64 (Int.ofNat p3.2.1) 1) 0)
 (none)
 (c65_0 n h b_0 n_3 ⟨p0.1,0,none⟩ ⟨p1.1,0,none⟩ (iAdd .i64 1 (iRem .i64 (iConv .i64 to_2) (iSub .i64 (Int.ofNat p3.2.1) 1))) p1.2))
 (c65_0 n h b_0 n_3 ⟨p0.1,0,none⟩ ⟨p1.1,0,none⟩ 0 p1.2):=by kernel_rfl
theorem c65_0_eq (N : NewF) (n  : Nat) (h0 : AH) (b_0 : Addr) (n_3 : Int) (p_5 t_8 : Addr) (k_9 : Int) (h : AH) : c65_0Y N n  h0 b_0 n_3 p_5 t_8 k_9 h =
 (N h [(.int .i64 0),(.slice none 0 0)] 0).bind fun p0 =>
 (stL p0.2 ⟨p0.1,0,none⟩ [(.int .i64 k_9),(.slice none 0 0)]).bind fun x1 =>
 c65_1 n n h0 b_0 n_3 p_5 t_8 k_9 ⟨p0.1,0,none⟩ 0 x1:=by kernel_rfl
theorem c65_1_eq (N : NewF) (n m0 : Nat) (h0 : AH) (b_0 : Addr) (n_3 : Int) (p_5 t_8 : Addr) (k_9 : Int) (e_10 : Addr) (i_11 : Int) (h : AH) : c65_1Y N n m0 h0 b_0 n_3 p_5 t_8 k_9 e_10 i_11 h =
 (gL (rdC h (Addr.add p_5 0) 0)).bind fun p0 =>
 (p0.1).bind fun a1 =>
 cond (inB k_9 p0.2.1)
 ((gL (rdC h (Addr.add (Addr.add a1 ((Int.toNat k_9) * 9)) 0) 0)).bind fun p2 =>
 cond (iLt i_11 (Int.ofNat p2.2.1))
 ((gL (rdC h (Addr.add e_10 1) 0)).bind fun p3 =>
 (gL (rdC h (Addr.add p_5 0) 0)).bind fun p4 =>
 (p4.1).bind fun a5 =>
 cond (inB k_9 p4.2.1)
 ((gL (rdC h (Addr.add (Addr.add a5 ((Int.toNat k_9) * 9)) 0) 0)).bind fun p6 =>
 (p6.1).bind fun a7 =>
 cond (inB i_11 p6.2.1)
 ((gI .u8 (rdC h (Addr.add a7 ((Int.toNat i_11) * 1)) 0)).bind fun n8 =>
 (runS Tryz.prog n 31 [(.int .u8 n8)] (setLow h h.next)).bind fun p9 =>
 (gI .i64 (some p9.1)).bind fun n10 =>
 cond (Nat.beq p9.2.low h.next)
 ((runS Tryz.prog n 34 [(.pointer (some b_0)),(.int .i64 n10),(.int .u8 (iAdd .u8 n_3 (iConv .u8 i_11)))] (setLow (setLow p9.2 h.low) (setLow p9.2 h.low).next)).bind fun p11 =>
 (gI .i64 (some p11.1)).bind fun n12 =>
 cond (Nat.beq p11.2.low (setLow p9.2 h.low).next)
 ((N (setLow p11.2 (setLow p9.2 h.low).low) [(.int .i64 n12)] 1).bind fun p13 =>
 (appL 1 8 (.slice p3.1 p3.2.1 p3.2.2) (.slice (some ⟨p13.1,0,none⟩) 1 1) p13.2).bind fun p14 =>
 (stL p14.2 (Addr.add e_10 1) [(.slice p14.1.1 p14.1.2.1 p14.1.2.2)]).bind fun x15 =>
 c65_1 n m0 h0 b_0 n_3 p_5 t_8 k_9 e_10 (iAdd .i64 i_11 1) x15)
 ((gL (rdC h (Addr.add e_10 1) 0)).bind fun p16 =>
 (gL (rdC h (Addr.add p_5 0) 0)).bind fun p17 =>
 (p17.1).bind fun a18 =>
 cond (inB k_9 p17.2.1)
 ((gL (rdC h (Addr.add (Addr.add a18 ((Int.toNat k_9) * 9)) 0) 0)).bind fun p19 =>
 (p19.1).bind fun a20 =>
 cond (inB i_11 p19.2.1)
 ((gI .u8 (rdC h (Addr.add a20 ((Int.toNat i_11) * 1)) 0)).bind fun n21 =>
 (runS Tryz.prog n 31 [(.int .u8 n21)] h).bind fun p22 =>
 (gI .i64 (some p22.1)).bind fun n23 =>
 (runS Tryz.prog n 34 [(.pointer (some b_0)),(.int .i64 n23),(.int .u8 (iAdd .u8 n_3 (iConv .u8 i_11)))] p22.2).bind fun p24 =>
 (gI .i64 (some p24.1)).bind fun n25 =>
 (N p24.2 [(.int .i64 n25)] 1).bind fun p26 =>
 (appL 1 8 (.slice p16.1 p16.2.1 p16.2.2) (.slice (some ⟨p26.1,0,none⟩) 1 1) p26.2).bind fun p27 =>
 (stL p27.2 (Addr.add e_10 1) [(.slice p27.1.1 p27.1.2.1 p27.1.2.2)]).bind fun x28 =>
 cond (Bool.and (Bool.and (sameC h p22.2 (Addr.add e_10 1) 1) (Bool.and (sameC h p24.2 (Addr.add e_10 1) 1) (Bool.and (sameC h p26.2 (Addr.add e_10 1) 1) true))) true)
 (c65_1 n m0 h0 b_0 n_3 p_5 t_8 k_9 e_10 (iAdd .i64 i_11 1) x28)
 (none))
 (none))
 (none)))
 ((gL (rdC h (Addr.add e_10 1) 0)).bind fun p29 =>
 (gL (rdC h (Addr.add p_5 0) 0)).bind fun p30 =>
 (p30.1).bind fun a31 =>
 cond (inB k_9 p30.2.1)
 ((gL (rdC h (Addr.add (Addr.add a31 ((Int.toNat k_9) * 9)) 0) 0)).bind fun p32 =>
 (p32.1).bind fun a33 =>
 cond (inB i_11 p32.2.1)
 ((gI .u8 (rdC h (Addr.add a33 ((Int.toNat i_11) * 1)) 0)).bind fun n34 =>
 (runS Tryz.prog n 31 [(.int .u8 n34)] h).bind fun p35 =>
 (gI .i64 (some p35.1)).bind fun n36 =>
 (runS Tryz.prog n 34 [(.pointer (some b_0)),(.int .i64 n36),(.int .u8 (iAdd .u8 n_3 (iConv .u8 i_11)))] p35.2).bind fun p37 =>
 (gI .i64 (some p37.1)).bind fun n38 =>
 (N p37.2 [(.int .i64 n38)] 1).bind fun p39 =>
 (appL 1 8 (.slice p29.1 p29.2.1 p29.2.2) (.slice (some ⟨p39.1,0,none⟩) 1 1) p39.2).bind fun p40 =>
 (stL p40.2 (Addr.add e_10 1) [(.slice p40.1.1 p40.1.2.1 p40.1.2.2)]).bind fun x41 =>
 cond (Bool.and (Bool.and (sameC h p35.2 (Addr.add e_10 1) 1) (Bool.and (sameC h p37.2 (Addr.add e_10 1) 1) (Bool.and (sameC h p39.2 (Addr.add e_10 1) 1) true))) true)
 (c65_1 n m0 h0 b_0 n_3 p_5 t_8 k_9 e_10 (iAdd .i64 i_11 1) x41)
 (none))
 (none))
 (none)))
 (none))
 (none))
 ((gI .i64 (rdC h e_10 0)).bind fun n42 =>
 (gL (rdC h e_10 1)).bind fun p43 =>
 (stL h t_8 [(.int .i64 n42),(.slice p43.1 p43.2.1 p43.2.2)]).bind fun x44 =>
 (gI .i64 (rdC x44 t_8 0)).bind fun n45 =>
 (gL (rdC x44 t_8 1)).bind fun p46 =>
 some (exitR h0 x44 (.agg #[(.int .i64 n45),(.slice p46.1 p46.2.1 p46.2.2)]))))
 (none):=by kernel_rfl
def p85 : List (List Nat × List Nat):=[([0,1,0,1,1],[0,3,4])]
section
variable (N : NewF) (n m0 : Nat) (h0 : AH) (w_0 m_3 i_4 : Int) (h : AH)
 noncomputable def c85_0 : Option (Go.Value × AH):=resY Tryz.prog n Tryz.f69 h0 (.head (subC (bodyC Tryz.f69) [1,1,0,1,0,0]) [0,1,0,1,1] m0) [.block 0,.seq (subC (bodyC Tryz.f69) [1,1,1]) [1,1,1]] (E [(0,.int .i64 w_0),(3,.int .u64 m_3),(4,.int .i64 i_4)]) h
 noncomputable def c85_0Y : Option (Go.Value × AH):=yhead Tryz.prog (runS Tryz.prog n) n Tryz.f69 h0 p85 N (resY Tryz.prog n Tryz.f69 h0) (subC (bodyC Tryz.f69) [1,1,0,1,0,0]) [0,1,0,1,1] m0 [.block 0,.seq (subC (bodyC Tryz.f69) [1,1,1]) [1,1,1]] (E [(0,.int .i64 w_0),(3,.int .u64 m_3),(4,.int .i64 i_4)]) h
variable {n m0} {h0} {w_0 m_3 i_4} {h}
theorem c85_0_ok {r : Go.Value × AH} (hv : c85_0Y hNew n m0 h0 w_0 m_3 i_4 h = some r) : c85_0 n (m0 + 1) h0 w_0 m_3 i_4 h = some r:=yhead_ok hv
end
 noncomputable def t85Y (N : NewF) (n : Nat) (w_0 : Int) (h : AH) : Option (Go.Value × AH):=yrun Tryz.prog (runS Tryz.prog n) n p85 N (resY Tryz.prog n) 69 [(.int .i64 w_0)] h
theorem t85_ok {n : Nat} {w_0 : Int} {h : AH} {r : Go.Value × AH} (hv : t85Y hNew n w_0 h = some r) : runS Tryz.prog (n + 1) 69 [(.int .i64 w_0)] h = some r:=yrun_ok hv
theorem t85 (N : NewF) (n : Nat) (w_0 : Int) (h : AH) : t85Y N n w_0 h =
 c85_0 n n h w_0 0 0 (setLow h h.next):=by kernel_rfl
theorem c85_0_eq (N : NewF) (n m0 : Nat) (h0 : AH) (w_0 m_3 i_4 : Int) (h : AH) : c85_0Y N n m0 h0 w_0 m_3 i_4 h =
 cond (iLt i_4 w_0)
 (c85_0 n m0 h0 w_0 (iAdd .u64 (mulS .u64 m_3 2) 1) (iAdd .i64 i_4 1) h)
 (some (exitR h0 h (.int .u64 m_3))):=by kernel_rfl
def p89 : List (List Nat × List Nat):=[]
 noncomputable def t89Y (N : NewF) (n : Nat) (b_0 : Addr) (op_1 w_2 : Int) (args_3 : Option Addr) (args_3n args_3c : Nat) (num_4 mem_5 : Int) (h : AH) : Option (Go.Value × AH):=yrun Tryz.prog (runS Tryz.prog n) n p89 N (resY Tryz.prog n) 68 [(.pointer (some b_0)),(.int .i64 op_1),(.int .i64 w_2),(.slice args_3 args_3n args_3c),(.int .u64 num_4),(.int .i64 mem_5)] h
theorem t89_ok {n : Nat} {b_0 : Addr} {op_1 w_2 : Int} {args_3 : Option Addr} {args_3n args_3c : Nat} {num_4 mem_5 : Int} {h : AH} {r : Go.Value × AH} (hv : t89Y hNew n b_0 op_1 w_2 args_3 args_3n args_3c num_4 mem_5 h = some r) : runS Tryz.prog (n + 1) 68 [(.pointer (some b_0)),(.int .i64 op_1),(.int .i64 w_2),(.slice args_3 args_3n args_3c),(.int .u64 num_4),(.int .i64 mem_5)] h = some r:=yrun_ok hv
theorem t89 (N : NewF) (n : Nat) (b_0 : Addr) (op_1 w_2 : Int) (args_3 : Option Addr) (args_3n args_3c : Nat) (num_4 mem_5 : Int) (h : AH) : t89Y N n b_0 op_1 w_2 args_3 args_3n args_3c num_4 mem_5 h =
 (runS Tryz.prog n 32 [(.pointer (some b_0)),(.int .i64 w_2)] (setLow h h.next)).bind fun p0 =>
 (gI .i64 (some p0.1)).bind fun n1 =>
 (gL (rdC p0.2 (Addr.add b_0 7) 0)).bind fun p2 =>
 (N p0.2 [(.int .i64 op_1),(.int .i64 n1),(.slice args_3 args_3n args_3c),(.int .u64 num_4),(.int .i64 mem_5)] 5).bind fun p3 =>
 (appL 5 56 (.slice p2.1 p2.2.1 p2.2.2) (.slice (some ⟨p3.1,0,none⟩) 1 1) p3.2).bind fun p4 =>
 (stL p4.2 (Addr.add b_0 7) [(.slice p4.1.1 p4.1.2.1 p4.1.2.2)]).bind fun x5 =>
 (gL (rdC x5 (Addr.add b_0 6) 0)).bind fun p6 =>
 (N x5 [(.int .i64 n1)] 1).bind fun p7 =>
 (appL 1 8 (.slice p6.1 p6.2.1 p6.2.2) (.slice (some ⟨p7.1,0,none⟩) 1 1) p7.2).bind fun p8 =>
 (stL p8.2 (Addr.add b_0 6) [(.slice p8.1.1 p8.1.2.1 p8.1.2.2)]).bind fun x9 =>
 some (exitR h x9 (.int .i64 n1)):=by kernel_rfl
def p9 : List (List Nat × List Nat):=[]
 noncomputable def t9Y (N : NewF) (n : Nat) (p_0a : Option Addr) (p_0an p_0ac : Nat) (p_0b : Option Addr) (p_0bn p_0bc : Nat) (h : AH) : Option (Go.Value × AH):=yrun Tryz.prog (runS Tryz.prog n) n p9 N (resY Tryz.prog n) 5 [(.agg #[(.slice p_0a p_0an p_0ac),(.slice p_0b p_0bn p_0bc)])] h
theorem t9_ok {n : Nat} {p_0a : Option Addr} {p_0an p_0ac : Nat} {p_0b : Option Addr} {p_0bn p_0bc : Nat} {h : AH} {r : Go.Value × AH} (hv : t9Y hNew n p_0a p_0an p_0ac p_0b p_0bn p_0bc h = some r) : runS Tryz.prog (n + 1) 5 [(.agg #[(.slice p_0a p_0an p_0ac),(.slice p_0b p_0bn p_0bc)])] h = some r:=yrun_ok hv
theorem t9 (N : NewF) (n : Nat) (p_0a : Option Addr) (p_0an p_0ac : Nat) (p_0b : Option Addr) (p_0bn p_0bc : Nat) (h : AH) : t9Y N n p_0a p_0an p_0ac p_0b p_0bn p_0bc h =
 (N (setLow h h.next) [(.slice p_0a p_0an p_0ac),(.slice p_0b p_0bn p_0bc)] 0).bind fun p0 =>
 (N p0.2 [(.string (ByteArray.mk (List.toArray []))),(.slice none 0 0),(.slice none 0 0),(.slice none 0 0),(.slice none 0 0),(.slice none 0 0)] 0).bind fun p1 =>
 (gL (rdC p1.2 ⟨p0.1,0,none⟩ 0)).bind fun p2 =>
 (gL (rdC p1.2 ⟨p0.1,0,none⟩ 1)).bind fun p3 =>
 (runS Tryz.prog n 9 [(.agg #[(.slice p2.1 p2.2.1 p2.2.2),(.slice p3.1 p3.2.1 p3.2.2)])] p1.2).bind fun p4 =>
 (gB (some p4.1)).bind fun b5 =>
 cond (Bool.not b5)
 ((stL p4.2 ⟨p1.1,0,none⟩ [(.string (ByteArray.mk (List.toArray []))),(.slice none 0 0),(.slice none 0 0),(.slice none 0 0),(.slice none 0 0),(.slice none 0 0)]).bind fun x6 =>
 (gS (rdC x6 ⟨p1.1,0,none⟩ 0)).bind fun x7 =>
 (gL (rdC x6 ⟨p1.1,0,none⟩ 1)).bind fun p8 =>
 (gL (rdC x6 ⟨p1.1,0,none⟩ 2)).bind fun p9 =>
 (gL (rdC x6 ⟨p1.1,0,none⟩ 3)).bind fun p10 =>
 (gL (rdC x6 ⟨p1.1,0,none⟩ 4)).bind fun p11 =>
 (gL (rdC x6 ⟨p1.1,0,none⟩ 5)).bind fun p12 =>
 some (exitR h x6 (.tuple #[(.agg #[(.string x7),(.slice p8.1 p8.2.1 p8.2.2),(.slice p9.1 p9.2.1 p9.2.2),(.slice p10.1 p10.2.1 p10.2.2),(.slice p11.1 p11.2.1 p11.2.2),(.slice p12.1 p12.2.1 p12.2.2)]),(.bool false)])))
 ((gL (rdC p4.2 ⟨p0.1,0,none⟩ 0)).bind fun p13 =>
 (gL (rdC p4.2 ⟨p0.1,0,none⟩ 1)).bind fun p14 =>
 (runS Tryz.prog n 10 [(.agg #[(.slice p13.1 p13.2.1 p13.2.2),(.slice p14.1 p14.2.1 p14.2.2)])] p4.2).bind fun p15 =>
 cond (aggIs 6 p15.1)
 ((gS (aggC 0 p15.1)).bind fun x16 =>
 (gL (aggC 1 p15.1)).bind fun p17 =>
 (gL (aggC 2 p15.1)).bind fun p18 =>
 (gL (aggC 3 p15.1)).bind fun p19 =>
 (gL (aggC 4 p15.1)).bind fun p20 =>
 (gL (aggC 5 p15.1)).bind fun p21 =>
 (N p15.2 [(.string (ByteArray.mk (List.toArray []))),(.slice none 0 0),(.slice none 0 0),(.slice none 0 0),(.slice none 0 0),(.slice none 0 0)] 0).bind fun p22 =>
 (stL p22.2 ⟨p22.1,0,none⟩ [(.string x16),(.slice p17.1 p17.2.1 p17.2.2),(.slice p18.1 p18.2.1 p18.2.2),(.slice p19.1 p19.2.1 p19.2.2),(.slice p20.1 p20.2.1 p20.2.2),(.slice p21.1 p21.2.1 p21.2.2)]).bind fun x23 =>
 (gS (rdC x23 ⟨p22.1,0,none⟩ 0)).bind fun x24 =>
 (gL (rdC x23 ⟨p22.1,0,none⟩ 1)).bind fun p25 =>
 (gL (rdC x23 ⟨p22.1,0,none⟩ 2)).bind fun p26 =>
 (gL (rdC x23 ⟨p22.1,0,none⟩ 3)).bind fun p27 =>
 (gL (rdC x23 ⟨p22.1,0,none⟩ 4)).bind fun p28 =>
 (gL (rdC x23 ⟨p22.1,0,none⟩ 5)).bind fun p29 =>
 (gS (rdC x23 ⟨p22.1,0,none⟩ 0)).bind fun x30 =>
 (gL (rdC x23 ⟨p22.1,0,none⟩ 1)).bind fun p31 =>
 (gL (rdC x23 ⟨p22.1,0,none⟩ 2)).bind fun p32 =>
 (gL (rdC x23 ⟨p22.1,0,none⟩ 3)).bind fun p33 =>
 (gL (rdC x23 ⟨p22.1,0,none⟩ 4)).bind fun p34 =>
 (gL (rdC x23 ⟨p22.1,0,none⟩ 5)).bind fun p35 =>
 (runS Tryz.prog n 6 [(.agg #[(.string x30),(.slice p31.1 p31.2.1 p31.2.2),(.slice p32.1 p32.2.1 p32.2.2),(.slice p33.1 p33.2.1 p33.2.2),(.slice p34.1 p34.2.1 p34.2.2),(.slice p35.1 p35.2.1 p35.2.2)])] (setLow x23 x23.next)).bind fun p36 =>
 (gB (some p36.1)).bind fun b37 =>
 cond (Nat.beq p36.2.low x23.next)
 ((stL (setLow p36.2 x23.low) ⟨p1.1,0,none⟩ [(.string x24),(.slice p25.1 p25.2.1 p25.2.2),(.slice p26.1 p26.2.1 p26.2.2),(.slice p27.1 p27.2.1 p27.2.2),(.slice p28.1 p28.2.1 p28.2.2),(.slice p29.1 p29.2.1 p29.2.2)]).bind fun x38 =>
 (gS (rdC x38 ⟨p1.1,0,none⟩ 0)).bind fun x39 =>
 (gL (rdC x38 ⟨p1.1,0,none⟩ 1)).bind fun p40 =>
 (gL (rdC x38 ⟨p1.1,0,none⟩ 2)).bind fun p41 =>
 (gL (rdC x38 ⟨p1.1,0,none⟩ 3)).bind fun p42 =>
 (gL (rdC x38 ⟨p1.1,0,none⟩ 4)).bind fun p43 =>
 (gL (rdC x38 ⟨p1.1,0,none⟩ 5)).bind fun p44 =>
 some (exitR h x38 (.tuple #[(.agg #[(.string x39),(.slice p40.1 p40.2.1 p40.2.2),(.slice p41.1 p41.2.1 p41.2.2),(.slice p42.1 p42.2.1 p42.2.2),(.slice p43.1 p43.2.1 p43.2.2),(.slice p44.1 p44.2.1 p44.2.2)]),(.bool b37)])))
 (none))
 (none)):=by kernel_rfl
def p10 : List (List Nat × List Nat):=[([1,1],[2,3]),([0,1,0,1,1],[2,3,58,59]),([0,1,0,1,1,1],[2,3,76,77]),([0,1,0,1,1,1,1],[2,3,94,95])]
section
variable (N : NewF) (n : Nat) (h0 : AH) (a_2 b_3 : Addr) (h : AH)
 noncomputable def c10_0 : Option (Go.Value × AH):=resY Tryz.prog n Tryz.f8 h0 (.code (subC (bodyC Tryz.f8) [1,1]) [1,1]) [] (E [(2,.pointer (some a_2)),(3,.pointer (some b_3))]) h
 noncomputable def c10_0Y : Option (Go.Value × AH):=yfrom Tryz.prog (runS Tryz.prog n) n Tryz.f8 h0 p10 N (resY Tryz.prog n Tryz.f8 h0) (subC (bodyC Tryz.f8) [1,1]) [1,1] [] (E [(2,.pointer (some a_2)),(3,.pointer (some b_3))]) h
variable {n} {h0} {a_2 b_3} {h}
theorem c10_0_ok {r : Go.Value × AH} (hv : c10_0Y hNew n h0 a_2 b_3 h = some r) : c10_0 n h0 a_2 b_3 h = some r:=yfrom_ok hv
end
section
variable (N : NewF) (n m0 : Nat) (h0 : AH) (a_2 b_3 : Addr) (t_58 t_59 : Int) (h : AH)
 noncomputable def c10_1 : Option (Go.Value × AH):=resY Tryz.prog n Tryz.f8 h0 (.head (subC (bodyC Tryz.f8) [1,1,0,1,0,0]) [0,1,0,1,1] m0) [.block 0,.seq (subC (bodyC Tryz.f8) [1,1,1]) [1,1,1]] (E [(2,.pointer (some a_2)),(3,.pointer (some b_3)),(58,.int .i64 t_58),(59,.int .i64 t_59)]) h
 noncomputable def c10_1Y : Option (Go.Value × AH):=yhead Tryz.prog (runS Tryz.prog n) n Tryz.f8 h0 p10 N (resY Tryz.prog n Tryz.f8 h0) (subC (bodyC Tryz.f8) [1,1,0,1,0,0]) [0,1,0,1,1] m0 [.block 0,.seq (subC (bodyC Tryz.f8) [1,1,1]) [1,1,1]] (E [(2,.pointer (some a_2)),(3,.pointer (some b_3)),(58,.int .i64 t_58),(59,.int .i64 t_59)]) h
variable {n m0} {h0} {a_2 b_3 t_58 t_59} {h}
theorem c10_1_ok {r : Go.Value × AH} (hv : c10_1Y hNew n m0 h0 a_2 b_3 t_58 t_59 h = some r) : c10_1 n (m0 + 1) h0 a_2 b_3 t_58 t_59 h = some r:=yhead_ok hv
end
section
variable (N : NewF) (n m0 : Nat) (h0 : AH) (a_2 b_3 : Addr) (t_76 t_77 : Int) (h : AH)
 noncomputable def c10_2 : Option (Go.Value × AH):=resY Tryz.prog n Tryz.f8 h0 (.head (subC (bodyC Tryz.f8) [1,1,1,0,1,0,0]) [0,1,0,1,1,1] m0) [.block 2,.seq (subC (bodyC Tryz.f8) [1,1,1,1]) [1,1,1,1]] (E [(2,.pointer (some a_2)),(3,.pointer (some b_3)),(76,.int .i64 t_76),(77,.int .i64 t_77)]) h
 noncomputable def c10_2Y : Option (Go.Value × AH):=yhead Tryz.prog (runS Tryz.prog n) n Tryz.f8 h0 p10 N (resY Tryz.prog n Tryz.f8 h0) (subC (bodyC Tryz.f8) [1,1,1,0,1,0,0]) [0,1,0,1,1,1] m0 [.block 2,.seq (subC (bodyC Tryz.f8) [1,1,1,1]) [1,1,1,1]] (E [(2,.pointer (some a_2)),(3,.pointer (some b_3)),(76,.int .i64 t_76),(77,.int .i64 t_77)]) h
variable {n m0} {h0} {a_2 b_3 t_76 t_77} {h}
theorem c10_2_ok {r : Go.Value × AH} (hv : c10_2Y hNew n m0 h0 a_2 b_3 t_76 t_77 h = some r) : c10_2 n (m0 + 1) h0 a_2 b_3 t_76 t_77 h = some r:=yhead_ok hv
end
section
variable (N : NewF) (n m0 : Nat) (h0 : AH) (a_2 b_3 : Addr) (t_94 t_95 : Int) (h : AH)
 noncomputable def c10_3 : Option (Go.Value × AH):=resY Tryz.prog n Tryz.f8 h0 (.head (subC (bodyC Tryz.f8) [1,1,1,1,0,1,0,0]) [0,1,0,1,1,1,1] m0) [.block 4,.seq (subC (bodyC Tryz.f8) [1,1,1,1,1]) [1,1,1,1,1]] (E [(2,.pointer (some a_2)),(3,.pointer (some b_3)),(94,.int .i64 t_94),(95,.int .i64 t_95)]) h
 noncomputable def c10_3Y : Option (Go.Value × AH):=yhead Tryz.prog (runS Tryz.prog n) n Tryz.f8 h0 p10 N (resY Tryz.prog n Tryz.f8 h0) (subC (bodyC Tryz.f8) [1,1,1,1,0,1,0,0]) [0,1,0,1,1,1,1] m0 [.block 4,.seq (subC (bodyC Tryz.f8) [1,1,1,1,1]) [1,1,1,1,1]] (E [(2,.pointer (some a_2)),(3,.pointer (some b_3)),(94,.int .i64 t_94),(95,.int .i64 t_95)]) h
variable {n m0} {h0} {a_2 b_3 t_94 t_95} {h}
theorem c10_3_ok {r : Go.Value × AH} (hv : c10_3Y hNew n m0 h0 a_2 b_3 t_94 t_95 h = some r) : c10_3 n (m0 + 1) h0 a_2 b_3 t_94 t_95 h = some r:=yhead_ok hv
end
 noncomputable def t10Y (N : NewF) (n : Nat) (a_0a : ByteArray) (a_0b : Option Addr) (a_0bn a_0bc : Nat) (a_0c : Option Addr) (a_0cn a_0cc : Nat) (a_0d : Option Addr) (a_0dn a_0dc : Nat) (a_0e : Option Addr) (a_0en a_0ec : Nat) (a_0f : Option Addr) (a_0fn a_0fc : Nat) (b_1a : ByteArray) (b_1b : Option Addr) (b_1bn b_1bc : Nat) (b_1c : Option Addr) (b_1cn b_1cc : Nat) (b_1d : Option Addr) (b_1dn b_1dc : Nat) (b_1e : Option Addr) (b_1en b_1ec : Nat) (b_1f : Option Addr) (b_1fn b_1fc : Nat) (h : AH) : Option (Go.Value × AH):=yrun Tryz.prog (runS Tryz.prog n) n p10 N (resY Tryz.prog n) 8 [(.agg #[(.string a_0a),(.slice a_0b a_0bn a_0bc),(.slice a_0c a_0cn a_0cc),(.slice a_0d a_0dn a_0dc),(.slice a_0e a_0en a_0ec),(.slice a_0f a_0fn a_0fc)]),(.agg #[(.string b_1a),(.slice b_1b b_1bn b_1bc),(.slice b_1c b_1cn b_1cc),(.slice b_1d b_1dn b_1dc),(.slice b_1e b_1en b_1ec),(.slice b_1f b_1fn b_1fc)])] h
theorem t10_ok {n : Nat} {a_0a : ByteArray} {a_0b : Option Addr} {a_0bn a_0bc : Nat} {a_0c : Option Addr} {a_0cn a_0cc : Nat} {a_0d : Option Addr} {a_0dn a_0dc : Nat} {a_0e : Option Addr} {a_0en a_0ec : Nat} {a_0f : Option Addr} {a_0fn a_0fc : Nat} {b_1a : ByteArray} {b_1b : Option Addr} {b_1bn b_1bc : Nat} {b_1c : Option Addr} {b_1cn b_1cc : Nat} {b_1d : Option Addr} {b_1dn b_1dc : Nat} {b_1e : Option Addr} {b_1en b_1ec : Nat} {b_1f : Option Addr} {b_1fn b_1fc : Nat} {h : AH} {r : Go.Value × AH} (hv : t10Y hNew n a_0a a_0b a_0bn a_0bc a_0c a_0cn a_0cc a_0d a_0dn a_0dc a_0e a_0en a_0ec a_0f a_0fn a_0fc b_1a b_1b b_1bn b_1bc b_1c b_1cn b_1cc b_1d b_1dn b_1dc b_1e b_1en b_1ec b_1f b_1fn b_1fc h = some r) : runS Tryz.prog (n + 1) 8 [(.agg #[(.string a_0a),(.slice a_0b a_0bn a_0bc),(.slice a_0c a_0cn a_0cc),(.slice a_0d a_0dn a_0dc),(.slice a_0e a_0en a_0ec),(.slice a_0f a_0fn a_0fc)]),(.agg #[(.string b_1a),(.slice b_1b b_1bn b_1bc),(.slice b_1c b_1cn b_1cc),(.slice b_1d b_1dn b_1dc),(.slice b_1e b_1en b_1ec),(.slice b_1f b_1fn b_1fc)])] h = some r:=yrun_ok hv
theorem t10 (N : NewF) (n : Nat) (a_0a : ByteArray) (a_0b : Option Addr) (a_0bn a_0bc : Nat) (a_0c : Option Addr) (a_0cn a_0cc : Nat) (a_0d : Option Addr) (a_0dn a_0dc : Nat) (a_0e : Option Addr) (a_0en a_0ec : Nat) (a_0f : Option Addr) (a_0fn a_0fc : Nat) (b_1a : ByteArray) (b_1b : Option Addr) (b_1bn b_1bc : Nat) (b_1c : Option Addr) (b_1cn b_1cc : Nat) (b_1d : Option Addr) (b_1dn b_1dc : Nat) (b_1e : Option Addr) (b_1en b_1ec : Nat) (b_1f : Option Addr) (b_1fn b_1fc : Nat) (h : AH) : t10Y N n a_0a a_0b a_0bn a_0bc a_0c a_0cn a_0cc a_0d a_0dn a_0dc a_0e a_0en a_0ec a_0f a_0fn a_0fc b_1a b_1b b_1bn b_1bc b_1c b_1cn b_1cc b_1d b_1dn b_1dc b_1e b_1en b_1ec b_1f b_1fn b_1fc h =
 (N (setLow h h.next) [(.string a_0a),(.slice a_0b a_0bn a_0bc),(.slice a_0c a_0cn a_0cc),(.slice a_0d a_0dn a_0dc),(.slice a_0e a_0en a_0ec),(.slice a_0f a_0fn a_0fc)] 0).bind fun p0 =>
 (N p0.2 [(.string b_1a),(.slice b_1b b_1bn b_1bc),(.slice b_1c b_1cn b_1cc),(.slice b_1d b_1dn b_1dc),(.slice b_1e b_1en b_1ec),(.slice b_1f b_1fn b_1fc)] 0).bind fun p1 =>
 (gS (rdC p1.2 (Addr.add ⟨p0.1,0,none⟩ 0) 0)).bind fun x2 =>
 (gS (rdC p1.2 (Addr.add ⟨p1.1,0,none⟩ 0) 0)).bind fun x3 =>
 cond (Bool.not (BEq.beq (ByteArray.toList x2) (ByteArray.toList x3)))
 (some (exitR h p1.2 (.bool false)))
 ((gL (rdC p1.2 (Addr.add ⟨p0.1,0,none⟩ 1) 0)).bind fun p4 =>
 (gL (rdC p1.2 (Addr.add ⟨p1.1,0,none⟩ 1) 0)).bind fun p5 =>
 (runS Tryz.prog n 29 [(.slice p4.1 p4.2.1 p4.2.2),(.slice p5.1 p5.2.1 p5.2.2)] p1.2).bind fun p6 =>
 (gB (some p6.1)).bind fun b7 =>
 cond (Bool.not b7)
 (some (exitR h p6.2 (.bool false)))
 ((gL (rdC p6.2 (Addr.add ⟨p0.1,0,none⟩ 4) 0)).bind fun p8 =>
 (gL (rdC p6.2 (Addr.add ⟨p1.1,0,none⟩ 4) 0)).bind fun p9 =>
 (runS Tryz.prog n 29 [(.slice p8.1 p8.2.1 p8.2.2),(.slice p9.1 p9.2.1 p9.2.2)] p6.2).bind fun p10 =>
 (gB (some p10.1)).bind fun b11 =>
 cond (Bool.not b11)
 (some (exitR h p10.2 (.bool false)))
 ((gL (rdC p10.2 (Addr.add ⟨p0.1,0,none⟩ 2) 0)).bind fun p12 =>
 (gL (rdC p10.2 (Addr.add ⟨p1.1,0,none⟩ 2) 0)).bind fun p13 =>
 cond (iNe (Int.ofNat p12.2.1) (Int.ofNat p13.2.1))
 (some (exitR h p10.2 (.bool false)))
 ((gL (rdC p10.2 (Addr.add ⟨p0.1,0,none⟩ 3) 0)).bind fun p14 =>
 (gL (rdC p10.2 (Addr.add ⟨p1.1,0,none⟩ 3) 0)).bind fun p15 =>
 cond (iNe (Int.ofNat p14.2.1) (Int.ofNat p15.2.1))
 (some (exitR h p10.2 (.bool false)))
 ((gL (rdC p10.2 (Addr.add ⟨p0.1,0,none⟩ 5) 0)).bind fun p16 =>
 (gL (rdC p10.2 (Addr.add ⟨p1.1,0,none⟩ 5) 0)).bind fun p17 =>
 cond (iNe (Int.ofNat p16.2.1) (Int.ofNat p17.2.1))
 (some (exitR h p10.2 (.bool false)))
 (c10_0 n h ⟨p0.1,0,none⟩ ⟨p1.1,0,none⟩ p10.2)))))):=by kernel_rfl
theorem c10_0_eq (N : NewF) (n  : Nat) (h0 : AH) (a_2 b_3 : Addr) (h : AH) : c10_0Y N n  h0 a_2 b_3 h =
 (gL (rdC h (Addr.add a_2 2) 0)).bind fun p0 =>
 c10_1 n n h0 a_2 b_3 (Int.ofNat p0.2.1) 0 h:=by kernel_rfl
theorem c10_1_eq (N : NewF) (n m0 : Nat) (h0 : AH) (a_2 b_3 : Addr) (t_58 t_59 : Int) (h : AH) : c10_1Y N n m0 h0 a_2 b_3 t_58 t_59 h =
 cond (iLt t_59 t_58)
 ((gL (rdC h (Addr.add a_2 2) 0)).bind fun p0 =>
 (p0.1).bind fun a1 =>
 cond (inB t_59 p0.2.1)
 ((gS (rdC h (Addr.add a1 ((Int.toNat t_59) * 5)) 0)).bind fun x2 =>
 (gI .i64 (rdC h (Addr.add a1 ((Int.toNat t_59) * 5)) 1)).bind fun n3 =>
 (gI .i64 (rdC h (Addr.add a1 ((Int.toNat t_59) * 5)) 2)).bind fun n4 =>
 (gI .i64 (rdC h (Addr.add a1 ((Int.toNat t_59) * 5)) 3)).bind fun n5 =>
 (gI .i64 (rdC h (Addr.add a1 ((Int.toNat t_59) * 5)) 4)).bind fun n6 =>
 (gL (rdC h (Addr.add b_3 2) 0)).bind fun p7 =>
 (p7.1).bind fun a8 =>
 cond (inB t_59 p7.2.1)
 ((gS (rdC h (Addr.add a8 ((Int.toNat t_59) * 5)) 0)).bind fun x9 =>
 (gI .i64 (rdC h (Addr.add a8 ((Int.toNat t_59) * 5)) 1)).bind fun n10 =>
 (gI .i64 (rdC h (Addr.add a8 ((Int.toNat t_59) * 5)) 2)).bind fun n11 =>
 (gI .i64 (rdC h (Addr.add a8 ((Int.toNat t_59) * 5)) 3)).bind fun n12 =>
 (gI .i64 (rdC h (Addr.add a8 ((Int.toNat t_59) * 5)) 4)).bind fun n13 =>
 none)
 (none))
 (none))
 ((gL (rdC h (Addr.add a_2 3) 0)).bind fun p14 =>
 c10_2 n n h0 a_2 b_3 (Int.ofNat p14.2.1) 0 h):=by kernel_rfl
theorem c10_2_eq (N : NewF) (n m0 : Nat) (h0 : AH) (a_2 b_3 : Addr) (t_76 t_77 : Int) (h : AH) : c10_2Y N n m0 h0 a_2 b_3 t_76 t_77 h =
 cond (iLt t_77 t_76)
 ((gL (rdC h (Addr.add a_2 3) 0)).bind fun p0 =>
 (p0.1).bind fun a1 =>
 cond (inB t_77 p0.2.1)
 ((gS (rdC h (Addr.add a1 ((Int.toNat t_77) * 3)) 0)).bind fun x2 =>
 (gI .i64 (rdC h (Addr.add a1 ((Int.toNat t_77) * 3)) 1)).bind fun n3 =>
 (gB (rdC h (Addr.add a1 ((Int.toNat t_77) * 3)) 2)).bind fun b4 =>
 (gL (rdC h (Addr.add b_3 3) 0)).bind fun p5 =>
 (p5.1).bind fun a6 =>
 cond (inB t_77 p5.2.1)
 ((gS (rdC h (Addr.add a6 ((Int.toNat t_77) * 3)) 0)).bind fun x7 =>
 (gI .i64 (rdC h (Addr.add a6 ((Int.toNat t_77) * 3)) 1)).bind fun n8 =>
 (gB (rdC h (Addr.add a6 ((Int.toNat t_77) * 3)) 2)).bind fun b9 =>
 none)
 (none))
 (none))
 ((gL (rdC h (Addr.add a_2 5) 0)).bind fun p10 =>
 c10_3 n n h0 a_2 b_3 (Int.ofNat p10.2.1) 0 h):=by kernel_rfl
theorem c10_3_eq (N : NewF) (n m0 : Nat) (h0 : AH) (a_2 b_3 : Addr) (t_94 t_95 : Int) (h : AH) : c10_3Y N n m0 h0 a_2 b_3 t_94 t_95 h =
 cond (iLt t_95 t_94)
 ((gL (rdC h (Addr.add a_2 5) 0)).bind fun p0 =>
 (p0.1).bind fun a1 =>
 cond (inB t_95 p0.2.1)
 ((gL (rdC h (Addr.add a1 ((Int.toNat t_95) * 9)) 0)).bind fun p2 =>
 (gL (rdC h (Addr.add a1 ((Int.toNat t_95) * 9)) 1)).bind fun p3 =>
 (gI .i64 (rdC h (Addr.add a1 ((Int.toNat t_95) * 9)) 2)).bind fun n4 =>
 (gI .i64 (rdC h (Addr.add a1 ((Int.toNat t_95) * 9)) 3)).bind fun n5 =>
 (gL (rdC h (Addr.add a1 ((Int.toNat t_95) * 9)) 4)).bind fun p6 =>
 (gL (rdC h (Addr.add a1 ((Int.toNat t_95) * 9)) 5)).bind fun p7 =>
 (gI .i64 (rdC h (Addr.add a1 ((Int.toNat t_95) * 9)) 6)).bind fun n8 =>
 (gI .i64 (rdC h (Addr.add a1 ((Int.toNat t_95) * 9)) 7)).bind fun n9 =>
 (gI .i64 (rdC h (Addr.add a1 ((Int.toNat t_95) * 9)) 8)).bind fun n10 =>
 (gL (rdC h (Addr.add b_3 5) 0)).bind fun p11 =>
 (p11.1).bind fun a12 =>
 cond (inB t_95 p11.2.1)
 ((gL (rdC h (Addr.add a12 ((Int.toNat t_95) * 9)) 0)).bind fun p13 =>
 (gL (rdC h (Addr.add a12 ((Int.toNat t_95) * 9)) 1)).bind fun p14 =>
 (gI .i64 (rdC h (Addr.add a12 ((Int.toNat t_95) * 9)) 2)).bind fun n15 =>
 (gI .i64 (rdC h (Addr.add a12 ((Int.toNat t_95) * 9)) 3)).bind fun n16 =>
 (gL (rdC h (Addr.add a12 ((Int.toNat t_95) * 9)) 4)).bind fun p17 =>
 (gL (rdC h (Addr.add a12 ((Int.toNat t_95) * 9)) 5)).bind fun p18 =>
 (gI .i64 (rdC h (Addr.add a12 ((Int.toNat t_95) * 9)) 6)).bind fun n19 =>
 (gI .i64 (rdC h (Addr.add a12 ((Int.toNat t_95) * 9)) 7)).bind fun n20 =>
 (gI .i64 (rdC h (Addr.add a12 ((Int.toNat t_95) * 9)) 8)).bind fun n21 =>
 (runS Tryz.prog n 30 [(.agg #[(.slice p2.1 p2.2.1 p2.2.2),(.slice p3.1 p3.2.1 p3.2.2),(.int .i64 n4),(.int .i64 n5),(.slice p6.1 p6.2.1 p6.2.2),(.slice p7.1 p7.2.1 p7.2.2),(.int .i64 n8),(.int .i64 n9),(.int .i64 n10)]),(.agg #[(.slice p13.1 p13.2.1 p13.2.2),(.slice p14.1 p14.2.1 p14.2.2),(.int .i64 n15),(.int .i64 n16),(.slice p17.1 p17.2.1 p17.2.2),(.slice p18.1 p18.2.1 p18.2.2),(.int .i64 n19),(.int .i64 n20),(.int .i64 n21)])] h).bind fun p22 =>
 (gB (some p22.1)).bind fun b23 =>
 cond (Bool.not b23)
 (some (exitR h0 p22.2 (.bool false)))
 (c10_3 n m0 h0 a_2 b_3 t_94 (iAdd .i64 t_95 1) p22.2))
 (none))
 (none))
 (some (exitR h0 h (.bool true))):=by kernel_rfl
def p30 : List (List Nat × List Nat):=[([0,1,0,1,1],[0,1,12,13])]
section
variable (N : NewF) (n m0 : Nat) (h0 : AH) (a_0 : Option Addr) (a_0n a_0c : Nat) (b_1 : Option Addr) (b_1n b_1c : Nat) (t_12 t_13 : Int) (h : AH)
 noncomputable def c30_0 : Option (Go.Value × AH):=resY Tryz.prog n Tryz.f29 h0 (.head (subC (bodyC Tryz.f29) [1,1,0,1,0,0]) [0,1,0,1,1] m0) [.block 0,.seq (subC (bodyC Tryz.f29) [1,1,1]) [1,1,1]] (E [(0,.slice a_0 a_0n a_0c),(1,.slice b_1 b_1n b_1c),(12,.int .i64 t_12),(13,.int .i64 t_13)]) h
 noncomputable def c30_0Y : Option (Go.Value × AH):=yhead Tryz.prog (runS Tryz.prog n) n Tryz.f29 h0 p30 N (resY Tryz.prog n Tryz.f29 h0) (subC (bodyC Tryz.f29) [1,1,0,1,0,0]) [0,1,0,1,1] m0 [.block 0,.seq (subC (bodyC Tryz.f29) [1,1,1]) [1,1,1]] (E [(0,.slice a_0 a_0n a_0c),(1,.slice b_1 b_1n b_1c),(12,.int .i64 t_12),(13,.int .i64 t_13)]) h
variable {n m0} {h0} {a_0 a_0n a_0c b_1 b_1n b_1c t_12 t_13} {h}
theorem c30_0_ok {r : Go.Value × AH} (hv : c30_0Y hNew n m0 h0 a_0 a_0n a_0c b_1 b_1n b_1c t_12 t_13 h = some r) : c30_0 n (m0 + 1) h0 a_0 a_0n a_0c b_1 b_1n b_1c t_12 t_13 h = some r:=yhead_ok hv
end
 noncomputable def t30Y (N : NewF) (n : Nat) (a_0 : Option Addr) (a_0n a_0c : Nat) (b_1 : Option Addr) (b_1n b_1c : Nat) (h : AH) : Option (Go.Value × AH):=yrun Tryz.prog (runS Tryz.prog n) n p30 N (resY Tryz.prog n) 29 [(.slice a_0 a_0n a_0c),(.slice b_1 b_1n b_1c)] h
theorem t30_ok {n : Nat} {a_0 : Option Addr} {a_0n a_0c : Nat} {b_1 : Option Addr} {b_1n b_1c : Nat} {h : AH} {r : Go.Value × AH} (hv : t30Y hNew n a_0 a_0n a_0c b_1 b_1n b_1c h = some r) : runS Tryz.prog (n + 1) 29 [(.slice a_0 a_0n a_0c),(.slice b_1 b_1n b_1c)] h = some r:=yrun_ok hv
theorem t30 (N : NewF) (n : Nat) (a_0 : Option Addr) (a_0n a_0c : Nat) (b_1 : Option Addr) (b_1n b_1c : Nat) (h : AH) : t30Y N n a_0 a_0n a_0c b_1 b_1n b_1c h =
 cond (iNe (Int.ofNat a_0n) (Int.ofNat b_1n))
 (some (exitR h (setLow h h.next) (.bool false)))
 (c30_0 n n h a_0 a_0n a_0c b_1 b_1n b_1c (Int.ofNat a_0n) 0 (setLow h h.next)):=by kernel_rfl
theorem c30_0_eq (N : NewF) (n m0 : Nat) (h0 : AH) (a_0 : Option Addr) (a_0n a_0c : Nat) (b_1 : Option Addr) (b_1n b_1c : Nat) (t_12 t_13 : Int) (h : AH) : c30_0Y N n m0 h0 a_0 a_0n a_0c b_1 b_1n b_1c t_12 t_13 h =
 cond (iLt t_13 t_12)
 ((a_0).bind fun a0 =>
 cond (inB t_13 a_0n)
 ((gI .i64 (rdC h (Addr.add a0 ((Int.toNat t_13) * 1)) 0)).bind fun n1 =>
 (b_1).bind fun a2 =>
 cond (inB t_13 b_1n)
 ((gI .i64 (rdC h (Addr.add a2 ((Int.toNat t_13) * 1)) 0)).bind fun n3 =>
 cond (iNe n1 n3)
 (some (exitR h0 h (.bool false)))
 (c30_0 n m0 h0 a_0 a_0n a_0c b_1 b_1n b_1c t_12 (iAdd .i64 t_13 1) h))
 (none))
 (none))
 (some (exitR h0 h (.bool true))):=by kernel_rfl
def pl4 : List (List Nat × List Nat):=[([1,1,1,1,1,1],[7])]
section
variable (cf : FuncId → List Go.Value → AH → Option (Go.Value × AH)) (N : NewF) (n : Nat) (h0 : AH) (f_7 : Addr) (h : AH)
 noncomputable def d4_0 : Option (Go.Value × AH):=resC Tryz.prog cf n Tryz.f3 h0 (.code (subC (bodyC Tryz.f3) [1,1,1,1,1,1]) [1,1,1,1,1,1]) [] (E [(7,.pointer (some f_7))]) h
 noncomputable def d4_0Y : Option (Go.Value × AH):=yfrom Tryz.prog cf n Tryz.f3 h0 pl4 N (resC Tryz.prog cf n Tryz.f3 h0) (subC (bodyC Tryz.f3) [1,1,1,1,1,1]) [1,1,1,1,1,1] [] (E [(7,.pointer (some f_7))]) h
variable {cf} {n} {h0} {f_7} {h}
theorem d4_0_ok {r : Go.Value × AH} (hv : d4_0Y cf hNew n h0 f_7 h = some r) : d4_0 cf n h0 f_7 h = some r:=yfrom_okC hv
end
 noncomputable def q4Y (cf : FuncId → List Go.Value → AH → Option (Go.Value × AH)) (N : NewF) (n : Nat) (p_0a : Option Addr) (p_0an p_0ac : Nat) (p_0b : Option Addr) (p_0bn p_0bc : Nat) (what_1 n_2 : Int) (h : AH) : Option (Go.Value × AH):=yrun Tryz.prog cf n pl4 N (resC Tryz.prog cf n) 3 [(.agg #[(.slice p_0a p_0an p_0ac),(.slice p_0b p_0bn p_0bc)]),(.int .u8 what_1),(.int .u16 n_2)] h
theorem q4_ok {cf : FuncId → List Go.Value → AH → Option (Go.Value × AH)} {n : Nat} {p_0a : Option Addr} {p_0an p_0ac : Nat} {p_0b : Option Addr} {p_0bn p_0bc : Nat} {what_1 n_2 : Int} {h : AH} {r : Go.Value × AH} (hv : q4Y cf hNew n p_0a p_0an p_0ac p_0b p_0bn p_0bc what_1 n_2 h = some r) : runC Tryz.prog cf n 3 [(.agg #[(.slice p_0a p_0an p_0ac),(.slice p_0b p_0bn p_0bc)]),(.int .u8 what_1),(.int .u16 n_2)] h = some r:=yrun_okC hv
theorem q4 (cf : FuncId → List Go.Value → AH → Option (Go.Value × AH)) (N : NewF) (n : Nat) (p_0a : Option Addr) (p_0an p_0ac : Nat) (p_0b : Option Addr) (p_0bn p_0bc : Nat) (what_1 n_2 : Int) (h : AH) : q4Y cf N n p_0a p_0an p_0ac p_0b p_0bn p_0bc what_1 n_2 h =
 (N (setLow h h.next) [(.slice p_0a p_0an p_0ac),(.slice p_0b p_0bn p_0bc)] 0).bind fun p0 =>
 (cf 4 [] p0.2).bind fun p1 =>
 (gB (some p1.1)).bind fun b2 =>
 cond (Bool.not b2)
 (some (exitR h p1.2 (.bool false)))
 ((gL (rdC p1.2 ⟨p0.1,0,none⟩ 0)).bind fun p3 =>
 (gL (rdC p1.2 ⟨p0.1,0,none⟩ 1)).bind fun p4 =>
 (cf 5 [(.agg #[(.slice p3.1 p3.2.1 p3.2.2),(.slice p4.1 p4.2.1 p4.2.2)])] p1.2).bind fun p5 =>
 cond (tupIs 2 p5.1)
 ((tupC 0 p5.1).bind fun v6 =>
 cond (aggIs 6 v6)
 ((gS (aggC 0 v6)).bind fun x7 =>
 (gL (aggC 1 v6)).bind fun p8 =>
 (gL (aggC 2 v6)).bind fun p9 =>
 (gL (aggC 3 v6)).bind fun p10 =>
 (gL (aggC 4 v6)).bind fun p11 =>
 (gL (aggC 5 v6)).bind fun p12 =>
 (gB (tupC 1 p5.1)).bind fun b13 =>
 (N p5.2 [(.string (ByteArray.mk (List.toArray []))),(.slice none 0 0),(.slice none 0 0),(.slice none 0 0),(.slice none 0 0),(.slice none 0 0)] 0).bind fun p14 =>
 (stL p14.2 ⟨p14.1,0,none⟩ [(.string x7),(.slice p8.1 p8.2.1 p8.2.2),(.slice p9.1 p9.2.1 p9.2.2),(.slice p10.1 p10.2.1 p10.2.2),(.slice p11.1 p11.2.1 p11.2.2),(.slice p12.1 p12.2.1 p12.2.2)]).bind fun x15 =>
 cond (Bool.not b13)
 (some (exitR h x15 (.bool true)))
 ((gL (rdC x15 (Addr.add ⟨p14.1,0,none⟩ 5) 0)).bind fun p16 =>
 (gL (rdC x15 (Addr.add ⟨p14.1,0,none⟩ 5) 0)).bind fun p17 =>
 cond (iEq (Int.ofNat p17.2.1) 0)
 (none)
 ((p16.1).bind fun a18 =>
 cond (inB (iRem .i64 (iConv .i64 n_2) (Int.ofNat p17.2.1)) p16.2.1)
 (cond (iEq (iRem .u8 what_1 4) 0)
 ((stL x15 (Addr.add (Addr.add (Addr.add a18 ((Int.toNat (iRem .i64 (iConv .i64 n_2) (Int.ofNat p17.2.1))) * 9)) 2) 0) [(.int .i64 9)]).bind fun x19 =>
 d4_0 cf n h ⟨p14.1,0,none⟩ x19)
 (cond (iEq (iRem .u8 what_1 4) 1)
 ((gL (rdC x15 (Addr.add (Addr.add (Addr.add a18 ((Int.toNat (iRem .i64 (iConv .i64 n_2) (Int.ofNat p17.2.1))) * 9)) 2) 3) 0)).bind fun p20 =>
 (gL (rdC x15 (Addr.add ⟨p14.1,0,none⟩ 1) 0)).bind fun p21 =>
 (N x15 [(.int .i64 (iAdd .i64 (Int.ofNat p21.2.1) (iConv .i64 n_2)))] 1).bind fun p22 =>
 (appL 1 8 (.slice p20.1 p20.2.1 p20.2.2) (.slice (some ⟨p22.1,0,none⟩) 1 1) p22.2).bind fun p23 =>
 (stL p23.2 (Addr.add (Addr.add (Addr.add a18 ((Int.toNat (iRem .i64 (iConv .i64 n_2) (Int.ofNat p17.2.1))) * 9)) 2) 3) [(.slice p23.1.1 p23.1.2.1 p23.1.2.2)]).bind fun x24 =>
 d4_0 cf n h ⟨p14.1,0,none⟩ x24)
 (cond (iEq (iRem .u8 what_1 4) 2)
 ((gL (rdC x15 (Addr.add (Addr.add a18 ((Int.toNat (iRem .i64 (iConv .i64 n_2) (Int.ofNat p17.2.1))) * 9)) 1) 0)).bind fun p25 =>
 (N x15 [(.int .i64 77),(.int .i64 0),(.slice none 0 0),(.int .u64 0),(.int .i64 0)] 5).bind fun p26 =>
 (appL 5 56 (.slice p25.1 p25.2.1 p25.2.2) (.slice (some ⟨p26.1,0,none⟩) 1 1) p26.2).bind fun p27 =>
 (stL p27.2 (Addr.add (Addr.add a18 ((Int.toNat (iRem .i64 (iConv .i64 n_2) (Int.ofNat p17.2.1))) * 9)) 1) [(.slice p27.1.1 p27.1.2.1 p27.1.2.2)]).bind fun x28 =>
 d4_0 cf n h ⟨p14.1,0,none⟩ x28)
 ((gL (rdC x15 (Addr.add (Addr.add a18 ((Int.toNat (iRem .i64 (iConv .i64 n_2) (Int.ofNat p17.2.1))) * 9)) 0) 0)).bind fun p29 =>
 (N x15 [(.int .i64 (-1))] 1).bind fun p30 =>
 (appL 1 8 (.slice p29.1 p29.2.1 p29.2.2) (.slice (some ⟨p30.1,0,none⟩) 1 1) p30.2).bind fun p31 =>
 (stL p31.2 (Addr.add (Addr.add a18 ((Int.toNat (iRem .i64 (iConv .i64 n_2) (Int.ofNat p17.2.1))) * 9)) 0) [(.slice p31.1.1 p31.1.2.1 p31.1.2.2)]).bind fun x32 =>
 d4_0 cf n h ⟨p14.1,0,none⟩ x32))))
 (none))))
 (none))
 (none)):=by kernel_rfl
theorem d4_0_eq (cf : FuncId → List Go.Value → AH → Option (Go.Value × AH)) (N : NewF) (n  : Nat) (h0 : AH) (f_7 : Addr) (h : AH) : d4_0Y cf N n  h0 f_7 h =
 (gS (rdC h f_7 0)).bind fun x0 =>
 (gL (rdC h f_7 1)).bind fun p1 =>
 (gL (rdC h f_7 2)).bind fun p2 =>
 (gL (rdC h f_7 3)).bind fun p3 =>
 (gL (rdC h f_7 4)).bind fun p4 =>
 (gL (rdC h f_7 5)).bind fun p5 =>
 (cf 6 [(.agg #[(.string x0),(.slice p1.1 p1.2.1 p1.2.2),(.slice p2.1 p2.2.1 p2.2.2),(.slice p3.1 p3.2.1 p3.2.2),(.slice p4.1 p4.2.1 p4.2.2),(.slice p5.1 p5.2.1 p5.2.2)])] h).bind fun p6 =>
 (gB (some p6.1)).bind fun b7 =>
 cond b7
 (some (exitR h0 p6.2 (.bool true)))
 ((gS (rdC p6.2 f_7 0)).bind fun x8 =>
 (gL (rdC p6.2 f_7 1)).bind fun p9 =>
 (gL (rdC p6.2 f_7 2)).bind fun p10 =>
 (gL (rdC p6.2 f_7 3)).bind fun p11 =>
 (gL (rdC p6.2 f_7 4)).bind fun p12 =>
 (gL (rdC p6.2 f_7 5)).bind fun p13 =>
 (cf 7 [(.agg #[(.string x8),(.slice p9.1 p9.2.1 p9.2.2),(.slice p10.1 p10.2.1 p10.2.2),(.slice p11.1 p11.2.1 p11.2.2),(.slice p12.1 p12.2.1 p12.2.2),(.slice p13.1 p13.2.1 p13.2.2)])] p6.2).bind fun p14 =>
 cond (tupIs 2 p14.1)
 ((tupC 0 p14.1).bind fun v15 =>
 cond (aggIs 6 v15)
 ((gS (aggC 0 v15)).bind fun x16 =>
 (gL (aggC 1 v15)).bind fun p17 =>
 (gL (aggC 2 v15)).bind fun p18 =>
 (gL (aggC 3 v15)).bind fun p19 =>
 (gL (aggC 4 v15)).bind fun p20 =>
 (gL (aggC 5 v15)).bind fun p21 =>
 (tupC 1 p14.1).bind fun v22 =>
 cond (aggIs 1 v22)
 ((gL (aggC 0 v22)).bind fun p23 =>
 (N p14.2 [(.string (ByteArray.mk (List.toArray []))),(.slice none 0 0),(.slice none 0 0),(.slice none 0 0),(.slice none 0 0),(.slice none 0 0)] 0).bind fun p24 =>
 (N p24.2 [(.slice none 0 0)] 0).bind fun p25 =>
 (stL p25.2 ⟨p24.1,0,none⟩ [(.string x16),(.slice p17.1 p17.2.1 p17.2.2),(.slice p18.1 p18.2.1 p18.2.2),(.slice p19.1 p19.2.1 p19.2.2),(.slice p20.1 p20.2.1 p20.2.2),(.slice p21.1 p21.2.1 p21.2.2)]).bind fun x26 =>
 (stL x26 ⟨p25.1,0,none⟩ [(.slice p23.1 p23.2.1 p23.2.2)]).bind fun x27 =>
 (gS (rdC x27 ⟨p24.1,0,none⟩ 0)).bind fun x28 =>
 (gL (rdC x27 ⟨p24.1,0,none⟩ 1)).bind fun p29 =>
 (gL (rdC x27 ⟨p24.1,0,none⟩ 2)).bind fun p30 =>
 (gL (rdC x27 ⟨p24.1,0,none⟩ 3)).bind fun p31 =>
 (gL (rdC x27 ⟨p24.1,0,none⟩ 4)).bind fun p32 =>
 (gL (rdC x27 ⟨p24.1,0,none⟩ 5)).bind fun p33 =>
 (cf 8 [(.agg #[(.string x28),(.slice p29.1 p29.2.1 p29.2.2),(.slice p30.1 p30.2.1 p30.2.2),(.slice p31.1 p31.2.1 p31.2.2),(.slice p32.1 p32.2.1 p32.2.2),(.slice p33.1 p33.2.1 p33.2.2)]),(.agg #[(.string (ByteArray.mk (List.toArray []))),(.slice none 0 0),(.slice none 0 0),(.slice none 0 0),(.slice none 0 0),(.slice none 0 0)])] x27).bind fun p34 =>
 (gB (some p34.1)).bind fun b35 =>
 cond b35
 ((gL (rdC p34.2 (Addr.add ⟨p25.1,0,none⟩ 0) 0)).bind fun p36 =>
 some (exitR h0 p34.2 (.bool (iEq (Int.ofNat p36.2.1) 0))))
 (some (exitR h0 p34.2 (.bool false))))
 (none))
 (none))
 (none)):=by kernel_rfl
def pp6 : List (List Nat × List Nat):=[([0,1,1,1,1,1],[1,2,3,4]),([0,1,0,1,1,0,0,0,1,1,1,1,1],[1,2,3,4,5,6,32,33]),([8],[])]
 noncomputable def t6Y (N : NewF) (n : Nat) (f_0a : ByteArray) (f_0b : Option Addr) (f_0bn f_0bc : Nat) (f_0c : Option Addr) (f_0cn f_0cc : Nat) (f_0d : Option Addr) (f_0dn f_0dc : Nat) (f_0e : Option Addr) (f_0en f_0ec : Nat) (f_0f : Option Addr) (f_0fn f_0fc : Nat) (h : AH) : Option (Go.Value × AH):=yrun Tryz.prog (runS Tryz.prog n) n pp6 N (resY Tryz.prog n) 7 [(.agg #[(.string f_0a),(.slice f_0b f_0bn f_0bc),(.slice f_0c f_0cn f_0cc),(.slice f_0d f_0dn f_0dc),(.slice f_0e f_0en f_0ec),(.slice f_0f f_0fn f_0fc)])] h
theorem t6_ok {n : Nat} {f_0a : ByteArray} {f_0b : Option Addr} {f_0bn f_0bc : Nat} {f_0c : Option Addr} {f_0cn f_0cc : Nat} {f_0d : Option Addr} {f_0dn f_0dc : Nat} {f_0e : Option Addr} {f_0en f_0ec : Nat} {f_0f : Option Addr} {f_0fn f_0fc : Nat} {h : AH} {r : Go.Value × AH} (hv : t6Y hNew n f_0a f_0b f_0bn f_0bc f_0c f_0cn f_0cc f_0d f_0dn f_0dc f_0e f_0en f_0ec f_0f f_0fn f_0fc h = some r) : runS Tryz.prog (n + 1) 7 [(.agg #[(.string f_0a),(.slice f_0b f_0bn f_0bc),(.slice f_0c f_0cn f_0cc),(.slice f_0d f_0dn f_0dc),(.slice f_0e f_0en f_0ec),(.slice f_0f f_0fn f_0fc)])] h = some r:=yrun_ok hv
theorem t6 (N : NewF) (n : Nat) (f_0a : ByteArray) (f_0b : Option Addr) (f_0bn f_0bc : Nat) (f_0c : Option Addr) (f_0cn f_0cc : Nat) (f_0d : Option Addr) (f_0dn f_0dc : Nat) (f_0e : Option Addr) (f_0en f_0ec : Nat) (f_0f : Option Addr) (f_0fn f_0fc : Nat) (h : AH) : t6Y N n f_0a f_0b f_0bn f_0bc f_0c f_0cn f_0cc f_0d f_0dn f_0dc f_0e f_0en f_0ec f_0f f_0fn f_0fc h =
 (N (setLow h h.next) [(.string f_0a),(.slice f_0b f_0bn f_0bc),(.slice f_0c f_0cn f_0cc),(.slice f_0d f_0dn f_0dc),(.slice f_0e f_0en f_0ec),(.slice f_0f f_0fn f_0fc)] 0).bind fun p0 =>
 (N p0.2 [(.string (ByteArray.mk (List.toArray []))),(.slice none 0 0),(.slice none 0 0),(.slice none 0 0),(.slice none 0 0),(.slice none 0 0)] 0).bind fun p1 =>
 (N p1.2 [(.slice none 0 0)] 0).bind fun p2 =>
 (N p2.2 [(.slice none 0 0)] 0).bind fun p3 =>
 (gS (rdC p3.2 ⟨p0.1,0,none⟩ 0)).bind fun x4 =>
 (gL (rdC p3.2 ⟨p0.1,0,none⟩ 1)).bind fun p5 =>
 (gL (rdC p3.2 ⟨p0.1,0,none⟩ 2)).bind fun p6 =>
 (gL (rdC p3.2 ⟨p0.1,0,none⟩ 3)).bind fun p7 =>
 (gL (rdC p3.2 ⟨p0.1,0,none⟩ 4)).bind fun p8 =>
 (gL (rdC p3.2 ⟨p0.1,0,none⟩ 5)).bind fun p9 =>
 (runS Tryz.prog n 20 [(.agg #[(.string x4),(.slice p5.1 p5.2.1 p5.2.2),(.slice p6.1 p6.2.1 p6.2.2),(.slice p7.1 p7.2.1 p7.2.2),(.slice p8.1 p8.2.1 p8.2.2),(.slice p9.1 p9.2.1 p9.2.2)])] p3.2).bind fun p10 =>
 (gB (some p10.1)).bind fun b11 =>
 cond (Bool.not b11)
 ((gL (rdC p10.2 ⟨p3.1,0,none⟩ 0)).bind fun p12 =>
 cond (hasA p10.2 ⟨p1.1,0,none⟩)
 (cond (apartA p10.2 ⟨p1.1,0,none⟩ ⟨p3.1,0,none⟩)
 ((stL p10.2 ⟨p1.1,0,none⟩ [(.string (ByteArray.mk (List.toArray []))),(.slice none 0 0),(.slice none 0 0),(.slice none 0 0),(.slice none 0 0),(.slice none 0 0)]).bind fun x13 =>
 (stL x13 ⟨p2.1,0,none⟩ [(.slice p12.1 p12.2.1 p12.2.2)]).bind fun x14 =>
 (gS (rdC x14 ⟨p1.1,0,none⟩ 0)).bind fun x15 =>
 (gL (rdC x14 ⟨p1.1,0,none⟩ 1)).bind fun p16 =>
 (gL (rdC x14 ⟨p1.1,0,none⟩ 2)).bind fun p17 =>
 (gL (rdC x14 ⟨p1.1,0,none⟩ 3)).bind fun p18 =>
 (gL (rdC x14 ⟨p1.1,0,none⟩ 4)).bind fun p19 =>
 (gL (rdC x14 ⟨p1.1,0,none⟩ 5)).bind fun p20 =>
 (gL (rdC x14 ⟨p2.1,0,none⟩ 0)).bind fun p21 =>
 some (exitR h x14 (.tuple #[(.agg #[(.string x15),(.slice p16.1 p16.2.1 p16.2.2),(.slice p17.1 p17.2.1 p17.2.2),(.slice p18.1 p18.2.1 p18.2.2),(.slice p19.1 p19.2.1 p19.2.2),(.slice p20.1 p20.2.1 p20.2.2)]),(.agg #[(.slice p21.1 p21.2.1 p21.2.2)])])))
 (none))
 (none))
 ((gS (rdC p10.2 ⟨p0.1,0,none⟩ 0)).bind fun x22 =>
 (gL (rdC p10.2 ⟨p0.1,0,none⟩ 1)).bind fun p23 =>
 (gL (rdC p10.2 ⟨p0.1,0,none⟩ 2)).bind fun p24 =>
 (gL (rdC p10.2 ⟨p0.1,0,none⟩ 3)).bind fun p25 =>
 (gL (rdC p10.2 ⟨p0.1,0,none⟩ 4)).bind fun p26 =>
 (gL (rdC p10.2 ⟨p0.1,0,none⟩ 5)).bind fun p27 =>
 (runS Tryz.prog n 21 [(.agg #[(.string x22),(.slice p23.1 p23.2.1 p23.2.2),(.slice p24.1 p24.2.1 p24.2.2),(.slice p25.1 p25.2.1 p25.2.2),(.slice p26.1 p26.2.1 p26.2.2),(.slice p27.1 p27.2.1 p27.2.2)])] p10.2).bind fun p28 =>
 cond (aggIs 6 p28.1)
 ((gS (aggC 0 p28.1)).bind fun x29 =>
 (gL (aggC 1 p28.1)).bind fun p30 =>
 (gL (aggC 2 p28.1)).bind fun p31 =>
 (gL (aggC 3 p28.1)).bind fun p32 =>
 (gL (aggC 4 p28.1)).bind fun p33 =>
 (gL (aggC 5 p28.1)).bind fun p34 =>
 (stL p28.2 ⟨p0.1,0,none⟩ [(.string x29),(.slice p30.1 p30.2.1 p30.2.2),(.slice p31.1 p31.2.1 p31.2.2),(.slice p32.1 p32.2.1 p32.2.2),(.slice p33.1 p33.2.1 p33.2.2),(.slice p34.1 p34.2.1 p34.2.2)]).bind fun x35 =>
 (gL (rdC x35 (Addr.add ⟨p0.1,0,none⟩ 1) 0)).bind fun p36 =>
 cond (iLt 4096 (Int.ofNat p36.2.1))
 ((gS (rdC x35 ⟨p0.1,0,none⟩ 0)).bind fun x37 =>
 (gL (rdC x35 ⟨p0.1,0,none⟩ 1)).bind fun p38 =>
 (gL (rdC x35 ⟨p0.1,0,none⟩ 2)).bind fun p39 =>
 (gL (rdC x35 ⟨p0.1,0,none⟩ 3)).bind fun p40 =>
 (gL (rdC x35 ⟨p0.1,0,none⟩ 4)).bind fun p41 =>
 (gL (rdC x35 ⟨p0.1,0,none⟩ 5)).bind fun p42 =>
 (gL (rdC x35 ⟨p3.1,0,none⟩ 0)).bind fun p43 =>
 cond (hasA x35 ⟨p1.1,0,none⟩)
 (cond (apartA x35 ⟨p1.1,0,none⟩ ⟨p3.1,0,none⟩)
 ((stL x35 ⟨p1.1,0,none⟩ [(.string x37),(.slice p38.1 p38.2.1 p38.2.2),(.slice p39.1 p39.2.1 p39.2.2),(.slice p40.1 p40.2.1 p40.2.2),(.slice p41.1 p41.2.1 p41.2.2),(.slice p42.1 p42.2.1 p42.2.2)]).bind fun x44 =>
 (stL x44 ⟨p2.1,0,none⟩ [(.slice p43.1 p43.2.1 p43.2.2)]).bind fun x45 =>
 (gS (rdC x45 ⟨p1.1,0,none⟩ 0)).bind fun x46 =>
 (gL (rdC x45 ⟨p1.1,0,none⟩ 1)).bind fun p47 =>
 (gL (rdC x45 ⟨p1.1,0,none⟩ 2)).bind fun p48 =>
 (gL (rdC x45 ⟨p1.1,0,none⟩ 3)).bind fun p49 =>
 (gL (rdC x45 ⟨p1.1,0,none⟩ 4)).bind fun p50 =>
 (gL (rdC x45 ⟨p1.1,0,none⟩ 5)).bind fun p51 =>
 (gL (rdC x45 ⟨p2.1,0,none⟩ 0)).bind fun p52 =>
 some (exitR h x45 (.tuple #[(.agg #[(.string x46),(.slice p47.1 p47.2.1 p47.2.2),(.slice p48.1 p48.2.1 p48.2.2),(.slice p49.1 p49.2.1 p49.2.2),(.slice p50.1 p50.2.1 p50.2.2),(.slice p51.1 p51.2.1 p51.2.2)]),(.agg #[(.slice p52.1 p52.2.1 p52.2.2)])])))
 (none))
 (none))
 ((gL (rdC x35 (Addr.add ⟨p0.1,0,none⟩ 5) 0)).bind fun p53 =>
 (runS Tryz.prog n 22 [(.slice p53.1 p53.2.1 p53.2.2),(Value.func (Fn.func 23) (List.toArray []) (List.toArray []))] x35).bind fun p54 =>
 (gB (some p54.1)).bind fun b55 =>
 cond b55
 ((gS (rdC p54.2 ⟨p0.1,0,none⟩ 0)).bind fun x56 =>
 (gL (rdC p54.2 ⟨p0.1,0,none⟩ 1)).bind fun p57 =>
 (gL (rdC p54.2 ⟨p0.1,0,none⟩ 2)).bind fun p58 =>
 (gL (rdC p54.2 ⟨p0.1,0,none⟩ 3)).bind fun p59 =>
 (gL (rdC p54.2 ⟨p0.1,0,none⟩ 4)).bind fun p60 =>
 (gL (rdC p54.2 ⟨p0.1,0,none⟩ 5)).bind fun p61 =>
 (gL (rdC p54.2 ⟨p3.1,0,none⟩ 0)).bind fun p62 =>
 cond (hasA p54.2 ⟨p1.1,0,none⟩)
 (cond (apartA p54.2 ⟨p1.1,0,none⟩ ⟨p3.1,0,none⟩)
 ((stL p54.2 ⟨p1.1,0,none⟩ [(.string x56),(.slice p57.1 p57.2.1 p57.2.2),(.slice p58.1 p58.2.1 p58.2.2),(.slice p59.1 p59.2.1 p59.2.2),(.slice p60.1 p60.2.1 p60.2.2),(.slice p61.1 p61.2.1 p61.2.2)]).bind fun x63 =>
 (stL x63 ⟨p2.1,0,none⟩ [(.slice p62.1 p62.2.1 p62.2.2)]).bind fun x64 =>
 (gS (rdC x64 ⟨p1.1,0,none⟩ 0)).bind fun x65 =>
 (gL (rdC x64 ⟨p1.1,0,none⟩ 1)).bind fun p66 =>
 (gL (rdC x64 ⟨p1.1,0,none⟩ 2)).bind fun p67 =>
 (gL (rdC x64 ⟨p1.1,0,none⟩ 3)).bind fun p68 =>
 (gL (rdC x64 ⟨p1.1,0,none⟩ 4)).bind fun p69 =>
 (gL (rdC x64 ⟨p1.1,0,none⟩ 5)).bind fun p70 =>
 (gL (rdC x64 ⟨p2.1,0,none⟩ 0)).bind fun p71 =>
 some (exitR h x64 (.tuple #[(.agg #[(.string x65),(.slice p66.1 p66.2.1 p66.2.2),(.slice p67.1 p67.2.1 p67.2.2),(.slice p68.1 p68.2.1 p68.2.2),(.slice p69.1 p69.2.1 p69.2.2),(.slice p70.1 p70.2.1 p70.2.2)]),(.agg #[(.slice p71.1 p71.2.1 p71.2.2)])])))
 (none))
 (none))
 (none)))
 (none)):=by kernel_rfl
end Go.Proofs.YtpadjdokjppopaaGreatDoor.Kb
