/- Joined texts: TC. -/
import Derived.KernelRfl
import Derived.Test.YtjdomdndflfjdaaGreatDoorYA
import Derived.Test.YtjdomdndflfjdaaGreatDoorProg
namespace Go.Proofs.YtjdomdndflfjdaaGreatDoor.Kb
open Go Go.Proofs Go.Proofs.YtjdomdndflfjdaaGreatDoor Go.Proofs.YtjdomdndflfjdaaGreatDoor.X
set_option maxRecDepth 100000
set_option linter.unusedVariables false
def p28 : List (List Nat × List Nat):=[([0,1,0,1],[1,3])]
section
variable (N : aB) (n m0 : Nat) (h0 : AH) (p_1 : Addr) (i_3 : Int) (h : AH)
 noncomputable def xe : Option (Go.Value × AH):=aC Tryz.prog n Tryz.f11 h0 (.head (av (ae Tryz.f11) [1,0,1,0,0]) [0,1,0,1] m0) [.block 0,.seq (av (ae Tryz.f11) [1,1]) [1,1]] (E [(1,.pointer (some p_1)),(3,.int .i64 i_3)]) h
 noncomputable def Di : Option (Go.Value × AH):=bH Tryz.prog (au Tryz.prog n) n Tryz.f11 h0 p28 N (aC Tryz.prog n Tryz.f11 h0) (av (ae Tryz.f11) [1,0,1,0,0]) [0,1,0,1] m0 [.block 0,.seq (av (ae Tryz.f11) [1,1]) [1,1]] (E [(1,.pointer (some p_1)),(3,.int .i64 i_3)]) h
variable {n m0} {h0} {p_1 i_3} {h}
theorem tk {r : Go.Value × AH} (hv : Di aD n m0 h0 p_1 i_3 h = some r) : xe n (m0 + 1) h0 p_1 i_3 h = some r:=aO hv
end
 noncomputable def KP (N : aB) (n : Nat) (p_0a : Option Addr) (p_0an p_0ac : Nat) (p_0b : Option Addr) (p_0bn p_0bc : Nat) (h : AH) : Option (Go.Value × AH):=bQ Tryz.prog (au Tryz.prog n) n p28 N (aC Tryz.prog n) 11 [(.agg #[(.slice p_0a p_0an p_0ac),(.slice p_0b p_0bn p_0bc)])] h
theorem IT {n : Nat} {p_0a : Option Addr} {p_0an p_0ac : Nat} {p_0b : Option Addr} {p_0bn p_0bc : Nat} {h : AH} {r : Go.Value × AH} (hv : KP aD n p_0a p_0an p_0ac p_0b p_0bn p_0bc h = some r) : au Tryz.prog (n + 1) 11 [(.agg #[(.slice p_0a p_0an p_0ac),(.slice p_0b p_0bn p_0bc)])] h = some r:=aL hv
theorem Og (N : aB) (n : Nat) (p_0a : Option Addr) (p_0an p_0ac : Nat) (p_0b : Option Addr) (p_0bn p_0bc : Nat) (h : AH) : KP N n p_0a p_0an p_0ac p_0b p_0bn p_0bc h =
 (N (setLow h h.next) [(.slice p_0a p_0an p_0ac),(.slice p_0b p_0bn p_0bc)] 0).bind fun p0 =>
 xe n n h ⟨p0.1,0,none⟩ 0 p0.2:=by kernel_rfl
theorem tl (N : aB) (n m0 : Nat) (h0 : AH) (p_1 : Addr) (i_3 : Int) (h : AH) : Di N n m0 h0 p_1 i_3 h =
 (gL (rdC h (Addr.add p_1 0) 0)).bind fun p0 =>
 cond (cj i_3 (Int.ofNat p0.2.1))
 ((gL (rdC h (Addr.add p_1 0) 0)).bind fun p1 =>
 (p1.1).bind fun a2 =>
 cond (bO i_3 p1.2.1)
 ((gL (rdC h (Addr.add (Addr.add a2 ((Int.toNat i_3) * 9)) 0) 0)).bind fun p3 =>
 cond (cj 4 (Int.ofNat p3.2.1))
 (some (aj h0 h (.bool false)))
 ((gL (rdC h (Addr.add p_1 0) 0)).bind fun p4 =>
 (p4.1).bind fun a5 =>
 cond (bO i_3 p4.2.1)
 ((gL (rdC h (Addr.add (Addr.add a5 ((Int.toNat i_3) * 9)) 1) 0)).bind fun p6 =>
 cond (cj 12 (Int.ofNat p6.2.1))
 (some (aj h0 h (.bool false)))
 (xe n m0 h0 p_1 (aU .i64 i_3 1) h))
 (none)))
 (none))
 ((gL (rdC h (Addr.add p_1 0) 0)).bind fun p7 =>
 cond (bV 1 (Int.ofNat p7.2.1))
 ((gL (rdC h (Addr.add p_1 0) 0)).bind fun p8 =>
 cond (bV (Int.ofNat p8.2.1) 5)
 ((gL (rdC h (Addr.add p_1 1) 0)).bind fun p9 =>
 some (aj h0 h (.bool (bV (Int.ofNat p9.2.1) 3))))
 (some (aj h0 h (.bool false))))
 (some (aj h0 h (.bool false)))):=by kernel_rfl
def j8 : List (List Nat × List Nat):=[([0,1,0,1,1,1,1],[1,2,3,4]),([0,1,0,1,1,1,1,1,1],[1,2,3,5,6]),([0,1,0,1,0,0,1,0,0,1,0,1,1,1,1,1,1],[1,2,3,5,6,7,8]),([0,1,0,1,1,1,1,1,1,1],[1,2,3,5,9]),([0,1,0,1,1,1,0,0,1,0,0,1,0,1,1,1,1,1,1,1],[1,2,3,5,9,10,11]),([1,1,0,0,1,1,1,1,1,1,0,0,1,0,0,1,0,1,1,1,1,1,1,1],[1,2,3,5,9,10,12,13]),([0,1,0,1,0,0,1,1,1,1,1,1,0,0,1,0,0,1,0,1,1,1,1,1,1,1],[1,2,3,5,9,10,12,14]),([1,1,1,1,1,1,1,0,0,1,0,0,1,0,1,1,1,1,1,1,1],[1,2,3,5,9,12]),([9],[])]
section
variable (N : aB) (n m0 : Nat) (h0 : AH) (p_1 t_2 b_3 : Addr) (i_4 : Int) (h : AH)
 noncomputable def o9 : Option (Go.Value × AH):=aC Tryz.prog n Tryz.f12 h0 (.head (av (ae Tryz.f12) [1,1,1,1,0,1,0,0]) [0,1,0,1,1,1,1] m0) [.block 0,.seq (av (ae Tryz.f12) [1,1,1,1,1]) [1,1,1,1,1]] (E [(1,.pointer (some p_1)),(2,.pointer (some t_2)),(3,.pointer (some b_3)),(4,.int .i64 i_4)]) h
 noncomputable def Dj : Option (Go.Value × AH):=bH Tryz.prog (au Tryz.prog n) n Tryz.f12 h0 j8 N (aC Tryz.prog n Tryz.f12 h0) (av (ae Tryz.f12) [1,1,1,1,0,1,0,0]) [0,1,0,1,1,1,1] m0 [.block 0,.seq (av (ae Tryz.f12) [1,1,1,1,1]) [1,1,1,1,1]] (E [(1,.pointer (some p_1)),(2,.pointer (some t_2)),(3,.pointer (some b_3)),(4,.int .i64 i_4)]) h
variable {n m0} {h0} {p_1 t_2 b_3 i_4} {h}
theorem tp {r : Go.Value × AH} (hv : Dj aD n m0 h0 p_1 t_2 b_3 i_4 h = some r) : o9 n (m0 + 1) h0 p_1 t_2 b_3 i_4 h = some r:=aO hv
end
section
variable (N : aB) (n m0 : Nat) (h0 : AH) (p_1 t_2 b_3 : Addr) (params_5 : Option Addr) (params_5n params_5c : Nat) (i_6 : Int) (h : AH)
 noncomputable def tq : Option (Go.Value × AH):=aC Tryz.prog n Tryz.f12 h0 (.head (av (ae Tryz.f12) [1,1,1,1,1,1,0,1,0,0]) [0,1,0,1,1,1,1,1,1] m0) [.block 2,.seq (av (ae Tryz.f12) [1,1,1,1,1,1,1]) [1,1,1,1,1,1,1]] (E [(1,.pointer (some p_1)),(2,.pointer (some t_2)),(3,.pointer (some b_3)),(5,.slice params_5 params_5n params_5c),(6,.int .i64 i_6)]) h
 noncomputable def Dk : Option (Go.Value × AH):=bH Tryz.prog (au Tryz.prog n) n Tryz.f12 h0 j8 N (aC Tryz.prog n Tryz.f12 h0) (av (ae Tryz.f12) [1,1,1,1,1,1,0,1,0,0]) [0,1,0,1,1,1,1,1,1] m0 [.block 2,.seq (av (ae Tryz.f12) [1,1,1,1,1,1,1]) [1,1,1,1,1,1,1]] (E [(1,.pointer (some p_1)),(2,.pointer (some t_2)),(3,.pointer (some b_3)),(5,.slice params_5 params_5n params_5c),(6,.int .i64 i_6)]) h
variable {n m0} {h0} {p_1 t_2 b_3 params_5 params_5n params_5c i_6} {h}
theorem tt {r : Go.Value × AH} (hv : Dk aD n m0 h0 p_1 t_2 b_3 params_5 params_5n params_5c i_6 h = some r) : tq n (m0 + 1) h0 p_1 t_2 b_3 params_5 params_5n params_5c i_6 h = some r:=aO hv
end
section
variable (N : aB) (n m0 m1 : Nat) (h0 : AH) (p_1 t_2 b_3 : Addr) (params_5 : Option Addr) (params_5n params_5c : Nat) (i_6 : Int) (l_7 : Option Addr) (l_7n l_7c : Nat) (k_8 : Int) (h : AH)
 noncomputable def xf : Option (Go.Value × AH):=aC Tryz.prog n Tryz.f12 h0 (.head (av (ae Tryz.f12) [1,1,1,1,1,1,0,1,0,0,1,0,0,1,0,1,0,0]) [0,1,0,1,0,0,1,0,0,1,0,1,1,1,1,1,1] m0) [.block 4,.seq (av (ae Tryz.f12) [1,1,1,1,1,1,0,1,0,0,1,0,0,1,1]) [1,1,0,0,1,0,0,1,0,1,1,1,1,1,1],.block 3,.seq (av (ae Tryz.f12) [1,1,1,1,1,1,0,1,0,0,1,1]) [1,1,0,0,1,0,1,1,1,1,1,1],.loop (av (ae Tryz.f12) [1,1,1,1,1,1,0,1,0,0]) [0,1,0,1,1,1,1,1,1] m1,.block 2,.seq (av (ae Tryz.f12) [1,1,1,1,1,1,1]) [1,1,1,1,1,1,1]] (E [(1,.pointer (some p_1)),(2,.pointer (some t_2)),(3,.pointer (some b_3)),(5,.slice params_5 params_5n params_5c),(6,.int .i64 i_6),(7,.slice l_7 l_7n l_7c),(8,.int .i64 k_8)]) h
 noncomputable def Dl : Option (Go.Value × AH):=bH Tryz.prog (au Tryz.prog n) n Tryz.f12 h0 j8 N (aC Tryz.prog n Tryz.f12 h0) (av (ae Tryz.f12) [1,1,1,1,1,1,0,1,0,0,1,0,0,1,0,1,0,0]) [0,1,0,1,0,0,1,0,0,1,0,1,1,1,1,1,1] m0 [.block 4,.seq (av (ae Tryz.f12) [1,1,1,1,1,1,0,1,0,0,1,0,0,1,1]) [1,1,0,0,1,0,0,1,0,1,1,1,1,1,1],.block 3,.seq (av (ae Tryz.f12) [1,1,1,1,1,1,0,1,0,0,1,1]) [1,1,0,0,1,0,1,1,1,1,1,1],.loop (av (ae Tryz.f12) [1,1,1,1,1,1,0,1,0,0]) [0,1,0,1,1,1,1,1,1] m1,.block 2,.seq (av (ae Tryz.f12) [1,1,1,1,1,1,1]) [1,1,1,1,1,1,1]] (E [(1,.pointer (some p_1)),(2,.pointer (some t_2)),(3,.pointer (some b_3)),(5,.slice params_5 params_5n params_5c),(6,.int .i64 i_6),(7,.slice l_7 l_7n l_7c),(8,.int .i64 k_8)]) h
variable {n m0 m1} {h0} {p_1 t_2 b_3 params_5 params_5n params_5c i_6 l_7 l_7n l_7c k_8} {h}
theorem tu {r : Go.Value × AH} (hv : Dl aD n m0 m1 h0 p_1 t_2 b_3 params_5 params_5n params_5c i_6 l_7 l_7n l_7c k_8 h = some r) : xf n (m0 + 1) m1 h0 p_1 t_2 b_3 params_5 params_5n params_5c i_6 l_7 l_7n l_7c k_8 h = some r:=aO hv
end
section
variable (N : aB) (n m0 : Nat) (h0 : AH) (p_1 t_2 b_3 : Addr) (params_5 : Option Addr) (params_5n params_5c : Nat) (i_9 : Int) (h : AH)
 noncomputable def j9 : Option (Go.Value × AH):=aC Tryz.prog n Tryz.f12 h0 (.head (av (ae Tryz.f12) [1,1,1,1,1,1,1,0,1,0,0]) [0,1,0,1,1,1,1,1,1,1] m0) [.block 6,.seq (av (ae Tryz.f12) [1,1,1,1,1,1,1,1]) [1,1,1,1,1,1,1,1]] (E [(1,.pointer (some p_1)),(2,.pointer (some t_2)),(3,.pointer (some b_3)),(5,.slice params_5 params_5n params_5c),(9,.int .i64 i_9)]) h
 noncomputable def Dm : Option (Go.Value × AH):=bH Tryz.prog (au Tryz.prog n) n Tryz.f12 h0 j8 N (aC Tryz.prog n Tryz.f12 h0) (av (ae Tryz.f12) [1,1,1,1,1,1,1,0,1,0,0]) [0,1,0,1,1,1,1,1,1,1] m0 [.block 6,.seq (av (ae Tryz.f12) [1,1,1,1,1,1,1,1]) [1,1,1,1,1,1,1,1]] (E [(1,.pointer (some p_1)),(2,.pointer (some t_2)),(3,.pointer (some b_3)),(5,.slice params_5 params_5n params_5c),(9,.int .i64 i_9)]) h
variable {n m0} {h0} {p_1 t_2 b_3 params_5 params_5n params_5c i_9} {h}
theorem tv {r : Go.Value × AH} (hv : Dm aD n m0 h0 p_1 t_2 b_3 params_5 params_5n params_5c i_9 h = some r) : j9 n (m0 + 1) h0 p_1 t_2 b_3 params_5 params_5n params_5c i_9 h = some r:=aO hv
end
section
variable (N : aB) (n m0 m1 : Nat) (h0 : AH) (p_1 t_2 b_3 : Addr) (params_5 : Option Addr) (params_5n params_5c : Nat) (i_9 : Int) (x_10 : Addr) (k_11 : Int) (h : AH)
 noncomputable def xg : Option (Go.Value × AH):=aC Tryz.prog n Tryz.f12 h0 (.head (av (ae Tryz.f12) [1,1,1,1,1,1,1,0,1,0,0,1,0,0,1,1,1,0,1,0,0]) [0,1,0,1,1,1,0,0,1,0,0,1,0,1,1,1,1,1,1,1] m0) [.block 8,.seq (av (ae Tryz.f12) [1,1,1,1,1,1,1,0,1,0,0,1,0,0,1,1,1,1]) [1,1,1,1,0,0,1,0,0,1,0,1,1,1,1,1,1,1],.block 7,.seq (av (ae Tryz.f12) [1,1,1,1,1,1,1,0,1,0,0,1,1]) [1,1,0,0,1,0,1,1,1,1,1,1,1],.loop (av (ae Tryz.f12) [1,1,1,1,1,1,1,0,1,0,0]) [0,1,0,1,1,1,1,1,1,1] m1,.block 6,.seq (av (ae Tryz.f12) [1,1,1,1,1,1,1,1]) [1,1,1,1,1,1,1,1]] (E [(1,.pointer (some p_1)),(2,.pointer (some t_2)),(3,.pointer (some b_3)),(5,.slice params_5 params_5n params_5c),(9,.int .i64 i_9),(10,.pointer (some x_10)),(11,.int .i64 k_11)]) h
 noncomputable def Dn : Option (Go.Value × AH):=bH Tryz.prog (au Tryz.prog n) n Tryz.f12 h0 j8 N (aC Tryz.prog n Tryz.f12 h0) (av (ae Tryz.f12) [1,1,1,1,1,1,1,0,1,0,0,1,0,0,1,1,1,0,1,0,0]) [0,1,0,1,1,1,0,0,1,0,0,1,0,1,1,1,1,1,1,1] m0 [.block 8,.seq (av (ae Tryz.f12) [1,1,1,1,1,1,1,0,1,0,0,1,0,0,1,1,1,1]) [1,1,1,1,0,0,1,0,0,1,0,1,1,1,1,1,1,1],.block 7,.seq (av (ae Tryz.f12) [1,1,1,1,1,1,1,0,1,0,0,1,1]) [1,1,0,0,1,0,1,1,1,1,1,1,1],.loop (av (ae Tryz.f12) [1,1,1,1,1,1,1,0,1,0,0]) [0,1,0,1,1,1,1,1,1,1] m1,.block 6,.seq (av (ae Tryz.f12) [1,1,1,1,1,1,1,1]) [1,1,1,1,1,1,1,1]] (E [(1,.pointer (some p_1)),(2,.pointer (some t_2)),(3,.pointer (some b_3)),(5,.slice params_5 params_5n params_5c),(9,.int .i64 i_9),(10,.pointer (some x_10)),(11,.int .i64 k_11)]) h
variable {n m0 m1} {h0} {p_1 t_2 b_3 params_5 params_5n params_5c i_9 x_10 k_11} {h}
theorem tw {r : Go.Value × AH} (hv : Dn aD n m0 m1 h0 p_1 t_2 b_3 params_5 params_5n params_5c i_9 x_10 k_11 h = some r) : xg n (m0 + 1) m1 h0 p_1 t_2 b_3 params_5 params_5n params_5c i_9 x_10 k_11 h = some r:=aO hv
end
section
variable (N : aB) (n m0 m1 : Nat) (h0 : AH) (p_1 t_2 b_3 : Addr) (params_5 : Option Addr) (params_5n params_5c : Nat) (i_9 : Int) (x_10 t_12 : Addr) (k_14 : Int) (h : AH)
 noncomputable def nK : Option (Go.Value × AH):=aC Tryz.prog n Tryz.f12 h0 (.head (av (ae Tryz.f12) [1,1,1,1,1,1,1,0,1,0,0,1,0,0,1,1,1,1,1,1,0,0,1,0,1,0,0]) [0,1,0,1,0,0,1,1,1,1,1,1,0,0,1,0,0,1,0,1,1,1,1,1,1,1] m0) [.block 11,.block 10,.seq (av (ae Tryz.f12) [1,1,1,1,1,1,1,0,1,0,0,1,0,0,1,1,1,1,1,1,1]) [1,1,1,1,1,1,1,0,0,1,0,0,1,0,1,1,1,1,1,1,1],.block 7,.seq (av (ae Tryz.f12) [1,1,1,1,1,1,1,0,1,0,0,1,1]) [1,1,0,0,1,0,1,1,1,1,1,1,1],.loop (av (ae Tryz.f12) [1,1,1,1,1,1,1,0,1,0,0]) [0,1,0,1,1,1,1,1,1,1] m1,.block 6,.seq (av (ae Tryz.f12) [1,1,1,1,1,1,1,1]) [1,1,1,1,1,1,1,1]] (E [(1,.pointer (some p_1)),(2,.pointer (some t_2)),(3,.pointer (some b_3)),(5,.slice params_5 params_5n params_5c),(9,.int .i64 i_9),(10,.pointer (some x_10)),(12,.pointer (some t_12)),(14,.int .i64 k_14)]) h
 noncomputable def Do : Option (Go.Value × AH):=bH Tryz.prog (au Tryz.prog n) n Tryz.f12 h0 j8 N (aC Tryz.prog n Tryz.f12 h0) (av (ae Tryz.f12) [1,1,1,1,1,1,1,0,1,0,0,1,0,0,1,1,1,1,1,1,0,0,1,0,1,0,0]) [0,1,0,1,0,0,1,1,1,1,1,1,0,0,1,0,0,1,0,1,1,1,1,1,1,1] m0 [.block 11,.block 10,.seq (av (ae Tryz.f12) [1,1,1,1,1,1,1,0,1,0,0,1,0,0,1,1,1,1,1,1,1]) [1,1,1,1,1,1,1,0,0,1,0,0,1,0,1,1,1,1,1,1,1],.block 7,.seq (av (ae Tryz.f12) [1,1,1,1,1,1,1,0,1,0,0,1,1]) [1,1,0,0,1,0,1,1,1,1,1,1,1],.loop (av (ae Tryz.f12) [1,1,1,1,1,1,1,0,1,0,0]) [0,1,0,1,1,1,1,1,1,1] m1,.block 6,.seq (av (ae Tryz.f12) [1,1,1,1,1,1,1,1]) [1,1,1,1,1,1,1,1]] (E [(1,.pointer (some p_1)),(2,.pointer (some t_2)),(3,.pointer (some b_3)),(5,.slice params_5 params_5n params_5c),(9,.int .i64 i_9),(10,.pointer (some x_10)),(12,.pointer (some t_12)),(14,.int .i64 k_14)]) h
variable {n m0 m1} {h0} {p_1 t_2 b_3 params_5 params_5n params_5c i_9 x_10 t_12 k_14} {h}
theorem tz {r : Go.Value × AH} (hv : Do aD n m0 m1 h0 p_1 t_2 b_3 params_5 params_5n params_5c i_9 x_10 t_12 k_14 h = some r) : nK n (m0 + 1) m1 h0 p_1 t_2 b_3 params_5 params_5n params_5c i_9 x_10 t_12 k_14 h = some r:=aO hv
end
section
variable (N : aB) (n m0 : Nat) (h0 : AH) (p_1 t_2 b_3 : Addr) (params_5 : Option Addr) (params_5n params_5c : Nat) (i_9 : Int) (x_10 t_12 : Addr) (kind_13 : Int) (h : AH)
 noncomputable def Dp : Option (Go.Value × AH):=aC Tryz.prog n Tryz.f12 h0 (.code (av (ae Tryz.f12) [1,1,1,1,1,1,1,0,1,0,0,1,0,0,1,1,1,1,1,1,0,0,1,1]) [1,1,0,0,1,1,1,1,1,1,0,0,1,0,0,1,0,1,1,1,1,1,1,1]) [.block 10,.seq (av (ae Tryz.f12) [1,1,1,1,1,1,1,0,1,0,0,1,0,0,1,1,1,1,1,1,1]) [1,1,1,1,1,1,1,0,0,1,0,0,1,0,1,1,1,1,1,1,1],.block 7,.seq (av (ae Tryz.f12) [1,1,1,1,1,1,1,0,1,0,0,1,1]) [1,1,0,0,1,0,1,1,1,1,1,1,1],.loop (av (ae Tryz.f12) [1,1,1,1,1,1,1,0,1,0,0]) [0,1,0,1,1,1,1,1,1,1] m0,.block 6,.seq (av (ae Tryz.f12) [1,1,1,1,1,1,1,1]) [1,1,1,1,1,1,1,1]] (E [(1,.pointer (some p_1)),(2,.pointer (some t_2)),(3,.pointer (some b_3)),(5,.slice params_5 params_5n params_5c),(9,.int .i64 i_9),(10,.pointer (some x_10)),(12,.pointer (some t_12)),(13,.int .i64 kind_13)]) h
 noncomputable def Dq : Option (Go.Value × AH):=bw Tryz.prog (au Tryz.prog n) n Tryz.f12 h0 j8 N (aC Tryz.prog n Tryz.f12 h0) (av (ae Tryz.f12) [1,1,1,1,1,1,1,0,1,0,0,1,0,0,1,1,1,1,1,1,0,0,1,1]) [1,1,0,0,1,1,1,1,1,1,0,0,1,0,0,1,0,1,1,1,1,1,1,1] [.block 10,.seq (av (ae Tryz.f12) [1,1,1,1,1,1,1,0,1,0,0,1,0,0,1,1,1,1,1,1,1]) [1,1,1,1,1,1,1,0,0,1,0,0,1,0,1,1,1,1,1,1,1],.block 7,.seq (av (ae Tryz.f12) [1,1,1,1,1,1,1,0,1,0,0,1,1]) [1,1,0,0,1,0,1,1,1,1,1,1,1],.loop (av (ae Tryz.f12) [1,1,1,1,1,1,1,0,1,0,0]) [0,1,0,1,1,1,1,1,1,1] m0,.block 6,.seq (av (ae Tryz.f12) [1,1,1,1,1,1,1,1]) [1,1,1,1,1,1,1,1]] (E [(1,.pointer (some p_1)),(2,.pointer (some t_2)),(3,.pointer (some b_3)),(5,.slice params_5 params_5n params_5c),(9,.int .i64 i_9),(10,.pointer (some x_10)),(12,.pointer (some t_12)),(13,.int .i64 kind_13)]) h
variable {n m0} {h0} {p_1 t_2 b_3 params_5 params_5n params_5c i_9 x_10 t_12 kind_13} {h}
theorem Dr {r : Go.Value × AH} (hv : Dq aD n m0 h0 p_1 t_2 b_3 params_5 params_5n params_5c i_9 x_10 t_12 kind_13 h = some r) : Dp n m0 h0 p_1 t_2 b_3 params_5 params_5n params_5c i_9 x_10 t_12 kind_13 h = some r:=aN hv
end
section
variable (N : aB) (n m0 : Nat) (h0 : AH) (p_1 t_2 b_3 : Addr) (params_5 : Option Addr) (params_5n params_5c : Nat) (i_9 : Int) (t_12 : Addr) (h : AH)
 noncomputable def nL : Option (Go.Value × AH):=aC Tryz.prog n Tryz.f12 h0 (.code (av (ae Tryz.f12) [1,1,1,1,1,1,1,0,1,0,0,1,0,0,1,1,1,1,1,1,1]) [1,1,1,1,1,1,1,0,0,1,0,0,1,0,1,1,1,1,1,1,1]) [.block 7,.seq (av (ae Tryz.f12) [1,1,1,1,1,1,1,0,1,0,0,1,1]) [1,1,0,0,1,0,1,1,1,1,1,1,1],.loop (av (ae Tryz.f12) [1,1,1,1,1,1,1,0,1,0,0]) [0,1,0,1,1,1,1,1,1,1] m0,.block 6,.seq (av (ae Tryz.f12) [1,1,1,1,1,1,1,1]) [1,1,1,1,1,1,1,1]] (E [(1,.pointer (some p_1)),(2,.pointer (some t_2)),(3,.pointer (some b_3)),(5,.slice params_5 params_5n params_5c),(9,.int .i64 i_9),(12,.pointer (some t_12))]) h
 noncomputable def Ds : Option (Go.Value × AH):=bw Tryz.prog (au Tryz.prog n) n Tryz.f12 h0 j8 N (aC Tryz.prog n Tryz.f12 h0) (av (ae Tryz.f12) [1,1,1,1,1,1,1,0,1,0,0,1,0,0,1,1,1,1,1,1,1]) [1,1,1,1,1,1,1,0,0,1,0,0,1,0,1,1,1,1,1,1,1] [.block 7,.seq (av (ae Tryz.f12) [1,1,1,1,1,1,1,0,1,0,0,1,1]) [1,1,0,0,1,0,1,1,1,1,1,1,1],.loop (av (ae Tryz.f12) [1,1,1,1,1,1,1,0,1,0,0]) [0,1,0,1,1,1,1,1,1,1] m0,.block 6,.seq (av (ae Tryz.f12) [1,1,1,1,1,1,1,1]) [1,1,1,1,1,1,1,1]] (E [(1,.pointer (some p_1)),(2,.pointer (some t_2)),(3,.pointer (some b_3)),(5,.slice params_5 params_5n params_5c),(9,.int .i64 i_9),(12,.pointer (some t_12))]) h
variable {n m0} {h0} {p_1 t_2 b_3 params_5 params_5n params_5c i_9 t_12} {h}
theorem Dt {r : Go.Value × AH} (hv : Ds aD n m0 h0 p_1 t_2 b_3 params_5 params_5n params_5c i_9 t_12 h = some r) : nL n m0 h0 p_1 t_2 b_3 params_5 params_5n params_5c i_9 t_12 h = some r:=aN hv
end
 noncomputable def KQ (N : aB) (n : Nat) (p_0a : Option Addr) (p_0an p_0ac : Nat) (p_0b : Option Addr) (p_0bn p_0bc : Nat) (h : AH) : Option (Go.Value × AH):=bQ Tryz.prog (au Tryz.prog n) n j8 N (aC Tryz.prog n) 12 [(.agg #[(.slice p_0a p_0an p_0ac),(.slice p_0b p_0bn p_0bc)])] h
theorem IU {n : Nat} {p_0a : Option Addr} {p_0an p_0ac : Nat} {p_0b : Option Addr} {p_0bn p_0bc : Nat} {h : AH} {r : Go.Value × AH} (hv : KQ aD n p_0a p_0an p_0ac p_0b p_0bn p_0bc h = some r) : au Tryz.prog (n + 1) 12 [(.agg #[(.slice p_0a p_0an p_0ac),(.slice p_0b p_0bn p_0bc)])] h = some r:=aL hv
theorem Oh (N : aB) (n : Nat) (p_0a : Option Addr) (p_0an p_0ac : Nat) (p_0b : Option Addr) (p_0bn p_0bc : Nat) (h : AH) : KQ N n p_0a p_0an p_0ac p_0b p_0bn p_0bc h =
 (N (setLow h h.next) [(.slice p_0a p_0an p_0ac),(.slice p_0b p_0bn p_0bc)] 0).bind fun p0 =>
 (N p0.2 [(.string (ByteArray.mk (List.toArray []))),(.slice none 0 0),(.slice none 0 0),(.slice none 0 0),(.slice none 0 0),(.slice none 0 0)] 0).bind fun p1 =>
 (N p1.2 [(.string (ByteArray.mk (List.toArray []))),(.slice none 0 0),(.slice none 0 0),(.slice none 0 0),(.slice none 0 0),(.slice none 0 0),(.slice none 0 0),(.slice none 0 0)] 0).bind fun p2 =>
 (di p2.2 ⟨p2.1,0,none⟩ [(.string (ByteArray.mk (List.toArray [(OfNat.ofNat 102)]))),(.slice none 0 0),(.slice none 0 0),(.slice none 0 0),(.slice none 0 0),(.slice none 0 0),(.slice none 0 0),(.slice none 0 0)]).bind fun x3 =>
 (N x3 [(.string (ByteArray.mk (List.toArray [(OfNat.ofNat 97)]))),(.int .i64 8),(.int .i64 5),(.int .i64 0),(.int .i64 0),(.string (ByteArray.mk (List.toArray [(OfNat.ofNat 98)]))),(.int .i64 16),(.int .i64 3),(.int .i64 0),(.int .i64 0)] 5).bind fun p4 =>
 (di p4.2 (Addr.add (Addr.add ⟨p2.1,0,none⟩ 0) 2) [(.slice (some ⟨p4.1,0,none⟩) 2 2)]).bind fun x5 =>
 (N x5 [(.string (ByteArray.mk (List.toArray [(OfNat.ofNat 105),(OfNat.ofNat 110)]))),(.int .i64 8),(.bool false),(.string (ByteArray.mk (List.toArray [(OfNat.ofNat 111),(OfNat.ofNat 117),(OfNat.ofNat 116)]))),(.int .i64 8),(.bool true)] 3).bind fun p6 =>
 (di p6.2 (Addr.add (Addr.add ⟨p2.1,0,none⟩ 0) 3) [(.slice (some ⟨p6.1,0,none⟩) 2 2)]).bind fun x7 =>
 o9 n n h ⟨p0.1,0,none⟩ ⟨p1.1,0,none⟩ ⟨p2.1,0,none⟩ 0 x7:=by kernel_rfl
theorem tC (N : aB) (n m0 : Nat) (h0 : AH) (p_1 t_2 b_3 : Addr) (i_4 : Int) (h : AH) : Dj N n m0 h0 p_1 t_2 b_3 i_4 h =
 (gL (rdC h (Addr.add p_1 1) 0)).bind fun p0 =>
 cond (cj i_4 (Int.ofNat p0.2.1))
 ((gL (rdC h (Addr.add (Addr.add b_3 0) 4) 0)).bind fun p1 =>
 (gL (rdC h (Addr.add p_1 1) 0)).bind fun p2 =>
 (p2.1).bind fun a3 =>
 cond (bO i_4 p2.2.1)
 ((gI .u8 (rdC h (Addr.add a3 ((Int.toNat i_4) * 1)) 0)).bind fun n4 =>
 (au Tryz.prog n 32 [(.int .u8 n4)] (setLow h h.next)).bind fun p5 =>
 (gI .i64 (some p5.1)).bind fun n6 =>
 cond (Nat.beq p5.2.low h.next)
 ((N (setLow p5.2 h.low) [(.int .i64 n6)] 1).bind fun p7 =>
 (dg 1 8 (.slice p1.1 p1.2.1 p1.2.2) (.slice (some ⟨p7.1,0,none⟩) 1 1) p7.2).bind fun p8 =>
 (di p8.2 (Addr.add (Addr.add b_3 0) 4) [(.slice p8.1.1 p8.1.2.1 p8.1.2.2)]).bind fun x9 =>
 o9 n m0 h0 p_1 t_2 b_3 (aU .i64 i_4 1) x9)
 ((gL (rdC h (Addr.add (Addr.add b_3 0) 4) 0)).bind fun p10 =>
 (gL (rdC h (Addr.add p_1 1) 0)).bind fun p11 =>
 (p11.1).bind fun a12 =>
 cond (bO i_4 p11.2.1)
 ((gI .u8 (rdC h (Addr.add a12 ((Int.toNat i_4) * 1)) 0)).bind fun n13 =>
 (au Tryz.prog n 32 [(.int .u8 n13)] h).bind fun p14 =>
 (gI .i64 (some p14.1)).bind fun n15 =>
 (N p14.2 [(.int .i64 n15)] 1).bind fun p16 =>
 (dg 1 8 (.slice p10.1 p10.2.1 p10.2.2) (.slice (some ⟨p16.1,0,none⟩) 1 1) p16.2).bind fun p17 =>
 (di p17.2 (Addr.add (Addr.add b_3 0) 4) [(.slice p17.1.1 p17.1.2.1 p17.1.2.2)]).bind fun x18 =>
 cond (Bool.and (Bool.and (cG h p14.2 (Addr.add (Addr.add b_3 0) 4) 1) (Bool.and (cG h p16.2 (Addr.add (Addr.add b_3 0) 4) 1) true)) true)
 (o9 n m0 h0 p_1 t_2 b_3 (aU .i64 i_4 1) x18)
 (none))
 (none)))
 (none))
 (tq n n h0 p_1 t_2 b_3 none 0 0 0 h):=by kernel_rfl
theorem tD (N : aB) (n m0 : Nat) (h0 : AH) (p_1 t_2 b_3 : Addr) (params_5 : Option Addr) (params_5n params_5c : Nat) (i_6 : Int) (h : AH) : Dk N n m0 h0 p_1 t_2 b_3 params_5 params_5n params_5c i_6 h =
 (gL (rdC h (Addr.add p_1 0) 0)).bind fun p0 =>
 cond (cj i_6 (Int.ofNat p0.2.1))
 (xf n n m0 h0 p_1 t_2 b_3 params_5 params_5n params_5c i_6 none 0 0 0 h)
 (j9 n n h0 p_1 t_2 b_3 params_5 params_5n params_5c 0 h):=by kernel_rfl
theorem tE (N : aB) (n m0 m1 : Nat) (h0 : AH) (p_1 t_2 b_3 : Addr) (params_5 : Option Addr) (params_5n params_5c : Nat) (i_6 : Int) (l_7 : Option Addr) (l_7n l_7c : Nat) (k_8 : Int) (h : AH) : Dl N n m0 m1 h0 p_1 t_2 b_3 params_5 params_5n params_5c i_6 l_7 l_7n l_7c k_8 h =
 (gL (rdC h (Addr.add p_1 0) 0)).bind fun p0 =>
 (p0.1).bind fun a1 =>
 cond (bO i_6 p0.2.1)
 ((gL (rdC h (Addr.add (Addr.add a1 ((Int.toNat i_6) * 9)) 0) 0)).bind fun p2 =>
 cond (cj k_8 (Int.ofNat p2.2.1))
 ((gL (rdC h (Addr.add p_1 0) 0)).bind fun p3 =>
 (p3.1).bind fun a4 =>
 cond (bO i_6 p3.2.1)
 ((gL (rdC h (Addr.add (Addr.add a4 ((Int.toNat i_6) * 9)) 0) 0)).bind fun p5 =>
 (p5.1).bind fun a6 =>
 cond (bO k_8 p5.2.1)
 ((gI .u8 (rdC h (Addr.add a6 ((Int.toNat k_8) * 1)) 0)).bind fun n7 =>
 (au Tryz.prog n 32 [(.int .u8 n7)] h).bind fun p8 =>
 (gI .i64 (some p8.1)).bind fun n9 =>
 (au Tryz.prog n 33 [(.pointer (some b_3)),(.int .i64 n9)] p8.2).bind fun p10 =>
 (gI .i64 (some p10.1)).bind fun n11 =>
 (N p10.2 [(.int .i64 n11)] 1).bind fun p12 =>
 (dg 1 8 (.slice l_7 l_7n l_7c) (.slice (some ⟨p12.1,0,none⟩) 1 1) p12.2).bind fun p13 =>
 xf n m0 m1 h0 p_1 t_2 b_3 params_5 params_5n params_5c i_6 p13.1.1 p13.1.2.1 p13.1.2.2 (aU .i64 k_8 1) p13.2)
 (none))
 (none))
 ((N h [(.slice l_7 l_7n l_7c)] 1).bind fun p14 =>
 (dg 1 24 (.slice params_5 params_5n params_5c) (.slice (some ⟨p14.1,0,none⟩) 1 1) p14.2).bind fun p15 =>
 tq n m1 h0 p_1 t_2 b_3 p15.1.1 p15.1.2.1 p15.1.2.2 (aU .i64 i_6 1) p15.2))
 (none):=by kernel_rfl
theorem tF (N : aB) (n m0 : Nat) (h0 : AH) (p_1 t_2 b_3 : Addr) (params_5 : Option Addr) (params_5n params_5c : Nat) (i_9 : Int) (h : AH) : Dm N n m0 h0 p_1 t_2 b_3 params_5 params_5n params_5c i_9 h =
 (gL (rdC h (Addr.add p_1 0) 0)).bind fun p0 =>
 cond (cj i_9 (Int.ofNat p0.2.1))
 ((gL (rdC h (Addr.add p_1 0) 0)).bind fun p1 =>
 (p1.1).bind fun a2 =>
 cond (bO i_9 p1.2.1)
 ((gL (rdC h (Addr.add a2 ((Int.toNat i_9) * 9)) 0)).bind fun p3 =>
 (gL (rdC h (Addr.add a2 ((Int.toNat i_9) * 9)) 1)).bind fun p4 =>
 (gI .u8 (rdC h (Addr.add a2 ((Int.toNat i_9) * 9)) 2)).bind fun n5 =>
 (gI .u8 (rdC h (Addr.add a2 ((Int.toNat i_9) * 9)) 3)).bind fun n6 =>
 (gI .u8 (rdC h (Addr.add a2 ((Int.toNat i_9) * 9)) 4)).bind fun n7 =>
 (gI .u8 (rdC h (Addr.add a2 ((Int.toNat i_9) * 9)) 5)).bind fun n8 =>
 (gI .u8 (rdC h (Addr.add a2 ((Int.toNat i_9) * 9)) 6)).bind fun n9 =>
 (gI .u8 (rdC h (Addr.add a2 ((Int.toNat i_9) * 9)) 7)).bind fun n10 =>
 (gI .u8 (rdC h (Addr.add a2 ((Int.toNat i_9) * 9)) 8)).bind fun n11 =>
 (N h [(.slice none 0 0),(.slice none 0 0),(.int .u8 0),(.int .u8 0),(.int .u8 0),(.int .u8 0),(.int .u8 0),(.int .u8 0),(.int .u8 0)] 0).bind fun p12 =>
 (di p12.2 ⟨p12.1,0,none⟩ [(.slice p3.1 p3.2.1 p3.2.2),(.slice p4.1 p4.2.1 p4.2.2),(.int .u8 n5),(.int .u8 n6),(.int .u8 n7),(.int .u8 n8),(.int .u8 n9),(.int .u8 n10),(.int .u8 n11)]).bind fun x13 =>
 (N x13 [] 1).bind fun p14 =>
 (params_5).bind fun a15 =>
 cond (bO i_9 params_5n)
 ((gL (rdC p14.2 (Addr.add a15 ((Int.toNat i_9) * 1)) 0)).bind fun p16 =>
 (dg 1 8 (.slice (some ⟨p14.1,0,none⟩) 0 0) (.slice p16.1 p16.2.1 p16.2.2) p14.2).bind fun p17 =>
 (di p17.2 (Addr.add b_3 6) [(.slice p17.1.1 p17.1.2.1 p17.1.2.2)]).bind fun x18 =>
 (di x18 (Addr.add b_3 7) [(.slice none 0 0)]).bind fun x19 =>
 xg n n m0 h0 p_1 t_2 b_3 params_5 params_5n params_5c i_9 ⟨p12.1,0,none⟩ 0 x19)
 (none))
 (none))
 ((gS (rdC h (Addr.add b_3 0) 0)).bind fun x20 =>
 (gL (rdC h (Addr.add b_3 0) 1)).bind fun gK =>
 (gL (rdC h (Addr.add b_3 0) 2)).bind fun fL =>
 (gL (rdC h (Addr.add b_3 0) 3)).bind fun kS =>
 (gL (rdC h (Addr.add b_3 0) 4)).bind fun ip =>
 (gL (rdC h (Addr.add b_3 0) 5)).bind fun jb =>
 (di h t_2 [(.string x20),(.slice gK.1 gK.2.1 gK.2.2),(.slice fL.1 fL.2.1 fL.2.2),(.slice kS.1 kS.2.1 kS.2.2),(.slice ip.1 ip.2.1 ip.2.2),(.slice jb.1 jb.2.1 jb.2.2)]).bind fun x26 =>
 (gS (rdC x26 t_2 0)).bind fun x27 =>
 (gL (rdC x26 t_2 1)).bind fun p28 =>
 (gL (rdC x26 t_2 2)).bind fun j8 =>
 (gL (rdC x26 t_2 3)).bind fun p30 =>
 (gL (rdC x26 t_2 4)).bind fun p31 =>
 (gL (rdC x26 t_2 5)).bind fun p32 =>
 some (aj h0 x26 (.agg #[(.string x27),(.slice p28.1 p28.2.1 p28.2.2),(.slice j8.1 j8.2.1 j8.2.2),(.slice p30.1 p30.2.1 p30.2.2),(.slice p31.1 p31.2.1 p31.2.2),(.slice p32.1 p32.2.1 p32.2.2)]))):=by kernel_rfl
theorem tG (N : aB) (n m0 m1 : Nat) (h0 : AH) (p_1 t_2 b_3 : Addr) (params_5 : Option Addr) (params_5n params_5c : Nat) (i_9 : Int) (x_10 : Addr) (k_11 : Int) (h : AH) : Dn N n m0 m1 h0 p_1 t_2 b_3 params_5 params_5n params_5c i_9 x_10 k_11 h =
 (gL (rdC h (Addr.add x_10 1) 0)).bind fun p0 =>
 cond (cj k_11 (Int.ofNat p0.2.1))
 ((gL (rdC h (Addr.add x_10 1) 0)).bind fun p1 =>
 (p1.1).bind fun a2 =>
 cond (bO k_11 p1.2.1)
 ((gI .u8 (rdC h (Addr.add a2 ((Int.toNat k_11) * 6)) 0)).bind fun n3 =>
 (gI .u8 (rdC h (Addr.add a2 ((Int.toNat k_11) * 6)) 1)).bind fun n4 =>
 (gI .u8 (rdC h (Addr.add a2 ((Int.toNat k_11) * 6)) 2)).bind fun n5 =>
 (gI .u8 (rdC h (Addr.add a2 ((Int.toNat k_11) * 6)) 3)).bind fun n6 =>
 (gI .u8 (rdC h (Addr.add a2 ((Int.toNat k_11) * 6)) 4)).bind fun n7 =>
 (gI .u64 (rdC h (Addr.add a2 ((Int.toNat k_11) * 6)) 5)).bind fun n8 =>
 (au Tryz.prog n 34 [(.pointer (some b_3)),(.agg #[(.int .u8 n3),(.int .u8 n4),(.int .u8 n5),(.int .u8 n6),(.int .u8 n7),(.int .u64 n8)])] h).bind fun p9 =>
 xg n m0 m1 h0 p_1 t_2 b_3 params_5 params_5n params_5c i_9 x_10 (aU .i64 k_11 1) p9.2)
 (none))
 ((N h [(.int .i64 0),(.int .i64 0),(.slice none 0 0),(.slice none 0 0)] 0).bind fun p10 =>
 (di p10.2 ⟨p10.1,0,none⟩ [(.int .i64 3),(.int .i64 (-1)),(.slice none 0 0),(.slice none 0 0)]).bind fun x11 =>
 (gI .u8 (rdC x11 (Addr.add x_10 2) 0)).bind fun n12 =>
 cond (aY (cm .i64 (aR .i64 n12) 4) 0)
 (nK n n m1 h0 p_1 t_2 b_3 params_5 params_5n params_5c i_9 x_10 ⟨p10.1,0,none⟩ 0 x11)
 ((gL (rdC x11 (Addr.add p_1 0) 0)).bind fun p13 =>
 cond (aY (Int.ofNat p13.2.1) 1)
 (nK n n m1 h0 p_1 t_2 b_3 params_5 params_5n params_5c i_9 x_10 ⟨p10.1,0,none⟩ 0 x11)
 (Dp n m1 h0 p_1 t_2 b_3 params_5 params_5n params_5c i_9 x_10 ⟨p10.1,0,none⟩ (cm .i64 (aR .i64 n12) 4) x11))):=by kernel_rfl
theorem tH (N : aB) (n m0 m1 : Nat) (h0 : AH) (p_1 t_2 b_3 : Addr) (params_5 : Option Addr) (params_5n params_5c : Nat) (i_9 : Int) (x_10 t_12 : Addr) (k_14 : Int) (h : AH) : Do N n m0 m1 h0 p_1 t_2 b_3 params_5 params_5n params_5c i_9 x_10 t_12 k_14 h =
 (gL (rdC h (Addr.add (Addr.add b_3 0) 4) 0)).bind fun p0 =>
 cond (cj k_14 (Int.ofNat p0.2.1))
 ((gL (rdC h (Addr.add t_12 3) 0)).bind fun p1 =>
 (gL (rdC h (Addr.add (Addr.add b_3 0) 4) 0)).bind fun p2 =>
 (p2.1).bind fun a3 =>
 cond (bO k_14 p2.2.1)
 ((gI .i64 (rdC h (Addr.add a3 ((Int.toNat k_14) * 1)) 0)).bind fun n4 =>
 (gI .u8 (rdC h (Addr.add (Addr.add x_10 5) 0) 0)).bind fun n5 =>
 (au Tryz.prog n 35 [(.pointer (some b_3)),(.int .i64 n4),(.int .u8 (aU .u8 n5 (aR .u8 k_14)))] (setLow h h.next)).bind fun p6 =>
 (gI .i64 (some p6.1)).bind fun n7 =>
 cond (Nat.beq p6.2.low h.next)
 ((N (setLow p6.2 h.low) [(.int .i64 n7)] 1).bind fun p8 =>
 (dg 1 8 (.slice p1.1 p1.2.1 p1.2.2) (.slice (some ⟨p8.1,0,none⟩) 1 1) p8.2).bind fun p9 =>
 (di p9.2 (Addr.add t_12 3) [(.slice p9.1.1 p9.1.2.1 p9.1.2.2)]).bind fun x10 =>
 nK n m0 m1 h0 p_1 t_2 b_3 params_5 params_5n params_5c i_9 x_10 t_12 (aU .i64 k_14 1) x10)
 ((gL (rdC h (Addr.add t_12 3) 0)).bind fun p11 =>
 (gL (rdC h (Addr.add (Addr.add b_3 0) 4) 0)).bind fun p12 =>
 (p12.1).bind fun a13 =>
 cond (bO k_14 p12.2.1)
 ((gI .i64 (rdC h (Addr.add a13 ((Int.toNat k_14) * 1)) 0)).bind fun n14 =>
 (gI .u8 (rdC h (Addr.add (Addr.add x_10 5) 0) 0)).bind fun n15 =>
 (au Tryz.prog n 35 [(.pointer (some b_3)),(.int .i64 n14),(.int .u8 (aU .u8 n15 (aR .u8 k_14)))] h).bind fun p16 =>
 (gI .i64 (some p16.1)).bind fun n17 =>
 (N p16.2 [(.int .i64 n17)] 1).bind fun p18 =>
 (dg 1 8 (.slice p11.1 p11.2.1 p11.2.2) (.slice (some ⟨p18.1,0,none⟩) 1 1) p18.2).bind fun gc =>
 (di gc.2 (Addr.add t_12 3) [(.slice gc.1.1 gc.1.2.1 gc.1.2.2)]).bind fun x20 =>
 cond (Bool.and (Bool.and (cG h p16.2 (Addr.add t_12 3) 1) (Bool.and (cG h p18.2 (Addr.add t_12 3) 1) true)) true)
 (nK n m0 m1 h0 p_1 t_2 b_3 params_5 params_5n params_5c i_9 x_10 t_12 (aU .i64 k_14 1) x20)
 (none))
 (none)))
 (none))
 (nL n m1 h0 p_1 t_2 b_3 params_5 params_5n params_5c i_9 t_12 h):=by kernel_rfl
theorem Du (N : aB) (n m0 : Nat) (h0 : AH) (p_1 t_2 b_3 : Addr) (params_5 : Option Addr) (params_5n params_5c : Nat) (i_9 : Int) (x_10 t_12 : Addr) (kind_13 : Int) (h : AH) : Dq N n m0 h0 p_1 t_2 b_3 params_5 params_5n params_5c i_9 x_10 t_12 kind_13 h =
 cond (aY kind_13 1)
 ((di h (Addr.add t_12 0) [(.int .i64 1)]).bind fun x0 =>
 (gL (rdC x0 p_1 0)).bind fun p1 =>
 (gL (rdC x0 p_1 1)).bind fun p2 =>
 (gI .u8 (rdC x0 (Addr.add (Addr.add x_10 3) 0) 0)).bind fun n3 =>
 (gI .u8 (rdC x0 (Addr.add (Addr.add x_10 5) 0) 0)).bind fun n4 =>
 (au Tryz.prog n 36 [(.pointer (some b_3)),(.agg #[(.slice p1.1 p1.2.1 p1.2.2),(.slice p2.1 p2.2.1 p2.2.2)]),(.int .u8 n3),(.int .u8 n4)] x0).bind fun p5 =>
 cond (f5 2 p5.1)
 ((gI .i64 (db 0 p5.1)).bind fun n6 =>
 (gL (db 1 p5.1)).bind fun p7 =>
 (N p5.2 [(.int .i64 n6),(.slice p7.1 p7.2.1 p7.2.2)] 2).bind fun p8 =>
 (di p8.2 (Addr.add t_12 2) [(.slice (some ⟨p8.1,0,none⟩) 1 1)]).bind fun x9 =>
 nL n m0 h0 p_1 t_2 b_3 params_5 params_5n params_5c i_9 t_12 x9)
 (none))
 ((di h (Addr.add t_12 0) [(.int .i64 2)]).bind fun x10 =>
 (gI .u8 (rdC x10 (Addr.add (Addr.add x_10 5) 1) 0)).bind fun n11 =>
 (au Tryz.prog n 35 [(.pointer (some b_3)),(.int .i64 1),(.int .u8 n11)] x10).bind fun p12 =>
 (gI .i64 (some p12.1)).bind fun n13 =>
 (di p12.2 (Addr.add t_12 1) [(.int .i64 n13)]).bind fun x14 =>
 (gL (rdC x14 p_1 0)).bind fun p15 =>
 (gL (rdC x14 p_1 1)).bind fun p16 =>
 (gI .u8 (rdC x14 (Addr.add (Addr.add x_10 3) 0) 0)).bind fun n17 =>
 (gI .u8 (rdC x14 (Addr.add (Addr.add x_10 5) 2) 0)).bind fun n18 =>
 (au Tryz.prog n 36 [(.pointer (some b_3)),(.agg #[(.slice p15.1 p15.2.1 p15.2.2),(.slice p16.1 p16.2.1 p16.2.2)]),(.int .u8 n17),(.int .u8 n18)] x14).bind fun gc =>
 cond (f5 2 gc.1)
 ((gI .i64 (db 0 gc.1)).bind fun n20 =>
 (gL (db 1 gc.1)).bind fun gK =>
 (N gc.2 [(.int .i64 0),(.slice none 0 0)] 0).bind fun fL =>
 (di fL.2 ⟨fL.1,0,none⟩ [(.int .i64 n20),(.slice gK.1 gK.2.1 gK.2.2)]).bind fun x23 =>
 (gI .i64 (rdC x23 ⟨fL.1,0,none⟩ 0)).bind fun n24 =>
 (gL (rdC x23 ⟨fL.1,0,none⟩ 1)).bind fun jb =>
 (gL (rdC x23 p_1 0)).bind fun p26 =>
 (gL (rdC x23 p_1 1)).bind fun p27 =>
 (gI .u8 (rdC x23 (Addr.add (Addr.add x_10 3) 1) 0)).bind fun n28 =>
 (gI .u8 (rdC x23 (Addr.add (Addr.add x_10 5) 3) 0)).bind fun n29 =>
 (au Tryz.prog n 36 [(.pointer (some b_3)),(.agg #[(.slice p26.1 p26.2.1 p26.2.2),(.slice p27.1 p27.2.1 p27.2.2)]),(.int .u8 n28),(.int .u8 n29)] (setLow x23 x23.next)).bind fun p30 =>
 cond (f5 2 p30.1)
 ((gI .i64 (db 0 p30.1)).bind fun n31 =>
 (gL (db 1 p30.1)).bind fun p32 =>
 cond (Nat.beq p30.2.low x23.next)
 ((N (setLow p30.2 x23.low) [(.int .i64 n24),(.slice jb.1 jb.2.1 jb.2.2),(.int .i64 n31),(.slice p32.1 p32.2.1 p32.2.2)] 2).bind fun p33 =>
 (di p33.2 (Addr.add t_12 2) [(.slice (some ⟨p33.1,0,none⟩) 2 2)]).bind fun x34 =>
 nL n m0 h0 p_1 t_2 b_3 params_5 params_5n params_5c i_9 t_12 x34)
 ((gI .i64 (rdC x23 ⟨fL.1,0,none⟩ 0)).bind fun n35 =>
 (gL (rdC x23 ⟨fL.1,0,none⟩ 1)).bind fun p36 =>
 (gL (rdC x23 p_1 0)).bind fun nI =>
 (gL (rdC x23 p_1 1)).bind fun p38 =>
 (gI .u8 (rdC x23 (Addr.add (Addr.add x_10 3) 1) 0)).bind fun n39 =>
 (gI .u8 (rdC x23 (Addr.add (Addr.add x_10 5) 3) 0)).bind fun n40 =>
 (au Tryz.prog n 36 [(.pointer (some b_3)),(.agg #[(.slice nI.1 nI.2.1 nI.2.2),(.slice p38.1 p38.2.1 p38.2.2)]),(.int .u8 n39),(.int .u8 n40)] x23).bind fun p41 =>
 cond (f5 2 p41.1)
 ((gI .i64 (db 0 p41.1)).bind fun n42 =>
 (gL (db 1 p41.1)).bind fun p43 =>
 (N p41.2 [(.int .i64 n35),(.slice p36.1 p36.2.1 p36.2.2),(.int .i64 n42),(.slice p43.1 p43.2.1 p43.2.2)] 2).bind fun p44 =>
 (di p44.2 (Addr.add t_12 2) [(.slice (some ⟨p44.1,0,none⟩) 2 2)]).bind fun x45 =>
 cond (Bool.and (Bool.and (cG x23 p41.2 ⟨fL.1,0,none⟩ 2) true) true)
 (nL n m0 h0 p_1 t_2 b_3 params_5 params_5n params_5c i_9 t_12 x45)
 (none))
 (none)))
 (none))
 (none)):=by kernel_rfl
theorem Dv (N : aB) (n m0 : Nat) (h0 : AH) (p_1 t_2 b_3 : Addr) (params_5 : Option Addr) (params_5n params_5c : Nat) (i_9 : Int) (t_12 : Addr) (h : AH) : Ds N n m0 h0 p_1 t_2 b_3 params_5 params_5n params_5c i_9 t_12 h =
 (gL (rdC h (Addr.add (Addr.add b_3 0) 5) 0)).bind fun p0 =>
 (params_5).bind fun a1 =>
 cond (bO i_9 params_5n)
 ((gL (rdC h (Addr.add a1 ((Int.toNat i_9) * 1)) 0)).bind fun p2 =>
 (gL (rdC h (Addr.add b_3 7) 0)).bind fun p3 =>
 (gI .i64 (rdC h t_12 0)).bind fun n4 =>
 (gI .i64 (rdC h t_12 1)).bind fun n5 =>
 (gL (rdC h t_12 2)).bind fun p6 =>
 (gL (rdC h t_12 3)).bind fun p7 =>
 (N h [(.slice p2.1 p2.2.1 p2.2.2),(.slice p3.1 p3.2.1 p3.2.2),(.int .i64 n4),(.int .i64 n5),(.slice p6.1 p6.2.1 p6.2.2),(.slice p7.1 p7.2.1 p7.2.2),(.int .i64 0),(.int .i64 0),(.int .i64 0)] 9).bind fun p8 =>
 (dg 9 136 (.slice p0.1 p0.2.1 p0.2.2) (.slice (some ⟨p8.1,0,none⟩) 1 1) p8.2).bind fun p9 =>
 (di p9.2 (Addr.add (Addr.add b_3 0) 5) [(.slice p9.1.1 p9.1.2.1 p9.1.2.2)]).bind fun x10 =>
 j9 n m0 h0 p_1 t_2 b_3 params_5 params_5n params_5c (aU .i64 i_9 1) x10)
 (none):=by kernel_rfl
def LU : List (List Nat × List Nat):=[]
 noncomputable def KR (N : aB) (n : Nat) (n_0 : Int) (h : AH) : Option (Go.Value × AH):=bQ Tryz.prog (au Tryz.prog n) n LU N (aC Tryz.prog n) 32 [(.int .u8 n_0)] h
theorem IV {n : Nat} {n_0 : Int} {h : AH} {r : Go.Value × AH} (hv : KR aD n n_0 h = some r) : au Tryz.prog (n + 1) 32 [(.int .u8 n_0)] h = some r:=aL hv
theorem Oj (N : aB) (n : Nat) (n_0 : Int) (h : AH) : KR N n n_0 h =
 (N (setLow h h.next) [(.int .i64 8),(.int .i64 1),(.int .i64 4),(.int .i64 16),(.int .i64 3),(.int .i64 64),(.int .i64 32),(.int .i64 7)] 1).bind fun p0 =>
 cond (bO (cm .u8 n_0 8) 8)
 ((gI .i64 (rdC p0.2 (Addr.add ⟨p0.1,0,none⟩ ((Int.toNat (cm .u8 n_0 8)) * 1)) 0)).bind fun n1 =>
 some (aj h p0.2 (.int .i64 n1)))
 (none):=by kernel_rfl
def KS : List (List Nat × List Nat):=[]
 noncomputable def KT (N : aB) (n : Nat) (b_0 : Addr) (w_1 : Int) (h : AH) : Option (Go.Value × AH):=bQ Tryz.prog (au Tryz.prog n) n KS N (aC Tryz.prog n) 33 [(.pointer (some b_0)),(.int .i64 w_1)] h
theorem IW {n : Nat} {b_0 : Addr} {w_1 : Int} {h : AH} {r : Go.Value × AH} (hv : KT aD n b_0 w_1 h = some r) : au Tryz.prog (n + 1) 33 [(.pointer (some b_0)),(.int .i64 w_1)] h = some r:=aL hv
theorem Ok (N : aB) (n : Nat) (b_0 : Addr) (w_1 : Int) (h : AH) : KT N n b_0 w_1 h =
 (gL (rdC (setLow h h.next) (Addr.add (Addr.add b_0 0) 1) 0)).bind fun p0 =>
 (N (setLow h h.next) [(.int .i64 w_1)] 1).bind fun p1 =>
 (dg 1 8 (.slice p0.1 p0.2.1 p0.2.2) (.slice (some ⟨p1.1,0,none⟩) 1 1) p1.2).bind fun p2 =>
 (di p2.2 (Addr.add (Addr.add b_0 0) 1) [(.slice p2.1.1 p2.1.2.1 p2.1.2.2)]).bind fun x3 =>
 (gL (rdC x3 (Addr.add (Addr.add b_0 0) 1) 0)).bind fun p4 =>
 some (aj h x3 (.int .i64 (fy .i64 (Int.ofNat p4.2.1) 1))):=by kernel_rfl
def Hj : List (List Nat × List Nat):=[([9],[])]
 noncomputable def KU (N : aB) (n : Nat) (b_0 : Addr) (p_1a p_1b p_1c p_1d p_1e p_1f : Int) (h : AH) : Option (Go.Value × AH):=bQ Tryz.prog (au Tryz.prog n) n Hj N (aC Tryz.prog n) 34 [(.pointer (some b_0)),(.agg #[(.int .u8 p_1a),(.int .u8 p_1b),(.int .u8 p_1c),(.int .u8 p_1d),(.int .u8 p_1e),(.int .u64 p_1f)])] h
theorem IX {n : Nat} {b_0 : Addr} {p_1a p_1b p_1c p_1d p_1e p_1f : Int} {h : AH} {r : Go.Value × AH} (hv : KU aD n b_0 p_1a p_1b p_1c p_1d p_1e p_1f h = some r) : au Tryz.prog (n + 1) 34 [(.pointer (some b_0)),(.agg #[(.int .u8 p_1a),(.int .u8 p_1b),(.int .u8 p_1c),(.int .u8 p_1d),(.int .u8 p_1e),(.int .u64 p_1f)])] h = some r:=aL hv
theorem Ol (N : aB) (n : Nat) (b_0 : Addr) (p_1a p_1b p_1c p_1d p_1e p_1f : Int) (h : AH) : KU N n b_0 p_1a p_1b p_1c p_1d p_1e p_1f h =
 (N (setLow h h.next) [(.int .u8 p_1a),(.int .u8 p_1b),(.int .u8 p_1c),(.int .u8 p_1d),(.int .u8 p_1e),(.int .u64 p_1f)] 0).bind fun p0 =>
 (gI .u8 (rdC p0.2 (Addr.add ⟨p0.1,0,none⟩ 0) 0)).bind fun n1 =>
 (gI .u8 (rdC p0.2 (Addr.add ⟨p0.1,0,none⟩ 1) 0)).bind fun n2 =>
 (au Tryz.prog n 32 [(.int .u8 n2)] p0.2).bind fun p3 =>
 (gI .i64 (some p3.1)).bind fun n4 =>
 cond (aY (aU .i64 1 (cm .i64 (aR .i64 n1) 28)) 1)
 ((gI .u64 (rdC p3.2 (Addr.add ⟨p0.1,0,none⟩ 5) 0)).bind fun n5 =>
 (au Tryz.prog n 29 [(.int .i64 n4)] (setLow p3.2 p3.2.next)).bind fun p6 =>
 (gI .u64 (some p6.1)).bind fun n7 =>
 cond (Nat.beq p6.2.low p3.2.next)
 ((au Tryz.prog n 60 [(.pointer (some b_0)),(.int .i64 (aU .i64 1 (cm .i64 (aR .i64 n1) 28))),(.int .i64 n4),(.slice none 0 0),(.int .u64 (pU .u64 n5 n7)),(.int .i64 0)] (setLow p6.2 p3.2.low)).bind fun p8 =>
 (gI .i64 (some p8.1)).bind fun n9 =>
 some (aj h p8.2 (.tuple #[])))
 ((gI .u64 (rdC p3.2 (Addr.add ⟨p0.1,0,none⟩ 5) 0)).bind fun n10 =>
 (au Tryz.prog n 29 [(.int .i64 n4)] p3.2).bind fun p11 =>
 (gI .u64 (some p11.1)).bind fun n12 =>
 (au Tryz.prog n 60 [(.pointer (some b_0)),(.int .i64 (aU .i64 1 (cm .i64 (aR .i64 n1) 28))),(.int .i64 n4),(.slice none 0 0),(.int .u64 (pU .u64 n10 n12)),(.int .i64 0)] p11.2).bind fun p13 =>
 (gI .i64 (some p13.1)).bind fun n14 =>
 cond (Bool.and (Bool.and (cG p3.2 p11.2 (Addr.add ⟨p0.1,0,none⟩ 5) 1) true) true)
 (some (aj h p13.2 (.tuple #[])))
 (none)))
 (cond (bV (aU .i64 1 (cm .i64 (aR .i64 n1) 28)) 14)
 ((gI .u8 (rdC p3.2 (Addr.add ⟨p0.1,0,none⟩ 2) 0)).bind fun n15 =>
 (au Tryz.prog n 35 [(.pointer (some b_0)),(.int .i64 n4),(.int .u8 n15)] p3.2).bind fun p16 =>
 (gI .i64 (some p16.1)).bind fun n17 =>
 (gI .u8 (rdC p16.2 (Addr.add ⟨p0.1,0,none⟩ 3) 0)).bind fun n18 =>
 (au Tryz.prog n 35 [(.pointer (some b_0)),(.int .i64 n4),(.int .u8 n18)] p16.2).bind fun gc =>
 (gI .i64 (some gc.1)).bind fun n20 =>
 (N gc.2 [(.int .i64 n17),(.int .i64 n20)] 1).bind fun gK =>
 (au Tryz.prog n 60 [(.pointer (some b_0)),(.int .i64 (aU .i64 1 (cm .i64 (aR .i64 n1) 28))),(.int .i64 n4),(.slice (some ⟨gK.1,0,none⟩) 2 2),(.int .u64 0),(.int .i64 0)] gK.2).bind fun fL =>
 (gI .i64 (some fL.1)).bind fun n23 =>
 some (aj h fL.2 (.tuple #[])))
 (cond (bV (aU .i64 1 (cm .i64 (aR .i64 n1) 28)) 20)
 ((gI .u8 (rdC p3.2 (Addr.add ⟨p0.1,0,none⟩ 2) 0)).bind fun n24 =>
 (au Tryz.prog n 35 [(.pointer (some b_0)),(.int .i64 n4),(.int .u8 n24)] p3.2).bind fun jb =>
 (gI .i64 (some jb.1)).bind fun n26 =>
 (gI .u8 (rdC jb.2 (Addr.add ⟨p0.1,0,none⟩ 3) 0)).bind fun n27 =>
 (au Tryz.prog n 35 [(.pointer (some b_0)),(.int .i64 n4),(.int .u8 n27)] jb.2).bind fun p28 =>
 (gI .i64 (some p28.1)).bind fun n29 =>
 (N p28.2 [(.int .i64 n26),(.int .i64 n29)] 1).bind fun p30 =>
 (au Tryz.prog n 60 [(.pointer (some b_0)),(.int .i64 (aU .i64 1 (cm .i64 (aR .i64 n1) 28))),(.int .i64 1),(.slice (some ⟨p30.1,0,none⟩) 2 2),(.int .u64 0),(.int .i64 0)] p30.2).bind fun p31 =>
 (gI .i64 (some p31.1)).bind fun n32 =>
 some (aj h p31.2 (.tuple #[])))
 (cond (aY (aU .i64 1 (cm .i64 (aR .i64 n1) 28)) 21)
 ((gI .u8 (rdC p3.2 (Addr.add ⟨p0.1,0,none⟩ 4) 0)).bind fun n33 =>
 (au Tryz.prog n 35 [(.pointer (some b_0)),(.int .i64 1),(.int .u8 n33)] p3.2).bind fun t8 =>
 (gI .i64 (some t8.1)).bind fun n35 =>
 (gI .u8 (rdC t8.2 (Addr.add ⟨p0.1,0,none⟩ 2) 0)).bind fun n36 =>
 (au Tryz.prog n 35 [(.pointer (some b_0)),(.int .i64 n4),(.int .u8 n36)] t8.2).bind fun nI =>
 (gI .i64 (some nI.1)).bind fun n38 =>
 (gI .u8 (rdC nI.2 (Addr.add ⟨p0.1,0,none⟩ 3) 0)).bind fun n39 =>
 (au Tryz.prog n 35 [(.pointer (some b_0)),(.int .i64 n4),(.int .u8 n39)] nI.2).bind fun p40 =>
 (gI .i64 (some p40.1)).bind fun n41 =>
 (N p40.2 [(.int .i64 n35),(.int .i64 n38),(.int .i64 n41)] 1).bind fun p42 =>
 (au Tryz.prog n 60 [(.pointer (some b_0)),(.int .i64 (aU .i64 1 (cm .i64 (aR .i64 n1) 28))),(.int .i64 n4),(.slice (some ⟨p42.1,0,none⟩) 3 3),(.int .u64 0),(.int .i64 0)] p42.2).bind fun p43 =>
 (gI .i64 (some p43.1)).bind fun n44 =>
 some (aj h p43.2 (.tuple #[])))
 (cond (bV (aU .i64 1 (cm .i64 (aR .i64 n1) 28)) 24)
 ((gI .u8 (rdC p3.2 (Addr.add ⟨p0.1,0,none⟩ 3) 0)).bind fun n45 =>
 (au Tryz.prog n 32 [(.int .u8 n45)] p3.2).bind fun p46 =>
 (gI .i64 (some p46.1)).bind fun n47 =>
 cond (aY (fJ n4 n47) (gb n4 n47))
 ((gI .u8 (rdC p46.2 (Addr.add ⟨p0.1,0,none⟩ 2) 0)).bind fun n48 =>
 (au Tryz.prog n 35 [(.pointer (some b_0)),(.int .i64 n4),(.int .u8 n48)] (setLow p46.2 p46.2.next)).bind fun p49 =>
 (gI .i64 (some p49.1)).bind fun n50 =>
 cond (Nat.beq p49.2.low p46.2.next)
 ((gI .u8 (rdC (setLow p49.2 p46.2.low) (Addr.add ⟨p0.1,0,none⟩ 4) 0)).bind fun n51 =>
 (au Tryz.prog n 35 [(.pointer (some b_0)),(.int .i64 n4),(.int .u8 n51)] (setLow p49.2 p46.2.low)).bind fun Io =>
 (gI .i64 (some Io.1)).bind fun n53 =>
 (N Io.2 [(.int .i64 n50),(.int .i64 n53)] 1).bind fun GR =>
 (au Tryz.prog n 60 [(.pointer (some b_0)),(.int .i64 10),(.int .i64 n4),(.slice (some ⟨GR.1,0,none⟩) 2 2),(.int .u64 0),(.int .i64 0)] GR.2).bind fun GS =>
 (gI .i64 (some GS.1)).bind fun n56 =>
 some (aj h GS.2 (.tuple #[])))
 ((gI .u8 (rdC p46.2 (Addr.add ⟨p0.1,0,none⟩ 2) 0)).bind fun n57 =>
 (au Tryz.prog n 35 [(.pointer (some b_0)),(.int .i64 n4),(.int .u8 n57)] p46.2).bind fun p58 =>
 (gI .i64 (some p58.1)).bind fun n59 =>
 (gI .u8 (rdC p58.2 (Addr.add ⟨p0.1,0,none⟩ 4) 0)).bind fun n60 =>
 (au Tryz.prog n 35 [(.pointer (some b_0)),(.int .i64 n4),(.int .u8 n60)] p58.2).bind fun LU =>
 (gI .i64 (some LU.1)).bind fun n62 =>
 (N LU.2 [(.int .i64 n59),(.int .i64 n62)] 1).bind fun Hj =>
 (au Tryz.prog n 60 [(.pointer (some b_0)),(.int .i64 10),(.int .i64 n4),(.slice (some ⟨Hj.1,0,none⟩) 2 2),(.int .u64 0),(.int .i64 0)] Hj.2).bind fun p64 =>
 (gI .i64 (some p64.1)).bind fun n65 =>
 cond (Bool.and (Bool.and (cG p58.2 p46.2 (Addr.add ⟨p0.1,0,none⟩ 4) 1) true) true)
 (some (aj h p64.2 (.tuple #[])))
 (none)))
 (cond (aY (aU .i64 1 (cm .i64 (aR .i64 n1) 28)) 24)
 ((gI .u8 (rdC p46.2 (Addr.add ⟨p0.1,0,none⟩ 2) 0)).bind fun n66 =>
 (au Tryz.prog n 35 [(.pointer (some b_0)),(.int .i64 (gb n4 n47)),(.int .u8 n66)] p46.2).bind fun FT =>
 (gI .i64 (some FT.1)).bind fun n68 =>
 (N FT.2 [(.int .i64 n68)] 1).bind fun KA =>
 (au Tryz.prog n 60 [(.pointer (some b_0)),(.int .i64 (aU .i64 1 (cm .i64 (aR .i64 n1) 28))),(.int .i64 (fJ n4 n47)),(.slice (some ⟨KA.1,0,none⟩) 1 1),(.int .u64 0),(.int .i64 0)] KA.2).bind fun JM =>
 (gI .i64 (some JM.1)).bind fun n71 =>
 some (aj h JM.2 (.tuple #[])))
 ((gI .u8 (rdC p46.2 (Addr.add ⟨p0.1,0,none⟩ 2) 0)).bind fun n72 =>
 (au Tryz.prog n 35 [(.pointer (some b_0)),(.int .i64 (fJ n4 n47)),(.int .u8 n72)] p46.2).bind fun LT =>
 (gI .i64 (some LT.1)).bind fun n74 =>
 (N LT.2 [(.int .i64 n74)] 1).bind fun p75 =>
 (au Tryz.prog n 60 [(.pointer (some b_0)),(.int .i64 (aU .i64 1 (cm .i64 (aR .i64 n1) 28))),(.int .i64 (gb n4 n47)),(.slice (some ⟨p75.1,0,none⟩) 1 1),(.int .u64 0),(.int .i64 0)] p75.2).bind fun p76 =>
 (gI .i64 (some p76.1)).bind fun n77 =>
 some (aj h p76.2 (.tuple #[])))))
 (cond (aY (aU .i64 1 (cm .i64 (aR .i64 n1) 28)) 25)
 ((gI .u8 (rdC p3.2 (Addr.add ⟨p0.1,0,none⟩ 4) 0)).bind fun n78 =>
 (gI .u8 (rdC p3.2 (Addr.add ⟨p0.1,0,none⟩ 2) 0)).bind fun n79 =>
 (au Tryz.prog n 35 [(.pointer (some b_0)),(.int .i64 8),(.int .u8 n79)] p3.2).bind fun p80 =>
 (gI .i64 (some p80.1)).bind fun n81 =>
 (gL (rdC p80.2 (Addr.add (Addr.add b_0 0) 2) 0)).bind fun p82 =>
 (p82.1).bind fun a83 =>
 cond (bO (cm .i64 (aR .i64 n78) 2) p82.2.1)
 ((gI .i64 (rdC p80.2 (Addr.add (Addr.add a83 ((Int.toNat (cm .i64 (aR .i64 n78) 2)) * 5)) 1) 0)).bind fun n84 =>
 (gI .u8 (rdC p80.2 (Addr.add ⟨p0.1,0,none⟩ 3) 0)).bind fun n85 =>
 (au Tryz.prog n 35 [(.pointer (some b_0)),(.int .i64 1),(.int .u8 n85)] (setLow p80.2 p80.2.next)).bind fun p86 =>
 (gI .i64 (some p86.1)).bind fun n87 =>
 cond (Nat.beq p86.2.low p80.2.next)
 ((N (setLow p86.2 p80.2.low) [(.int .i64 n81),(.int .i64 n87)] 1).bind fun p88 =>
 (au Tryz.prog n 60 [(.pointer (some b_0)),(.int .i64 (aU .i64 1 (cm .i64 (aR .i64 n1) 28))),(.int .i64 n84),(.slice (some ⟨p88.1,0,none⟩) 2 2),(.int .u64 0),(.int .i64 (cm .i64 (aR .i64 n78) 2))] p88.2).bind fun p89 =>
 (gI .i64 (some p89.1)).bind fun n90 =>
 some (aj h p89.2 (.tuple #[])))
 ((gL (rdC p80.2 (Addr.add (Addr.add b_0 0) 2) 0)).bind fun He =>
 (He.1).bind fun a92 =>
 cond (bO (cm .i64 (aR .i64 n78) 2) He.2.1)
 ((gI .i64 (rdC p80.2 (Addr.add (Addr.add a92 ((Int.toNat (cm .i64 (aR .i64 n78) 2)) * 5)) 1) 0)).bind fun n93 =>
 (gI .u8 (rdC p80.2 (Addr.add ⟨p0.1,0,none⟩ 3) 0)).bind fun n94 =>
 (au Tryz.prog n 35 [(.pointer (some b_0)),(.int .i64 1),(.int .u8 n94)] p80.2).bind fun EJ =>
 (gI .i64 (some EJ.1)).bind fun n96 =>
 (N EJ.2 [(.int .i64 n81),(.int .i64 n96)] 1).bind fun p97 =>
 (au Tryz.prog n 60 [(.pointer (some b_0)),(.int .i64 (aU .i64 1 (cm .i64 (aR .i64 n1) 28))),(.int .i64 n93),(.slice (some ⟨p97.1,0,none⟩) 2 2),(.int .u64 0),(.int .i64 (cm .i64 (aR .i64 n78) 2))] p97.2).bind fun p98 =>
 (gI .i64 (some p98.1)).bind fun n99 =>
 cond (Bool.and (Bool.and (cG p80.2 EJ.2 (Addr.add (Addr.add b_0 0) 2) 1) (Bool.and (cG p80.2 p97.2 (Addr.add (Addr.add b_0 0) 2) 1) true)) (Bool.and (Bool.and (cG p80.2 EJ.2 (Addr.add (Addr.add a92 ((Int.toNat (cm .i64 (aR .i64 n78) 2)) * 5)) 1) 1) (Bool.and (cG p80.2 p97.2 (Addr.add (Addr.add a92 ((Int.toNat (cm .i64 (aR .i64 n78) 2)) * 5)) 1) 1) true)) true))
 (some (aj h p98.2 (.tuple #[])))
 (none))
 (none)))
 (none))
 (cond (aY (aU .i64 1 (cm .i64 (aR .i64 n1) 28)) 26)
 ((gI .u8 (rdC p3.2 (Addr.add ⟨p0.1,0,none⟩ 4) 0)).bind fun n100 =>
 (gI .u8 (rdC p3.2 (Addr.add ⟨p0.1,0,none⟩ 2) 0)).bind fun n101 =>
 (au Tryz.prog n 35 [(.pointer (some b_0)),(.int .i64 8),(.int .u8 n101)] p3.2).bind fun p102 =>
 (gI .i64 (some p102.1)).bind fun n103 =>
 (gL (rdC p102.2 (Addr.add (Addr.add b_0 0) 2) 0)).bind fun p104 =>
 (p104.1).bind fun a105 =>
 cond (bO (cm .i64 (aR .i64 n100) 2) p104.2.1)
 ((gI .i64 (rdC p102.2 (Addr.add (Addr.add a105 ((Int.toNat (cm .i64 (aR .i64 n100) 2)) * 5)) 1) 0)).bind fun n106 =>
 (gI .u8 (rdC p102.2 (Addr.add ⟨p0.1,0,none⟩ 3) 0)).bind fun n107 =>
 (au Tryz.prog n 35 [(.pointer (some b_0)),(.int .i64 n106),(.int .u8 n107)] p102.2).bind fun Df =>
 (gI .i64 (some Df.1)).bind fun n109 =>
 (gI .u8 (rdC Df.2 (Addr.add ⟨p0.1,0,none⟩ 4) 0)).bind fun n110 =>
 (au Tryz.prog n 35 [(.pointer (some b_0)),(.int .i64 1),(.int .u8 (pT .u8 n110 2))] Df.2).bind fun p111 =>
 (gI .i64 (some p111.1)).bind fun n112 =>
 (gL (rdC p111.2 (Addr.add b_0 7) 0)).bind fun p113 =>
 (N p111.2 [(.int .i64 n103),(.int .i64 n109),(.int .i64 n112)] 1).bind fun p114 =>
 (N p114.2 [(.int .i64 (aU .i64 1 (cm .i64 (aR .i64 n1) 28))),(.int .i64 (-1)),(.slice (some ⟨p114.1,0,none⟩) 3 3),(.int .u64 0),(.int .i64 (cm .i64 (aR .i64 n100) 2))] 5).bind fun p115 =>
 (dg 5 56 (.slice p113.1 p113.2.1 p113.2.2) (.slice (some ⟨p115.1,0,none⟩) 1 1) p115.2).bind fun p116 =>
 (di p116.2 (Addr.add b_0 7) [(.slice p116.1.1 p116.1.2.1 p116.1.2.2)]).bind fun x117 =>
 some (aj h x117 (.tuple #[])))
 (none))
 (cond (aY (aU .i64 1 (cm .i64 (aR .i64 n1) 28)) 27)
 ((gI .u8 (rdC p3.2 (Addr.add ⟨p0.1,0,none⟩ 2) 0)).bind fun n118 =>
 (au Tryz.prog n 35 [(.pointer (some b_0)),(.int .i64 1),(.int .u8 n118)] p3.2).bind fun p119 =>
 (gI .i64 (some p119.1)).bind fun n120 =>
 (N p119.2 [(.int .i64 n120)] 1).bind fun p121 =>
 (au Tryz.prog n 60 [(.pointer (some b_0)),(.int .i64 (aU .i64 1 (cm .i64 (aR .i64 n1) 28))),(.int .i64 8),(.slice (some ⟨p121.1,0,none⟩) 1 1),(.int .u64 0),(.int .i64 0)] p121.2).bind fun p122 =>
 (gI .i64 (some p122.1)).bind fun n123 =>
 some (aj h p122.2 (.tuple #[])))
 ((gI .u8 (rdC p3.2 (Addr.add ⟨p0.1,0,none⟩ 2) 0)).bind fun n124 =>
 (au Tryz.prog n 35 [(.pointer (some b_0)),(.int .i64 8),(.int .u8 n124)] p3.2).bind fun p125 =>
 (gI .i64 (some p125.1)).bind fun n126 =>
 (gI .u8 (rdC p125.2 (Addr.add ⟨p0.1,0,none⟩ 3) 0)).bind fun n127 =>
 (au Tryz.prog n 35 [(.pointer (some b_0)),(.int .i64 1),(.int .u8 n127)] p125.2).bind fun p128 =>
 (gI .i64 (some p128.1)).bind fun n129 =>
 (gL (rdC p128.2 (Addr.add b_0 7) 0)).bind fun p130 =>
 (N p128.2 [(.int .i64 n126),(.int .i64 n129)] 1).bind fun p131 =>
 (N p131.2 [(.int .i64 (aU .i64 1 (cm .i64 (aR .i64 n1) 28))),(.int .i64 (-1)),(.slice (some ⟨p131.1,0,none⟩) 2 2),(.int .u64 0),(.int .i64 1)] 5).bind fun p132 =>
 (dg 5 56 (.slice p130.1 p130.2.1 p130.2.2) (.slice (some ⟨p132.1,0,none⟩) 1 1) p132.2).bind fun p133 =>
 (di p133.2 (Addr.add b_0 7) [(.slice p133.1.1 p133.1.2.1 p133.1.2.2)]).bind fun x134 =>
 some (aj h x134 (.tuple #[])))))))))):=by kernel_rfl
def p64 : List (List Nat × List Nat):=[([0,1,0,1,1],[0,1,2,7,8]),([0,1,0,1,1,1],[0,1,2]),([1,1,1,1],[2,7])]
section
variable (N : aB) (n m0 : Nat) (h0 : AH) (b_0 : Addr) (w_1 n_2 : Int) (l_7 : Option Addr) (l_7n l_7c : Nat) (i_8 : Int) (h : AH)
 noncomputable def tI : Option (Go.Value × AH):=aC Tryz.prog n Tryz.f35 h0 (.head (av (ae Tryz.f35) [1,1,0,1,0,0]) [0,1,0,1,1] m0) [.block 0,.seq (av (ae Tryz.f35) [1,1,1]) [1,1,1]] (E [(0,.pointer (some b_0)),(1,.int .i64 w_1),(2,.int .u8 n_2),(7,.slice l_7 l_7n l_7c),(8,.int .i64 i_8)]) h
 noncomputable def qk : Option (Go.Value × AH):=bH Tryz.prog (au Tryz.prog n) n Tryz.f35 h0 p64 N (aC Tryz.prog n Tryz.f35 h0) (av (ae Tryz.f35) [1,1,0,1,0,0]) [0,1,0,1,1] m0 [.block 0,.seq (av (ae Tryz.f35) [1,1,1]) [1,1,1]] (E [(0,.pointer (some b_0)),(1,.int .i64 w_1),(2,.int .u8 n_2),(7,.slice l_7 l_7n l_7c),(8,.int .i64 i_8)]) h
variable {n m0} {h0} {b_0 w_1 n_2 l_7 l_7n l_7c i_8} {h}
theorem tJ {r : Go.Value × AH} (hv : qk aD n m0 h0 b_0 w_1 n_2 l_7 l_7n l_7c i_8 h = some r) : tI n (m0 + 1) h0 b_0 w_1 n_2 l_7 l_7n l_7c i_8 h = some r:=aO hv
end
section
variable (N : aB) (n : Nat) (h0 : AH) (b_0 : Addr) (w_1 n_2 : Int) (h : AH)
 noncomputable def xh : Option (Go.Value × AH):=aC Tryz.prog n Tryz.f35 h0 (.code (av (ae Tryz.f35) [1,1,1,0,1,0]) [0,1,0,1,1,1]) [.seq (av (ae Tryz.f35) [1,1,1,1]) [1,1,1,1]] (E [(0,.pointer (some b_0)),(1,.int .i64 w_1),(2,.int .u8 n_2)]) h
 noncomputable def Dw : Option (Go.Value × AH):=bw Tryz.prog (au Tryz.prog n) n Tryz.f35 h0 p64 N (aC Tryz.prog n Tryz.f35 h0) (av (ae Tryz.f35) [1,1,1,0,1,0]) [0,1,0,1,1,1] [.seq (av (ae Tryz.f35) [1,1,1,1]) [1,1,1,1]] (E [(0,.pointer (some b_0)),(1,.int .i64 w_1),(2,.int .u8 n_2)]) h
variable {n} {h0} {b_0 w_1 n_2} {h}
theorem Dy {r : Go.Value × AH} (hv : Dw aD n h0 b_0 w_1 n_2 h = some r) : xh n h0 b_0 w_1 n_2 h = some r:=aN hv
end
section
variable (N : aB) (n : Nat) (h0 : AH) (n_2 : Int) (l_7 : Option Addr) (l_7n l_7c : Nat) (h : AH)
 noncomputable def Dz : Option (Go.Value × AH):=aC Tryz.prog n Tryz.f35 h0 (.code (av (ae Tryz.f35) [1,1,1,1]) [1,1,1,1]) [] (E [(2,.int .u8 n_2),(7,.slice l_7 l_7n l_7c)]) h
 noncomputable def DA : Option (Go.Value × AH):=bw Tryz.prog (au Tryz.prog n) n Tryz.f35 h0 p64 N (aC Tryz.prog n Tryz.f35 h0) (av (ae Tryz.f35) [1,1,1,1]) [1,1,1,1] [] (E [(2,.int .u8 n_2),(7,.slice l_7 l_7n l_7c)]) h
variable {n} {h0} {n_2 l_7 l_7n l_7c} {h}
theorem DB {r : Go.Value × AH} (hv : DA aD n h0 n_2 l_7 l_7n l_7c h = some r) : Dz n h0 n_2 l_7 l_7n l_7c h = some r:=aN hv
end
 noncomputable def KV (N : aB) (n : Nat) (b_0 : Addr) (w_1 n_2 : Int) (h : AH) : Option (Go.Value × AH):=bQ Tryz.prog (au Tryz.prog n) n p64 N (aC Tryz.prog n) 35 [(.pointer (some b_0)),(.int .i64 w_1),(.int .u8 n_2)] h
theorem IY {n : Nat} {b_0 : Addr} {w_1 n_2 : Int} {h : AH} {r : Go.Value × AH} (hv : KV aD n b_0 w_1 n_2 h = some r) : au Tryz.prog (n + 1) 35 [(.pointer (some b_0)),(.int .i64 w_1),(.int .u8 n_2)] h = some r:=aL hv
theorem Om (N : aB) (n : Nat) (b_0 : Addr) (w_1 n_2 : Int) (h : AH) : KV N n b_0 w_1 n_2 h =
 (gL (rdC (setLow h h.next) (Addr.add b_0 6) 0)).bind fun p0 =>
 tI n n h b_0 w_1 n_2 none 0 0 (fy .i64 (Int.ofNat p0.2.1) 1) (setLow h h.next):=by kernel_rfl
theorem tK (N : aB) (n m0 : Nat) (h0 : AH) (b_0 : Addr) (w_1 n_2 : Int) (l_7 : Option Addr) (l_7n l_7c : Nat) (i_8 : Int) (h : AH) : qk N n m0 h0 b_0 w_1 n_2 l_7 l_7n l_7c i_8 h =
 cond (bV 0 i_8)
 ((gL (rdC h (Addr.add (Addr.add b_0 0) 1) 0)).bind fun p0 =>
 (gL (rdC h (Addr.add b_0 6) 0)).bind fun p1 =>
 (p1.1).bind fun a2 =>
 cond (bO i_8 p1.2.1)
 ((gI .i64 (rdC h (Addr.add a2 ((Int.toNat i_8) * 1)) 0)).bind fun n3 =>
 (p0.1).bind fun a4 =>
 cond (bO n3 p0.2.1)
 ((gI .i64 (rdC h (Addr.add a4 ((Int.toNat n3) * 1)) 0)).bind fun n5 =>
 cond (aY n5 w_1)
 ((gL (rdC h (Addr.add b_0 6) 0)).bind fun p6 =>
 (p6.1).bind fun a7 =>
 cond (bO i_8 p6.2.1)
 ((gI .i64 (rdC h (Addr.add a7 ((Int.toNat i_8) * 1)) 0)).bind fun n8 =>
 (N h [(.int .i64 n8)] 1).bind fun p9 =>
 (dg 1 8 (.slice l_7 l_7n l_7c) (.slice (some ⟨p9.1,0,none⟩) 1 1) p9.2).bind fun p10 =>
 tI n m0 h0 b_0 w_1 n_2 p10.1.1 p10.1.2.1 p10.1.2.2 (fy .i64 i_8 1) p10.2)
 (none))
 (tI n m0 h0 b_0 w_1 n_2 l_7 l_7n l_7c (fy .i64 i_8 1) h))
 (none))
 (none))
 (cond (aY (Int.ofNat l_7n) 0)
 (xh n h0 b_0 w_1 n_2 h)
 (cond (bV 250 n_2)
 (xh n h0 b_0 w_1 n_2 h)
 (Dz n h0 n_2 l_7 l_7n l_7c h))):=by kernel_rfl
theorem DC (N : aB) (n  : Nat) (h0 : AH) (b_0 : Addr) (w_1 n_2 : Int) (h : AH) : Dw N n  h0 b_0 w_1 n_2 h =
 (au Tryz.prog n 29 [(.int .i64 w_1)] h).bind fun p0 =>
 (gI .u64 (some p0.1)).bind fun n1 =>
 (au Tryz.prog n 60 [(.pointer (some b_0)),(.int .i64 1),(.int .i64 w_1),(.slice none 0 0),(.int .u64 (pU .u64 (aR .u64 n_2) n1)),(.int .i64 0)] p0.2).bind fun p2 =>
 (gI .i64 (some p2.1)).bind fun n3 =>
 some (aj h0 p2.2 (.int .i64 n3)):=by kernel_rfl
theorem DD (N : aB) (n  : Nat) (h0 : AH) (n_2 : Int) (l_7 : Option Addr) (l_7n l_7c : Nat) (h : AH) : DA N n  h0 n_2 l_7 l_7n l_7c h =
 cond (aY (Int.ofNat l_7n) 0)
 (none)
 ((l_7).bind fun a0 =>
 cond (bO (cm .i64 (aR .i64 n_2) (Int.ofNat l_7n)) l_7n)
 ((gI .i64 (rdC h (Addr.add a0 ((Int.toNat (cm .i64 (aR .i64 n_2) (Int.ofNat l_7n))) * 1)) 0)).bind fun n1 =>
 some (aj h0 h (.int .i64 n1)))
 (none)):=by kernel_rfl
def IZ : List (List Nat × List Nat):=[([1,1,1],[0,3,5,8,9]),([0,1,0,1,1,1,1],[0,3,5,8,9,10,11]),([9],[])]
section
variable (N : aB) (n : Nat) (h0 : AH) (b_0 : Addr) (n_3 : Int) (p_5 t_8 : Addr) (k_9 : Int) (h : AH)
 noncomputable def xi : Option (Go.Value × AH):=aC Tryz.prog n Tryz.f36 h0 (.code (av (ae Tryz.f36) [1,1,1]) [1,1,1]) [] (E [(0,.pointer (some b_0)),(3,.int .u8 n_3),(5,.pointer (some p_5)),(8,.pointer (some t_8)),(9,.int .i64 k_9)]) h
 noncomputable def DE : Option (Go.Value × AH):=bw Tryz.prog (au Tryz.prog n) n Tryz.f36 h0 IZ N (aC Tryz.prog n Tryz.f36 h0) (av (ae Tryz.f36) [1,1,1]) [1,1,1] [] (E [(0,.pointer (some b_0)),(3,.int .u8 n_3),(5,.pointer (some p_5)),(8,.pointer (some t_8)),(9,.int .i64 k_9)]) h
variable {n} {h0} {b_0 n_3 p_5 t_8 k_9} {h}
theorem DF {r : Go.Value × AH} (hv : DE aD n h0 b_0 n_3 p_5 t_8 k_9 h = some r) : xi n h0 b_0 n_3 p_5 t_8 k_9 h = some r:=aN hv
end
section
variable (N : aB) (n m0 : Nat) (h0 : AH) (b_0 : Addr) (n_3 : Int) (p_5 t_8 : Addr) (k_9 : Int) (e_10 : Addr) (i_11 : Int) (h : AH)
 noncomputable def nM : Option (Go.Value × AH):=aC Tryz.prog n Tryz.f36 h0 (.head (av (ae Tryz.f36) [1,1,1,1,0,1,0,0]) [0,1,0,1,1,1,1] m0) [.block 0,.seq (av (ae Tryz.f36) [1,1,1,1,1]) [1,1,1,1,1]] (E [(0,.pointer (some b_0)),(3,.int .u8 n_3),(5,.pointer (some p_5)),(8,.pointer (some t_8)),(9,.int .i64 k_9),(10,.pointer (some e_10)),(11,.int .i64 i_11)]) h
 noncomputable def DG : Option (Go.Value × AH):=bH Tryz.prog (au Tryz.prog n) n Tryz.f36 h0 IZ N (aC Tryz.prog n Tryz.f36 h0) (av (ae Tryz.f36) [1,1,1,1,0,1,0,0]) [0,1,0,1,1,1,1] m0 [.block 0,.seq (av (ae Tryz.f36) [1,1,1,1,1]) [1,1,1,1,1]] (E [(0,.pointer (some b_0)),(3,.int .u8 n_3),(5,.pointer (some p_5)),(8,.pointer (some t_8)),(9,.int .i64 k_9),(10,.pointer (some e_10)),(11,.int .i64 i_11)]) h
variable {n m0} {h0} {b_0 n_3 p_5 t_8 k_9 e_10 i_11} {h}
theorem tL {r : Go.Value × AH} (hv : DG aD n m0 h0 b_0 n_3 p_5 t_8 k_9 e_10 i_11 h = some r) : nM n (m0 + 1) h0 b_0 n_3 p_5 t_8 k_9 e_10 i_11 h = some r:=aO hv
end
 noncomputable def KW (N : aB) (n : Nat) (b_0 : Addr) (p_1a : Option Addr) (p_1an p_1ac : Nat) (p_1b : Option Addr) (p_1bn p_1bc : Nat) (to_2 n_3 : Int) (h : AH) : Option (Go.Value × AH):=bQ Tryz.prog (au Tryz.prog n) n IZ N (aC Tryz.prog n) 36 [(.pointer (some b_0)),(.agg #[(.slice p_1a p_1an p_1ac),(.slice p_1b p_1bn p_1bc)]),(.int .u8 to_2),(.int .u8 n_3)] h
theorem I0 {n : Nat} {b_0 : Addr} {p_1a : Option Addr} {p_1an p_1ac : Nat} {p_1b : Option Addr} {p_1bn p_1bc : Nat} {to_2 n_3 : Int} {h : AH} {r : Go.Value × AH} (hv : KW aD n b_0 p_1a p_1an p_1ac p_1b p_1bn p_1bc to_2 n_3 h = some r) : au Tryz.prog (n + 1) 36 [(.pointer (some b_0)),(.agg #[(.slice p_1a p_1an p_1ac),(.slice p_1b p_1bn p_1bc)]),(.int .u8 to_2),(.int .u8 n_3)] h = some r:=aL hv
theorem On (N : aB) (n : Nat) (b_0 : Addr) (p_1a : Option Addr) (p_1an p_1ac : Nat) (p_1b : Option Addr) (p_1bn p_1bc : Nat) (to_2 n_3 : Int) (h : AH) : KW N n b_0 p_1a p_1an p_1ac p_1b p_1bn p_1bc to_2 n_3 h =
 (N (setLow h h.next) [(.slice p_1a p_1an p_1ac),(.slice p_1b p_1bn p_1bc)] 0).bind fun p0 =>
 (N p0.2 [(.int .i64 0),(.slice none 0 0)] 0).bind fun p1 =>
 (gL (rdC p1.2 (Addr.add ⟨p0.1,0,none⟩ 0) 0)).bind fun p2 =>
 cond (cj 1 (Int.ofNat p2.2.1))
 ((gL (rdC p1.2 (Addr.add ⟨p0.1,0,none⟩ 0) 0)).bind fun p3 =>
 cond (aY (fy .i64 (Int.ofNat p3.2.1) 1) 0)
 (none)
 (xi n h b_0 n_3 ⟨p0.1,0,none⟩ ⟨p1.1,0,none⟩ (aU .i64 1 (cm .i64 (aR .i64 to_2) (fy .i64 (Int.ofNat p3.2.1) 1))) p1.2))
 (xi n h b_0 n_3 ⟨p0.1,0,none⟩ ⟨p1.1,0,none⟩ 0 p1.2):=by kernel_rfl
theorem DH (N : aB) (n  : Nat) (h0 : AH) (b_0 : Addr) (n_3 : Int) (p_5 t_8 : Addr) (k_9 : Int) (h : AH) : DE N n  h0 b_0 n_3 p_5 t_8 k_9 h =
 (N h [(.int .i64 0),(.slice none 0 0)] 0).bind fun p0 =>
 (di p0.2 ⟨p0.1,0,none⟩ [(.int .i64 k_9),(.slice none 0 0)]).bind fun x1 =>
 nM n n h0 b_0 n_3 p_5 t_8 k_9 ⟨p0.1,0,none⟩ 0 x1:=by kernel_rfl
theorem tM (N : aB) (n m0 : Nat) (h0 : AH) (b_0 : Addr) (n_3 : Int) (p_5 t_8 : Addr) (k_9 : Int) (e_10 : Addr) (i_11 : Int) (h : AH) : DG N n m0 h0 b_0 n_3 p_5 t_8 k_9 e_10 i_11 h =
 (gL (rdC h (Addr.add p_5 0) 0)).bind fun p0 =>
 (p0.1).bind fun a1 =>
 cond (bO k_9 p0.2.1)
 ((gL (rdC h (Addr.add (Addr.add a1 ((Int.toNat k_9) * 9)) 0) 0)).bind fun p2 =>
 cond (cj i_11 (Int.ofNat p2.2.1))
 ((gL (rdC h (Addr.add e_10 1) 0)).bind fun p3 =>
 (gL (rdC h (Addr.add p_5 0) 0)).bind fun p4 =>
 (p4.1).bind fun a5 =>
 cond (bO k_9 p4.2.1)
 ((gL (rdC h (Addr.add (Addr.add a5 ((Int.toNat k_9) * 9)) 0) 0)).bind fun p6 =>
 (p6.1).bind fun a7 =>
 cond (bO i_11 p6.2.1)
 ((gI .u8 (rdC h (Addr.add a7 ((Int.toNat i_11) * 1)) 0)).bind fun n8 =>
 (au Tryz.prog n 32 [(.int .u8 n8)] (setLow h h.next)).bind fun p9 =>
 (gI .i64 (some p9.1)).bind fun n10 =>
 cond (Nat.beq p9.2.low h.next)
 ((au Tryz.prog n 35 [(.pointer (some b_0)),(.int .i64 n10),(.int .u8 (aU .u8 n_3 (aR .u8 i_11)))] (setLow (setLow p9.2 h.low) (setLow p9.2 h.low).next)).bind fun p11 =>
 (gI .i64 (some p11.1)).bind fun n12 =>
 cond (Nat.beq p11.2.low (setLow p9.2 h.low).next)
 ((N (setLow p11.2 (setLow p9.2 h.low).low) [(.int .i64 n12)] 1).bind fun p13 =>
 (dg 1 8 (.slice p3.1 p3.2.1 p3.2.2) (.slice (some ⟨p13.1,0,none⟩) 1 1) p13.2).bind fun p14 =>
 (di p14.2 (Addr.add e_10 1) [(.slice p14.1.1 p14.1.2.1 p14.1.2.2)]).bind fun x15 =>
 nM n m0 h0 b_0 n_3 p_5 t_8 k_9 e_10 (aU .i64 i_11 1) x15)
 ((gL (rdC h (Addr.add e_10 1) 0)).bind fun p16 =>
 (gL (rdC h (Addr.add p_5 0) 0)).bind fun p17 =>
 (p17.1).bind fun a18 =>
 cond (bO k_9 p17.2.1)
 ((gL (rdC h (Addr.add (Addr.add a18 ((Int.toNat k_9) * 9)) 0) 0)).bind fun gc =>
 (gc.1).bind fun a20 =>
 cond (bO i_11 gc.2.1)
 ((gI .u8 (rdC h (Addr.add a20 ((Int.toNat i_11) * 1)) 0)).bind fun n21 =>
 (au Tryz.prog n 32 [(.int .u8 n21)] h).bind fun fL =>
 (gI .i64 (some fL.1)).bind fun n23 =>
 (au Tryz.prog n 35 [(.pointer (some b_0)),(.int .i64 n23),(.int .u8 (aU .u8 n_3 (aR .u8 i_11)))] fL.2).bind fun ip =>
 (gI .i64 (some ip.1)).bind fun n25 =>
 (N ip.2 [(.int .i64 n25)] 1).bind fun p26 =>
 (dg 1 8 (.slice p16.1 p16.2.1 p16.2.2) (.slice (some ⟨p26.1,0,none⟩) 1 1) p26.2).bind fun p27 =>
 (di p27.2 (Addr.add e_10 1) [(.slice p27.1.1 p27.1.2.1 p27.1.2.2)]).bind fun x28 =>
 cond (Bool.and (Bool.and (cG h fL.2 (Addr.add e_10 1) 1) (Bool.and (cG h ip.2 (Addr.add e_10 1) 1) (Bool.and (cG h p26.2 (Addr.add e_10 1) 1) true))) true)
 (nM n m0 h0 b_0 n_3 p_5 t_8 k_9 e_10 (aU .i64 i_11 1) x28)
 (none))
 (none))
 (none)))
 ((gL (rdC h (Addr.add e_10 1) 0)).bind fun j8 =>
 (gL (rdC h (Addr.add p_5 0) 0)).bind fun p30 =>
 (p30.1).bind fun a31 =>
 cond (bO k_9 p30.2.1)
 ((gL (rdC h (Addr.add (Addr.add a31 ((Int.toNat k_9) * 9)) 0) 0)).bind fun p32 =>
 (p32.1).bind fun a33 =>
 cond (bO i_11 p32.2.1)
 ((gI .u8 (rdC h (Addr.add a33 ((Int.toNat i_11) * 1)) 0)).bind fun n34 =>
 (au Tryz.prog n 32 [(.int .u8 n34)] h).bind fun FQ =>
 (gI .i64 (some FQ.1)).bind fun n36 =>
 (au Tryz.prog n 35 [(.pointer (some b_0)),(.int .i64 n36),(.int .u8 (aU .u8 n_3 (aR .u8 i_11)))] FQ.2).bind fun nI =>
 (gI .i64 (some nI.1)).bind fun n38 =>
 (N nI.2 [(.int .i64 n38)] 1).bind fun p39 =>
 (dg 1 8 (.slice j8.1 j8.2.1 j8.2.2) (.slice (some ⟨p39.1,0,none⟩) 1 1) p39.2).bind fun p40 =>
 (di p40.2 (Addr.add e_10 1) [(.slice p40.1.1 p40.1.2.1 p40.1.2.2)]).bind fun x41 =>
 cond (Bool.and (Bool.and (cG h FQ.2 (Addr.add e_10 1) 1) (Bool.and (cG h nI.2 (Addr.add e_10 1) 1) (Bool.and (cG h p39.2 (Addr.add e_10 1) 1) true))) true)
 (nM n m0 h0 b_0 n_3 p_5 t_8 k_9 e_10 (aU .i64 i_11 1) x41)
 (none))
 (none))
 (none)))
 (none))
 (none))
 ((gI .i64 (rdC h e_10 0)).bind fun n42 =>
 (gL (rdC h e_10 1)).bind fun p43 =>
 (di h t_8 [(.int .i64 n42),(.slice p43.1 p43.2.1 p43.2.2)]).bind fun x44 =>
 (gI .i64 (rdC x44 t_8 0)).bind fun n45 =>
 (gL (rdC x44 t_8 1)).bind fun p46 =>
 some (aj h0 x44 (.agg #[(.int .i64 n45),(.slice p46.1 p46.2.1 p46.2.2)]))))
 (none):=by kernel_rfl
def Nc : List (List Nat × List Nat):=[([0,1,0,1,1],[0,3,4])]
section
variable (N : aB) (n m0 : Nat) (h0 : AH) (w_0 m_3 i_4 : Int) (h : AH)
 noncomputable def xj : Option (Go.Value × AH):=aC Tryz.prog n Tryz.f29 h0 (.head (av (ae Tryz.f29) [1,1,0,1,0,0]) [0,1,0,1,1] m0) [.block 0,.seq (av (ae Tryz.f29) [1,1,1]) [1,1,1]] (E [(0,.int .i64 w_0),(3,.int .u64 m_3),(4,.int .i64 i_4)]) h
 noncomputable def DI : Option (Go.Value × AH):=bH Tryz.prog (au Tryz.prog n) n Tryz.f29 h0 Nc N (aC Tryz.prog n Tryz.f29 h0) (av (ae Tryz.f29) [1,1,0,1,0,0]) [0,1,0,1,1] m0 [.block 0,.seq (av (ae Tryz.f29) [1,1,1]) [1,1,1]] (E [(0,.int .i64 w_0),(3,.int .u64 m_3),(4,.int .i64 i_4)]) h
variable {n m0} {h0} {w_0 m_3 i_4} {h}
theorem tN {r : Go.Value × AH} (hv : DI aD n m0 h0 w_0 m_3 i_4 h = some r) : xj n (m0 + 1) h0 w_0 m_3 i_4 h = some r:=aO hv
end
 noncomputable def KX (N : aB) (n : Nat) (w_0 : Int) (h : AH) : Option (Go.Value × AH):=bQ Tryz.prog (au Tryz.prog n) n Nc N (aC Tryz.prog n) 29 [(.int .i64 w_0)] h
theorem I1 {n : Nat} {w_0 : Int} {h : AH} {r : Go.Value × AH} (hv : KX aD n w_0 h = some r) : au Tryz.prog (n + 1) 29 [(.int .i64 w_0)] h = some r:=aL hv
theorem Oo (N : aB) (n : Nat) (w_0 : Int) (h : AH) : KX N n w_0 h =
 xj n n h w_0 0 0 (setLow h h.next):=by kernel_rfl
theorem tO (N : aB) (n m0 : Nat) (h0 : AH) (w_0 m_3 i_4 : Int) (h : AH) : DI N n m0 h0 w_0 m_3 i_4 h =
 cond (cj i_4 w_0)
 (xj n m0 h0 w_0 (aU .u64 (zU .u64 m_3 2) 1) (aU .i64 i_4 1) h)
 (some (aj h0 h (.int .u64 m_3))):=by kernel_rfl
def p89 : List (List Nat × List Nat):=[]
 noncomputable def KY (N : aB) (n : Nat) (b_0 : Addr) (op_1 w_2 : Int) (args_3 : Option Addr) (args_3n args_3c : Nat) (num_4 mem_5 : Int) (h : AH) : Option (Go.Value × AH):=bQ Tryz.prog (au Tryz.prog n) n p89 N (aC Tryz.prog n) 60 [(.pointer (some b_0)),(.int .i64 op_1),(.int .i64 w_2),(.slice args_3 args_3n args_3c),(.int .u64 num_4),(.int .i64 mem_5)] h
theorem I2 {n : Nat} {b_0 : Addr} {op_1 w_2 : Int} {args_3 : Option Addr} {args_3n args_3c : Nat} {num_4 mem_5 : Int} {h : AH} {r : Go.Value × AH} (hv : KY aD n b_0 op_1 w_2 args_3 args_3n args_3c num_4 mem_5 h = some r) : au Tryz.prog (n + 1) 60 [(.pointer (some b_0)),(.int .i64 op_1),(.int .i64 w_2),(.slice args_3 args_3n args_3c),(.int .u64 num_4),(.int .i64 mem_5)] h = some r:=aL hv
theorem Oq (N : aB) (n : Nat) (b_0 : Addr) (op_1 w_2 : Int) (args_3 : Option Addr) (args_3n args_3c : Nat) (num_4 mem_5 : Int) (h : AH) : KY N n b_0 op_1 w_2 args_3 args_3n args_3c num_4 mem_5 h =
 (au Tryz.prog n 33 [(.pointer (some b_0)),(.int .i64 w_2)] (setLow h h.next)).bind fun p0 =>
 (gI .i64 (some p0.1)).bind fun n1 =>
 (gL (rdC p0.2 (Addr.add b_0 7) 0)).bind fun p2 =>
 (N p0.2 [(.int .i64 op_1),(.int .i64 n1),(.slice args_3 args_3n args_3c),(.int .u64 num_4),(.int .i64 mem_5)] 5).bind fun p3 =>
 (dg 5 56 (.slice p2.1 p2.2.1 p2.2.2) (.slice (some ⟨p3.1,0,none⟩) 1 1) p3.2).bind fun p4 =>
 (di p4.2 (Addr.add b_0 7) [(.slice p4.1.1 p4.1.2.1 p4.1.2.2)]).bind fun x5 =>
 (gL (rdC x5 (Addr.add b_0 6) 0)).bind fun p6 =>
 (N x5 [(.int .i64 n1)] 1).bind fun p7 =>
 (dg 1 8 (.slice p6.1 p6.2.1 p6.2.2) (.slice (some ⟨p7.1,0,none⟩) 1 1) p7.2).bind fun p8 =>
 (di p8.2 (Addr.add b_0 6) [(.slice p8.1.1 p8.1.2.1 p8.1.2.2)]).bind fun x9 =>
 some (aj h x9 (.int .i64 n1)):=by kernel_rfl
def p9 : List (List Nat × List Nat):=[]
 noncomputable def Nd (N : aB) (n : Nat) (p_0a : Option Addr) (p_0an p_0ac : Nat) (p_0b : Option Addr) (p_0bn p_0bc : Nat) (h : AH) : Option (Go.Value × AH):=bQ Tryz.prog (au Tryz.prog n) n p9 N (aC Tryz.prog n) 5 [(.agg #[(.slice p_0a p_0an p_0ac),(.slice p_0b p_0bn p_0bc)])] h
theorem KZ {n : Nat} {p_0a : Option Addr} {p_0an p_0ac : Nat} {p_0b : Option Addr} {p_0bn p_0bc : Nat} {h : AH} {r : Go.Value × AH} (hv : Nd aD n p_0a p_0an p_0ac p_0b p_0bn p_0bc h = some r) : au Tryz.prog (n + 1) 5 [(.agg #[(.slice p_0a p_0an p_0ac),(.slice p_0b p_0bn p_0bc)])] h = some r:=aL hv
theorem t9 (N : aB) (n : Nat) (p_0a : Option Addr) (p_0an p_0ac : Nat) (p_0b : Option Addr) (p_0bn p_0bc : Nat) (h : AH) : Nd N n p_0a p_0an p_0ac p_0b p_0bn p_0bc h =
 (N (setLow h h.next) [(.slice p_0a p_0an p_0ac),(.slice p_0b p_0bn p_0bc)] 0).bind fun p0 =>
 (N p0.2 [(.string (ByteArray.mk (List.toArray []))),(.slice none 0 0),(.slice none 0 0),(.slice none 0 0),(.slice none 0 0),(.slice none 0 0)] 0).bind fun p1 =>
 (gL (rdC p1.2 ⟨p0.1,0,none⟩ 0)).bind fun p2 =>
 (gL (rdC p1.2 ⟨p0.1,0,none⟩ 1)).bind fun p3 =>
 (au Tryz.prog n 11 [(.agg #[(.slice p2.1 p2.2.1 p2.2.2),(.slice p3.1 p3.2.1 p3.2.2)])] p1.2).bind fun p4 =>
 (gB (some p4.1)).bind fun b5 =>
 cond (Bool.not b5)
 ((di p4.2 ⟨p1.1,0,none⟩ [(.string (ByteArray.mk (List.toArray []))),(.slice none 0 0),(.slice none 0 0),(.slice none 0 0),(.slice none 0 0),(.slice none 0 0)]).bind fun x6 =>
 (gS (rdC x6 ⟨p1.1,0,none⟩ 0)).bind fun x7 =>
 (gL (rdC x6 ⟨p1.1,0,none⟩ 1)).bind fun p8 =>
 (gL (rdC x6 ⟨p1.1,0,none⟩ 2)).bind fun p9 =>
 (gL (rdC x6 ⟨p1.1,0,none⟩ 3)).bind fun p10 =>
 (gL (rdC x6 ⟨p1.1,0,none⟩ 4)).bind fun p11 =>
 (gL (rdC x6 ⟨p1.1,0,none⟩ 5)).bind fun p12 =>
 some (aj h x6 (.tuple #[(.agg #[(.string x7),(.slice p8.1 p8.2.1 p8.2.2),(.slice p9.1 p9.2.1 p9.2.2),(.slice p10.1 p10.2.1 p10.2.2),(.slice p11.1 p11.2.1 p11.2.2),(.slice p12.1 p12.2.1 p12.2.2)]),(.bool false)])))
 ((gL (rdC p4.2 ⟨p0.1,0,none⟩ 0)).bind fun p13 =>
 (gL (rdC p4.2 ⟨p0.1,0,none⟩ 1)).bind fun p14 =>
 (au Tryz.prog n 12 [(.agg #[(.slice p13.1 p13.2.1 p13.2.2),(.slice p14.1 p14.2.1 p14.2.2)])] p4.2).bind fun p15 =>
 cond (f5 6 p15.1)
 ((gS (db 0 p15.1)).bind fun x16 =>
 (gL (db 1 p15.1)).bind fun p17 =>
 (gL (db 2 p15.1)).bind fun p18 =>
 (gL (db 3 p15.1)).bind fun gc =>
 (gL (db 4 p15.1)).bind fun kn =>
 (gL (db 5 p15.1)).bind fun gK =>
 (N p15.2 [(.string (ByteArray.mk (List.toArray []))),(.slice none 0 0),(.slice none 0 0),(.slice none 0 0),(.slice none 0 0),(.slice none 0 0)] 0).bind fun fL =>
 (di fL.2 ⟨fL.1,0,none⟩ [(.string x16),(.slice p17.1 p17.2.1 p17.2.2),(.slice p18.1 p18.2.1 p18.2.2),(.slice gc.1 gc.2.1 gc.2.2),(.slice kn.1 kn.2.1 kn.2.2),(.slice gK.1 gK.2.1 gK.2.2)]).bind fun x23 =>
 (gS (rdC x23 ⟨fL.1,0,none⟩ 0)).bind fun x24 =>
 (gL (rdC x23 ⟨fL.1,0,none⟩ 1)).bind fun jb =>
 (gL (rdC x23 ⟨fL.1,0,none⟩ 2)).bind fun p26 =>
 (gL (rdC x23 ⟨fL.1,0,none⟩ 3)).bind fun p27 =>
 (gL (rdC x23 ⟨fL.1,0,none⟩ 4)).bind fun p28 =>
 (gL (rdC x23 ⟨fL.1,0,none⟩ 5)).bind fun j8 =>
 (gS (rdC x23 ⟨fL.1,0,none⟩ 0)).bind fun x30 =>
 (gL (rdC x23 ⟨fL.1,0,none⟩ 1)).bind fun p31 =>
 (gL (rdC x23 ⟨fL.1,0,none⟩ 2)).bind fun p32 =>
 (gL (rdC x23 ⟨fL.1,0,none⟩ 3)).bind fun p33 =>
 (gL (rdC x23 ⟨fL.1,0,none⟩ 4)).bind fun t8 =>
 (gL (rdC x23 ⟨fL.1,0,none⟩ 5)).bind fun FQ =>
 (au Tryz.prog n 6 [(.agg #[(.string x30),(.slice p31.1 p31.2.1 p31.2.2),(.slice p32.1 p32.2.1 p32.2.2),(.slice p33.1 p33.2.1 p33.2.2),(.slice t8.1 t8.2.1 t8.2.2),(.slice FQ.1 FQ.2.1 FQ.2.2)])] (setLow x23 x23.next)).bind fun p36 =>
 (gB (some p36.1)).bind fun b37 =>
 cond (Nat.beq p36.2.low x23.next)
 ((di (setLow p36.2 x23.low) ⟨p1.1,0,none⟩ [(.string x24),(.slice jb.1 jb.2.1 jb.2.2),(.slice p26.1 p26.2.1 p26.2.2),(.slice p27.1 p27.2.1 p27.2.2),(.slice p28.1 p28.2.1 p28.2.2),(.slice j8.1 j8.2.1 j8.2.2)]).bind fun x38 =>
 (gS (rdC x38 ⟨p1.1,0,none⟩ 0)).bind fun x39 =>
 (gL (rdC x38 ⟨p1.1,0,none⟩ 1)).bind fun p40 =>
 (gL (rdC x38 ⟨p1.1,0,none⟩ 2)).bind fun p41 =>
 (gL (rdC x38 ⟨p1.1,0,none⟩ 3)).bind fun p42 =>
 (gL (rdC x38 ⟨p1.1,0,none⟩ 4)).bind fun p43 =>
 (gL (rdC x38 ⟨p1.1,0,none⟩ 5)).bind fun p44 =>
 some (aj h x38 (.tuple #[(.agg #[(.string x39),(.slice p40.1 p40.2.1 p40.2.2),(.slice p41.1 p41.2.1 p41.2.2),(.slice p42.1 p42.2.1 p42.2.2),(.slice p43.1 p43.2.1 p43.2.2),(.slice p44.1 p44.2.1 p44.2.2)]),(.bool b37)])))
 (none))
 (none)):=by kernel_rfl
def p10 : List (List Nat × List Nat):=[([1,1],[2,3]),([0,1,0,1,1],[2,3,58,59]),([0,1,0,1,1,1],[2,3,76,77]),([0,1,0,1,1,1,1],[2,3,94,95])]
section
variable (N : aB) (n : Nat) (h0 : AH) (a_2 b_3 : Addr) (h : AH)
 noncomputable def DJ : Option (Go.Value × AH):=aC Tryz.prog n Tryz.f8 h0 (.code (av (ae Tryz.f8) [1,1]) [1,1]) [] (E [(2,.pointer (some a_2)),(3,.pointer (some b_3))]) h
 noncomputable def DK : Option (Go.Value × AH):=bw Tryz.prog (au Tryz.prog n) n Tryz.f8 h0 p10 N (aC Tryz.prog n Tryz.f8 h0) (av (ae Tryz.f8) [1,1]) [1,1] [] (E [(2,.pointer (some a_2)),(3,.pointer (some b_3))]) h
variable {n} {h0} {a_2 b_3} {h}
theorem DL {r : Go.Value × AH} (hv : DK aD n h0 a_2 b_3 h = some r) : DJ n h0 a_2 b_3 h = some r:=aN hv
end
section
variable (N : aB) (n m0 : Nat) (h0 : AH) (a_2 b_3 : Addr) (t_58 t_59 : Int) (h : AH)
 noncomputable def DM : Option (Go.Value × AH):=aC Tryz.prog n Tryz.f8 h0 (.head (av (ae Tryz.f8) [1,1,0,1,0,0]) [0,1,0,1,1] m0) [.block 0,.seq (av (ae Tryz.f8) [1,1,1]) [1,1,1]] (E [(2,.pointer (some a_2)),(3,.pointer (some b_3)),(58,.int .i64 t_58),(59,.int .i64 t_59)]) h
 noncomputable def DN : Option (Go.Value × AH):=bH Tryz.prog (au Tryz.prog n) n Tryz.f8 h0 p10 N (aC Tryz.prog n Tryz.f8 h0) (av (ae Tryz.f8) [1,1,0,1,0,0]) [0,1,0,1,1] m0 [.block 0,.seq (av (ae Tryz.f8) [1,1,1]) [1,1,1]] (E [(2,.pointer (some a_2)),(3,.pointer (some b_3)),(58,.int .i64 t_58),(59,.int .i64 t_59)]) h
variable {n m0} {h0} {a_2 b_3 t_58 t_59} {h}
theorem DO {r : Go.Value × AH} (hv : DN aD n m0 h0 a_2 b_3 t_58 t_59 h = some r) : DM n (m0 + 1) h0 a_2 b_3 t_58 t_59 h = some r:=aO hv
end
section
variable (N : aB) (n m0 : Nat) (h0 : AH) (a_2 b_3 : Addr) (t_76 t_77 : Int) (h : AH)
 noncomputable def DP : Option (Go.Value × AH):=aC Tryz.prog n Tryz.f8 h0 (.head (av (ae Tryz.f8) [1,1,1,0,1,0,0]) [0,1,0,1,1,1] m0) [.block 2,.seq (av (ae Tryz.f8) [1,1,1,1]) [1,1,1,1]] (E [(2,.pointer (some a_2)),(3,.pointer (some b_3)),(76,.int .i64 t_76),(77,.int .i64 t_77)]) h
 noncomputable def DQ : Option (Go.Value × AH):=bH Tryz.prog (au Tryz.prog n) n Tryz.f8 h0 p10 N (aC Tryz.prog n Tryz.f8 h0) (av (ae Tryz.f8) [1,1,1,0,1,0,0]) [0,1,0,1,1,1] m0 [.block 2,.seq (av (ae Tryz.f8) [1,1,1,1]) [1,1,1,1]] (E [(2,.pointer (some a_2)),(3,.pointer (some b_3)),(76,.int .i64 t_76),(77,.int .i64 t_77)]) h
variable {n m0} {h0} {a_2 b_3 t_76 t_77} {h}
theorem DR {r : Go.Value × AH} (hv : DQ aD n m0 h0 a_2 b_3 t_76 t_77 h = some r) : DP n (m0 + 1) h0 a_2 b_3 t_76 t_77 h = some r:=aO hv
end
section
variable (N : aB) (n m0 : Nat) (h0 : AH) (a_2 b_3 : Addr) (t_94 t_95 : Int) (h : AH)
 noncomputable def xk : Option (Go.Value × AH):=aC Tryz.prog n Tryz.f8 h0 (.head (av (ae Tryz.f8) [1,1,1,1,0,1,0,0]) [0,1,0,1,1,1,1] m0) [.block 4,.seq (av (ae Tryz.f8) [1,1,1,1,1]) [1,1,1,1,1]] (E [(2,.pointer (some a_2)),(3,.pointer (some b_3)),(94,.int .i64 t_94),(95,.int .i64 t_95)]) h
 noncomputable def DS : Option (Go.Value × AH):=bH Tryz.prog (au Tryz.prog n) n Tryz.f8 h0 p10 N (aC Tryz.prog n Tryz.f8 h0) (av (ae Tryz.f8) [1,1,1,1,0,1,0,0]) [0,1,0,1,1,1,1] m0 [.block 4,.seq (av (ae Tryz.f8) [1,1,1,1,1]) [1,1,1,1,1]] (E [(2,.pointer (some a_2)),(3,.pointer (some b_3)),(94,.int .i64 t_94),(95,.int .i64 t_95)]) h
variable {n m0} {h0} {a_2 b_3 t_94 t_95} {h}
theorem DT {r : Go.Value × AH} (hv : DS aD n m0 h0 a_2 b_3 t_94 t_95 h = some r) : xk n (m0 + 1) h0 a_2 b_3 t_94 t_95 h = some r:=aO hv
end
 noncomputable def K5 (N : aB) (n : Nat) (a_0a : ByteArray) (a_0b : Option Addr) (a_0bn a_0bc : Nat) (a_0c : Option Addr) (a_0cn a_0cc : Nat) (a_0d : Option Addr) (a_0dn a_0dc : Nat) (a_0e : Option Addr) (a_0en a_0ec : Nat) (a_0f : Option Addr) (a_0fn a_0fc : Nat) (b_1a : ByteArray) (b_1b : Option Addr) (b_1bn b_1bc : Nat) (b_1c : Option Addr) (b_1cn b_1cc : Nat) (b_1d : Option Addr) (b_1dn b_1dc : Nat) (b_1e : Option Addr) (b_1en b_1ec : Nat) (b_1f : Option Addr) (b_1fn b_1fc : Nat) (h : AH) : Option (Go.Value × AH):=bQ Tryz.prog (au Tryz.prog n) n p10 N (aC Tryz.prog n) 8 [(.agg #[(.string a_0a),(.slice a_0b a_0bn a_0bc),(.slice a_0c a_0cn a_0cc),(.slice a_0d a_0dn a_0dc),(.slice a_0e a_0en a_0ec),(.slice a_0f a_0fn a_0fc)]),(.agg #[(.string b_1a),(.slice b_1b b_1bn b_1bc),(.slice b_1c b_1cn b_1cc),(.slice b_1d b_1dn b_1dc),(.slice b_1e b_1en b_1ec),(.slice b_1f b_1fn b_1fc)])] h
theorem I3 {n : Nat} {a_0a : ByteArray} {a_0b : Option Addr} {a_0bn a_0bc : Nat} {a_0c : Option Addr} {a_0cn a_0cc : Nat} {a_0d : Option Addr} {a_0dn a_0dc : Nat} {a_0e : Option Addr} {a_0en a_0ec : Nat} {a_0f : Option Addr} {a_0fn a_0fc : Nat} {b_1a : ByteArray} {b_1b : Option Addr} {b_1bn b_1bc : Nat} {b_1c : Option Addr} {b_1cn b_1cc : Nat} {b_1d : Option Addr} {b_1dn b_1dc : Nat} {b_1e : Option Addr} {b_1en b_1ec : Nat} {b_1f : Option Addr} {b_1fn b_1fc : Nat} {h : AH} {r : Go.Value × AH} (hv : K5 aD n a_0a a_0b a_0bn a_0bc a_0c a_0cn a_0cc a_0d a_0dn a_0dc a_0e a_0en a_0ec a_0f a_0fn a_0fc b_1a b_1b b_1bn b_1bc b_1c b_1cn b_1cc b_1d b_1dn b_1dc b_1e b_1en b_1ec b_1f b_1fn b_1fc h = some r) : au Tryz.prog (n + 1) 8 [(.agg #[(.string a_0a),(.slice a_0b a_0bn a_0bc),(.slice a_0c a_0cn a_0cc),(.slice a_0d a_0dn a_0dc),(.slice a_0e a_0en a_0ec),(.slice a_0f a_0fn a_0fc)]),(.agg #[(.string b_1a),(.slice b_1b b_1bn b_1bc),(.slice b_1c b_1cn b_1cc),(.slice b_1d b_1dn b_1dc),(.slice b_1e b_1en b_1ec),(.slice b_1f b_1fn b_1fc)])] h = some r:=aL hv
theorem Ou (N : aB) (n : Nat) (a_0a : ByteArray) (a_0b : Option Addr) (a_0bn a_0bc : Nat) (a_0c : Option Addr) (a_0cn a_0cc : Nat) (a_0d : Option Addr) (a_0dn a_0dc : Nat) (a_0e : Option Addr) (a_0en a_0ec : Nat) (a_0f : Option Addr) (a_0fn a_0fc : Nat) (b_1a : ByteArray) (b_1b : Option Addr) (b_1bn b_1bc : Nat) (b_1c : Option Addr) (b_1cn b_1cc : Nat) (b_1d : Option Addr) (b_1dn b_1dc : Nat) (b_1e : Option Addr) (b_1en b_1ec : Nat) (b_1f : Option Addr) (b_1fn b_1fc : Nat) (h : AH) : K5 N n a_0a a_0b a_0bn a_0bc a_0c a_0cn a_0cc a_0d a_0dn a_0dc a_0e a_0en a_0ec a_0f a_0fn a_0fc b_1a b_1b b_1bn b_1bc b_1c b_1cn b_1cc b_1d b_1dn b_1dc b_1e b_1en b_1ec b_1f b_1fn b_1fc h =
 (N (setLow h h.next) [(.string a_0a),(.slice a_0b a_0bn a_0bc),(.slice a_0c a_0cn a_0cc),(.slice a_0d a_0dn a_0dc),(.slice a_0e a_0en a_0ec),(.slice a_0f a_0fn a_0fc)] 0).bind fun p0 =>
 (N p0.2 [(.string b_1a),(.slice b_1b b_1bn b_1bc),(.slice b_1c b_1cn b_1cc),(.slice b_1d b_1dn b_1dc),(.slice b_1e b_1en b_1ec),(.slice b_1f b_1fn b_1fc)] 0).bind fun p1 =>
 (gS (rdC p1.2 (Addr.add ⟨p0.1,0,none⟩ 0) 0)).bind fun x2 =>
 (gS (rdC p1.2 (Addr.add ⟨p1.1,0,none⟩ 0) 0)).bind fun x3 =>
 cond (Bool.not (BEq.beq (ByteArray.toList x2) (ByteArray.toList x3)))
 (some (aj h p1.2 (.bool false)))
 ((gL (rdC p1.2 (Addr.add ⟨p0.1,0,none⟩ 1) 0)).bind fun p4 =>
 (gL (rdC p1.2 (Addr.add ⟨p1.1,0,none⟩ 1) 0)).bind fun p5 =>
 (au Tryz.prog n 27 [(.slice p4.1 p4.2.1 p4.2.2),(.slice p5.1 p5.2.1 p5.2.2)] p1.2).bind fun p6 =>
 (gB (some p6.1)).bind fun b7 =>
 cond (Bool.not b7)
 (some (aj h p6.2 (.bool false)))
 ((gL (rdC p6.2 (Addr.add ⟨p0.1,0,none⟩ 4) 0)).bind fun p8 =>
 (gL (rdC p6.2 (Addr.add ⟨p1.1,0,none⟩ 4) 0)).bind fun p9 =>
 (au Tryz.prog n 27 [(.slice p8.1 p8.2.1 p8.2.2),(.slice p9.1 p9.2.1 p9.2.2)] p6.2).bind fun p10 =>
 (gB (some p10.1)).bind fun b11 =>
 cond (Bool.not b11)
 (some (aj h p10.2 (.bool false)))
 ((gL (rdC p10.2 (Addr.add ⟨p0.1,0,none⟩ 2) 0)).bind fun p12 =>
 (gL (rdC p10.2 (Addr.add ⟨p1.1,0,none⟩ 2) 0)).bind fun p13 =>
 cond (gv (Int.ofNat p12.2.1) (Int.ofNat p13.2.1))
 (some (aj h p10.2 (.bool false)))
 ((gL (rdC p10.2 (Addr.add ⟨p0.1,0,none⟩ 3) 0)).bind fun p14 =>
 (gL (rdC p10.2 (Addr.add ⟨p1.1,0,none⟩ 3) 0)).bind fun p15 =>
 cond (gv (Int.ofNat p14.2.1) (Int.ofNat p15.2.1))
 (some (aj h p10.2 (.bool false)))
 ((gL (rdC p10.2 (Addr.add ⟨p0.1,0,none⟩ 5) 0)).bind fun p16 =>
 (gL (rdC p10.2 (Addr.add ⟨p1.1,0,none⟩ 5) 0)).bind fun p17 =>
 cond (gv (Int.ofNat p16.2.1) (Int.ofNat p17.2.1))
 (some (aj h p10.2 (.bool false)))
 (DJ n h ⟨p0.1,0,none⟩ ⟨p1.1,0,none⟩ p10.2)))))):=by kernel_rfl
theorem DU (N : aB) (n  : Nat) (h0 : AH) (a_2 b_3 : Addr) (h : AH) : DK N n  h0 a_2 b_3 h =
 (gL (rdC h (Addr.add a_2 2) 0)).bind fun p0 =>
 DM n n h0 a_2 b_3 (Int.ofNat p0.2.1) 0 h:=by kernel_rfl
theorem DV (N : aB) (n m0 : Nat) (h0 : AH) (a_2 b_3 : Addr) (t_58 t_59 : Int) (h : AH) : DN N n m0 h0 a_2 b_3 t_58 t_59 h =
 cond (cj t_59 t_58)
 ((gL (rdC h (Addr.add a_2 2) 0)).bind fun p0 =>
 (p0.1).bind fun a1 =>
 cond (bO t_59 p0.2.1)
 ((gS (rdC h (Addr.add a1 ((Int.toNat t_59) * 5)) 0)).bind fun x2 =>
 (gI .i64 (rdC h (Addr.add a1 ((Int.toNat t_59) * 5)) 1)).bind fun n3 =>
 (gI .i64 (rdC h (Addr.add a1 ((Int.toNat t_59) * 5)) 2)).bind fun n4 =>
 (gI .i64 (rdC h (Addr.add a1 ((Int.toNat t_59) * 5)) 3)).bind fun n5 =>
 (gI .i64 (rdC h (Addr.add a1 ((Int.toNat t_59) * 5)) 4)).bind fun n6 =>
 (gL (rdC h (Addr.add b_3 2) 0)).bind fun p7 =>
 (p7.1).bind fun a8 =>
 cond (bO t_59 p7.2.1)
 ((gS (rdC h (Addr.add a8 ((Int.toNat t_59) * 5)) 0)).bind fun x9 =>
 (gI .i64 (rdC h (Addr.add a8 ((Int.toNat t_59) * 5)) 1)).bind fun n10 =>
 (gI .i64 (rdC h (Addr.add a8 ((Int.toNat t_59) * 5)) 2)).bind fun n11 =>
 (gI .i64 (rdC h (Addr.add a8 ((Int.toNat t_59) * 5)) 3)).bind fun n12 =>
 (gI .i64 (rdC h (Addr.add a8 ((Int.toNat t_59) * 5)) 4)).bind fun n13 =>
 none)
 (none))
 (none))
 ((gL (rdC h (Addr.add a_2 3) 0)).bind fun p14 =>
 DP n n h0 a_2 b_3 (Int.ofNat p14.2.1) 0 h):=by kernel_rfl
theorem DW (N : aB) (n m0 : Nat) (h0 : AH) (a_2 b_3 : Addr) (t_76 t_77 : Int) (h : AH) : DQ N n m0 h0 a_2 b_3 t_76 t_77 h =
 cond (cj t_77 t_76)
 ((gL (rdC h (Addr.add a_2 3) 0)).bind fun p0 =>
 (p0.1).bind fun a1 =>
 cond (bO t_77 p0.2.1)
 ((gS (rdC h (Addr.add a1 ((Int.toNat t_77) * 3)) 0)).bind fun x2 =>
 (gI .i64 (rdC h (Addr.add a1 ((Int.toNat t_77) * 3)) 1)).bind fun n3 =>
 (gB (rdC h (Addr.add a1 ((Int.toNat t_77) * 3)) 2)).bind fun b4 =>
 (gL (rdC h (Addr.add b_3 3) 0)).bind fun p5 =>
 (p5.1).bind fun a6 =>
 cond (bO t_77 p5.2.1)
 ((gS (rdC h (Addr.add a6 ((Int.toNat t_77) * 3)) 0)).bind fun x7 =>
 (gI .i64 (rdC h (Addr.add a6 ((Int.toNat t_77) * 3)) 1)).bind fun n8 =>
 (gB (rdC h (Addr.add a6 ((Int.toNat t_77) * 3)) 2)).bind fun b9 =>
 none)
 (none))
 (none))
 ((gL (rdC h (Addr.add a_2 5) 0)).bind fun p10 =>
 xk n n h0 a_2 b_3 (Int.ofNat p10.2.1) 0 h):=by kernel_rfl
theorem DX (N : aB) (n m0 : Nat) (h0 : AH) (a_2 b_3 : Addr) (t_94 t_95 : Int) (h : AH) : DS N n m0 h0 a_2 b_3 t_94 t_95 h =
 cond (cj t_95 t_94)
 ((gL (rdC h (Addr.add a_2 5) 0)).bind fun p0 =>
 (p0.1).bind fun a1 =>
 cond (bO t_95 p0.2.1)
 ((gL (rdC h (Addr.add a1 ((Int.toNat t_95) * 9)) 0)).bind fun p2 =>
 (gL (rdC h (Addr.add a1 ((Int.toNat t_95) * 9)) 1)).bind fun p3 =>
 (gI .i64 (rdC h (Addr.add a1 ((Int.toNat t_95) * 9)) 2)).bind fun n4 =>
 (gI .i64 (rdC h (Addr.add a1 ((Int.toNat t_95) * 9)) 3)).bind fun n5 =>
 (gL (rdC h (Addr.add a1 ((Int.toNat t_95) * 9)) 4)).bind fun p6 =>
 (gL (rdC h (Addr.add a1 ((Int.toNat t_95) * 9)) 5)).bind fun p7 =>
 (gI .i64 (rdC h (Addr.add a1 ((Int.toNat t_95) * 9)) 6)).bind fun n8 =>
 (gI .i64 (rdC h (Addr.add a1 ((Int.toNat t_95) * 9)) 7)).bind fun n9 =>
 (gI .i64 (rdC h (Addr.add a1 ((Int.toNat t_95) * 9)) 8)).bind fun n10 =>
 (gL (rdC h (Addr.add b_3 5) 0)).bind fun p11 =>
 (p11.1).bind fun a12 =>
 cond (bO t_95 p11.2.1)
 ((gL (rdC h (Addr.add a12 ((Int.toNat t_95) * 9)) 0)).bind fun p13 =>
 (gL (rdC h (Addr.add a12 ((Int.toNat t_95) * 9)) 1)).bind fun p14 =>
 (gI .i64 (rdC h (Addr.add a12 ((Int.toNat t_95) * 9)) 2)).bind fun n15 =>
 (gI .i64 (rdC h (Addr.add a12 ((Int.toNat t_95) * 9)) 3)).bind fun n16 =>
 (gL (rdC h (Addr.add a12 ((Int.toNat t_95) * 9)) 4)).bind fun p17 =>
 (gL (rdC h (Addr.add a12 ((Int.toNat t_95) * 9)) 5)).bind fun p18 =>
 (gI .i64 (rdC h (Addr.add a12 ((Int.toNat t_95) * 9)) 6)).bind fun n19 =>
 (gI .i64 (rdC h (Addr.add a12 ((Int.toNat t_95) * 9)) 7)).bind fun n20 =>
 (gI .i64 (rdC h (Addr.add a12 ((Int.toNat t_95) * 9)) 8)).bind fun n21 =>
 (au Tryz.prog n 28 [(.agg #[(.slice p2.1 p2.2.1 p2.2.2),(.slice p3.1 p3.2.1 p3.2.2),(.int .i64 n4),(.int .i64 n5),(.slice p6.1 p6.2.1 p6.2.2),(.slice p7.1 p7.2.1 p7.2.2),(.int .i64 n8),(.int .i64 n9),(.int .i64 n10)]),(.agg #[(.slice p13.1 p13.2.1 p13.2.2),(.slice p14.1 p14.2.1 p14.2.2),(.int .i64 n15),(.int .i64 n16),(.slice p17.1 p17.2.1 p17.2.2),(.slice p18.1 p18.2.1 p18.2.2),(.int .i64 n19),(.int .i64 n20),(.int .i64 n21)])] h).bind fun fL =>
 (gB (some fL.1)).bind fun b23 =>
 cond (Bool.not b23)
 (some (aj h0 fL.2 (.bool false)))
 (xk n m0 h0 a_2 b_3 t_94 (aU .i64 t_95 1) fL.2))
 (none))
 (none))
 (some (aj h0 h (.bool true))):=by kernel_rfl
def p30 : List (List Nat × List Nat):=[([0,1,0,1,1],[0,1,12,13])]
section
variable (N : aB) (n m0 : Nat) (h0 : AH) (a_0 : Option Addr) (a_0n a_0c : Nat) (b_1 : Option Addr) (b_1n b_1c : Nat) (t_12 t_13 : Int) (h : AH)
 noncomputable def xl : Option (Go.Value × AH):=aC Tryz.prog n Tryz.f27 h0 (.head (av (ae Tryz.f27) [1,1,0,1,0,0]) [0,1,0,1,1] m0) [.block 0,.seq (av (ae Tryz.f27) [1,1,1]) [1,1,1]] (E [(0,.slice a_0 a_0n a_0c),(1,.slice b_1 b_1n b_1c),(12,.int .i64 t_12),(13,.int .i64 t_13)]) h
 noncomputable def DY : Option (Go.Value × AH):=bH Tryz.prog (au Tryz.prog n) n Tryz.f27 h0 p30 N (aC Tryz.prog n Tryz.f27 h0) (av (ae Tryz.f27) [1,1,0,1,0,0]) [0,1,0,1,1] m0 [.block 0,.seq (av (ae Tryz.f27) [1,1,1]) [1,1,1]] (E [(0,.slice a_0 a_0n a_0c),(1,.slice b_1 b_1n b_1c),(12,.int .i64 t_12),(13,.int .i64 t_13)]) h
variable {n m0} {h0} {a_0 a_0n a_0c b_1 b_1n b_1c t_12 t_13} {h}
theorem DZ {r : Go.Value × AH} (hv : DY aD n m0 h0 a_0 a_0n a_0c b_1 b_1n b_1c t_12 t_13 h = some r) : xl n (m0 + 1) h0 a_0 a_0n a_0c b_1 b_1n b_1c t_12 t_13 h = some r:=aO hv
end
 noncomputable def K6 (N : aB) (n : Nat) (a_0 : Option Addr) (a_0n a_0c : Nat) (b_1 : Option Addr) (b_1n b_1c : Nat) (h : AH) : Option (Go.Value × AH):=bQ Tryz.prog (au Tryz.prog n) n p30 N (aC Tryz.prog n) 27 [(.slice a_0 a_0n a_0c),(.slice b_1 b_1n b_1c)] h
theorem I4 {n : Nat} {a_0 : Option Addr} {a_0n a_0c : Nat} {b_1 : Option Addr} {b_1n b_1c : Nat} {h : AH} {r : Go.Value × AH} (hv : K6 aD n a_0 a_0n a_0c b_1 b_1n b_1c h = some r) : au Tryz.prog (n + 1) 27 [(.slice a_0 a_0n a_0c),(.slice b_1 b_1n b_1c)] h = some r:=aL hv
theorem Ov (N : aB) (n : Nat) (a_0 : Option Addr) (a_0n a_0c : Nat) (b_1 : Option Addr) (b_1n b_1c : Nat) (h : AH) : K6 N n a_0 a_0n a_0c b_1 b_1n b_1c h =
 cond (gv (Int.ofNat a_0n) (Int.ofNat b_1n))
 (some (aj h (setLow h h.next) (.bool false)))
 (xl n n h a_0 a_0n a_0c b_1 b_1n b_1c (Int.ofNat a_0n) 0 (setLow h h.next)):=by kernel_rfl
theorem D0 (N : aB) (n m0 : Nat) (h0 : AH) (a_0 : Option Addr) (a_0n a_0c : Nat) (b_1 : Option Addr) (b_1n b_1c : Nat) (t_12 t_13 : Int) (h : AH) : DY N n m0 h0 a_0 a_0n a_0c b_1 b_1n b_1c t_12 t_13 h =
 cond (cj t_13 t_12)
 ((a_0).bind fun a0 =>
 cond (bO t_13 a_0n)
 ((gI .i64 (rdC h (Addr.add a0 ((Int.toNat t_13) * 1)) 0)).bind fun n1 =>
 (b_1).bind fun a2 =>
 cond (bO t_13 b_1n)
 ((gI .i64 (rdC h (Addr.add a2 ((Int.toNat t_13) * 1)) 0)).bind fun n3 =>
 cond (gv n1 n3)
 (some (aj h0 h (.bool false)))
 (xl n m0 h0 a_0 a_0n a_0c b_1 b_1n b_1c t_12 (aU .i64 t_13 1) h))
 (none))
 (none))
 (some (aj h0 h (.bool true))):=by kernel_rfl
def Nf : List (List Nat × List Nat):=[([1,1,1,1,1,1],[7])]
section
variable (cf : FuncId → List Go.Value → AH → Option (Go.Value × AH)) (N : aB) (n : Nat) (h0 : AH) (f_7 : Addr) (h : AH)
 noncomputable def D1 : Option (Go.Value × AH):=uU Tryz.prog cf n Tryz.f3 h0 (.code (av (ae Tryz.f3) [1,1,1,1,1,1]) [1,1,1,1,1,1]) [] (E [(7,.pointer (some f_7))]) h
 noncomputable def Hk : Option (Go.Value × AH):=bw Tryz.prog cf n Tryz.f3 h0 Nf N (uU Tryz.prog cf n Tryz.f3 h0) (av (ae Tryz.f3) [1,1,1,1,1,1]) [1,1,1,1,1,1] [] (E [(7,.pointer (some f_7))]) h
variable {cf} {n} {h0} {f_7} {h}
theorem xm {r : Go.Value × AH} (hv : Hk cf aD n h0 f_7 h = some r) : D1 cf n h0 f_7 h = some r:=yH hv
end
 noncomputable def Ng (cf : FuncId → List Go.Value → AH → Option (Go.Value × AH)) (N : aB) (n : Nat) (p_0a : Option Addr) (p_0an p_0ac : Nat) (p_0b : Option Addr) (p_0bn p_0bc : Nat) (what_1 n_2 : Int) (h : AH) : Option (Go.Value × AH):=bQ Tryz.prog cf n Nf N (uU Tryz.prog cf n) 3 [(.agg #[(.slice p_0a p_0an p_0ac),(.slice p_0b p_0bn p_0bc)]),(.int .u8 what_1),(.int .u16 n_2)] h
theorem D2 {cf : FuncId → List Go.Value → AH → Option (Go.Value × AH)} {n : Nat} {p_0a : Option Addr} {p_0an p_0ac : Nat} {p_0b : Option Addr} {p_0bn p_0bc : Nat} {what_1 n_2 : Int} {h : AH} {r : Go.Value × AH} (hv : Ng cf aD n p_0a p_0an p_0ac p_0b p_0bn p_0bc what_1 n_2 h = some r) : Fp Tryz.prog cf n 3 [(.agg #[(.slice p_0a p_0an p_0ac),(.slice p_0b p_0bn p_0bc)]),(.int .u8 what_1),(.int .u16 n_2)] h = some r:=Aa hv
theorem q4 (cf : FuncId → List Go.Value → AH → Option (Go.Value × AH)) (N : aB) (n : Nat) (p_0a : Option Addr) (p_0an p_0ac : Nat) (p_0b : Option Addr) (p_0bn p_0bc : Nat) (what_1 n_2 : Int) (h : AH) : Ng cf N n p_0a p_0an p_0ac p_0b p_0bn p_0bc what_1 n_2 h =
 (N (setLow h h.next) [(.slice p_0a p_0an p_0ac),(.slice p_0b p_0bn p_0bc)] 0).bind fun p0 =>
 (cf 4 [] p0.2).bind fun p1 =>
 (gB (some p1.1)).bind fun b2 =>
 cond (Bool.not b2)
 (some (aj h p1.2 (.bool false)))
 ((gL (rdC p1.2 ⟨p0.1,0,none⟩ 0)).bind fun p3 =>
 (gL (rdC p1.2 ⟨p0.1,0,none⟩ 1)).bind fun p4 =>
 (cf 5 [(.agg #[(.slice p3.1 p3.2.1 p3.2.2),(.slice p4.1 p4.2.1 p4.2.2)])] p1.2).bind fun p5 =>
 cond (ng 2 p5.1)
 ((lL 0 p5.1).bind fun v6 =>
 cond (f5 6 v6)
 ((gS (db 0 v6)).bind fun x7 =>
 (gL (db 1 v6)).bind fun p8 =>
 (gL (db 2 v6)).bind fun p9 =>
 (gL (db 3 v6)).bind fun p10 =>
 (gL (db 4 v6)).bind fun p11 =>
 (gL (db 5 v6)).bind fun p12 =>
 (gB (lL 1 p5.1)).bind fun b13 =>
 (N p5.2 [(.string (ByteArray.mk (List.toArray []))),(.slice none 0 0),(.slice none 0 0),(.slice none 0 0),(.slice none 0 0),(.slice none 0 0)] 0).bind fun p14 =>
 (di p14.2 ⟨p14.1,0,none⟩ [(.string x7),(.slice p8.1 p8.2.1 p8.2.2),(.slice p9.1 p9.2.1 p9.2.2),(.slice p10.1 p10.2.1 p10.2.2),(.slice p11.1 p11.2.1 p11.2.2),(.slice p12.1 p12.2.1 p12.2.2)]).bind fun x15 =>
 cond (Bool.not b13)
 (some (aj h x15 (.bool true)))
 ((gL (rdC x15 (Addr.add ⟨p14.1,0,none⟩ 5) 0)).bind fun p16 =>
 (gL (rdC x15 (Addr.add ⟨p14.1,0,none⟩ 5) 0)).bind fun p17 =>
 cond (aY (Int.ofNat p17.2.1) 0)
 (none)
 ((p16.1).bind fun a18 =>
 cond (bO (cm .i64 (aR .i64 n_2) (Int.ofNat p17.2.1)) p16.2.1)
 (cond (aY (cm .u8 what_1 2) 0)
 ((di x15 (Addr.add (Addr.add (Addr.add a18 ((Int.toNat (cm .i64 (aR .i64 n_2) (Int.ofNat p17.2.1))) * 9)) 2) 0) [(.int .i64 9)]).bind fun x19 =>
 D1 cf n h ⟨p14.1,0,none⟩ x19)
 ((gL (rdC x15 (Addr.add (Addr.add a18 ((Int.toNat (cm .i64 (aR .i64 n_2) (Int.ofNat p17.2.1))) * 9)) 1) 0)).bind fun kn =>
 (N x15 [(.int .i64 77),(.int .i64 0),(.slice none 0 0),(.int .u64 0),(.int .i64 0)] 5).bind fun gK =>
 (dg 5 56 (.slice kn.1 kn.2.1 kn.2.2) (.slice (some ⟨gK.1,0,none⟩) 1 1) gK.2).bind fun fL =>
 (di fL.2 (Addr.add (Addr.add a18 ((Int.toNat (cm .i64 (aR .i64 n_2) (Int.ofNat p17.2.1))) * 9)) 1) [(.slice fL.1.1 fL.1.2.1 fL.1.2.2)]).bind fun x23 =>
 D1 cf n h ⟨p14.1,0,none⟩ x23))
 (none))))
 (none))
 (none)):=by kernel_rfl
theorem xn (cf : FuncId → List Go.Value → AH → Option (Go.Value × AH)) (N : aB) (n  : Nat) (h0 : AH) (f_7 : Addr) (h : AH) : Hk cf N n  h0 f_7 h =
 (gS (rdC h f_7 0)).bind fun x0 =>
 (gL (rdC h f_7 1)).bind fun p1 =>
 (gL (rdC h f_7 2)).bind fun p2 =>
 (gL (rdC h f_7 3)).bind fun p3 =>
 (gL (rdC h f_7 4)).bind fun p4 =>
 (gL (rdC h f_7 5)).bind fun p5 =>
 (cf 6 [(.agg #[(.string x0),(.slice p1.1 p1.2.1 p1.2.2),(.slice p2.1 p2.2.1 p2.2.2),(.slice p3.1 p3.2.1 p3.2.2),(.slice p4.1 p4.2.1 p4.2.2),(.slice p5.1 p5.2.1 p5.2.2)])] h).bind fun p6 =>
 (gB (some p6.1)).bind fun b7 =>
 cond b7
 (some (aj h0 p6.2 (.bool true)))
 ((gS (rdC p6.2 f_7 0)).bind fun x8 =>
 (gL (rdC p6.2 f_7 1)).bind fun p9 =>
 (gL (rdC p6.2 f_7 2)).bind fun p10 =>
 (gL (rdC p6.2 f_7 3)).bind fun p11 =>
 (gL (rdC p6.2 f_7 4)).bind fun p12 =>
 (gL (rdC p6.2 f_7 5)).bind fun p13 =>
 (cf 7 [(.agg #[(.string x8),(.slice p9.1 p9.2.1 p9.2.2),(.slice p10.1 p10.2.1 p10.2.2),(.slice p11.1 p11.2.1 p11.2.2),(.slice p12.1 p12.2.1 p12.2.2),(.slice p13.1 p13.2.1 p13.2.2)])] p6.2).bind fun p14 =>
 cond (ng 2 p14.1)
 ((lL 0 p14.1).bind fun v15 =>
 cond (f5 6 v15)
 ((gS (db 0 v15)).bind fun x16 =>
 (gL (db 1 v15)).bind fun p17 =>
 (gL (db 2 v15)).bind fun p18 =>
 (gL (db 3 v15)).bind fun gc =>
 (gL (db 4 v15)).bind fun kn =>
 (gL (db 5 v15)).bind fun gK =>
 (lL 1 p14.1).bind fun v22 =>
 cond (f5 1 v22)
 ((gL (db 0 v22)).bind fun kS =>
 (N p14.2 [(.string (ByteArray.mk (List.toArray []))),(.slice none 0 0),(.slice none 0 0),(.slice none 0 0),(.slice none 0 0),(.slice none 0 0)] 0).bind fun ip =>
 (N ip.2 [(.slice none 0 0)] 0).bind fun jb =>
 (di jb.2 ⟨ip.1,0,none⟩ [(.string x16),(.slice p17.1 p17.2.1 p17.2.2),(.slice p18.1 p18.2.1 p18.2.2),(.slice gc.1 gc.2.1 gc.2.2),(.slice kn.1 kn.2.1 kn.2.2),(.slice gK.1 gK.2.1 gK.2.2)]).bind fun x26 =>
 (di x26 ⟨jb.1,0,none⟩ [(.slice kS.1 kS.2.1 kS.2.2)]).bind fun x27 =>
 (gS (rdC x27 ⟨ip.1,0,none⟩ 0)).bind fun x28 =>
 (gL (rdC x27 ⟨ip.1,0,none⟩ 1)).bind fun j8 =>
 (gL (rdC x27 ⟨ip.1,0,none⟩ 2)).bind fun p30 =>
 (gL (rdC x27 ⟨ip.1,0,none⟩ 3)).bind fun p31 =>
 (gL (rdC x27 ⟨ip.1,0,none⟩ 4)).bind fun p32 =>
 (gL (rdC x27 ⟨ip.1,0,none⟩ 5)).bind fun p33 =>
 (cf 8 [(.agg #[(.string x28),(.slice j8.1 j8.2.1 j8.2.2),(.slice p30.1 p30.2.1 p30.2.2),(.slice p31.1 p31.2.1 p31.2.2),(.slice p32.1 p32.2.1 p32.2.2),(.slice p33.1 p33.2.1 p33.2.2)]),(.agg #[(.string (ByteArray.mk (List.toArray []))),(.slice none 0 0),(.slice none 0 0),(.slice none 0 0),(.slice none 0 0),(.slice none 0 0)])] x27).bind fun t8 =>
 (gB (some t8.1)).bind fun b35 =>
 cond b35
 ((gL (rdC t8.2 (Addr.add ⟨jb.1,0,none⟩ 0) 0)).bind fun p36 =>
 some (aj h0 t8.2 (.bool (aY (Int.ofNat p36.2.1) 0))))
 (some (aj h0 t8.2 (.bool false))))
 (none))
 (none))
 (none)):=by kernel_rfl
def Ox : List (List Nat × List Nat):=[([1,1,1,1],[2,3,4]),([0,0,1,1,1,1],[2,3,4])]
 noncomputable def Nh (N : aB) (n : Nat) (f_0a : ByteArray) (f_0b : Option Addr) (f_0bn f_0bc : Nat) (f_0c : Option Addr) (f_0cn f_0cc : Nat) (f_0d : Option Addr) (f_0dn f_0dc : Nat) (f_0e : Option Addr) (f_0en f_0ec : Nat) (f_0f : Option Addr) (f_0fn f_0fc : Nat) (h : AH) : Option (Go.Value × AH):=bQ Tryz.prog (au Tryz.prog n) n Ox N (aC Tryz.prog n) 7 [(.agg #[(.string f_0a),(.slice f_0b f_0bn f_0bc),(.slice f_0c f_0cn f_0cc),(.slice f_0d f_0dn f_0dc),(.slice f_0e f_0en f_0ec),(.slice f_0f f_0fn f_0fc)])] h
theorem K7 {n : Nat} {f_0a : ByteArray} {f_0b : Option Addr} {f_0bn f_0bc : Nat} {f_0c : Option Addr} {f_0cn f_0cc : Nat} {f_0d : Option Addr} {f_0dn f_0dc : Nat} {f_0e : Option Addr} {f_0en f_0ec : Nat} {f_0f : Option Addr} {f_0fn f_0fc : Nat} {h : AH} {r : Go.Value × AH} (hv : Nh aD n f_0a f_0b f_0bn f_0bc f_0c f_0cn f_0cc f_0d f_0dn f_0dc f_0e f_0en f_0ec f_0f f_0fn f_0fc h = some r) : au Tryz.prog (n + 1) 7 [(.agg #[(.string f_0a),(.slice f_0b f_0bn f_0bc),(.slice f_0c f_0cn f_0cc),(.slice f_0d f_0dn f_0dc),(.slice f_0e f_0en f_0ec),(.slice f_0f f_0fn f_0fc)])] h = some r:=aL hv
theorem t6 (N : aB) (n : Nat) (f_0a : ByteArray) (f_0b : Option Addr) (f_0bn f_0bc : Nat) (f_0c : Option Addr) (f_0cn f_0cc : Nat) (f_0d : Option Addr) (f_0dn f_0dc : Nat) (f_0e : Option Addr) (f_0en f_0ec : Nat) (f_0f : Option Addr) (f_0fn f_0fc : Nat) (h : AH) : Nh N n f_0a f_0b f_0bn f_0bc f_0c f_0cn f_0cc f_0d f_0dn f_0dc f_0e f_0en f_0ec f_0f f_0fn f_0fc h =
 (N (setLow h h.next) [(.string f_0a),(.slice f_0b f_0bn f_0bc),(.slice f_0c f_0cn f_0cc),(.slice f_0d f_0dn f_0dc),(.slice f_0e f_0en f_0ec),(.slice f_0f f_0fn f_0fc)] 0).bind fun p0 =>
 (N p0.2 [(.string (ByteArray.mk (List.toArray []))),(.slice none 0 0),(.slice none 0 0),(.slice none 0 0),(.slice none 0 0),(.slice none 0 0)] 0).bind fun p1 =>
 (N p1.2 [(.slice none 0 0)] 0).bind fun p2 =>
 (gS (rdC p2.2 ⟨p0.1,0,none⟩ 0)).bind fun x3 =>
 (gL (rdC p2.2 ⟨p0.1,0,none⟩ 1)).bind fun p4 =>
 (gL (rdC p2.2 ⟨p0.1,0,none⟩ 2)).bind fun p5 =>
 (gL (rdC p2.2 ⟨p0.1,0,none⟩ 3)).bind fun p6 =>
 (gL (rdC p2.2 ⟨p0.1,0,none⟩ 4)).bind fun p7 =>
 (gL (rdC p2.2 ⟨p0.1,0,none⟩ 5)).bind fun p8 =>
 (au Tryz.prog n 22 [(.agg #[(.string x3),(.slice p4.1 p4.2.1 p4.2.2),(.slice p5.1 p5.2.1 p5.2.2),(.slice p6.1 p6.2.1 p6.2.2),(.slice p7.1 p7.2.1 p7.2.2),(.slice p8.1 p8.2.1 p8.2.2)])] p2.2).bind fun p9 =>
 (gB (some p9.1)).bind fun b10 =>
 cond (Bool.not b10)
 ((di p9.2 ⟨p1.1,0,none⟩ [(.string (ByteArray.mk (List.toArray []))),(.slice none 0 0),(.slice none 0 0),(.slice none 0 0),(.slice none 0 0),(.slice none 0 0)]).bind fun x11 =>
 (di x11 ⟨p2.1,0,none⟩ [(.slice none 0 0)]).bind fun x12 =>
 (gS (rdC x12 ⟨p1.1,0,none⟩ 0)).bind fun x13 =>
 (gL (rdC x12 ⟨p1.1,0,none⟩ 1)).bind fun p14 =>
 (gL (rdC x12 ⟨p1.1,0,none⟩ 2)).bind fun p15 =>
 (gL (rdC x12 ⟨p1.1,0,none⟩ 3)).bind fun p16 =>
 (gL (rdC x12 ⟨p1.1,0,none⟩ 4)).bind fun p17 =>
 (gL (rdC x12 ⟨p1.1,0,none⟩ 5)).bind fun p18 =>
 (gL (rdC x12 ⟨p2.1,0,none⟩ 0)).bind fun gc =>
 some (aj h x12 (.tuple #[(.agg #[(.string x13),(.slice p14.1 p14.2.1 p14.2.2),(.slice p15.1 p15.2.1 p15.2.2),(.slice p16.1 p16.2.1 p16.2.2),(.slice p17.1 p17.2.1 p17.2.2),(.slice p18.1 p18.2.1 p18.2.2)]),(.agg #[(.slice gc.1 gc.2.1 gc.2.2)])])))
 ((gS (rdC p9.2 ⟨p0.1,0,none⟩ 0)).bind fun x20 =>
 (gL (rdC p9.2 ⟨p0.1,0,none⟩ 1)).bind fun gK =>
 (gL (rdC p9.2 ⟨p0.1,0,none⟩ 2)).bind fun fL =>
 (gL (rdC p9.2 ⟨p0.1,0,none⟩ 3)).bind fun kS =>
 (gL (rdC p9.2 ⟨p0.1,0,none⟩ 4)).bind fun ip =>
 (gL (rdC p9.2 ⟨p0.1,0,none⟩ 5)).bind fun jb =>
 (au Tryz.prog n 23 [(.agg #[(.string x20),(.slice gK.1 gK.2.1 gK.2.2),(.slice fL.1 fL.2.1 fL.2.2),(.slice kS.1 kS.2.1 kS.2.2),(.slice ip.1 ip.2.1 ip.2.2),(.slice jb.1 jb.2.1 jb.2.2)])] p9.2).bind fun p26 =>
 cond (f5 6 p26.1)
 ((gS (db 0 p26.1)).bind fun x27 =>
 (gL (db 1 p26.1)).bind fun p28 =>
 (gL (db 2 p26.1)).bind fun j8 =>
 (gL (db 3 p26.1)).bind fun p30 =>
 (gL (db 4 p26.1)).bind fun p31 =>
 (gL (db 5 p26.1)).bind fun p32 =>
 (N p26.2 [(.string x27),(.slice p28.1 p28.2.1 p28.2.2),(.slice j8.1 j8.2.1 j8.2.2),(.slice p30.1 p30.2.1 p30.2.2),(.slice p31.1 p31.2.1 p31.2.2),(.slice p32.1 p32.2.1 p32.2.2),(.slice none 0 0)] 0).bind fun p33 =>
 (gL (rdC p33.2 (Addr.add ⟨p0.1,0,none⟩ 1) 0)).bind fun t8 =>
 cond (cj 4096 (Int.ofNat t8.2.1))
 ((gS (rdC p33.2 (Addr.add ⟨p33.1,0,none⟩ 0) 0)).bind fun x35 =>
 (gL (rdC p33.2 (Addr.add ⟨p33.1,0,none⟩ 0) 1)).bind fun p36 =>
 (gL (rdC p33.2 (Addr.add ⟨p33.1,0,none⟩ 0) 2)).bind fun nI =>
 (gL (rdC p33.2 (Addr.add ⟨p33.1,0,none⟩ 0) 3)).bind fun p38 =>
 (gL (rdC p33.2 (Addr.add ⟨p33.1,0,none⟩ 0) 4)).bind fun p39 =>
 (gL (rdC p33.2 (Addr.add ⟨p33.1,0,none⟩ 0) 5)).bind fun p40 =>
 (di p33.2 ⟨p1.1,0,none⟩ [(.string x35),(.slice p36.1 p36.2.1 p36.2.2),(.slice nI.1 nI.2.1 nI.2.2),(.slice p38.1 p38.2.1 p38.2.2),(.slice p39.1 p39.2.1 p39.2.2),(.slice p40.1 p40.2.1 p40.2.2)]).bind fun x41 =>
 (di x41 ⟨p2.1,0,none⟩ [(.slice none 0 0)]).bind fun x42 =>
 (gS (rdC x42 ⟨p1.1,0,none⟩ 0)).bind fun x43 =>
 (gL (rdC x42 ⟨p1.1,0,none⟩ 1)).bind fun p44 =>
 (gL (rdC x42 ⟨p1.1,0,none⟩ 2)).bind fun p45 =>
 (gL (rdC x42 ⟨p1.1,0,none⟩ 3)).bind fun p46 =>
 (gL (rdC x42 ⟨p1.1,0,none⟩ 4)).bind fun p47 =>
 (gL (rdC x42 ⟨p1.1,0,none⟩ 5)).bind fun p48 =>
 (gL (rdC x42 ⟨p2.1,0,none⟩ 0)).bind fun p49 =>
 some (aj h x42 (.tuple #[(.agg #[(.string x43),(.slice p44.1 p44.2.1 p44.2.2),(.slice p45.1 p45.2.1 p45.2.2),(.slice p46.1 p46.2.1 p46.2.2),(.slice p47.1 p47.2.1 p47.2.2),(.slice p48.1 p48.2.1 p48.2.2)]),(.agg #[(.slice p49.1 p49.2.1 p49.2.2)])])))
 ((gL (rdC p33.2 (Addr.add ⟨p0.1,0,none⟩ 5) 0)).bind fun p50 =>
 (au Tryz.prog n 24 [(.slice p50.1 p50.2.1 p50.2.2),(Value.func (Fn.func 25) (List.toArray []) (List.toArray []))] p33.2).bind fun EI =>
 (gB (some EI.1)).bind fun b52 =>
 cond b52
 ((gS (rdC EI.2 (Addr.add ⟨p33.1,0,none⟩ 0) 0)).bind fun x53 =>
 (gL (rdC EI.2 (Addr.add ⟨p33.1,0,none⟩ 0) 1)).bind fun GR =>
 (gL (rdC EI.2 (Addr.add ⟨p33.1,0,none⟩ 0) 2)).bind fun GS =>
 (gL (rdC EI.2 (Addr.add ⟨p33.1,0,none⟩ 0) 3)).bind fun J9 =>
 (gL (rdC EI.2 (Addr.add ⟨p33.1,0,none⟩ 0) 4)).bind fun Ig =>
 (gL (rdC EI.2 (Addr.add ⟨p33.1,0,none⟩ 0) 5)).bind fun p58 =>
 (di EI.2 ⟨p1.1,0,none⟩ [(.string x53),(.slice GR.1 GR.2.1 GR.2.2),(.slice GS.1 GS.2.1 GS.2.2),(.slice J9.1 J9.2.1 J9.2.2),(.slice Ig.1 Ig.2.1 Ig.2.2),(.slice p58.1 p58.2.1 p58.2.2)]).bind fun x59 =>
 (di x59 ⟨p2.1,0,none⟩ [(.slice none 0 0)]).bind fun x60 =>
 (gS (rdC x60 ⟨p1.1,0,none⟩ 0)).bind fun x61 =>
 (gL (rdC x60 ⟨p1.1,0,none⟩ 1)).bind fun KS =>
 (gL (rdC x60 ⟨p1.1,0,none⟩ 2)).bind fun Hj =>
 (gL (rdC x60 ⟨p1.1,0,none⟩ 3)).bind fun p64 =>
 (gL (rdC x60 ⟨p1.1,0,none⟩ 4)).bind fun IZ =>
 (gL (rdC x60 ⟨p1.1,0,none⟩ 5)).bind fun KO =>
 (gL (rdC x60 ⟨p2.1,0,none⟩ 0)).bind fun FT =>
 some (aj h x60 (.tuple #[(.agg #[(.string x61),(.slice KS.1 KS.2.1 KS.2.2),(.slice Hj.1 Hj.2.1 Hj.2.2),(.slice p64.1 p64.2.1 p64.2.2),(.slice IZ.1 IZ.2.1 IZ.2.2),(.slice KO.1 KO.2.1 KO.2.2)]),(.agg #[(.slice FT.1 FT.2.1 FT.2.2)])])))
 (none)))
 (none)):=by kernel_rfl
end Go.Proofs.YtjdomdndflfjdaaGreatDoor.Kb
