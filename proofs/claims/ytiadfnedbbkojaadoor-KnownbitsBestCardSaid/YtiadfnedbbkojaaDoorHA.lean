/- Joined texts: HA. -/
import Derived.KernelRfl
import Derived.Test.YtiadfnedbbkojaaDoorYA
import Derived.Test.YtiadfnedbbkojaaDoorProg
namespace Go.Proofs.YtiadfnedbbkojaaDoor.Kb
open Go Go.Proofs Go.Proofs.YtiadfnedbbkojaaDoor Go.Proofs.YtiadfnedbbkojaaDoor.X
set_option maxRecDepth 100000
set_option linter.unusedVariables false
def p13 : List (List Nat × List Nat) := []
 noncomputable def t13Y (N : NewF) (n : Nat) (w_0 b_1a b_1b : Int) (h : AH) : Option (Go.Value × AH) := yrun Tryd.prog (runS Tryd.prog n) n p13 N (resY Tryd.prog n) 13 [(.int .i64 w_0), (.agg #[(.int .u64 b_1a), (.int .u64 b_1b)])] h
theorem t13_ok {n : Nat} {w_0 b_1a b_1b : Int} {h : AH} {r : Go.Value × AH} (hv : t13Y hNew n w_0 b_1a b_1b h = some r) : runS Tryd.prog (n + 1) 13 [(.int .i64 w_0), (.agg #[(.int .u64 b_1a), (.int .u64 b_1b)])] h = some r := yrun_ok hv
theorem t13 (N : NewF) (n : Nat) (w_0 b_1a b_1b : Int) (h : AH) : t13Y N n w_0 b_1a b_1b h =
 ((N (setLow h h.next) [(.int .u64 b_1a), (.int .u64 b_1b)] 0)).bind fun p0 =>
 ((gI .u64 (rdC p0.2 ⟨p0.1, 0, none⟩ 0))).bind fun n1 =>
 ((gI .u64 (rdC p0.2 ⟨p0.1, 0, none⟩ 1))).bind fun n2 =>
 ((runS Tryd.prog n 19 [(.int .i64 w_0), (.agg #[(.int .u64 n1), (.int .u64 n2)])] (setLow p0.2 p0.2.next))).bind fun p3 =>
 ((gB (some p3.1))).bind fun b4 =>
 cond (Nat.beq p3.2.low p0.2.next)
 (cond (Bool.not b4)
 (some (exitR h (setLow p3.2 p0.2.low) (.tuple #[(.int .u64 0), (.bool false)])))
 (((gI .u64 (rdC (setLow p3.2 p0.2.low) (Addr.add ⟨p0.1, 0, none⟩ 0) 0))).bind fun n5 =>
 ((gI .u64 (rdC (setLow p3.2 p0.2.low) (Addr.add ⟨p0.1, 0, none⟩ 1) 0))).bind fun n6 =>
 ((runS Tryd.prog n 36 [(.int .i64 w_0)] (setLow (setLow p3.2 p0.2.low) (setLow p3.2 p0.2.low).next))).bind fun p7 =>
 ((gI .u64 (some p7.1))).bind fun n8 =>
 cond (Nat.beq p7.2.low (setLow p3.2 p0.2.low).next)
 (cond (iNe (iOr .u64 n5 n6) n8)
 (some (exitR h (setLow p7.2 (setLow p3.2 p0.2.low).low) (.tuple #[(.int .u64 0), (.bool false)])))
 (((gI .u64 (rdC (setLow p7.2 (setLow p3.2 p0.2.low).low) (Addr.add ⟨p0.1, 0, none⟩ 1) 0))).bind fun n9 =>
 some (exitR h (setLow p7.2 (setLow p3.2 p0.2.low).low) (.tuple #[(.int .u64 n9), (.bool true)]))))
 (none)))
 (none) := by kernel_rfl
def p14 : List (List Nat × List Nat) := [([0, 1, 0, 1, 1], [0, 3, 4])]
section
variable (N : NewF) (n m0 : Nat) (h0 : AH) (w_0 m_3 i_4 : Int) (h : AH)
 noncomputable def c14_0 : Option (Go.Value × AH) := resY Tryd.prog n Tryd.f14 h0 (.head (subC (bodyC Tryd.f14) [1, 1, 0, 1, 0, 0]) [0, 1, 0, 1, 1] m0) [.block 0, .seq (subC (bodyC Tryd.f14) [1, 1, 1]) [1, 1, 1]] (E [(0, .int .i64 w_0), (3, .int .u64 m_3), (4, .int .i64 i_4)]) h
 noncomputable def c14_0Y : Option (Go.Value × AH) := yhead Tryd.prog (runS Tryd.prog n) n Tryd.f14 h0 p14 N (resY Tryd.prog n Tryd.f14 h0) (subC (bodyC Tryd.f14) [1, 1, 0, 1, 0, 0]) [0, 1, 0, 1, 1] m0 [.block 0, .seq (subC (bodyC Tryd.f14) [1, 1, 1]) [1, 1, 1]] (E [(0, .int .i64 w_0), (3, .int .u64 m_3), (4, .int .i64 i_4)]) h
variable {n m0} {h0} {w_0 m_3 i_4} {h}
theorem c14_0_ok {r : Go.Value × AH} (hv : c14_0Y hNew n m0 h0 w_0 m_3 i_4 h = some r) : c14_0 n (m0 + 1) h0 w_0 m_3 i_4 h = some r := yhead_ok hv
end
 noncomputable def t14Y (N : NewF) (n : Nat) (w_0 : Int) (h : AH) : Option (Go.Value × AH) := yrun Tryd.prog (runS Tryd.prog n) n p14 N (resY Tryd.prog n) 14 [(.int .i64 w_0)] h
theorem t14_ok {n : Nat} {w_0 : Int} {h : AH} {r : Go.Value × AH} (hv : t14Y hNew n w_0 h = some r) : runS Tryd.prog (n + 1) 14 [(.int .i64 w_0)] h = some r := yrun_ok hv
theorem t14 (N : NewF) (n : Nat) (w_0 : Int) (h : AH) : t14Y N n w_0 h =
 c14_0 n n h w_0 0 0 (setLow h h.next) := by kernel_rfl
theorem c14_0_eq (N : NewF) (n m0 : Nat) (h0 : AH) (w_0 m_3 i_4 : Int) (h : AH) : c14_0Y N n m0 h0 w_0 m_3 i_4 h =
 cond (iLt i_4 w_0)
 (c14_0 n m0 h0 w_0 (iAdd .u64 (mulS .u64 m_3 2) 1) (iAdd .i64 i_4 1) h)
 (some (exitR h0 h (.int .u64 m_3))) := by kernel_rfl
def p16 : List (List Nat × List Nat) := [([1, 1, 1, 1, 1], [0, 1, 2, 3, 11, 12])]
section
variable (N : NewF) (n : Nat) (h0 : AH) (op_0 w_1 : Int) (widths_2 : Option Addr) (widths_2n widths_2c : Nat) (args_3 : Option Addr) (args_3n args_3c : Nat) (a_11 b_12 : Int) (h : AH)
 noncomputable def c16_0 : Option (Go.Value × AH) := resY Tryd.prog n Tryd.f16 h0 (.code (subC (bodyC Tryd.f16) [1, 1, 1, 1, 1]) [1, 1, 1, 1, 1]) [] (E [(0, .int .i64 op_0), (1, .int .i64 w_1), (2, .slice widths_2 widths_2n widths_2c), (3, .slice args_3 args_3n args_3c), (11, .int .u64 a_11), (12, .int .u64 b_12)]) h
 noncomputable def c16_0Y : Option (Go.Value × AH) := yfrom Tryd.prog (runS Tryd.prog n) n Tryd.f16 h0 p16 N (resY Tryd.prog n Tryd.f16 h0) (subC (bodyC Tryd.f16) [1, 1, 1, 1, 1]) [1, 1, 1, 1, 1] [] (E [(0, .int .i64 op_0), (1, .int .i64 w_1), (2, .slice widths_2 widths_2n widths_2c), (3, .slice args_3 args_3n args_3c), (11, .int .u64 a_11), (12, .int .u64 b_12)]) h
variable {n} {h0} {op_0 w_1 widths_2 widths_2n widths_2c args_3 args_3n args_3c a_11 b_12} {h}
theorem c16_0_ok {r : Go.Value × AH} (hv : c16_0Y hNew n h0 op_0 w_1 widths_2 widths_2n widths_2c args_3 args_3n args_3c a_11 b_12 h = some r) : c16_0 n h0 op_0 w_1 widths_2 widths_2n widths_2c args_3 args_3n args_3c a_11 b_12 h = some r := yfrom_ok hv
end
 noncomputable def t16Y (N : NewF) (n : Nat) (op_0 w_1 : Int) (widths_2 : Option Addr) (widths_2n widths_2c : Nat) (args_3 : Option Addr) (args_3n args_3c : Nat) (num_4 : Int) (h : AH) : Option (Go.Value × AH) := yrun Tryd.prog (runS Tryd.prog n) n p16 N (resY Tryd.prog n) 16 [(.int .i64 op_0), (.int .i64 w_1), (.slice widths_2 widths_2n widths_2c), (.slice args_3 args_3n args_3c), (.int .u64 num_4)] h
theorem t16_ok {n : Nat} {op_0 w_1 : Int} {widths_2 : Option Addr} {widths_2n widths_2c : Nat} {args_3 : Option Addr} {args_3n args_3c : Nat} {num_4 : Int} {h : AH} {r : Go.Value × AH} (hv : t16Y hNew n op_0 w_1 widths_2 widths_2n widths_2c args_3 args_3n args_3c num_4 h = some r) : runS Tryd.prog (n + 1) 16 [(.int .i64 op_0), (.int .i64 w_1), (.slice widths_2 widths_2n widths_2c), (.slice args_3 args_3n args_3c), (.int .u64 num_4)] h = some r := yrun_ok hv
theorem t16 (N : NewF) (n : Nat) (op_0 w_1 : Int) (widths_2 : Option Addr) (widths_2n widths_2c : Nat) (args_3 : Option Addr) (args_3n args_3c : Nat) (num_4 : Int) (h : AH) : t16Y N n op_0 w_1 widths_2 widths_2n widths_2c args_3 args_3n args_3c num_4 h =
 cond (iEq op_0 1)
 (((runS Tryd.prog n 14 [(.int .i64 w_1)] (setLow h h.next))).bind fun p0 =>
 ((gI .u64 (some p0.1))).bind fun n1 =>
 some (exitR h p0.2 (.int .u64 (iAnd .u64 num_4 n1))))
 ((args_3).bind fun a2 =>
 cond (inB 0 args_3n)
 (((gI .u64 (rdC (setLow h h.next) (Addr.add a2 0) 0))).bind fun n3 =>
 cond (iLt 1 (Int.ofNat args_3n))
 ((args_3).bind fun a4 =>
 cond (inB 1 args_3n)
 (((gI .u64 (rdC (setLow h h.next) (Addr.add a4 1) 0))).bind fun n5 =>
 c16_0 n h op_0 w_1 widths_2 widths_2n widths_2c args_3 args_3n args_3c n3 n5 (setLow h h.next))
 (none))
 (c16_0 n h op_0 w_1 widths_2 widths_2n widths_2c args_3 args_3n args_3c n3 0 (setLow h h.next)))
 (none)) := by kernel_rfl
theorem c16_0_eq (N : NewF) (n  : Nat) (h0 : AH) (op_0 w_1 : Int) (widths_2 : Option Addr) (widths_2n widths_2c : Nat) (args_3 : Option Addr) (args_3n args_3c : Nat) (a_11 b_12 : Int) (h : AH) : c16_0Y N n  h0 op_0 w_1 widths_2 widths_2n widths_2c args_3 args_3n args_3c a_11 b_12 h =
 cond (iEq op_0 2)
 (((runS Tryd.prog n 14 [(.int .i64 w_1)] h)).bind fun p0 =>
 ((gI .u64 (some p0.1))).bind fun n1 =>
 some (exitR h0 p0.2 (.int .u64 (iAnd .u64 (iAdd .u64 a_11 b_12) n1))))
 (cond (iEq op_0 3)
 (((runS Tryd.prog n 14 [(.int .i64 w_1)] h)).bind fun p2 =>
 ((gI .u64 (some p2.1))).bind fun n3 =>
 some (exitR h0 p2.2 (.int .u64 (iAnd .u64 (iSub .u64 a_11 b_12) n3))))
 (cond (iEq op_0 4)
 (((runS Tryd.prog n 14 [(.int .i64 w_1)] h)).bind fun p4 =>
 ((gI .u64 (some p4.1))).bind fun n5 =>
 some (exitR h0 p4.2 (.int .u64 (iAnd .u64 (mulS .u64 a_11 b_12) n5))))
 (cond (iEq op_0 5)
 (cond (iEq b_12 0)
 (((runS Tryd.prog n 14 [(.int .i64 w_1)] h)).bind fun p6 =>
 ((gI .u64 (some p6.1))).bind fun n7 =>
 some (exitR h0 p6.2 (.int .u64 n7)))
 (cond (iEq b_12 0)
 (none)
 (some (exitR h0 h (.int .u64 (iQuo .u64 a_11 b_12))))))
 (cond (iEq op_0 6)
 (cond (iEq b_12 0)
 (some (exitR h0 h (.int .u64 a_11)))
 (cond (iEq b_12 0)
 (none)
 (some (exitR h0 h (.int .u64 (iRem .u64 a_11 b_12))))))
 (cond (iEq op_0 7)
 (((runS Tryd.prog n 52 [(.int .i64 w_1), (.int .u64 a_11), (.int .u64 b_12)] h)).bind fun p8 =>
 cond (tupIs 2 p8.1)
 (((gI .u64 (tupC 0 p8.1))).bind fun n9 =>
 ((gI .u64 (tupC 1 p8.1))).bind fun n10 =>
 some (exitR h0 p8.2 (.int .u64 n9)))
 (none))
 (cond (iEq op_0 8)
 (((runS Tryd.prog n 52 [(.int .i64 w_1), (.int .u64 a_11), (.int .u64 b_12)] h)).bind fun p11 =>
 cond (tupIs 2 p11.1)
 (((gI .u64 (tupC 0 p11.1))).bind fun n12 =>
 ((gI .u64 (tupC 1 p11.1))).bind fun n13 =>
 some (exitR h0 p11.2 (.int .u64 n13)))
 (none))
 (cond (iEq op_0 9)
 (some (exitR h0 h (.int .u64 (iAnd .u64 a_11 b_12))))
 (cond (iEq op_0 10)
 (some (exitR h0 h (.int .u64 (iOr .u64 a_11 b_12))))
 (cond (iEq op_0 11)
 (some (exitR h0 h (.int .u64 (iXor .u64 a_11 b_12))))
 (cond (iEq op_0 12)
 (cond (iLe (iConv .u64 w_1) b_12)
 (some (exitR h0 h (.int .u64 0)))
 (cond (iLt b_12 0)
 (none)
 (((runS Tryd.prog n 14 [(.int .i64 w_1)] h)).bind fun p14 =>
 ((gI .u64 (some p14.1))).bind fun n15 =>
 some (exitR h0 p14.2 (.int .u64 (iAnd .u64 (iShl .u64 a_11 b_12) n15))))))
 (cond (iEq op_0 13)
 (((runS Tryd.prog n 53 [(.int .i64 w_1), (.int .u64 a_11), (.int .u64 b_12), (.int .i64 0)] h)).bind fun p16 =>
 ((gI .u64 (some p16.1))).bind fun n17 =>
 some (exitR h0 p16.2 (.int .u64 n17)))
 (cond (iEq op_0 14)
 (((runS Tryd.prog n 54 [(.int .u64 a_11), (.int .i64 (iSub .i64 w_1 1))] h)).bind fun p18 =>
 ((gI .i64 (some p18.1))).bind fun n19 =>
 ((runS Tryd.prog n 53 [(.int .i64 w_1), (.int .u64 a_11), (.int .u64 b_12), (.int .i64 n19)] p18.2)).bind fun p20 =>
 ((gI .u64 (some p20.1))).bind fun n21 =>
 some (exitR h0 p20.2 (.int .u64 n21)))
 (cond (iEq op_0 15)
 (((runS Tryd.prog n 55 [(.bool (iEq a_11 b_12))] h)).bind fun p22 =>
 ((gI .u64 (some p22.1))).bind fun n23 =>
 some (exitR h0 p22.2 (.int .u64 n23)))
 (cond (iEq op_0 16)
 (((runS Tryd.prog n 55 [(.bool (iNe a_11 b_12))] h)).bind fun p24 =>
 ((gI .u64 (some p24.1))).bind fun n25 =>
 some (exitR h0 p24.2 (.int .u64 n25)))
 (cond (iEq op_0 17)
 (((runS Tryd.prog n 55 [(.bool (iLt a_11 b_12))] h)).bind fun p26 =>
 ((gI .u64 (some p26.1))).bind fun n27 =>
 some (exitR h0 p26.2 (.int .u64 n27)))
 (cond (iEq op_0 18)
 (((runS Tryd.prog n 55 [(.bool (iLe a_11 b_12))] h)).bind fun p28 =>
 ((gI .u64 (some p28.1))).bind fun n29 =>
 some (exitR h0 p28.2 (.int .u64 n29)))
 (cond (iEq op_0 19)
 ((widths_2).bind fun a30 =>
 cond (inB 0 widths_2n)
 (((gI .i64 (rdC h (Addr.add a30 0) 0))).bind fun n31 =>
 ((runS Tryd.prog n 56 [(.int .i64 n31), (.int .u64 a_11)] (setLow h h.next))).bind fun p32 =>
 ((gI .i64 (some p32.1))).bind fun n33 =>
 cond (Nat.beq p32.2.low h.next)
 ((widths_2).bind fun a34 =>
 cond (inB 1 widths_2n)
 (((gI .i64 (rdC (setLow p32.2 h.low) (Addr.add a34 1) 0))).bind fun n35 =>
 ((runS Tryd.prog n 56 [(.int .i64 n35), (.int .u64 b_12)] (setLow p32.2 h.low))).bind fun p36 =>
 ((gI .i64 (some p36.1))).bind fun n37 =>
 ((runS Tryd.prog n 55 [(.bool (iLt n33 n37))] p36.2)).bind fun p38 =>
 ((gI .u64 (some p38.1))).bind fun n39 =>
 some (exitR h0 p38.2 (.int .u64 n39)))
 (none))
 (none))
 (none))
 (cond (iEq op_0 20)
 ((widths_2).bind fun a40 =>
 cond (inB 0 widths_2n)
 (((gI .i64 (rdC h (Addr.add a40 0) 0))).bind fun n41 =>
 ((runS Tryd.prog n 56 [(.int .i64 n41), (.int .u64 a_11)] (setLow h h.next))).bind fun p42 =>
 ((gI .i64 (some p42.1))).bind fun n43 =>
 cond (Nat.beq p42.2.low h.next)
 ((widths_2).bind fun a44 =>
 cond (inB 1 widths_2n)
 (((gI .i64 (rdC (setLow p42.2 h.low) (Addr.add a44 1) 0))).bind fun n45 =>
 ((runS Tryd.prog n 56 [(.int .i64 n45), (.int .u64 b_12)] (setLow p42.2 h.low))).bind fun p46 =>
 ((gI .i64 (some p46.1))).bind fun n47 =>
 ((runS Tryd.prog n 55 [(.bool (iLe n43 n47))] p46.2)).bind fun p48 =>
 ((gI .u64 (some p48.1))).bind fun n49 =>
 some (exitR h0 p48.2 (.int .u64 n49)))
 (none))
 (none))
 (none))
 (cond (iEq op_0 21)
 (cond (iEq a_11 1)
 (some (exitR h0 h (.int .u64 b_12)))
 ((args_3).bind fun a50 =>
 cond (inB 2 args_3n)
 (((gI .u64 (rdC h (Addr.add a50 2) 0))).bind fun n51 =>
 some (exitR h0 h (.int .u64 n51)))
 (none)))
 (cond (iEq op_0 23)
 ((widths_2).bind fun a52 =>
 cond (inB 0 widths_2n)
 (((gI .i64 (rdC h (Addr.add a52 0) 0))).bind fun n53 =>
 ((runS Tryd.prog n 56 [(.int .i64 n53), (.int .u64 a_11)] h)).bind fun p54 =>
 ((gI .i64 (some p54.1))).bind fun n55 =>
 ((runS Tryd.prog n 14 [(.int .i64 w_1)] p54.2)).bind fun p56 =>
 ((gI .u64 (some p56.1))).bind fun n57 =>
 some (exitR h0 p56.2 (.int .u64 (iAnd .u64 (iConv .u64 n55) n57))))
 (none))
 (((runS Tryd.prog n 14 [(.int .i64 w_1)] h)).bind fun p58 =>
 ((gI .u64 (some p58.1))).bind fun n59 =>
 some (exitR h0 p58.2 (.int .u64 (iAnd .u64 a_11 n59)))))))))))))))))))))))) := by kernel_rfl
def p18 : List (List Nat × List Nat) := []
 noncomputable def t18Y (N : NewF) (n : Nat) (w_0 n_1 : Int) (h : AH) : Option (Go.Value × AH) := yrun Tryd.prog (runS Tryd.prog n) n p18 N (resY Tryd.prog n) 18 [(.int .i64 w_0), (.int .u64 n_1)] h
theorem t18_ok {n : Nat} {w_0 n_1 : Int} {h : AH} {r : Go.Value × AH} (hv : t18Y hNew n w_0 n_1 h = some r) : runS Tryd.prog (n + 1) 18 [(.int .i64 w_0), (.int .u64 n_1)] h = some r := yrun_ok hv
theorem t18 (N : NewF) (n : Nat) (w_0 n_1 : Int) (h : AH) : t18Y N n w_0 n_1 h =
 ((N (setLow h h.next) [(.int .u64 0), (.int .u64 0)] 0)).bind fun p0 =>
 ((runS Tryd.prog n 57 [(.int .i64 w_0)] p0.2)).bind fun p1 =>
 ((gB (some p1.1))).bind fun b2 =>
 cond (Bool.not b2)
 (((stL p1.2 ⟨p0.1, 0, none⟩ [(.int .u64 0), (.int .u64 0)])).bind fun x3 =>
 ((gI .u64 (rdC x3 ⟨p0.1, 0, none⟩ 0))).bind fun n4 =>
 ((gI .u64 (rdC x3 ⟨p0.1, 0, none⟩ 1))).bind fun n5 =>
 some (exitR h x3 (.agg #[(.int .u64 n4), (.int .u64 n5)])))
 (((runS Tryd.prog n 36 [(.int .i64 w_0)] p1.2)).bind fun p6 =>
 ((gI .u64 (some p6.1))).bind fun n7 =>
 ((runS Tryd.prog n 36 [(.int .i64 w_0)] p6.2)).bind fun p8 =>
 ((gI .u64 (some p8.1))).bind fun n9 =>
 ((stL p8.2 ⟨p0.1, 0, none⟩ [(.int .u64 (iAnd .u64 (iNot .u64 n_1) n7)), (.int .u64 (iAnd .u64 n_1 n9))])).bind fun x10 =>
 ((gI .u64 (rdC x10 ⟨p0.1, 0, none⟩ 0))).bind fun n11 =>
 ((gI .u64 (rdC x10 ⟨p0.1, 0, none⟩ 1))).bind fun n12 =>
 some (exitR h x10 (.agg #[(.int .u64 n11), (.int .u64 n12)]))) := by kernel_rfl
def p19 : List (List Nat × List Nat) := []
 noncomputable def t19Y (N : NewF) (n : Nat) (w_0 b_1a b_1b : Int) (h : AH) : Option (Go.Value × AH) := yrun Tryd.prog (runS Tryd.prog n) n p19 N (resY Tryd.prog n) 19 [(.int .i64 w_0), (.agg #[(.int .u64 b_1a), (.int .u64 b_1b)])] h
theorem t19_ok {n : Nat} {w_0 b_1a b_1b : Int} {h : AH} {r : Go.Value × AH} (hv : t19Y hNew n w_0 b_1a b_1b h = some r) : runS Tryd.prog (n + 1) 19 [(.int .i64 w_0), (.agg #[(.int .u64 b_1a), (.int .u64 b_1b)])] h = some r := yrun_ok hv
theorem t19 (N : NewF) (n : Nat) (w_0 b_1a b_1b : Int) (h : AH) : t19Y N n w_0 b_1a b_1b h =
 ((N (setLow h h.next) [(.int .u64 b_1a), (.int .u64 b_1b)] 0)).bind fun p0 =>
 ((runS Tryd.prog n 57 [(.int .i64 w_0)] (setLow p0.2 p0.2.next))).bind fun p1 =>
 ((gB (some p1.1))).bind fun b2 =>
 cond (Nat.beq p1.2.low p0.2.next)
 (cond b2
 (((gI .u64 (rdC (setLow p1.2 p0.2.low) (Addr.add ⟨p0.1, 0, none⟩ 0) 0))).bind fun n3 =>
 ((gI .u64 (rdC (setLow p1.2 p0.2.low) (Addr.add ⟨p0.1, 0, none⟩ 1) 0))).bind fun n4 =>
 ((runS Tryd.prog n 36 [(.int .i64 w_0)] (setLow (setLow p1.2 p0.2.low) (setLow p1.2 p0.2.low).next))).bind fun p5 =>
 ((gI .u64 (some p5.1))).bind fun n6 =>
 cond (Nat.beq p5.2.low (setLow p1.2 p0.2.low).next)
 (cond (iEq (iAndNot .u64 (iOr .u64 n3 n4) n6) 0)
 (((gI .u64 (rdC (setLow p5.2 (setLow p1.2 p0.2.low).low) (Addr.add ⟨p0.1, 0, none⟩ 0) 0))).bind fun n7 =>
 ((gI .u64 (rdC (setLow p5.2 (setLow p1.2 p0.2.low).low) (Addr.add ⟨p0.1, 0, none⟩ 1) 0))).bind fun n8 =>
 some (exitR h (setLow p5.2 (setLow p1.2 p0.2.low).low) (.bool (iEq (iAnd .u64 n7 n8) 0))))
 (some (exitR h (setLow p5.2 (setLow p1.2 p0.2.low).low) (.bool false))))
 (none))
 (some (exitR h (setLow p1.2 p0.2.low) (.bool false))))
 (none) := by kernel_rfl
def p20 : List (List Nat × List Nat) := []
 noncomputable def t20Y (N : NewF) (n : Nat) (b_0a b_0b n_1 : Int) (h : AH) : Option (Go.Value × AH) := yrun Tryd.prog (runS Tryd.prog n) n p20 N (resY Tryd.prog n) 20 [(.agg #[(.int .u64 b_0a), (.int .u64 b_0b)]), (.int .u64 n_1)] h
theorem t20_ok {n : Nat} {b_0a b_0b n_1 : Int} {h : AH} {r : Go.Value × AH} (hv : t20Y hNew n b_0a b_0b n_1 h = some r) : runS Tryd.prog (n + 1) 20 [(.agg #[(.int .u64 b_0a), (.int .u64 b_0b)]), (.int .u64 n_1)] h = some r := yrun_ok hv
theorem t20 (N : NewF) (n : Nat) (b_0a b_0b n_1 : Int) (h : AH) : t20Y N n b_0a b_0b n_1 h =
 ((N (setLow h h.next) [(.int .u64 b_0a), (.int .u64 b_0b)] 0)).bind fun p0 =>
 ((gI .u64 (rdC p0.2 (Addr.add ⟨p0.1, 0, none⟩ 0) 0))).bind fun n1 =>
 cond (iEq (iAnd .u64 n_1 n1) 0)
 (((gI .u64 (rdC p0.2 (Addr.add ⟨p0.1, 0, none⟩ 1) 0))).bind fun n2 =>
 ((gI .u64 (rdC p0.2 (Addr.add ⟨p0.1, 0, none⟩ 1) 0))).bind fun n3 =>
 some (exitR h p0.2 (.bool (iEq (iAnd .u64 n_1 n2) n3))))
 (some (exitR h p0.2 (.bool false))) := by kernel_rfl
def p36 : List (List Nat × List Nat) := []
 noncomputable def t36Y (N : NewF) (n : Nat) (w_0 : Int) (h : AH) : Option (Go.Value × AH) := yrun Tryd.prog (runS Tryd.prog n) n p36 N (resY Tryd.prog n) 36 [(.int .i64 w_0)] h
theorem t36_ok {n : Nat} {w_0 : Int} {h : AH} {r : Go.Value × AH} (hv : t36Y hNew n w_0 h = some r) : runS Tryd.prog (n + 1) 36 [(.int .i64 w_0)] h = some r := yrun_ok hv
theorem t36 (N : NewF) (n : Nat) (w_0 : Int) (h : AH) : t36Y N n w_0 h =
 cond (iLe 64 w_0)
 (some (exitR h (setLow h h.next) (.int .u64 18446744073709551615)))
 (cond (iLt (iMax w_0 0) 0)
 (none)
 (some (exitR h (setLow h h.next) (.int .u64 (iSub .u64 (iShl .u64 1 (iMax w_0 0)) 1))))) := by kernel_rfl
def p48 : List (List Nat × List Nat) := [([1, 1], [1, 2, 3, 6])]
section
variable (N : NewF) (n : Nat) (h0 : AH) (i_1 v_2 : Int) (b_3 t_6 : Addr) (h : AH)
 noncomputable def c48_0 : Option (Go.Value × AH) := resY Tryd.prog n Tryd.f48 h0 (.code (subC (bodyC Tryd.f48) [1, 1]) [1, 1]) [] (E [(1, .int .i64 i_1), (2, .int .i64 v_2), (3, .pointer (some b_3)), (6, .pointer (some t_6))]) h
 noncomputable def c48_0Y : Option (Go.Value × AH) := yfrom Tryd.prog (runS Tryd.prog n) n Tryd.f48 h0 p48 N (resY Tryd.prog n Tryd.f48 h0) (subC (bodyC Tryd.f48) [1, 1]) [1, 1] [] (E [(1, .int .i64 i_1), (2, .int .i64 v_2), (3, .pointer (some b_3)), (6, .pointer (some t_6))]) h
variable {n} {h0} {i_1 v_2 b_3 t_6} {h}
theorem c48_0_ok {r : Go.Value × AH} (hv : c48_0Y hNew n h0 i_1 v_2 b_3 t_6 h = some r) : c48_0 n h0 i_1 v_2 b_3 t_6 h = some r := yfrom_ok hv
end
 noncomputable def t48Y (N : NewF) (n : Nat) (b_0a b_0b i_1 v_2 : Int) (h : AH) : Option (Go.Value × AH) := yrun Tryd.prog (runS Tryd.prog n) n p48 N (resY Tryd.prog n) 48 [(.agg #[(.int .u64 b_0a), (.int .u64 b_0b)]), (.int .i64 i_1), (.int .i64 v_2)] h
theorem t48_ok {n : Nat} {b_0a b_0b i_1 v_2 : Int} {h : AH} {r : Go.Value × AH} (hv : t48Y hNew n b_0a b_0b i_1 v_2 h = some r) : runS Tryd.prog (n + 1) 48 [(.agg #[(.int .u64 b_0a), (.int .u64 b_0b)]), (.int .i64 i_1), (.int .i64 v_2)] h = some r := yrun_ok hv
theorem t48 (N : NewF) (n : Nat) (b_0a b_0b i_1 v_2 : Int) (h : AH) : t48Y N n b_0a b_0b i_1 v_2 h =
 ((N (setLow h h.next) [(.int .u64 b_0a), (.int .u64 b_0b)] 0)).bind fun p0 =>
 ((N p0.2 [(.int .u64 0), (.int .u64 0)] 0)).bind fun p1 =>
 cond (iEq v_2 1)
 (((gI .u64 (rdC p1.2 (Addr.add ⟨p0.1, 0, none⟩ 1) 0))).bind fun n2 =>
 cond (iLt i_1 0)
 (none)
 (((stL p1.2 (Addr.add ⟨p0.1, 0, none⟩ 1) [(.int .u64 (iOr .u64 n2 (iShl .u64 1 i_1)))])).bind fun x3 =>
 c48_0 n h i_1 v_2 ⟨p0.1, 0, none⟩ ⟨p1.1, 0, none⟩ x3))
 (c48_0 n h i_1 v_2 ⟨p0.1, 0, none⟩ ⟨p1.1, 0, none⟩ p1.2) := by kernel_rfl
theorem c48_0_eq (N : NewF) (n  : Nat) (h0 : AH) (i_1 v_2 : Int) (b_3 t_6 : Addr) (h : AH) : c48_0Y N n  h0 i_1 v_2 b_3 t_6 h =
 cond (iEq v_2 0)
 (((gI .u64 (rdC h (Addr.add b_3 0) 0))).bind fun n0 =>
 cond (iLt i_1 0)
 (none)
 (((stL h (Addr.add b_3 0) [(.int .u64 (iOr .u64 n0 (iShl .u64 1 i_1)))])).bind fun x1 =>
 ((gI .u64 (rdC x1 b_3 0))).bind fun n2 =>
 ((gI .u64 (rdC x1 b_3 1))).bind fun n3 =>
 ((stL x1 t_6 [(.int .u64 n2), (.int .u64 n3)])).bind fun x4 =>
 ((gI .u64 (rdC x4 t_6 0))).bind fun n5 =>
 ((gI .u64 (rdC x4 t_6 1))).bind fun n6 =>
 some (exitR h0 x4 (.agg #[(.int .u64 n5), (.int .u64 n6)]))))
 (((gI .u64 (rdC h b_3 0))).bind fun n7 =>
 ((gI .u64 (rdC h b_3 1))).bind fun n8 =>
 ((stL h t_6 [(.int .u64 n7), (.int .u64 n8)])).bind fun x9 =>
 ((gI .u64 (rdC x9 t_6 0))).bind fun n10 =>
 ((gI .u64 (rdC x9 t_6 1))).bind fun n11 =>
 some (exitR h0 x9 (.agg #[(.int .u64 n10), (.int .u64 n11)]))) := by kernel_rfl
def p49 : List (List Nat × List Nat) := []
 noncomputable def t49Y (N : NewF) (n : Nat) (b_0a b_0b i_1 : Int) (h : AH) : Option (Go.Value × AH) := yrun Tryd.prog (runS Tryd.prog n) n p49 N (resY Tryd.prog n) 49 [(.agg #[(.int .u64 b_0a), (.int .u64 b_0b)]), (.int .i64 i_1)] h
theorem t49_ok {n : Nat} {b_0a b_0b i_1 : Int} {h : AH} {r : Go.Value × AH} (hv : t49Y hNew n b_0a b_0b i_1 h = some r) : runS Tryd.prog (n + 1) 49 [(.agg #[(.int .u64 b_0a), (.int .u64 b_0b)]), (.int .i64 i_1)] h = some r := yrun_ok hv
theorem t49 (N : NewF) (n : Nat) (b_0a b_0b i_1 : Int) (h : AH) : t49Y N n b_0a b_0b i_1 h =
 ((N (setLow h h.next) [(.int .u64 b_0a), (.int .u64 b_0b)] 0)).bind fun p0 =>
 ((gI .u64 (rdC p0.2 (Addr.add ⟨p0.1, 0, none⟩ 1) 0))).bind fun n1 =>
 ((runS Tryd.prog n 54 [(.int .u64 n1), (.int .i64 i_1)] p0.2)).bind fun p2 =>
 ((gI .i64 (some p2.1))).bind fun n3 =>
 cond (iEq n3 1)
 (some (exitR h p2.2 (.int .i64 1)))
 (((gI .u64 (rdC p2.2 (Addr.add ⟨p0.1, 0, none⟩ 0) 0))).bind fun n4 =>
 ((runS Tryd.prog n 54 [(.int .u64 n4), (.int .i64 i_1)] p2.2)).bind fun p5 =>
 ((gI .i64 (some p5.1))).bind fun n6 =>
 cond (iEq n6 1)
 (some (exitR h p5.2 (.int .i64 0)))
 (some (exitR h p5.2 (.int .i64 (-1))))) := by kernel_rfl
def p57 : List (List Nat × List Nat) := []
 noncomputable def t57Y (N : NewF) (n : Nat) (w_0 : Int) (h : AH) : Option (Go.Value × AH) := yrun Tryd.prog (runS Tryd.prog n) n p57 N (resY Tryd.prog n) 57 [(.int .i64 w_0)] h
theorem t57_ok {n : Nat} {w_0 : Int} {h : AH} {r : Go.Value × AH} (hv : t57Y hNew n w_0 h = some r) : runS Tryd.prog (n + 1) 57 [(.int .i64 w_0)] h = some r := yrun_ok hv
theorem t57 (N : NewF) (n : Nat) (w_0 : Int) (h : AH) : t57Y N n w_0 h =
 cond (iLe 1 w_0)
 (some (exitR h (setLow h h.next) (.bool (iLe w_0 64))))
 (some (exitR h (setLow h h.next) (.bool false))) := by kernel_rfl
def p15 : List (List Nat × List Nat) := [([0, 1, 0, 1, 1], [0, 3, 5, 6])]
section
variable (N : NewF) (n m0 : Nat) (h0 : AH) (w_0 : Int) (b_3 : Addr) (out_5 : Option Addr) (out_5n out_5c : Nat) (n_6 : Int) (h : AH)
 noncomputable def c15_0 : Option (Go.Value × AH) := resY Tryd.prog n Tryd.f15 h0 (.head (subC (bodyC Tryd.f15) [1, 1, 0, 1, 0, 0]) [0, 1, 0, 1, 1] m0) [.block 0, .seq (subC (bodyC Tryd.f15) [1, 1, 1]) [1, 1, 1]] (E [(0, .int .i64 w_0), (3, .pointer (some b_3)), (5, .slice out_5 out_5n out_5c), (6, .int .u64 n_6)]) h
 noncomputable def c15_0Y : Option (Go.Value × AH) := yhead Tryd.prog (runS Tryd.prog n) n Tryd.f15 h0 p15 N (resY Tryd.prog n Tryd.f15 h0) (subC (bodyC Tryd.f15) [1, 1, 0, 1, 0, 0]) [0, 1, 0, 1, 1] m0 [.block 0, .seq (subC (bodyC Tryd.f15) [1, 1, 1]) [1, 1, 1]] (E [(0, .int .i64 w_0), (3, .pointer (some b_3)), (5, .slice out_5 out_5n out_5c), (6, .int .u64 n_6)]) h
variable {n m0} {h0} {w_0 b_3 out_5 out_5n out_5c n_6} {h}
theorem c15_0_ok {r : Go.Value × AH} (hv : c15_0Y hNew n m0 h0 w_0 b_3 out_5 out_5n out_5c n_6 h = some r) : c15_0 n (m0 + 1) h0 w_0 b_3 out_5 out_5n out_5c n_6 h = some r := yhead_ok hv
end
 noncomputable def t15Y (N : NewF) (n : Nat) (w_0 b_1a b_1b : Int) (h : AH) : Option (Go.Value × AH) := yrun Tryd.prog (runS Tryd.prog n) n p15 N (resY Tryd.prog n) 15 [(.int .i64 w_0), (.agg #[(.int .u64 b_1a), (.int .u64 b_1b)])] h
theorem t15_ok {n : Nat} {w_0 b_1a b_1b : Int} {h : AH} {r : Go.Value × AH} (hv : t15Y hNew n w_0 b_1a b_1b h = some r) : runS Tryd.prog (n + 1) 15 [(.int .i64 w_0), (.agg #[(.int .u64 b_1a), (.int .u64 b_1b)])] h = some r := yrun_ok hv
theorem t15 (N : NewF) (n : Nat) (w_0 b_1a b_1b : Int) (h : AH) : t15Y N n w_0 b_1a b_1b h =
 ((N (setLow h h.next) [(.int .u64 b_1a), (.int .u64 b_1b)] 0)).bind fun p0 =>
 c15_0 n n h w_0 ⟨p0.1, 0, none⟩ none 0 0 0 p0.2 := by kernel_rfl
theorem c15_0_eq (N : NewF) (n m0 : Nat) (h0 : AH) (w_0 : Int) (b_3 : Addr) (out_5 : Option Addr) (out_5n out_5c : Nat) (n_6 : Int) (h : AH) : c15_0Y N n m0 h0 w_0 b_3 out_5 out_5n out_5c n_6 h =
 cond (iLt w_0 0)
 (none)
 (cond (iLt n_6 (iShl .u64 1 w_0))
 (((gI .u64 (rdC h b_3 0))).bind fun n0 =>
 ((gI .u64 (rdC h b_3 1))).bind fun n1 =>
 ((runS Tryd.prog n 51 [(.agg #[(.int .u64 n0), (.int .u64 n1)]), (.int .u64 n_6)] h)).bind fun p2 =>
 ((gB (some p2.1))).bind fun b3 =>
 cond b3
 (((N p2.2 [(.int .u64 n_6)] 1)).bind fun p4 =>
 ((appL 1 8 (.slice out_5 out_5n out_5c) (.slice (some ⟨p4.1, 0, none⟩) 1 1) p4.2)).bind fun p5 =>
 c15_0 n m0 h0 w_0 b_3 p5.1.1 p5.1.2.1 p5.1.2.2 (iAdd .u64 n_6 1) p5.2)
 (c15_0 n m0 h0 w_0 b_3 out_5 out_5n out_5c (iAdd .u64 n_6 1) p2.2))
 (some (exitR h0 h (.slice out_5 out_5n out_5c)))) := by kernel_rfl
end Go.Proofs.YtiadfnedbbkojaaDoor.Kb
namespace Go.Proofs.YtiadfnedbbkojaaDoor.Kb
open Go Go.Proofs Go.Proofs.YtiadfnedbbkojaaDoor Go.Proofs.YtiadfnedbbkojaaDoor.X
set_option maxRecDepth 100000
set_option linter.unusedVariables false
def p17 : List (List Nat × List Nat) := [([1, 1], [0, 1, 2]), ([0, 1, 0, 1, 1], [0, 1, 2, 7]), ([0, 1, 1, 1, 0, 0, 1, 1, 1, 1], [1, 2, 8]), ([1, 1, 1, 1, 0, 0, 1, 1, 1, 1], [0, 1, 2, 8]), ([0, 1, 1, 1, 1, 1, 0, 0, 1, 1, 1, 1], [1, 2, 8]), ([1, 1, 1, 1, 1, 1, 0, 0, 1, 1, 1, 1], [0, 1, 2, 8]), ([0, 1, 1, 1, 1, 1, 1, 1, 1, 1, 0, 0, 1, 1, 1, 1], [1, 2, 8]), ([1, 1, 1, 1, 1, 1, 1, 1, 1, 1, 0, 0, 1, 1, 1, 1], [0, 1, 2, 8])]
section
variable (N : NewF) (n : Nat) (h0 : AH) (op_0 w_1 : Int) (widths_2 : Option Addr) (widths_2n widths_2c : Nat) (h : AH)
 noncomputable def c17_0 : Option (Go.Value × AH) := resY Tryd.prog n Tryd.f17 h0 (.code (subC (bodyC Tryd.f17) [1, 1]) [1, 1]) [] (E [(0, .int .i64 op_0), (1, .int .i64 w_1), (2, .slice widths_2 widths_2n widths_2c)]) h
 noncomputable def c17_0Y : Option (Go.Value × AH) := yfrom Tryd.prog (runS Tryd.prog n) n Tryd.f17 h0 p17 N (resY Tryd.prog n Tryd.f17 h0) (subC (bodyC Tryd.f17) [1, 1]) [1, 1] [] (E [(0, .int .i64 op_0), (1, .int .i64 w_1), (2, .slice widths_2 widths_2n widths_2c)]) h
variable {n} {h0} {op_0 w_1 widths_2 widths_2n widths_2c} {h}
theorem c17_0_ok {r : Go.Value × AH} (hv : c17_0Y hNew n h0 op_0 w_1 widths_2 widths_2n widths_2c h = some r) : c17_0 n h0 op_0 w_1 widths_2 widths_2n widths_2c h = some r := yfrom_ok hv
end
section
variable (N : NewF) (n m0 : Nat) (h0 : AH) (op_0 w_1 : Int) (widths_2 : Option Addr) (widths_2n widths_2c : Nat) (i_7 : Int) (h : AH)
 noncomputable def c17_1 : Option (Go.Value × AH) := resY Tryd.prog n Tryd.f17 h0 (.head (subC (bodyC Tryd.f17) [1, 1, 0, 1, 0, 0]) [0, 1, 0, 1, 1] m0) [.block 0, .seq (subC (bodyC Tryd.f17) [1, 1, 1]) [1, 1, 1]] (E [(0, .int .i64 op_0), (1, .int .i64 w_1), (2, .slice widths_2 widths_2n widths_2c), (7, .int .i64 i_7)]) h
 noncomputable def c17_1Y : Option (Go.Value × AH) := yhead Tryd.prog (runS Tryd.prog n) n Tryd.f17 h0 p17 N (resY Tryd.prog n Tryd.f17 h0) (subC (bodyC Tryd.f17) [1, 1, 0, 1, 0, 0]) [0, 1, 0, 1, 1] m0 [.block 0, .seq (subC (bodyC Tryd.f17) [1, 1, 1]) [1, 1, 1]] (E [(0, .int .i64 op_0), (1, .int .i64 w_1), (2, .slice widths_2 widths_2n widths_2c), (7, .int .i64 i_7)]) h
variable {n m0} {h0} {op_0 w_1 widths_2 widths_2n widths_2c i_7} {h}
theorem c17_1_ok {r : Go.Value × AH} (hv : c17_1Y hNew n m0 h0 op_0 w_1 widths_2 widths_2n widths_2c i_7 h = some r) : c17_1 n (m0 + 1) h0 op_0 w_1 widths_2 widths_2n widths_2c i_7 h = some r := yhead_ok hv
end
section
variable (N : NewF) (n : Nat) (h0 : AH) (w_1 : Int) (widths_2 : Option Addr) (widths_2n widths_2c : Nat) (n_8 : Int) (h : AH)
 noncomputable def c17_2 : Option (Go.Value × AH) := resY Tryd.prog n Tryd.f17 h0 (.code (subC (bodyC Tryd.f17) [1, 1, 1, 1, 0, 0, 1, 1, 1, 0]) [0, 1, 1, 1, 0, 0, 1, 1, 1, 1]) [.block 2, .seq (subC (bodyC Tryd.f17) [1, 1, 1, 1, 1]) [1, 1, 1, 1, 1]] (E [(1, .int .i64 w_1), (2, .slice widths_2 widths_2n widths_2c), (8, .int .i64 n_8)]) h
 noncomputable def c17_2Y : Option (Go.Value × AH) := yfrom Tryd.prog (runS Tryd.prog n) n Tryd.f17 h0 p17 N (resY Tryd.prog n Tryd.f17 h0) (subC (bodyC Tryd.f17) [1, 1, 1, 1, 0, 0, 1, 1, 1, 0]) [0, 1, 1, 1, 0, 0, 1, 1, 1, 1] [.block 2, .seq (subC (bodyC Tryd.f17) [1, 1, 1, 1, 1]) [1, 1, 1, 1, 1]] (E [(1, .int .i64 w_1), (2, .slice widths_2 widths_2n widths_2c), (8, .int .i64 n_8)]) h
variable {n} {h0} {w_1 widths_2 widths_2n widths_2c n_8} {h}
theorem c17_2_ok {r : Go.Value × AH} (hv : c17_2Y hNew n h0 w_1 widths_2 widths_2n widths_2c n_8 h = some r) : c17_2 n h0 w_1 widths_2 widths_2n widths_2c n_8 h = some r := yfrom_ok hv
end
section
variable (N : NewF) (n : Nat) (h0 : AH) (op_0 w_1 : Int) (widths_2 : Option Addr) (widths_2n widths_2c : Nat) (n_8 : Int) (h : AH)
 noncomputable def c17_3 : Option (Go.Value × AH) := resY Tryd.prog n Tryd.f17 h0 (.code (subC (bodyC Tryd.f17) [1, 1, 1, 1, 0, 0, 1, 1, 1, 1]) [1, 1, 1, 1, 0, 0, 1, 1, 1, 1]) [.block 2, .seq (subC (bodyC Tryd.f17) [1, 1, 1, 1, 1]) [1, 1, 1, 1, 1]] (E [(0, .int .i64 op_0), (1, .int .i64 w_1), (2, .slice widths_2 widths_2n widths_2c), (8, .int .i64 n_8)]) h
 noncomputable def c17_3Y : Option (Go.Value × AH) := yfrom Tryd.prog (runS Tryd.prog n) n Tryd.f17 h0 p17 N (resY Tryd.prog n Tryd.f17 h0) (subC (bodyC Tryd.f17) [1, 1, 1, 1, 0, 0, 1, 1, 1, 1]) [1, 1, 1, 1, 0, 0, 1, 1, 1, 1] [.block 2, .seq (subC (bodyC Tryd.f17) [1, 1, 1, 1, 1]) [1, 1, 1, 1, 1]] (E [(0, .int .i64 op_0), (1, .int .i64 w_1), (2, .slice widths_2 widths_2n widths_2c), (8, .int .i64 n_8)]) h
variable {n} {h0} {op_0 w_1 widths_2 widths_2n widths_2c n_8} {h}
theorem c17_3_ok {r : Go.Value × AH} (hv : c17_3Y hNew n h0 op_0 w_1 widths_2 widths_2n widths_2c n_8 h = some r) : c17_3 n h0 op_0 w_1 widths_2 widths_2n widths_2c n_8 h = some r := yfrom_ok hv
end
section
variable (N : NewF) (n : Nat) (h0 : AH) (w_1 : Int) (widths_2 : Option Addr) (widths_2n widths_2c : Nat) (n_8 : Int) (h : AH)
 noncomputable def c17_4 : Option (Go.Value × AH) := resY Tryd.prog n Tryd.f17 h0 (.code (subC (bodyC Tryd.f17) [1, 1, 1, 1, 0, 0, 1, 1, 1, 1, 1, 0]) [0, 1, 1, 1, 1, 1, 0, 0, 1, 1, 1, 1]) [.block 2, .seq (subC (bodyC Tryd.f17) [1, 1, 1, 1, 1]) [1, 1, 1, 1, 1]] (E [(1, .int .i64 w_1), (2, .slice widths_2 widths_2n widths_2c), (8, .int .i64 n_8)]) h
 noncomputable def c17_4Y : Option (Go.Value × AH) := yfrom Tryd.prog (runS Tryd.prog n) n Tryd.f17 h0 p17 N (resY Tryd.prog n Tryd.f17 h0) (subC (bodyC Tryd.f17) [1, 1, 1, 1, 0, 0, 1, 1, 1, 1, 1, 0]) [0, 1, 1, 1, 1, 1, 0, 0, 1, 1, 1, 1] [.block 2, .seq (subC (bodyC Tryd.f17) [1, 1, 1, 1, 1]) [1, 1, 1, 1, 1]] (E [(1, .int .i64 w_1), (2, .slice widths_2 widths_2n widths_2c), (8, .int .i64 n_8)]) h
variable {n} {h0} {w_1 widths_2 widths_2n widths_2c n_8} {h}
theorem c17_4_ok {r : Go.Value × AH} (hv : c17_4Y hNew n h0 w_1 widths_2 widths_2n widths_2c n_8 h = some r) : c17_4 n h0 w_1 widths_2 widths_2n widths_2c n_8 h = some r := yfrom_ok hv
end
section
variable (N : NewF) (n : Nat) (h0 : AH) (op_0 w_1 : Int) (widths_2 : Option Addr) (widths_2n widths_2c : Nat) (n_8 : Int) (h : AH)
 noncomputable def c17_5 : Option (Go.Value × AH) := resY Tryd.prog n Tryd.f17 h0 (.code (subC (bodyC Tryd.f17) [1, 1, 1, 1, 0, 0, 1, 1, 1, 1, 1, 1]) [1, 1, 1, 1, 1, 1, 0, 0, 1, 1, 1, 1]) [.block 2, .seq (subC (bodyC Tryd.f17) [1, 1, 1, 1, 1]) [1, 1, 1, 1, 1]] (E [(0, .int .i64 op_0), (1, .int .i64 w_1), (2, .slice widths_2 widths_2n widths_2c), (8, .int .i64 n_8)]) h
 noncomputable def c17_5Y : Option (Go.Value × AH) := yfrom Tryd.prog (runS Tryd.prog n) n Tryd.f17 h0 p17 N (resY Tryd.prog n Tryd.f17 h0) (subC (bodyC Tryd.f17) [1, 1, 1, 1, 0, 0, 1, 1, 1, 1, 1, 1]) [1, 1, 1, 1, 1, 1, 0, 0, 1, 1, 1, 1] [.block 2, .seq (subC (bodyC Tryd.f17) [1, 1, 1, 1, 1]) [1, 1, 1, 1, 1]] (E [(0, .int .i64 op_0), (1, .int .i64 w_1), (2, .slice widths_2 widths_2n widths_2c), (8, .int .i64 n_8)]) h
variable {n} {h0} {op_0 w_1 widths_2 widths_2n widths_2c n_8} {h}
theorem c17_5_ok {r : Go.Value × AH} (hv : c17_5Y hNew n h0 op_0 w_1 widths_2 widths_2n widths_2c n_8 h = some r) : c17_5 n h0 op_0 w_1 widths_2 widths_2n widths_2c n_8 h = some r := yfrom_ok hv
end
section
variable (N : NewF) (n : Nat) (h0 : AH) (w_1 : Int) (widths_2 : Option Addr) (widths_2n widths_2c : Nat) (n_8 : Int) (h : AH)
 noncomputable def c17_6 : Option (Go.Value × AH) := resY Tryd.prog n Tryd.f17 h0 (.code (subC (bodyC Tryd.f17) [1, 1, 1, 1, 0, 0, 1, 1, 1, 1, 1, 1, 1, 1, 1, 0]) [0, 1, 1, 1, 1, 1, 1, 1, 1, 1, 0, 0, 1, 1, 1, 1]) [.block 2, .seq (subC (bodyC Tryd.f17) [1, 1, 1, 1, 1]) [1, 1, 1, 1, 1]] (E [(1, .int .i64 w_1), (2, .slice widths_2 widths_2n widths_2c), (8, .int .i64 n_8)]) h
 noncomputable def c17_6Y : Option (Go.Value × AH) := yfrom Tryd.prog (runS Tryd.prog n) n Tryd.f17 h0 p17 N (resY Tryd.prog n Tryd.f17 h0) (subC (bodyC Tryd.f17) [1, 1, 1, 1, 0, 0, 1, 1, 1, 1, 1, 1, 1, 1, 1, 0]) [0, 1, 1, 1, 1, 1, 1, 1, 1, 1, 0, 0, 1, 1, 1, 1] [.block 2, .seq (subC (bodyC Tryd.f17) [1, 1, 1, 1, 1]) [1, 1, 1, 1, 1]] (E [(1, .int .i64 w_1), (2, .slice widths_2 widths_2n widths_2c), (8, .int .i64 n_8)]) h
variable {n} {h0} {w_1 widths_2 widths_2n widths_2c n_8} {h}
theorem c17_6_ok {r : Go.Value × AH} (hv : c17_6Y hNew n h0 w_1 widths_2 widths_2n widths_2c n_8 h = some r) : c17_6 n h0 w_1 widths_2 widths_2n widths_2c n_8 h = some r := yfrom_ok hv
end
section
variable (N : NewF) (n : Nat) (h0 : AH) (op_0 w_1 : Int) (widths_2 : Option Addr) (widths_2n widths_2c : Nat) (n_8 : Int) (h : AH)
 noncomputable def c17_7 : Option (Go.Value × AH) := resY Tryd.prog n Tryd.f17 h0 (.code (subC (bodyC Tryd.f17) [1, 1, 1, 1, 0, 0, 1, 1, 1, 1, 1, 1, 1, 1, 1, 1]) [1, 1, 1, 1, 1, 1, 1, 1, 1, 1, 0, 0, 1, 1, 1, 1]) [.block 2, .seq (subC (bodyC Tryd.f17) [1, 1, 1, 1, 1]) [1, 1, 1, 1, 1]] (E [(0, .int .i64 op_0), (1, .int .i64 w_1), (2, .slice widths_2 widths_2n widths_2c), (8, .int .i64 n_8)]) h
 noncomputable def c17_7Y : Option (Go.Value × AH) := yfrom Tryd.prog (runS Tryd.prog n) n Tryd.f17 h0 p17 N (resY Tryd.prog n Tryd.f17 h0) (subC (bodyC Tryd.f17) [1, 1, 1, 1, 0, 0, 1, 1, 1, 1, 1, 1, 1, 1, 1, 1]) [1, 1, 1, 1, 1, 1, 1, 1, 1, 1, 0, 0, 1, 1, 1, 1] [.block 2, .seq (subC (bodyC Tryd.f17) [1, 1, 1, 1, 1]) [1, 1, 1, 1, 1]] (E [(0, .int .i64 op_0), (1, .int .i64 w_1), (2, .slice widths_2 widths_2n widths_2c), (8, .int .i64 n_8)]) h
variable {n} {h0} {op_0 w_1 widths_2 widths_2n widths_2c n_8} {h}
theorem c17_7_ok {r : Go.Value × AH} (hv : c17_7Y hNew n h0 op_0 w_1 widths_2 widths_2n widths_2c n_8 h = some r) : c17_7 n h0 op_0 w_1 widths_2 widths_2n widths_2c n_8 h = some r := yfrom_ok hv
end
 noncomputable def t17Y (N : NewF) (n : Nat) (op_0 w_1 : Int) (widths_2 : Option Addr) (widths_2n widths_2c : Nat) (h : AH) : Option (Go.Value × AH) := yrun Tryd.prog (runS Tryd.prog n) n p17 N (resY Tryd.prog n) 17 [(.int .i64 op_0), (.int .i64 w_1), (.slice widths_2 widths_2n widths_2c)] h
theorem t17_ok {n : Nat} {op_0 w_1 : Int} {widths_2 : Option Addr} {widths_2n widths_2c : Nat} {h : AH} {r : Go.Value × AH} (hv : t17Y hNew n op_0 w_1 widths_2 widths_2n widths_2c h = some r) : runS Tryd.prog (n + 1) 17 [(.int .i64 op_0), (.int .i64 w_1), (.slice widths_2 widths_2n widths_2c)] h = some r := yrun_ok hv
theorem t17 (N : NewF) (n : Nat) (op_0 w_1 : Int) (widths_2 : Option Addr) (widths_2n widths_2c : Nat) (h : AH) : t17Y N n op_0 w_1 widths_2 widths_2n widths_2c h =
 cond (iLt w_1 1)
 (some (exitR h (setLow h h.next) (.bool false)))
 (cond (iLt 64 w_1)
 (some (exitR h (setLow h h.next) (.bool false)))
 (c17_0 n h op_0 w_1 widths_2 widths_2n widths_2c (setLow h h.next))) := by kernel_rfl
theorem c17_0_eq (N : NewF) (n  : Nat) (h0 : AH) (op_0 w_1 : Int) (widths_2 : Option Addr) (widths_2n widths_2c : Nat) (h : AH) : c17_0Y N n  h0 op_0 w_1 widths_2 widths_2n widths_2c h =
 c17_1 n n h0 op_0 w_1 widths_2 widths_2n widths_2c 0 h := by kernel_rfl
theorem c17_1_eq (N : NewF) (n m0 : Nat) (h0 : AH) (op_0 w_1 : Int) (widths_2 : Option Addr) (widths_2n widths_2c : Nat) (i_7 : Int) (h : AH) : c17_1Y N n m0 h0 op_0 w_1 widths_2 widths_2n widths_2c i_7 h =
 cond (iLt i_7 (Int.ofNat widths_2n))
 ((widths_2).bind fun a0 =>
 cond (inB i_7 widths_2n)
 (((gI .i64 (rdC h (Addr.add a0 ((Int.toNat i_7) * 1)) 0))).bind fun n1 =>
 cond (iLt n1 1)
 (some (exitR h0 h (.bool false)))
 ((widths_2).bind fun a2 =>
 cond (inB i_7 widths_2n)
 (((gI .i64 (rdC h (Addr.add a2 ((Int.toNat i_7) * 1)) 0))).bind fun n3 =>
 cond (iLt 64 n3)
 (some (exitR h0 h (.bool false)))
 (c17_1 n m0 h0 op_0 w_1 widths_2 widths_2n widths_2c (iAdd .i64 i_7 1) h))
 (none)))
 (none))
 (cond (iEq op_0 1)
 (some (exitR h0 h (.bool (iEq (Int.ofNat widths_2n) 0))))
 (cond (iLe 2 op_0)
 (cond (iLe op_0 14)
 (c17_2 n h0 w_1 widths_2 widths_2n widths_2c (Int.ofNat widths_2n) h)
 (c17_3 n h0 op_0 w_1 widths_2 widths_2n widths_2c (Int.ofNat widths_2n) h))
 (c17_3 n h0 op_0 w_1 widths_2 widths_2n widths_2c (Int.ofNat widths_2n) h))) := by kernel_rfl
theorem c17_2_eq (N : NewF) (n  : Nat) (h0 : AH) (w_1 : Int) (widths_2 : Option Addr) (widths_2n widths_2c : Nat) (n_8 : Int) (h : AH) : c17_2Y N n  h0 w_1 widths_2 widths_2n widths_2c n_8 h =
 cond (iEq n_8 2)
 ((widths_2).bind fun a0 =>
 cond (inB 0 widths_2n)
 (((gI .i64 (rdC h (Addr.add a0 0) 0))).bind fun n1 =>
 cond (iEq n1 w_1)
 ((widths_2).bind fun a2 =>
 cond (inB 1 widths_2n)
 (((gI .i64 (rdC h (Addr.add a2 1) 0))).bind fun n3 =>
 some (exitR h0 h (.bool (iEq n3 w_1))))
 (none))
 (some (exitR h0 h (.bool false))))
 (none))
 (some (exitR h0 h (.bool false))) := by kernel_rfl
theorem c17_3_eq (N : NewF) (n  : Nat) (h0 : AH) (op_0 w_1 : Int) (widths_2 : Option Addr) (widths_2n widths_2c : Nat) (n_8 : Int) (h : AH) : c17_3Y N n  h0 op_0 w_1 widths_2 widths_2n widths_2c n_8 h =
 cond (iLe 15 op_0)
 (cond (iLe op_0 20)
 (c17_4 n h0 w_1 widths_2 widths_2n widths_2c n_8 h)
 (c17_5 n h0 op_0 w_1 widths_2 widths_2n widths_2c n_8 h))
 (c17_5 n h0 op_0 w_1 widths_2 widths_2n widths_2c n_8 h) := by kernel_rfl
theorem c17_4_eq (N : NewF) (n  : Nat) (h0 : AH) (w_1 : Int) (widths_2 : Option Addr) (widths_2n widths_2c : Nat) (n_8 : Int) (h : AH) : c17_4Y N n  h0 w_1 widths_2 widths_2n widths_2c n_8 h =
 cond (iEq n_8 2)
 ((widths_2).bind fun a0 =>
 cond (inB 0 widths_2n)
 (((gI .i64 (rdC h (Addr.add a0 0) 0))).bind fun n1 =>
 (widths_2).bind fun a2 =>
 cond (inB 1 widths_2n)
 (((gI .i64 (rdC h (Addr.add a2 1) 0))).bind fun n3 =>
 cond (iEq n1 n3)
 (some (exitR h0 h (.bool (iEq w_1 1))))
 (some (exitR h0 h (.bool false))))
 (none))
 (none))
 (some (exitR h0 h (.bool false))) := by kernel_rfl
theorem c17_5_eq (N : NewF) (n  : Nat) (h0 : AH) (op_0 w_1 : Int) (widths_2 : Option Addr) (widths_2n widths_2c : Nat) (n_8 : Int) (h : AH) : c17_5Y N n  h0 op_0 w_1 widths_2 widths_2n widths_2c n_8 h =
 cond (iEq op_0 21)
 (cond (iEq n_8 3)
 ((widths_2).bind fun a0 =>
 cond (inB 0 widths_2n)
 (((gI .i64 (rdC h (Addr.add a0 0) 0))).bind fun n1 =>
 cond (iEq n1 1)
 ((widths_2).bind fun a2 =>
 cond (inB 1 widths_2n)
 (((gI .i64 (rdC h (Addr.add a2 1) 0))).bind fun n3 =>
 cond (iEq n3 w_1)
 ((widths_2).bind fun a4 =>
 cond (inB 2 widths_2n)
 (((gI .i64 (rdC h (Addr.add a4 2) 0))).bind fun n5 =>
 some (exitR h0 h (.bool (iEq n5 w_1))))
 (none))
 (some (exitR h0 h (.bool false))))
 (none))
 (some (exitR h0 h (.bool false))))
 (none))
 (some (exitR h0 h (.bool false))))
 (cond (iEq op_0 22)
 (c17_6 n h0 w_1 widths_2 widths_2n widths_2c n_8 h)
 (cond (iEq op_0 23)
 (c17_6 n h0 w_1 widths_2 widths_2n widths_2c n_8 h)
 (c17_7 n h0 op_0 w_1 widths_2 widths_2n widths_2c n_8 h))) := by kernel_rfl
theorem c17_6_eq (N : NewF) (n  : Nat) (h0 : AH) (w_1 : Int) (widths_2 : Option Addr) (widths_2n widths_2c : Nat) (n_8 : Int) (h : AH) : c17_6Y N n  h0 w_1 widths_2 widths_2n widths_2c n_8 h =
 cond (iEq n_8 1)
 ((widths_2).bind fun a0 =>
 cond (inB 0 widths_2n)
 (((gI .i64 (rdC h (Addr.add a0 0) 0))).bind fun n1 =>
 some (exitR h0 h (.bool (iLe n1 w_1))))
 (none))
 (some (exitR h0 h (.bool false))) := by kernel_rfl
theorem c17_7_eq (N : NewF) (n  : Nat) (h0 : AH) (op_0 w_1 : Int) (widths_2 : Option Addr) (widths_2n widths_2c : Nat) (n_8 : Int) (h : AH) : c17_7Y N n  h0 op_0 w_1 widths_2 widths_2n widths_2c n_8 h =
 cond (iEq op_0 24)
 (cond (iEq n_8 1)
 ((widths_2).bind fun a0 =>
 cond (inB 0 widths_2n)
 (((gI .i64 (rdC h (Addr.add a0 0) 0))).bind fun n1 =>
 some (exitR h0 h (.bool (iLe w_1 n1))))
 (none))
 (some (exitR h0 h (.bool false))))
 (some (exitR h0 h (.bool false))) := by kernel_rfl
def p21 : List (List Nat × List Nat) := [([0, 1, 0, 1, 1], [1, 2, 5, 11, 12, 13]), ([1, 1, 1, 0, 0, 1, 1, 0, 0, 1, 0, 1, 1], [1, 2, 5, 6, 7, 8, 11, 12, 13])]
section
variable (N : NewF) (n m0 : Nat) (h0 : AH) (picks_1 : Option Addr) (picks_1n picks_1c : Nat) (c_2 : Addr) (out_5 : Option Addr) (out_5n out_5c : Nat) (t_11 : Option Addr) (t_11n t_11c : Nat) (t_12 t_13 : Int) (h : AH)
 noncomputable def c21_0 : Option (Go.Value × AH) := resY Tryd.prog n Tryd.f21 h0 (.head (subC (bodyC Tryd.f21) [1, 1, 0, 1, 0, 0]) [0, 1, 0, 1, 1] m0) [.block 0, .seq (subC (bodyC Tryd.f21) [1, 1, 1]) [1, 1, 1]] (E [(1, .slice picks_1 picks_1n picks_1c), (2, .pointer (some c_2)), (5, .slice out_5 out_5n out_5c), (11, .slice t_11 t_11n t_11c), (12, .int .i64 t_12), (13, .int .i64 t_13)]) h
 noncomputable def c21_0Y : Option (Go.Value × AH) := yhead Tryd.prog (runS Tryd.prog n) n Tryd.f21 h0 p21 N (resY Tryd.prog n Tryd.f21 h0) (subC (bodyC Tryd.f21) [1, 1, 0, 1, 0, 0]) [0, 1, 0, 1, 1] m0 [.block 0, .seq (subC (bodyC Tryd.f21) [1, 1, 1]) [1, 1, 1]] (E [(1, .slice picks_1 picks_1n picks_1c), (2, .pointer (some c_2)), (5, .slice out_5 out_5n out_5c), (11, .slice t_11 t_11n t_11c), (12, .int .i64 t_12), (13, .int .i64 t_13)]) h
variable {n m0} {h0} {picks_1 picks_1n picks_1c c_2 out_5 out_5n out_5c t_11 t_11n t_11c t_12 t_13} {h}
theorem c21_0_ok {r : Go.Value × AH} (hv : c21_0Y hNew n m0 h0 picks_1 picks_1n picks_1c c_2 out_5 out_5n out_5c t_11 t_11n t_11c t_12 t_13 h = some r) : c21_0 n (m0 + 1) h0 picks_1 picks_1n picks_1c c_2 out_5 out_5n out_5c t_11 t_11n t_11c t_12 t_13 h = some r := yhead_ok hv
end
section
variable (N : NewF) (n m0 : Nat) (h0 : AH) (picks_1 : Option Addr) (picks_1n picks_1c : Nat) (c_2 : Addr) (out_5 : Option Addr) (out_5n out_5c : Nat) (i_6 : Int) (b_7 : Addr) (n_8 : Int) (t_11 : Option Addr) (t_11n t_11c : Nat) (t_12 t_13 : Int) (h : AH)
 noncomputable def c21_1 : Option (Go.Value × AH) := resY Tryd.prog n Tryd.f21 h0 (.code (subC (bodyC Tryd.f21) [1, 1, 0, 1, 0, 0, 1, 1, 0, 0, 1, 1, 1]) [1, 1, 1, 0, 0, 1, 1, 0, 0, 1, 0, 1, 1]) [.block 1, .seq (subC (bodyC Tryd.f21) [1, 1, 0, 1, 0, 0, 1, 1, 1]) [1, 1, 1, 0, 0, 1, 0, 1, 1], .loop (subC (bodyC Tryd.f21) [1, 1, 0, 1, 0, 0]) [0, 1, 0, 1, 1] m0, .block 0, .seq (subC (bodyC Tryd.f21) [1, 1, 1]) [1, 1, 1]] (E [(1, .slice picks_1 picks_1n picks_1c), (2, .pointer (some c_2)), (5, .slice out_5 out_5n out_5c), (6, .int .i64 i_6), (7, .pointer (some b_7)), (8, .int .u64 n_8), (11, .slice t_11 t_11n t_11c), (12, .int .i64 t_12), (13, .int .i64 t_13)]) h
 noncomputable def c21_1Y : Option (Go.Value × AH) := yfrom Tryd.prog (runS Tryd.prog n) n Tryd.f21 h0 p21 N (resY Tryd.prog n Tryd.f21 h0) (subC (bodyC Tryd.f21) [1, 1, 0, 1, 0, 0, 1, 1, 0, 0, 1, 1, 1]) [1, 1, 1, 0, 0, 1, 1, 0, 0, 1, 0, 1, 1] [.block 1, .seq (subC (bodyC Tryd.f21) [1, 1, 0, 1, 0, 0, 1, 1, 1]) [1, 1, 1, 0, 0, 1, 0, 1, 1], .loop (subC (bodyC Tryd.f21) [1, 1, 0, 1, 0, 0]) [0, 1, 0, 1, 1] m0, .block 0, .seq (subC (bodyC Tryd.f21) [1, 1, 1]) [1, 1, 1]] (E [(1, .slice picks_1 picks_1n picks_1c), (2, .pointer (some c_2)), (5, .slice out_5 out_5n out_5c), (6, .int .i64 i_6), (7, .pointer (some b_7)), (8, .int .u64 n_8), (11, .slice t_11 t_11n t_11c), (12, .int .i64 t_12), (13, .int .i64 t_13)]) h
variable {n m0} {h0} {picks_1 picks_1n picks_1c c_2 out_5 out_5n out_5c i_6 b_7 n_8 t_11 t_11n t_11c t_12 t_13} {h}
theorem c21_1_ok {r : Go.Value × AH} (hv : c21_1Y hNew n m0 h0 picks_1 picks_1n picks_1c c_2 out_5 out_5n out_5c i_6 b_7 n_8 t_11 t_11n t_11c t_12 t_13 h = some r) : c21_1 n m0 h0 picks_1 picks_1n picks_1c c_2 out_5 out_5n out_5c i_6 b_7 n_8 t_11 t_11n t_11c t_12 t_13 h = some r := yfrom_ok hv
end
 noncomputable def t21Y (N : NewF) (n : Nat) (c_0a c_0b : Int) (c_0c : Option Addr) (c_0cn c_0cc : Nat) (c_0d : Option Addr) (c_0dn c_0dc : Nat) (c_0e : Int) (picks_1 : Option Addr) (picks_1n picks_1c : Nat) (h : AH) : Option (Go.Value × AH) := yrun Tryd.prog (runS Tryd.prog n) n p21 N (resY Tryd.prog n) 21 [(.agg #[(.int .i64 c_0a), (.int .i64 c_0b), (.slice c_0c c_0cn c_0cc), (.slice c_0d c_0dn c_0dc), (.int .u64 c_0e)]), (.slice picks_1 picks_1n picks_1c)] h
theorem t21_ok {n : Nat} {c_0a c_0b : Int} {c_0c : Option Addr} {c_0cn c_0cc : Nat} {c_0d : Option Addr} {c_0dn c_0dc : Nat} {c_0e : Int} {picks_1 : Option Addr} {picks_1n picks_1c : Nat} {h : AH} {r : Go.Value × AH} (hv : t21Y hNew n c_0a c_0b c_0c c_0cn c_0cc c_0d c_0dn c_0dc c_0e picks_1 picks_1n picks_1c h = some r) : runS Tryd.prog (n + 1) 21 [(.agg #[(.int .i64 c_0a), (.int .i64 c_0b), (.slice c_0c c_0cn c_0cc), (.slice c_0d c_0dn c_0dc), (.int .u64 c_0e)]), (.slice picks_1 picks_1n picks_1c)] h = some r := yrun_ok hv
theorem t21 (N : NewF) (n : Nat) (c_0a c_0b : Int) (c_0c : Option Addr) (c_0cn c_0cc : Nat) (c_0d : Option Addr) (c_0dn c_0dc : Nat) (c_0e : Int) (picks_1 : Option Addr) (picks_1n picks_1c : Nat) (h : AH) : t21Y N n c_0a c_0b c_0c c_0cn c_0cc c_0d c_0dn c_0dc c_0e picks_1 picks_1n picks_1c h =
 ((N (setLow h h.next) [(.int .i64 c_0a), (.int .i64 c_0b), (.slice c_0c c_0cn c_0cc), (.slice c_0d c_0dn c_0dc), (.int .u64 c_0e)] 0)).bind fun p0 =>
 ((gL (rdC p0.2 (Addr.add ⟨p0.1, 0, none⟩ 3) 0))).bind fun p1 =>
 c21_0 n n h picks_1 picks_1n picks_1c ⟨p0.1, 0, none⟩ none 0 0 p1.1 p1.2.1 p1.2.2 (Int.ofNat p1.2.1) 0 p0.2 := by kernel_rfl
theorem c21_0_eq (N : NewF) (n m0 : Nat) (h0 : AH) (picks_1 : Option Addr) (picks_1n picks_1c : Nat) (c_2 : Addr) (out_5 : Option Addr) (out_5n out_5c : Nat) (t_11 : Option Addr) (t_11n t_11c : Nat) (t_12 t_13 : Int) (h : AH) : c21_0Y N n m0 h0 picks_1 picks_1n picks_1c c_2 out_5 out_5n out_5c t_11 t_11n t_11c t_12 t_13 h =
 cond (iLt t_13 t_12)
 ((t_11).bind fun a0 =>
 cond (inB t_13 t_11n)
 (((gI .u64 (rdC h (Addr.add a0 ((Int.toNat t_13) * 2)) 0))).bind fun n1 =>
 ((gI .u64 (rdC h (Addr.add a0 ((Int.toNat t_13) * 2)) 1))).bind fun n2 =>
 ((N h [(.int .u64 0), (.int .u64 0)] 0)).bind fun p3 =>
 ((stL p3.2 ⟨p3.1, 0, none⟩ [(.int .u64 n1), (.int .u64 n2)])).bind fun x4 =>
 cond (iLt t_13 (Int.ofNat picks_1n))
 ((picks_1).bind fun a5 =>
 cond (inB t_13 picks_1n)
 (((gI .u64 (rdC x4 (Addr.add a5 ((Int.toNat t_13) * 1)) 0))).bind fun n6 =>
 c21_1 n m0 h0 picks_1 picks_1n picks_1c c_2 out_5 out_5n out_5c t_13 ⟨p3.1, 0, none⟩ n6 t_11 t_11n t_11c t_12 t_13 x4)
 (none))
 (c21_1 n m0 h0 picks_1 picks_1n picks_1c c_2 out_5 out_5n out_5c t_13 ⟨p3.1, 0, none⟩ 0 t_11 t_11n t_11c t_12 t_13 x4))
 (none))
 (some (exitR h0 h (.slice out_5 out_5n out_5c))) := by kernel_rfl
theorem c21_1_eq (N : NewF) (n m0 : Nat) (h0 : AH) (picks_1 : Option Addr) (picks_1n picks_1c : Nat) (c_2 : Addr) (out_5 : Option Addr) (out_5n out_5c : Nat) (i_6 : Int) (b_7 : Addr) (n_8 : Int) (t_11 : Option Addr) (t_11n t_11c : Nat) (t_12 t_13 : Int) (h : AH) : c21_1Y N n m0 h0 picks_1 picks_1n picks_1c c_2 out_5 out_5n out_5c i_6 b_7 n_8 t_11 t_11n t_11c t_12 t_13 h =
 ((gL (rdC h (Addr.add c_2 2) 0))).bind fun p0 =>
 (p0.1).bind fun a1 =>
 cond (inB i_6 p0.2.1)
 (((gI .i64 (rdC h (Addr.add a1 ((Int.toNat i_6) * 1)) 0))).bind fun n2 =>
 ((runS Tryd.prog n 14 [(.int .i64 n2)] (setLow h h.next))).bind fun p3 =>
 ((gI .u64 (some p3.1))).bind fun n4 =>
 cond (Nat.beq p3.2.low h.next)
 (((gI .u64 (rdC (setLow p3.2 h.low) (Addr.add b_7 0) 0))).bind fun n5 =>
 ((gI .u64 (rdC (setLow p3.2 h.low) (Addr.add b_7 1) 0))).bind fun n6 =>
 ((gI .u64 (rdC (setLow p3.2 h.low) (Addr.add b_7 1) 0))).bind fun n7 =>
 ((N (setLow p3.2 h.low) [(.int .u64 (iOr .u64 n7 (iAnd .u64 n_8 (iAndNot .u64 n4 (iOr .u64 n5 n6)))))] 1)).bind fun p8 =>
 ((appL 1 8 (.slice out_5 out_5n out_5c) (.slice (some ⟨p8.1, 0, none⟩) 1 1) p8.2)).bind fun p9 =>
 c21_0 n m0 h0 picks_1 picks_1n picks_1c c_2 p9.1.1 p9.1.2.1 p9.1.2.2 t_11 t_11n t_11c t_12 (iAdd .i64 t_13 1) p9.2)
 (none))
 (none) := by kernel_rfl
def p22 : List (List Nat × List Nat) := []
 noncomputable def t22Y (N : NewF) (n : Nat) (a_0a a_0b b_1a b_1b : Int) (h : AH) : Option (Go.Value × AH) := yrun Tryd.prog (runS Tryd.prog n) n p22 N (resY Tryd.prog n) 22 [(.agg #[(.int .u64 a_0a), (.int .u64 a_0b)]), (.agg #[(.int .u64 b_1a), (.int .u64 b_1b)])] h
theorem t22_ok {n : Nat} {a_0a a_0b b_1a b_1b : Int} {h : AH} {r : Go.Value × AH} (hv : t22Y hNew n a_0a a_0b b_1a b_1b h = some r) : runS Tryd.prog (n + 1) 22 [(.agg #[(.int .u64 a_0a), (.int .u64 a_0b)]), (.agg #[(.int .u64 b_1a), (.int .u64 b_1b)])] h = some r := yrun_ok hv
theorem t22 (N : NewF) (n : Nat) (a_0a a_0b b_1a b_1b : Int) (h : AH) : t22Y N n a_0a a_0b b_1a b_1b h =
 ((N (setLow h h.next) [(.int .u64 a_0a), (.int .u64 a_0b)] 0)).bind fun p0 =>
 ((N p0.2 [(.int .u64 b_1a), (.int .u64 b_1b)] 0)).bind fun p1 =>
 ((gI .u64 (rdC p1.2 (Addr.add ⟨p1.1, 0, none⟩ 0) 0))).bind fun n2 =>
 ((gI .u64 (rdC p1.2 (Addr.add ⟨p0.1, 0, none⟩ 0) 0))).bind fun n3 =>
 cond (iEq (iAndNot .u64 n2 n3) 0)
 (((gI .u64 (rdC p1.2 (Addr.add ⟨p1.1, 0, none⟩ 1) 0))).bind fun n4 =>
 ((gI .u64 (rdC p1.2 (Addr.add ⟨p0.1, 0, none⟩ 1) 0))).bind fun n5 =>
 some (exitR h p1.2 (.bool (iEq (iAndNot .u64 n4 n5) 0))))
 (some (exitR h p1.2 (.bool false))) := by kernel_rfl
def p27 : List (List Nat × List Nat) := []
 noncomputable def t27Y (N : NewF) (n : Nat) (w_0 n_1 : Int) (h : AH) : Option (Go.Value × AH) := yrun Tryd.prog (runS Tryd.prog n) n p27 N (resY Tryd.prog n) 27 [(.int .i64 w_0), (.int .i64 n_1)] h
theorem t27_ok {n : Nat} {w_0 n_1 : Int} {h : AH} {r : Go.Value × AH} (hv : t27Y hNew n w_0 n_1 h = some r) : runS Tryd.prog (n + 1) 27 [(.int .i64 w_0), (.int .i64 n_1)] h = some r := yrun_ok hv
theorem t27 (N : NewF) (n : Nat) (w_0 n_1 : Int) (h : AH) : t27Y N n w_0 n_1 h =
 ((runS Tryd.prog n 36 [(.int .i64 w_0)] (setLow h h.next))).bind fun p0 =>
 ((gI .u64 (some p0.1))).bind fun n1 =>
 ((runS Tryd.prog n 36 [(.int .i64 (iSub .i64 w_0 n_1))] p0.2)).bind fun p2 =>
 ((gI .u64 (some p2.1))).bind fun n3 =>
 some (exitR h p2.2 (.int .u64 (iAndNot .u64 n1 n3))) := by kernel_rfl
def p28 : List (List Nat × List Nat) := []
 noncomputable def t28Y (N : NewF) (n : Nat) (w_0 known_1 : Int) (h : AH) : Option (Go.Value × AH) := yrun Tryd.prog (runS Tryd.prog n) n p28 N (resY Tryd.prog n) 28 [(.int .i64 w_0), (.int .u64 known_1)] h
theorem t28_ok {n : Nat} {w_0 known_1 : Int} {h : AH} {r : Go.Value × AH} (hv : t28Y hNew n w_0 known_1 h = some r) : runS Tryd.prog (n + 1) 28 [(.int .i64 w_0), (.int .u64 known_1)] h = some r := yrun_ok hv
theorem t28 (N : NewF) (n : Nat) (w_0 known_1 : Int) (h : AH) : t28Y N n w_0 known_1 h =
 cond (iLt (iSub .i64 64 w_0) 0)
 (none)
 (((runS Tryd.prog n 64 [(.int .u64 (iNot .u64 (iShl .u64 known_1 (iSub .i64 64 w_0))))] (setLow h h.next))).bind fun p0 =>
 ((gI .i64 (some p0.1))).bind fun n1 =>
 some (exitR h p0.2 (.int .i64 n1))) := by kernel_rfl
def p29 : List (List Nat × List Nat) := [([0, 1, 1, 0, 1, 1], [0, 4, 6, 7, 8])]
section
variable (N : NewF) (n : Nat) (h0 : AH) (w_0 : Int) (a_4 t_6 out_7 : Addr) (n_8 : Int) (h : AH)
 noncomputable def c29_0 : Option (Go.Value × AH) := resY Tryd.prog n Tryd.f29 h0 (.code (subC (bodyC Tryd.f29) [1, 1, 0, 1, 1, 0]) [0, 1, 1, 0, 1, 1]) [.seq (subC (bodyC Tryd.f29) [1, 1, 1]) [1, 1, 1]] (E [(0, .int .i64 w_0), (4, .pointer (some a_4)), (6, .pointer (some t_6)), (7, .pointer (some out_7)), (8, .int .u64 n_8)]) h
 noncomputable def c29_0Y : Option (Go.Value × AH) := yfrom Tryd.prog (runS Tryd.prog n) n Tryd.f29 h0 p29 N (resY Tryd.prog n Tryd.f29 h0) (subC (bodyC Tryd.f29) [1, 1, 0, 1, 1, 0]) [0, 1, 1, 0, 1, 1] [.seq (subC (bodyC Tryd.f29) [1, 1, 1]) [1, 1, 1]] (E [(0, .int .i64 w_0), (4, .pointer (some a_4)), (6, .pointer (some t_6)), (7, .pointer (some out_7)), (8, .int .u64 n_8)]) h
variable {n} {h0} {w_0 a_4 t_6 out_7 n_8} {h}
theorem c29_0_ok {r : Go.Value × AH} (hv : c29_0Y hNew n h0 w_0 a_4 t_6 out_7 n_8 h = some r) : c29_0 n h0 w_0 a_4 t_6 out_7 n_8 h = some r := yfrom_ok hv
end
 noncomputable def t29Y (N : NewF) (n : Nat) (w_0 a_1a a_1b b_2a b_2b : Int) (h : AH) : Option (Go.Value × AH) := yrun Tryd.prog (runS Tryd.prog n) n p29 N (resY Tryd.prog n) 29 [(.int .i64 w_0), (.agg #[(.int .u64 a_1a), (.int .u64 a_1b)]), (.agg #[(.int .u64 b_2a), (.int .u64 b_2b)])] h
theorem t29_ok {n : Nat} {w_0 a_1a a_1b b_2a b_2b : Int} {h : AH} {r : Go.Value × AH} (hv : t29Y hNew n w_0 a_1a a_1b b_2a b_2b h = some r) : runS Tryd.prog (n + 1) 29 [(.int .i64 w_0), (.agg #[(.int .u64 a_1a), (.int .u64 a_1b)]), (.agg #[(.int .u64 b_2a), (.int .u64 b_2b)])] h = some r := yrun_ok hv
theorem t29 (N : NewF) (n : Nat) (w_0 a_1a a_1b b_2a b_2b : Int) (h : AH) : t29Y N n w_0 a_1a a_1b b_2a b_2b h =
 ((N (setLow h h.next) [(.int .u64 a_1a), (.int .u64 a_1b)] 0)).bind fun p0 =>
 ((N p0.2 [(.int .u64 b_2a), (.int .u64 b_2b)] 0)).bind fun p1 =>
 ((N p1.2 [(.int .u64 0), (.int .u64 0)] 0)).bind fun p2 =>
 ((gI .u64 (rdC p2.2 (Addr.add ⟨p0.1, 0, none⟩ 0) 0))).bind fun n3 =>
 ((runS Tryd.prog n 28 [(.int .i64 w_0), (.int .u64 n3)] p2.2)).bind fun p4 =>
 ((gI .i64 (some p4.1))).bind fun n5 =>
 ((runS Tryd.prog n 27 [(.int .i64 w_0), (.int .i64 n5)] p4.2)).bind fun p6 =>
 ((gI .u64 (some p6.1))).bind fun n7 =>
 ((N p6.2 [(.int .u64 0), (.int .u64 0)] 0)).bind fun p8 =>
 ((stL p8.2 ⟨p8.1, 0, none⟩ [(.int .u64 n7), (.int .u64 0)])).bind fun x9 =>
 ((gI .u64 (rdC x9 ⟨p1.1, 0, none⟩ 0))).bind fun n10 =>
 ((gI .u64 (rdC x9 ⟨p1.1, 0, none⟩ 1))).bind fun n11 =>
 ((runS Tryd.prog n 13 [(.int .i64 w_0), (.agg #[(.int .u64 n10), (.int .u64 n11)])] x9)).bind fun p12 =>
 cond (tupIs 2 p12.1)
 (((gI .u64 (tupC 0 p12.1))).bind fun n13 =>
 ((gB (tupC 1 p12.1))).bind fun b14 =>
 cond b14
 (((runS Tryd.prog n 65 [(.int .u64 n13)] p12.2)).bind fun p15 =>
 ((gI .i64 (some p15.1))).bind fun n16 =>
 cond (iEq n16 1)
 (c29_0 n h w_0 ⟨p0.1, 0, none⟩ ⟨p2.1, 0, none⟩ ⟨p8.1, 0, none⟩ n13 p15.2)
 (((gI .u64 (rdC p15.2 ⟨p8.1, 0, none⟩ 0))).bind fun n17 =>
 ((gI .u64 (rdC p15.2 ⟨p8.1, 0, none⟩ 1))).bind fun n18 =>
 ((stL p15.2 ⟨p2.1, 0, none⟩ [(.int .u64 n17), (.int .u64 n18)])).bind fun x19 =>
 ((gI .u64 (rdC x19 ⟨p2.1, 0, none⟩ 0))).bind fun n20 =>
 ((gI .u64 (rdC x19 ⟨p2.1, 0, none⟩ 1))).bind fun n21 =>
 some (exitR h x19 (.agg #[(.int .u64 n20), (.int .u64 n21)]))))
 (((gI .u64 (rdC p12.2 ⟨p8.1, 0, none⟩ 0))).bind fun n22 =>
 ((gI .u64 (rdC p12.2 ⟨p8.1, 0, none⟩ 1))).bind fun n23 =>
 ((stL p12.2 ⟨p2.1, 0, none⟩ [(.int .u64 n22), (.int .u64 n23)])).bind fun x24 =>
 ((gI .u64 (rdC x24 ⟨p2.1, 0, none⟩ 0))).bind fun n25 =>
 ((gI .u64 (rdC x24 ⟨p2.1, 0, none⟩ 1))).bind fun n26 =>
 some (exitR h x24 (.agg #[(.int .u64 n25), (.int .u64 n26)]))))
 (none) := by kernel_rfl
theorem c29_0_eq (N : NewF) (n  : Nat) (h0 : AH) (w_0 : Int) (a_4 t_6 out_7 : Addr) (n_8 : Int) (h : AH) : c29_0Y N n  h0 w_0 a_4 t_6 out_7 n_8 h =
 ((gI .u64 (rdC h (Addr.add out_7 0) 0))).bind fun n0 =>
 ((runS Tryd.prog n 36 [(.int .i64 w_0)] (setLow h h.next))).bind fun p1 =>
 ((gI .u64 (some p1.1))).bind fun n2 =>
 cond (Nat.beq p1.2.low h.next)
 (((gI .u64 (rdC (setLow p1.2 h.low) (Addr.add a_4 0) 0))).bind fun n3 =>
 ((stL (setLow p1.2 h.low) (Addr.add out_7 0) [(.int .u64 (iOr .u64 n0 (iOr .u64 (iAndNot .u64 n2 (iSub .u64 n_8 1)) (iAnd .u64 n3 (iSub .u64 n_8 1)))))])).bind fun x4 =>
 ((gI .u64 (rdC x4 (Addr.add a_4 1) 0))).bind fun n5 =>
 ((stL x4 (Addr.add out_7 1) [(.int .u64 (iAnd .u64 n5 (iSub .u64 n_8 1)))])).bind fun x6 =>
 ((gI .u64 (rdC x6 out_7 0))).bind fun n7 =>
 ((gI .u64 (rdC x6 out_7 1))).bind fun n8 =>
 ((stL x6 t_6 [(.int .u64 n7), (.int .u64 n8)])).bind fun x9 =>
 ((gI .u64 (rdC x9 t_6 0))).bind fun n10 =>
 ((gI .u64 (rdC x9 t_6 1))).bind fun n11 =>
 some (exitR h0 x9 (.agg #[(.int .u64 n10), (.int .u64 n11)])))
 (none) := by kernel_rfl
def p30 : List (List Nat × List Nat) := [([1, 1, 1, 1, 0, 1, 0, 1, 1], [1, 3, 6, 8, 10, 11])]
section
variable (N : NewF) (n : Nat) (h0 : AH) (w_1 by_3 : Int) (a_6 t_8 : Addr) (sign_10 : Int) (out_11 : Addr) (h : AH)
 noncomputable def c30_0 : Option (Go.Value × AH) := resY Tryd.prog n Tryd.f30 h0 (.code (subC (bodyC Tryd.f30) [1, 1, 0, 1, 0, 1, 1, 1, 1]) [1, 1, 1, 1, 0, 1, 0, 1, 1]) [.seq (subC (bodyC Tryd.f30) [1, 1, 1]) [1, 1, 1]] (E [(1, .int .i64 w_1), (3, .int .u64 by_3), (6, .pointer (some a_6)), (8, .pointer (some t_8)), (10, .int .u64 sign_10), (11, .pointer (some out_11))]) h
 noncomputable def c30_0Y : Option (Go.Value × AH) := yfrom Tryd.prog (runS Tryd.prog n) n Tryd.f30 h0 p30 N (resY Tryd.prog n Tryd.f30 h0) (subC (bodyC Tryd.f30) [1, 1, 0, 1, 0, 1, 1, 1, 1]) [1, 1, 1, 1, 0, 1, 0, 1, 1] [.seq (subC (bodyC Tryd.f30) [1, 1, 1]) [1, 1, 1]] (E [(1, .int .i64 w_1), (3, .int .u64 by_3), (6, .pointer (some a_6)), (8, .pointer (some t_8)), (10, .int .u64 sign_10), (11, .pointer (some out_11))]) h
variable {n} {h0} {w_1 by_3 a_6 t_8 sign_10 out_11} {h}
theorem c30_0_ok {r : Go.Value × AH} (hv : c30_0Y hNew n h0 w_1 by_3 a_6 t_8 sign_10 out_11 h = some r) : c30_0 n h0 w_1 by_3 a_6 t_8 sign_10 out_11 h = some r := yfrom_ok hv
end
 noncomputable def t30Y (N : NewF) (n : Nat) (op_0 w_1 a_2a a_2b by_3 : Int) (h : AH) : Option (Go.Value × AH) := yrun Tryd.prog (runS Tryd.prog n) n p30 N (resY Tryd.prog n) 30 [(.int .i64 op_0), (.int .i64 w_1), (.agg #[(.int .u64 a_2a), (.int .u64 a_2b)]), (.int .u64 by_3)] h
theorem t30_ok {n : Nat} {op_0 w_1 a_2a a_2b by_3 : Int} {h : AH} {r : Go.Value × AH} (hv : t30Y hNew n op_0 w_1 a_2a a_2b by_3 h = some r) : runS Tryd.prog (n + 1) 30 [(.int .i64 op_0), (.int .i64 w_1), (.agg #[(.int .u64 a_2a), (.int .u64 a_2b)]), (.int .u64 by_3)] h = some r := yrun_ok hv
theorem t30 (N : NewF) (n : Nat) (op_0 w_1 a_2a a_2b by_3 : Int) (h : AH) : t30Y N n op_0 w_1 a_2a a_2b by_3 h =
 ((N (setLow h h.next) [(.int .u64 a_2a), (.int .u64 a_2b)] 0)).bind fun p0 =>
 ((N p0.2 [(.int .u64 0), (.int .u64 0)] 0)).bind fun p1 =>
 ((runS Tryd.prog n 36 [(.int .i64 w_1)] p1.2)).bind fun p2 =>
 ((gI .u64 (some p2.1))).bind fun n3 =>
 cond (iEq op_0 14)
 (cond (iLt (iSub .i64 w_1 1) 0)
 (none)
 (((gI .u64 (rdC p2.2 (Addr.add ⟨p0.1, 0, none⟩ 0) 0))).bind fun n4 =>
 cond (iLt (iMin by_3 (iConv .u64 (iSub .i64 w_1 1))) 0)
 (none)
 (((gI .u64 (rdC p2.2 (Addr.add ⟨p0.1, 0, none⟩ 1) 0))).bind fun n5 =>
 cond (iLt (iMin by_3 (iConv .u64 (iSub .i64 w_1 1))) 0)
 (none)
 (((N p2.2 [(.int .u64 0), (.int .u64 0)] 0)).bind fun p6 =>
 ((stL p6.2 ⟨p6.1, 0, none⟩ [(.int .u64 (iShr .u64 n4 (iMin by_3 (iConv .u64 (iSub .i64 w_1 1))))), (.int .u64 (iShr .u64 n5 (iMin by_3 (iConv .u64 (iSub .i64 w_1 1)))))])).bind fun x7 =>
 ((gI .u64 (rdC x7 (Addr.add ⟨p0.1, 0, none⟩ 0) 0))).bind fun n8 =>
 cond (iNe (iAnd .u64 n8 (iShl .u64 1 (iSub .i64 w_1 1))) 0)
 (((gI .u64 (rdC x7 (Addr.add ⟨p6.1, 0, none⟩ 0) 0))).bind fun n9 =>
 ((runS Tryd.prog n 27 [(.int .i64 w_1), (.int .i64 (iConv .i64 (iMin by_3 (iConv .u64 (iSub .i64 w_1 1)))))] (setLow x7 x7.next))).bind fun p10 =>
 ((gI .u64 (some p10.1))).bind fun n11 =>
 cond (Nat.beq p10.2.low x7.next)
 (((stL (setLow p10.2 x7.low) (Addr.add ⟨p6.1, 0, none⟩ 0) [(.int .u64 (iOr .u64 n9 n11))])).bind fun x12 =>
 c30_0 n h w_1 (iMin by_3 (iConv .u64 (iSub .i64 w_1 1))) ⟨p0.1, 0, none⟩ ⟨p1.1, 0, none⟩ (iShl .u64 1 (iSub .i64 w_1 1)) ⟨p6.1, 0, none⟩ x12)
 (none))
 (c30_0 n h w_1 (iMin by_3 (iConv .u64 (iSub .i64 w_1 1))) ⟨p0.1, 0, none⟩ ⟨p1.1, 0, none⟩ (iShl .u64 1 (iSub .i64 w_1 1)) ⟨p6.1, 0, none⟩ x7)))))
 (cond (iLe (iConv .u64 w_1) by_3)
 (((stL p2.2 ⟨p1.1, 0, none⟩ [(.int .u64 n3), (.int .u64 0)])).bind fun x13 =>
 ((gI .u64 (rdC x13 ⟨p1.1, 0, none⟩ 0))).bind fun n14 =>
 ((gI .u64 (rdC x13 ⟨p1.1, 0, none⟩ 1))).bind fun n15 =>
 some (exitR h x13 (.agg #[(.int .u64 n14), (.int .u64 n15)])))
 (cond (iEq op_0 12)
 (((gI .u64 (rdC p2.2 (Addr.add ⟨p0.1, 0, none⟩ 0) 0))).bind fun n16 =>
 cond (iLt by_3 0)
 (none)
 (((runS Tryd.prog n 36 [(.int .i64 (iConv .i64 by_3))] (setLow p2.2 p2.2.next))).bind fun p17 =>
 ((gI .u64 (some p17.1))).bind fun n18 =>
 cond (Nat.beq p17.2.low p2.2.next)
 (((gI .u64 (rdC (setLow p17.2 p2.2.low) (Addr.add ⟨p0.1, 0, none⟩ 1) 0))).bind fun n19 =>
 cond (iLt by_3 0)
 (none)
 (((stL (setLow p17.2 p2.2.low) ⟨p1.1, 0, none⟩ [(.int .u64 (iAnd .u64 (iOr .u64 (iShl .u64 n16 by_3) n18) n3)), (.int .u64 (iAnd .u64 (iShl .u64 n19 by_3) n3))])).bind fun x20 =>
 ((gI .u64 (rdC x20 ⟨p1.1, 0, none⟩ 0))).bind fun n21 =>
 ((gI .u64 (rdC x20 ⟨p1.1, 0, none⟩ 1))).bind fun n22 =>
 some (exitR h x20 (.agg #[(.int .u64 n21), (.int .u64 n22)]))))
 (none)))
 (((gI .u64 (rdC p2.2 (Addr.add ⟨p0.1, 0, none⟩ 0) 0))).bind fun n23 =>
 cond (iLt by_3 0)
 (none)
 (((runS Tryd.prog n 27 [(.int .i64 w_1), (.int .i64 (iConv .i64 by_3))] (setLow p2.2 p2.2.next))).bind fun p24 =>
 ((gI .u64 (some p24.1))).bind fun n25 =>
 cond (Nat.beq p24.2.low p2.2.next)
 (((gI .u64 (rdC (setLow p24.2 p2.2.low) (Addr.add ⟨p0.1, 0, none⟩ 1) 0))).bind fun n26 =>
 cond (iLt by_3 0)
 (none)
 (((stL (setLow p24.2 p2.2.low) ⟨p1.1, 0, none⟩ [(.int .u64 (iOr .u64 (iShr .u64 n23 by_3) n25)), (.int .u64 (iShr .u64 n26 by_3))])).bind fun x27 =>
 ((gI .u64 (rdC x27 ⟨p1.1, 0, none⟩ 0))).bind fun n28 =>
 ((gI .u64 (rdC x27 ⟨p1.1, 0, none⟩ 1))).bind fun n29 =>
 some (exitR h x27 (.agg #[(.int .u64 n28), (.int .u64 n29)]))))
 (none))))) := by kernel_rfl
theorem c30_0_eq (N : NewF) (n  : Nat) (h0 : AH) (w_1 by_3 : Int) (a_6 t_8 : Addr) (sign_10 : Int) (out_11 : Addr) (h : AH) : c30_0Y N n  h0 w_1 by_3 a_6 t_8 sign_10 out_11 h =
 ((gI .u64 (rdC h (Addr.add a_6 1) 0))).bind fun n0 =>
 cond (iNe (iAnd .u64 n0 sign_10) 0)
 (((gI .u64 (rdC h (Addr.add out_11 1) 0))).bind fun n1 =>
 ((runS Tryd.prog n 27 [(.int .i64 w_1), (.int .i64 (iConv .i64 by_3))] (setLow h h.next))).bind fun p2 =>
 ((gI .u64 (some p2.1))).bind fun n3 =>
 cond (Nat.beq p2.2.low h.next)
 (((stL (setLow p2.2 h.low) (Addr.add out_11 1) [(.int .u64 (iOr .u64 n1 n3))])).bind fun x4 =>
 ((gI .u64 (rdC x4 out_11 0))).bind fun n5 =>
 ((gI .u64 (rdC x4 out_11 1))).bind fun n6 =>
 ((stL x4 t_8 [(.int .u64 n5), (.int .u64 n6)])).bind fun x7 =>
 ((gI .u64 (rdC x7 t_8 0))).bind fun n8 =>
 ((gI .u64 (rdC x7 t_8 1))).bind fun n9 =>
 some (exitR h0 x7 (.agg #[(.int .u64 n8), (.int .u64 n9)])))
 (none))
 (((gI .u64 (rdC h out_11 0))).bind fun n10 =>
 ((gI .u64 (rdC h out_11 1))).bind fun n11 =>
 ((stL h t_8 [(.int .u64 n10), (.int .u64 n11)])).bind fun x12 =>
 ((gI .u64 (rdC x12 t_8 0))).bind fun n13 =>
 ((gI .u64 (rdC x12 t_8 1))).bind fun n14 =>
 some (exitR h0 x12 (.agg #[(.int .u64 n13), (.int .u64 n14)]))) := by kernel_rfl
end Go.Proofs.YtiadfnedbbkojaaDoor.Kb
namespace Go.Proofs.YtiadfnedbbkojaaDoor.Kb
open Go Go.Proofs Go.Proofs.YtiadfnedbbkojaaDoor Go.Proofs.YtiadfnedbbkojaaDoor.X
set_option maxRecDepth 100000
set_option linter.unusedVariables false
def p31 : List (List Nat × List Nat) := []
 noncomputable def t31Y (N : NewF) (n : Nat) (op_0 w_1 a_2a a_2b : Int) (h : AH) : Option (Go.Value × AH) := yrun Tryd.prog (runS Tryd.prog n) n p31 N (resY Tryd.prog n) 31 [(.int .i64 op_0), (.int .i64 w_1), (.agg #[(.int .u64 a_2a), (.int .u64 a_2b)])] h
theorem t31_ok {n : Nat} {op_0 w_1 a_2a a_2b : Int} {h : AH} {r : Go.Value × AH} (hv : t31Y hNew n op_0 w_1 a_2a a_2b h = some r) : runS Tryd.prog (n + 1) 31 [(.int .i64 op_0), (.int .i64 w_1), (.agg #[(.int .u64 a_2a), (.int .u64 a_2b)])] h = some r := yrun_ok hv
theorem t31 (N : NewF) (n : Nat) (op_0 w_1 a_2a a_2b : Int) (h : AH) : t31Y N n op_0 w_1 a_2a a_2b h =
 ((N (setLow h h.next) [(.int .u64 a_2a), (.int .u64 a_2b)] 0)).bind fun p0 =>
 ((N p0.2 [(.int .u64 0), (.int .u64 0)] 0)).bind fun p1 =>
 cond (iEq op_0 12)
 (((gI .u64 (rdC p1.2 ⟨p0.1, 0, none⟩ 0))).bind fun n2 =>
 ((gI .u64 (rdC p1.2 ⟨p0.1, 0, none⟩ 1))).bind fun n3 =>
 ((runS Tryd.prog n 63 [(.agg #[(.int .u64 n2), (.int .u64 n3)])] p1.2)).bind fun p4 =>
 ((gI .i64 (some p4.1))).bind fun n5 =>
 ((runS Tryd.prog n 36 [(.int .i64 (iMin n5 w_1))] p4.2)).bind fun p6 =>
 ((gI .u64 (some p6.1))).bind fun n7 =>
 ((stL p6.2 ⟨p1.1, 0, none⟩ [(.int .u64 n7), (.int .u64 0)])).bind fun x8 =>
 ((gI .u64 (rdC x8 ⟨p1.1, 0, none⟩ 0))).bind fun n9 =>
 ((gI .u64 (rdC x8 ⟨p1.1, 0, none⟩ 1))).bind fun n10 =>
 some (exitR h x8 (.agg #[(.int .u64 n9), (.int .u64 n10)])))
 (cond (iEq op_0 13)
 (((gI .u64 (rdC p1.2 (Addr.add ⟨p0.1, 0, none⟩ 0) 0))).bind fun n11 =>
 ((runS Tryd.prog n 28 [(.int .i64 w_1), (.int .u64 n11)] p1.2)).bind fun p12 =>
 ((gI .i64 (some p12.1))).bind fun n13 =>
 ((runS Tryd.prog n 27 [(.int .i64 w_1), (.int .i64 n13)] p12.2)).bind fun p14 =>
 ((gI .u64 (some p14.1))).bind fun n15 =>
 ((stL p14.2 ⟨p1.1, 0, none⟩ [(.int .u64 n15), (.int .u64 0)])).bind fun x16 =>
 ((gI .u64 (rdC x16 ⟨p1.1, 0, none⟩ 0))).bind fun n17 =>
 ((gI .u64 (rdC x16 ⟨p1.1, 0, none⟩ 1))).bind fun n18 =>
 some (exitR h x16 (.agg #[(.int .u64 n17), (.int .u64 n18)])))
 (((gI .u64 (rdC p1.2 (Addr.add ⟨p0.1, 0, none⟩ 0) 0))).bind fun n19 =>
 ((runS Tryd.prog n 28 [(.int .i64 w_1), (.int .u64 n19)] (setLow p1.2 p1.2.next))).bind fun p20 =>
 ((gI .i64 (some p20.1))).bind fun n21 =>
 cond (Nat.beq p20.2.low p1.2.next)
 (((runS Tryd.prog n 27 [(.int .i64 w_1), (.int .i64 n21)] (setLow (setLow p20.2 p1.2.low) (setLow p20.2 p1.2.low).next))).bind fun p22 =>
 ((gI .u64 (some p22.1))).bind fun n23 =>
 cond (Nat.beq p22.2.low (setLow p20.2 p1.2.low).next)
 (((gI .u64 (rdC (setLow p22.2 (setLow p20.2 p1.2.low).low) (Addr.add ⟨p0.1, 0, none⟩ 1) 0))).bind fun n24 =>
 ((runS Tryd.prog n 28 [(.int .i64 w_1), (.int .u64 n24)] (setLow (setLow p22.2 (setLow p20.2 p1.2.low).low) (setLow p22.2 (setLow p20.2 p1.2.low).low).next))).bind fun p25 =>
 ((gI .i64 (some p25.1))).bind fun n26 =>
 cond (Nat.beq p25.2.low (setLow p22.2 (setLow p20.2 p1.2.low).low).next)
 (((runS Tryd.prog n 27 [(.int .i64 w_1), (.int .i64 n26)] (setLow p25.2 (setLow p22.2 (setLow p20.2 p1.2.low).low).low))).bind fun p27 =>
 ((gI .u64 (some p27.1))).bind fun n28 =>
 ((stL p27.2 ⟨p1.1, 0, none⟩ [(.int .u64 n23), (.int .u64 n28)])).bind fun x29 =>
 ((gI .u64 (rdC x29 ⟨p1.1, 0, none⟩ 0))).bind fun n30 =>
 ((gI .u64 (rdC x29 ⟨p1.1, 0, none⟩ 1))).bind fun n31 =>
 some (exitR h x29 (.agg #[(.int .u64 n30), (.int .u64 n31)])))
 (none))
 (none))
 (none))) := by kernel_rfl
def p32 : List (List Nat × List Nat) := []
 noncomputable def t32Y (N : NewF) (n : Nat) (b_0 : Bool) (h : AH) : Option (Go.Value × AH) := yrun Tryd.prog (runS Tryd.prog n) n p32 N (resY Tryd.prog n) 32 [(.bool b_0)] h
theorem t32_ok {n : Nat} {b_0 : Bool} {h : AH} {r : Go.Value × AH} (hv : t32Y hNew n b_0 h = some r) : runS Tryd.prog (n + 1) 32 [(.bool b_0)] h = some r := yrun_ok hv
theorem t32 (N : NewF) (n : Nat) (b_0 : Bool) (h : AH) : t32Y N n b_0 h =
 cond b_0
 (some (exitR h (setLow h h.next) (.int .u64 1)))
 (some (exitR h (setLow h h.next) (.int .u64 0))) := by kernel_rfl
def p33 : List (List Nat × List Nat) := [([1, 1], [0, 3, 5, 6, 8, 9])]
section
variable (N : NewF) (n : Nat) (h0 : AH) (w_0 : Int) (equal_3 : Bool) (a_5 b_6 t_8 : Addr) (yes_9 : Bool) (h : AH)
 noncomputable def c33_0 : Option (Go.Value × AH) := resY Tryd.prog n Tryd.f33 h0 (.code (subC (bodyC Tryd.f33) [1, 1]) [1, 1]) [] (E [(0, .int .i64 w_0), (3, .bool equal_3), (5, .pointer (some a_5)), (6, .pointer (some b_6)), (8, .pointer (some t_8)), (9, .bool yes_9)]) h
 noncomputable def c33_0Y : Option (Go.Value × AH) := yfrom Tryd.prog (runS Tryd.prog n) n Tryd.f33 h0 p33 N (resY Tryd.prog n Tryd.f33 h0) (subC (bodyC Tryd.f33) [1, 1]) [1, 1] [] (E [(0, .int .i64 w_0), (3, .bool equal_3), (5, .pointer (some a_5)), (6, .pointer (some b_6)), (8, .pointer (some t_8)), (9, .bool yes_9)]) h
variable {n} {h0} {w_0 equal_3 a_5 b_6 t_8 yes_9} {h}
theorem c33_0_ok {r : Go.Value × AH} (hv : c33_0Y hNew n h0 w_0 equal_3 a_5 b_6 t_8 yes_9 h = some r) : c33_0 n h0 w_0 equal_3 a_5 b_6 t_8 yes_9 h = some r := yfrom_ok hv
end
 noncomputable def t33Y (N : NewF) (n : Nat) (w_0 a_1a a_1b b_2a b_2b : Int) (equal_3 : Bool) (h : AH) : Option (Go.Value × AH) := yrun Tryd.prog (runS Tryd.prog n) n p33 N (resY Tryd.prog n) 33 [(.int .i64 w_0), (.agg #[(.int .u64 a_1a), (.int .u64 a_1b)]), (.agg #[(.int .u64 b_2a), (.int .u64 b_2b)]), (.bool equal_3)] h
theorem t33_ok {n : Nat} {w_0 a_1a a_1b b_2a b_2b : Int} {equal_3 : Bool} {h : AH} {r : Go.Value × AH} (hv : t33Y hNew n w_0 a_1a a_1b b_2a b_2b equal_3 h = some r) : runS Tryd.prog (n + 1) 33 [(.int .i64 w_0), (.agg #[(.int .u64 a_1a), (.int .u64 a_1b)]), (.agg #[(.int .u64 b_2a), (.int .u64 b_2b)]), (.bool equal_3)] h = some r := yrun_ok hv
theorem t33 (N : NewF) (n : Nat) (w_0 a_1a a_1b b_2a b_2b : Int) (equal_3 : Bool) (h : AH) : t33Y N n w_0 a_1a a_1b b_2a b_2b equal_3 h =
 ((N (setLow h h.next) [(.int .u64 a_1a), (.int .u64 a_1b)] 0)).bind fun p0 =>
 ((N p0.2 [(.int .u64 b_2a), (.int .u64 b_2b)] 0)).bind fun p1 =>
 ((N p1.2 [(.int .u64 0), (.int .u64 0)] 0)).bind fun p2 =>
 ((gI .u64 (rdC p2.2 ⟨p0.1, 0, none⟩ 0))).bind fun n3 =>
 ((gI .u64 (rdC p2.2 ⟨p0.1, 0, none⟩ 1))).bind fun n4 =>
 ((runS Tryd.prog n 66 [(.int .i64 w_0), (.agg #[(.int .u64 n3), (.int .u64 n4)])] (setLow p2.2 p2.2.next))).bind fun p5 =>
 ((gI .u64 (some p5.1))).bind fun n6 =>
 cond (Nat.beq p5.2.low p2.2.next)
 (((gI .u64 (rdC (setLow p5.2 p2.2.low) ⟨p1.1, 0, none⟩ 0))).bind fun n7 =>
 ((gI .u64 (rdC (setLow p5.2 p2.2.low) ⟨p1.1, 0, none⟩ 1))).bind fun n8 =>
 ((runS Tryd.prog n 67 [(.agg #[(.int .u64 n7), (.int .u64 n8)])] (setLow (setLow p5.2 p2.2.low) (setLow p5.2 p2.2.low).next))).bind fun p9 =>
 ((gI .u64 (some p9.1))).bind fun n10 =>
 cond (Nat.beq p9.2.low (setLow p5.2 p2.2.low).next)
 (cond (iLt n6 n10)
 (c33_0 n h w_0 equal_3 ⟨p0.1, 0, none⟩ ⟨p1.1, 0, none⟩ ⟨p2.1, 0, none⟩ true (setLow p9.2 (setLow p5.2 p2.2.low).low))
 (cond equal_3
 (((gI .u64 (rdC (setLow p9.2 (setLow p5.2 p2.2.low).low) ⟨p0.1, 0, none⟩ 0))).bind fun n11 =>
 ((gI .u64 (rdC (setLow p9.2 (setLow p5.2 p2.2.low).low) ⟨p0.1, 0, none⟩ 1))).bind fun n12 =>
 ((runS Tryd.prog n 66 [(.int .i64 w_0), (.agg #[(.int .u64 n11), (.int .u64 n12)])] (setLow (setLow p9.2 (setLow p5.2 p2.2.low).low) (setLow p9.2 (setLow p5.2 p2.2.low).low).next))).bind fun p13 =>
 ((gI .u64 (some p13.1))).bind fun n14 =>
 cond (Nat.beq p13.2.low (setLow p9.2 (setLow p5.2 p2.2.low).low).next)
 (((gI .u64 (rdC (setLow p13.2 (setLow p9.2 (setLow p5.2 p2.2.low).low).low) ⟨p1.1, 0, none⟩ 0))).bind fun n15 =>
 ((gI .u64 (rdC (setLow p13.2 (setLow p9.2 (setLow p5.2 p2.2.low).low).low) ⟨p1.1, 0, none⟩ 1))).bind fun n16 =>
 ((runS Tryd.prog n 67 [(.agg #[(.int .u64 n15), (.int .u64 n16)])] (setLow p13.2 (setLow p9.2 (setLow p5.2 p2.2.low).low).low))).bind fun p17 =>
 ((gI .u64 (some p17.1))).bind fun n18 =>
 c33_0 n h w_0 equal_3 ⟨p0.1, 0, none⟩ ⟨p1.1, 0, none⟩ ⟨p2.1, 0, none⟩ (iEq n14 n18) p17.2)
 (none))
 (c33_0 n h w_0 equal_3 ⟨p0.1, 0, none⟩ ⟨p1.1, 0, none⟩ ⟨p2.1, 0, none⟩ false (setLow p9.2 (setLow p5.2 p2.2.low).low))))
 (none))
 (none) := by kernel_rfl
theorem c33_0_eq (N : NewF) (n  : Nat) (h0 : AH) (w_0 : Int) (equal_3 : Bool) (a_5 b_6 t_8 : Addr) (yes_9 : Bool) (h : AH) : c33_0Y N n  h0 w_0 equal_3 a_5 b_6 t_8 yes_9 h =
 ((gI .u64 (rdC h a_5 0))).bind fun n0 =>
 ((gI .u64 (rdC h a_5 1))).bind fun n1 =>
 ((runS Tryd.prog n 67 [(.agg #[(.int .u64 n0), (.int .u64 n1)])] (setLow h h.next))).bind fun p2 =>
 ((gI .u64 (some p2.1))).bind fun n3 =>
 cond (Nat.beq p2.2.low h.next)
 (((gI .u64 (rdC (setLow p2.2 h.low) b_6 0))).bind fun n4 =>
 ((gI .u64 (rdC (setLow p2.2 h.low) b_6 1))).bind fun n5 =>
 ((runS Tryd.prog n 66 [(.int .i64 w_0), (.agg #[(.int .u64 n4), (.int .u64 n5)])] (setLow (setLow p2.2 h.low) (setLow p2.2 h.low).next))).bind fun p6 =>
 ((gI .u64 (some p6.1))).bind fun n7 =>
 cond (Nat.beq p6.2.low (setLow p2.2 h.low).next)
 (cond (iLt n7 n3)
 (((runS Tryd.prog n 32 [(.bool true)] (setLow p6.2 (setLow p2.2 h.low).low))).bind fun p8 =>
 ((gI .u64 (some p8.1))).bind fun n9 =>
 ((runS Tryd.prog n 32 [(.bool yes_9)] p8.2)).bind fun p10 =>
 ((gI .u64 (some p10.1))).bind fun n11 =>
 ((stL p10.2 t_8 [(.int .u64 n9), (.int .u64 n11)])).bind fun x12 =>
 ((gI .u64 (rdC x12 t_8 0))).bind fun n13 =>
 ((gI .u64 (rdC x12 t_8 1))).bind fun n14 =>
 some (exitR h0 x12 (.agg #[(.int .u64 n13), (.int .u64 n14)])))
 (cond (Bool.not equal_3)
 (((gI .u64 (rdC (setLow p6.2 (setLow p2.2 h.low).low) a_5 0))).bind fun n15 =>
 ((gI .u64 (rdC (setLow p6.2 (setLow p2.2 h.low).low) a_5 1))).bind fun n16 =>
 ((runS Tryd.prog n 67 [(.agg #[(.int .u64 n15), (.int .u64 n16)])] (setLow (setLow p6.2 (setLow p2.2 h.low).low) (setLow p6.2 (setLow p2.2 h.low).low).next))).bind fun p17 =>
 ((gI .u64 (some p17.1))).bind fun n18 =>
 cond (Nat.beq p17.2.low (setLow p6.2 (setLow p2.2 h.low).low).next)
 (((gI .u64 (rdC (setLow p17.2 (setLow p6.2 (setLow p2.2 h.low).low).low) b_6 0))).bind fun n19 =>
 ((gI .u64 (rdC (setLow p17.2 (setLow p6.2 (setLow p2.2 h.low).low).low) b_6 1))).bind fun n20 =>
 ((runS Tryd.prog n 66 [(.int .i64 w_0), (.agg #[(.int .u64 n19), (.int .u64 n20)])] (setLow p17.2 (setLow p6.2 (setLow p2.2 h.low).low).low))).bind fun p21 =>
 ((gI .u64 (some p21.1))).bind fun n22 =>
 ((runS Tryd.prog n 32 [(.bool (iEq n18 n22))] p21.2)).bind fun p23 =>
 ((gI .u64 (some p23.1))).bind fun n24 =>
 ((runS Tryd.prog n 32 [(.bool yes_9)] p23.2)).bind fun p25 =>
 ((gI .u64 (some p25.1))).bind fun n26 =>
 ((stL p25.2 t_8 [(.int .u64 n24), (.int .u64 n26)])).bind fun x27 =>
 ((gI .u64 (rdC x27 t_8 0))).bind fun n28 =>
 ((gI .u64 (rdC x27 t_8 1))).bind fun n29 =>
 some (exitR h0 x27 (.agg #[(.int .u64 n28), (.int .u64 n29)])))
 (none))
 (((runS Tryd.prog n 32 [(.bool false)] (setLow p6.2 (setLow p2.2 h.low).low))).bind fun p30 =>
 ((gI .u64 (some p30.1))).bind fun n31 =>
 ((runS Tryd.prog n 32 [(.bool yes_9)] p30.2)).bind fun p32 =>
 ((gI .u64 (some p32.1))).bind fun n33 =>
 ((stL p32.2 t_8 [(.int .u64 n31), (.int .u64 n33)])).bind fun x34 =>
 ((gI .u64 (rdC x34 t_8 0))).bind fun n35 =>
 ((gI .u64 (rdC x34 t_8 1))).bind fun n36 =>
 some (exitR h0 x34 (.agg #[(.int .u64 n35), (.int .u64 n36)])))))
 (none))
 (none) := by kernel_rfl
def p34 : List (List Nat × List Nat) := []
 noncomputable def t34Y (N : NewF) (n : Nat) (w_0 a_1a a_1b : Int) (h : AH) : Option (Go.Value × AH) := yrun Tryd.prog (runS Tryd.prog n) n p34 N (resY Tryd.prog n) 34 [(.int .i64 w_0), (.agg #[(.int .u64 a_1a), (.int .u64 a_1b)])] h
theorem t34_ok {n : Nat} {w_0 a_1a a_1b : Int} {h : AH} {r : Go.Value × AH} (hv : t34Y hNew n w_0 a_1a a_1b h = some r) : runS Tryd.prog (n + 1) 34 [(.int .i64 w_0), (.agg #[(.int .u64 a_1a), (.int .u64 a_1b)])] h = some r := yrun_ok hv
theorem t34 (N : NewF) (n : Nat) (w_0 a_1a a_1b : Int) (h : AH) : t34Y N n w_0 a_1a a_1b h =
 ((N (setLow h h.next) [(.int .u64 a_1a), (.int .u64 a_1b)] 0)).bind fun p0 =>
 ((N p0.2 [(.int .u64 0), (.int .u64 0)] 0)).bind fun p1 =>
 cond (iLt (iSub .i64 w_0 1) 0)
 (none)
 (((gI .u64 (rdC p1.2 (Addr.add ⟨p0.1, 0, none⟩ 0) 0))).bind fun n2 =>
 ((gI .u64 (rdC p1.2 (Addr.add ⟨p0.1, 0, none⟩ 1) 0))).bind fun n3 =>
 ((gI .u64 (rdC p1.2 (Addr.add ⟨p0.1, 0, none⟩ 1) 0))).bind fun n4 =>
 ((gI .u64 (rdC p1.2 (Addr.add ⟨p0.1, 0, none⟩ 0) 0))).bind fun n5 =>
 ((stL p1.2 ⟨p1.1, 0, none⟩ [(.int .u64 (iOr .u64 (iAndNot .u64 n2 (iShl .u64 1 (iSub .i64 w_0 1))) (iAnd .u64 n3 (iShl .u64 1 (iSub .i64 w_0 1))))), (.int .u64 (iOr .u64 (iAndNot .u64 n4 (iShl .u64 1 (iSub .i64 w_0 1))) (iAnd .u64 n5 (iShl .u64 1 (iSub .i64 w_0 1)))))])).bind fun x6 =>
 ((gI .u64 (rdC x6 ⟨p1.1, 0, none⟩ 0))).bind fun n7 =>
 ((gI .u64 (rdC x6 ⟨p1.1, 0, none⟩ 1))).bind fun n8 =>
 some (exitR h x6 (.agg #[(.int .u64 n7), (.int .u64 n8)]))) := by kernel_rfl
def p35 : List (List Nat × List Nat) := []
 noncomputable def t35Y (N : NewF) (n : Nat) (a_0a a_0b b_1a b_1b : Int) (h : AH) : Option (Go.Value × AH) := yrun Tryd.prog (runS Tryd.prog n) n p35 N (resY Tryd.prog n) 35 [(.agg #[(.int .u64 a_0a), (.int .u64 a_0b)]), (.agg #[(.int .u64 b_1a), (.int .u64 b_1b)])] h
theorem t35_ok {n : Nat} {a_0a a_0b b_1a b_1b : Int} {h : AH} {r : Go.Value × AH} (hv : t35Y hNew n a_0a a_0b b_1a b_1b h = some r) : runS Tryd.prog (n + 1) 35 [(.agg #[(.int .u64 a_0a), (.int .u64 a_0b)]), (.agg #[(.int .u64 b_1a), (.int .u64 b_1b)])] h = some r := yrun_ok hv
theorem t35 (N : NewF) (n : Nat) (a_0a a_0b b_1a b_1b : Int) (h : AH) : t35Y N n a_0a a_0b b_1a b_1b h =
 ((N (setLow h h.next) [(.int .u64 a_0a), (.int .u64 a_0b)] 0)).bind fun p0 =>
 ((N p0.2 [(.int .u64 b_1a), (.int .u64 b_1b)] 0)).bind fun p1 =>
 ((N p1.2 [(.int .u64 0), (.int .u64 0)] 0)).bind fun p2 =>
 ((gI .u64 (rdC p2.2 (Addr.add ⟨p0.1, 0, none⟩ 0) 0))).bind fun n3 =>
 ((gI .u64 (rdC p2.2 (Addr.add ⟨p1.1, 0, none⟩ 0) 0))).bind fun n4 =>
 ((gI .u64 (rdC p2.2 (Addr.add ⟨p0.1, 0, none⟩ 1) 0))).bind fun n5 =>
 ((gI .u64 (rdC p2.2 (Addr.add ⟨p1.1, 0, none⟩ 1) 0))).bind fun n6 =>
 ((stL p2.2 ⟨p2.1, 0, none⟩ [(.int .u64 (iAnd .u64 n3 n4)), (.int .u64 (iAnd .u64 n5 n6))])).bind fun x7 =>
 ((gI .u64 (rdC x7 ⟨p2.1, 0, none⟩ 0))).bind fun n8 =>
 ((gI .u64 (rdC x7 ⟨p2.1, 0, none⟩ 1))).bind fun n9 =>
 some (exitR h x7 (.agg #[(.int .u64 n8), (.int .u64 n9)])) := by kernel_rfl
def p37 : List (List Nat × List Nat) := []
 noncomputable def t37Y (N : NewF) (n : Nat) (w_0 b_1a b_1b : Int) (h : AH) : Option (Go.Value × AH) := yrun Tryd.prog (runS Tryd.prog n) n p37 N (resY Tryd.prog n) 37 [(.int .i64 w_0), (.agg #[(.int .u64 b_1a), (.int .u64 b_1b)])] h
theorem t37_ok {n : Nat} {w_0 b_1a b_1b : Int} {h : AH} {r : Go.Value × AH} (hv : t37Y hNew n w_0 b_1a b_1b h = some r) : runS Tryd.prog (n + 1) 37 [(.int .i64 w_0), (.agg #[(.int .u64 b_1a), (.int .u64 b_1b)])] h = some r := yrun_ok hv
theorem t37 (N : NewF) (n : Nat) (w_0 b_1a b_1b : Int) (h : AH) : t37Y N n w_0 b_1a b_1b h =
 ((N (setLow h h.next) [(.int .u64 b_1a), (.int .u64 b_1b)] 0)).bind fun p0 =>
 cond (iLe 1 w_0)
 (cond (iLe w_0 64)
 (((gI .u64 (rdC p0.2 (Addr.add ⟨p0.1, 0, none⟩ 0) 0))).bind fun n1 =>
 ((gI .u64 (rdC p0.2 (Addr.add ⟨p0.1, 0, none⟩ 1) 0))).bind fun n2 =>
 ((runS Tryd.prog n 14 [(.int .i64 w_0)] (setLow p0.2 p0.2.next))).bind fun p3 =>
 ((gI .u64 (some p3.1))).bind fun n4 =>
 cond (Nat.beq p3.2.low p0.2.next)
 (cond (iEq (iAndNot .u64 (iOr .u64 n1 n2) n4) 0)
 (((gI .u64 (rdC (setLow p3.2 p0.2.low) (Addr.add ⟨p0.1, 0, none⟩ 0) 0))).bind fun n5 =>
 ((gI .u64 (rdC (setLow p3.2 p0.2.low) (Addr.add ⟨p0.1, 0, none⟩ 1) 0))).bind fun n6 =>
 some (exitR h (setLow p3.2 p0.2.low) (.bool (iEq (iAnd .u64 n5 n6) 0))))
 (some (exitR h (setLow p3.2 p0.2.low) (.bool false))))
 (none))
 (some (exitR h p0.2 (.bool false))))
 (some (exitR h p0.2 (.bool false))) := by kernel_rfl
def p38 : List (List Nat × List Nat) := []
def p39 : List (List Nat × List Nat) := []
 noncomputable def t39Y (N : NewF) (n : Nat) (w_0 n_1 : Int) (h : AH) : Option (Go.Value × AH) := yrun Tryd.prog (runS Tryd.prog n) n p39 N (resY Tryd.prog n) 39 [(.int .i64 w_0), (.int .u64 n_1)] h
theorem t39_ok {n : Nat} {w_0 n_1 : Int} {h : AH} {r : Go.Value × AH} (hv : t39Y hNew n w_0 n_1 h = some r) : runS Tryd.prog (n + 1) 39 [(.int .i64 w_0), (.int .u64 n_1)] h = some r := yrun_ok hv
theorem t39 (N : NewF) (n : Nat) (w_0 n_1 : Int) (h : AH) : t39Y N n w_0 n_1 h =
 ((N (setLow h h.next) [(.int .u64 0), (.int .u64 0)] 0)).bind fun p0 =>
 ((runS Tryd.prog n 14 [(.int .i64 w_0)] p0.2)).bind fun p1 =>
 ((gI .u64 (some p1.1))).bind fun n2 =>
 ((runS Tryd.prog n 14 [(.int .i64 w_0)] p1.2)).bind fun p3 =>
 ((gI .u64 (some p3.1))).bind fun n4 =>
 ((stL p3.2 ⟨p0.1, 0, none⟩ [(.int .u64 (iAndNot .u64 n2 n_1)), (.int .u64 (iAnd .u64 n_1 n4))])).bind fun x5 =>
 ((gI .u64 (rdC x5 ⟨p0.1, 0, none⟩ 0))).bind fun n6 =>
 ((gI .u64 (rdC x5 ⟨p0.1, 0, none⟩ 1))).bind fun n7 =>
 some (exitR h x5 (.agg #[(.int .u64 n6), (.int .u64 n7)])) := by kernel_rfl
def p46 : List (List Nat × List Nat) := []
def p47 : List (List Nat × List Nat) := []
 noncomputable def t47Y (N : NewF) (n : Nat) (a_0a a_0b b_1a b_1b : Int) (h : AH) : Option (Go.Value × AH) := yrun Tryd.prog (runS Tryd.prog n) n p47 N (resY Tryd.prog n) 47 [(.agg #[(.int .u64 a_0a), (.int .u64 a_0b)]), (.agg #[(.int .u64 b_1a), (.int .u64 b_1b)])] h
theorem t47_ok {n : Nat} {a_0a a_0b b_1a b_1b : Int} {h : AH} {r : Go.Value × AH} (hv : t47Y hNew n a_0a a_0b b_1a b_1b h = some r) : runS Tryd.prog (n + 1) 47 [(.agg #[(.int .u64 a_0a), (.int .u64 a_0b)]), (.agg #[(.int .u64 b_1a), (.int .u64 b_1b)])] h = some r := yrun_ok hv
theorem t47 (N : NewF) (n : Nat) (a_0a a_0b b_1a b_1b : Int) (h : AH) : t47Y N n a_0a a_0b b_1a b_1b h =
 ((N (setLow h h.next) [(.int .u64 a_0a), (.int .u64 a_0b)] 0)).bind fun p0 =>
 ((N p0.2 [(.int .u64 b_1a), (.int .u64 b_1b)] 0)).bind fun p1 =>
 ((N p1.2 [(.int .u64 0), (.int .u64 0)] 0)).bind fun p2 =>
 ((gI .u64 (rdC p2.2 (Addr.add ⟨p0.1, 0, none⟩ 0) 0))).bind fun n3 =>
 ((gI .u64 (rdC p2.2 (Addr.add ⟨p1.1, 0, none⟩ 0) 0))).bind fun n4 =>
 ((gI .u64 (rdC p2.2 (Addr.add ⟨p0.1, 0, none⟩ 1) 0))).bind fun n5 =>
 ((gI .u64 (rdC p2.2 (Addr.add ⟨p1.1, 0, none⟩ 1) 0))).bind fun n6 =>
 ((stL p2.2 ⟨p2.1, 0, none⟩ [(.int .u64 (iOr .u64 n3 n4)), (.int .u64 (iOr .u64 n5 n6))])).bind fun x7 =>
 ((gI .u64 (rdC x7 ⟨p2.1, 0, none⟩ 0))).bind fun n8 =>
 ((gI .u64 (rdC x7 ⟨p2.1, 0, none⟩ 1))).bind fun n9 =>
 some (exitR h x7 (.agg #[(.int .u64 n8), (.int .u64 n9)])) := by kernel_rfl
def p51 : List (List Nat × List Nat) := []
 noncomputable def t51Y (N : NewF) (n : Nat) (b_0a b_0b n_1 : Int) (h : AH) : Option (Go.Value × AH) := yrun Tryd.prog (runS Tryd.prog n) n p51 N (resY Tryd.prog n) 51 [(.agg #[(.int .u64 b_0a), (.int .u64 b_0b)]), (.int .u64 n_1)] h
theorem t51_ok {n : Nat} {b_0a b_0b n_1 : Int} {h : AH} {r : Go.Value × AH} (hv : t51Y hNew n b_0a b_0b n_1 h = some r) : runS Tryd.prog (n + 1) 51 [(.agg #[(.int .u64 b_0a), (.int .u64 b_0b)]), (.int .u64 n_1)] h = some r := yrun_ok hv
theorem t51 (N : NewF) (n : Nat) (b_0a b_0b n_1 : Int) (h : AH) : t51Y N n b_0a b_0b n_1 h =
 ((N (setLow h h.next) [(.int .u64 b_0a), (.int .u64 b_0b)] 0)).bind fun p0 =>
 ((gI .u64 (rdC p0.2 (Addr.add ⟨p0.1, 0, none⟩ 0) 0))).bind fun n1 =>
 cond (iEq (iAnd .u64 n_1 n1) 0)
 (((gI .u64 (rdC p0.2 (Addr.add ⟨p0.1, 0, none⟩ 1) 0))).bind fun n2 =>
 ((gI .u64 (rdC p0.2 (Addr.add ⟨p0.1, 0, none⟩ 1) 0))).bind fun n3 =>
 some (exitR h p0.2 (.bool (iEq (iAnd .u64 n_1 n2) n3))))
 (some (exitR h p0.2 (.bool false))) := by kernel_rfl
def p52 : List (List Nat × List Nat) := []
 noncomputable def t52Y (N : NewF) (n : Nat) (w_0 a_1 b_2 : Int) (h : AH) : Option (Go.Value × AH) := yrun Tryd.prog (runS Tryd.prog n) n p52 N (resY Tryd.prog n) 52 [(.int .i64 w_0), (.int .u64 a_1), (.int .u64 b_2)] h
theorem t52_ok {n : Nat} {w_0 a_1 b_2 : Int} {h : AH} {r : Go.Value × AH} (hv : t52Y hNew n w_0 a_1 b_2 h = some r) : runS Tryd.prog (n + 1) 52 [(.int .i64 w_0), (.int .u64 a_1), (.int .u64 b_2)] h = some r := yrun_ok hv
theorem t52 (N : NewF) (n : Nat) (w_0 a_1 b_2 : Int) (h : AH) : t52Y N n w_0 a_1 b_2 h =
 ((runS Tryd.prog n 56 [(.int .i64 w_0), (.int .u64 a_1)] (setLow h h.next))).bind fun p0 =>
 ((gI .i64 (some p0.1))).bind fun n1 =>
 ((runS Tryd.prog n 56 [(.int .i64 w_0), (.int .u64 b_2)] p0.2)).bind fun p2 =>
 ((gI .i64 (some p2.1))).bind fun n3 =>
 cond (iEq n3 0)
 (((runS Tryd.prog n 14 [(.int .i64 w_0)] p2.2)).bind fun p4 =>
 ((gI .u64 (some p4.1))).bind fun n5 =>
 some (exitR h p4.2 (.tuple #[(.int .u64 n5), (.int .u64 a_1)])))
 (cond (iEq n3 (-1))
 (((runS Tryd.prog n 14 [(.int .i64 w_0)] p2.2)).bind fun p6 =>
 ((gI .u64 (some p6.1))).bind fun n7 =>
 some (exitR h p6.2 (.tuple #[(.int .u64 (iAnd .u64 (iSub .u64 0 a_1) n7)), (.int .u64 0)])))
 (cond (iEq n3 0)
 (none)
 (((runS Tryd.prog n 14 [(.int .i64 w_0)] (setLow p2.2 p2.2.next))).bind fun p8 =>
 ((gI .u64 (some p8.1))).bind fun n9 =>
 cond (Nat.beq p8.2.low p2.2.next)
 (cond (iEq n3 0)
 (none)
 (((runS Tryd.prog n 14 [(.int .i64 w_0)] (setLow (setLow p8.2 p2.2.low) (setLow p8.2 p2.2.low).next))).bind fun p10 =>
 ((gI .u64 (some p10.1))).bind fun n11 =>
 cond (Nat.beq p10.2.low (setLow p8.2 p2.2.low).next)
 (some (exitR h (setLow p10.2 (setLow p8.2 p2.2.low).low) (.tuple #[(.int .u64 (iAnd .u64 (iConv .u64 (iQuo .i64 n1 n3)) n9)), (.int .u64 (iAnd .u64 (iConv .u64 (iRem .i64 n1 n3)) n11))])))
 (none)))
 (none)))) := by kernel_rfl
def p54 : List (List Nat × List Nat) := []
 noncomputable def t54Y (N : NewF) (n : Nat) (n_0 i_1 : Int) (h : AH) : Option (Go.Value × AH) := yrun Tryd.prog (runS Tryd.prog n) n p54 N (resY Tryd.prog n) 54 [(.int .u64 n_0), (.int .i64 i_1)] h
theorem t54_ok {n : Nat} {n_0 i_1 : Int} {h : AH} {r : Go.Value × AH} (hv : t54Y hNew n n_0 i_1 h = some r) : runS Tryd.prog (n + 1) 54 [(.int .u64 n_0), (.int .i64 i_1)] h = some r := yrun_ok hv
theorem t54 (N : NewF) (n : Nat) (n_0 i_1 : Int) (h : AH) : t54Y N n n_0 i_1 h =
 cond (iLt i_1 0)
 (none)
 (some (exitR h (setLow h h.next) (.int .i64 (iConv .i64 (iAnd .u64 (iShr .u64 n_0 i_1) 1))))) := by kernel_rfl
def p55 : List (List Nat × List Nat) := []
 noncomputable def t55Y (N : NewF) (n : Nat) (b_0 : Bool) (h : AH) : Option (Go.Value × AH) := yrun Tryd.prog (runS Tryd.prog n) n p55 N (resY Tryd.prog n) 55 [(.bool b_0)] h
theorem t55_ok {n : Nat} {b_0 : Bool} {h : AH} {r : Go.Value × AH} (hv : t55Y hNew n b_0 h = some r) : runS Tryd.prog (n + 1) 55 [(.bool b_0)] h = some r := yrun_ok hv
theorem t55 (N : NewF) (n : Nat) (b_0 : Bool) (h : AH) : t55Y N n b_0 h =
 cond b_0
 (some (exitR h (setLow h h.next) (.int .u64 1)))
 (some (exitR h (setLow h h.next) (.int .u64 0))) := by kernel_rfl
def p56 : List (List Nat × List Nat) := []
 noncomputable def t56Y (N : NewF) (n : Nat) (w_0 n_1 : Int) (h : AH) : Option (Go.Value × AH) := yrun Tryd.prog (runS Tryd.prog n) n p56 N (resY Tryd.prog n) 56 [(.int .i64 w_0), (.int .u64 n_1)] h
theorem t56_ok {n : Nat} {w_0 n_1 : Int} {h : AH} {r : Go.Value × AH} (hv : t56Y hNew n w_0 n_1 h = some r) : runS Tryd.prog (n + 1) 56 [(.int .i64 w_0), (.int .u64 n_1)] h = some r := yrun_ok hv
theorem t56 (N : NewF) (n : Nat) (w_0 n_1 : Int) (h : AH) : t56Y N n w_0 n_1 h =
 ((runS Tryd.prog n 54 [(.int .u64 n_1), (.int .i64 (iSub .i64 w_0 1))] (setLow h h.next))).bind fun p0 =>
 ((gI .i64 (some p0.1))).bind fun n1 =>
 cond (iEq n1 1)
 (((runS Tryd.prog n 14 [(.int .i64 w_0)] p0.2)).bind fun p2 =>
 ((gI .u64 (some p2.1))).bind fun n3 =>
 some (exitR h p2.2 (.int .i64 (iConv .i64 (iOr .u64 n_1 (iNot .u64 n3))))))
 (some (exitR h p0.2 (.int .i64 (iConv .i64 n_1)))) := by kernel_rfl
def p58 : List (List Nat × List Nat) := [([1, 1, 0, 0, 1, 1], [0, 2, 3, 9, 10]), ([1, 1, 1, 1, 1, 1, 1, 1, 1, 1, 0, 0, 1, 1], [0, 9, 10])]
section
variable (N : NewF) (n : Nat) (h0 : AH) (op_0 a_2 b_3 x_9 y_10 : Int) (h : AH)
 noncomputable def c58_0 : Option (Go.Value × AH) := resY Tryd.prog n Tryd.f58 h0 (.code (subC (bodyC Tryd.f58) [1, 1, 0, 0, 1, 1]) [1, 1, 0, 0, 1, 1]) [.block 0, .seq (subC (bodyC Tryd.f58) [1, 1, 1]) [1, 1, 1]] (E [(0, .int .i64 op_0), (2, .int .u64 a_2), (3, .int .u64 b_3), (9, .int .i64 x_9), (10, .int .i64 y_10)]) h
 noncomputable def c58_0Y : Option (Go.Value × AH) := yfrom Tryd.prog (runS Tryd.prog n) n Tryd.f58 h0 p58 N (resY Tryd.prog n Tryd.f58 h0) (subC (bodyC Tryd.f58) [1, 1, 0, 0, 1, 1]) [1, 1, 0, 0, 1, 1] [.block 0, .seq (subC (bodyC Tryd.f58) [1, 1, 1]) [1, 1, 1]] (E [(0, .int .i64 op_0), (2, .int .u64 a_2), (3, .int .u64 b_3), (9, .int .i64 x_9), (10, .int .i64 y_10)]) h
variable {n} {h0} {op_0 a_2 b_3 x_9 y_10} {h}
theorem c58_0_ok {r : Go.Value × AH} (hv : c58_0Y hNew n h0 op_0 a_2 b_3 x_9 y_10 h = some r) : c58_0 n h0 op_0 a_2 b_3 x_9 y_10 h = some r := yfrom_ok hv
end
section
variable (N : NewF) (n : Nat) (h0 : AH) (op_0 x_9 y_10 : Int) (h : AH)
 noncomputable def c58_1 : Option (Go.Value × AH) := resY Tryd.prog n Tryd.f58 h0 (.code (subC (bodyC Tryd.f58) [1, 1, 0, 0, 1, 1, 1, 1, 1, 1, 1, 1, 1, 1]) [1, 1, 1, 1, 1, 1, 1, 1, 1, 1, 0, 0, 1, 1]) [.block 0, .seq (subC (bodyC Tryd.f58) [1, 1, 1]) [1, 1, 1]] (E [(0, .int .i64 op_0), (9, .int .i64 x_9), (10, .int .i64 y_10)]) h
 noncomputable def c58_1Y : Option (Go.Value × AH) := yfrom Tryd.prog (runS Tryd.prog n) n Tryd.f58 h0 p58 N (resY Tryd.prog n Tryd.f58 h0) (subC (bodyC Tryd.f58) [1, 1, 0, 0, 1, 1, 1, 1, 1, 1, 1, 1, 1, 1]) [1, 1, 1, 1, 1, 1, 1, 1, 1, 1, 0, 0, 1, 1] [.block 0, .seq (subC (bodyC Tryd.f58) [1, 1, 1]) [1, 1, 1]] (E [(0, .int .i64 op_0), (9, .int .i64 x_9), (10, .int .i64 y_10)]) h
variable {n} {h0} {op_0 x_9 y_10} {h}
theorem c58_1_ok {r : Go.Value × AH} (hv : c58_1Y hNew n h0 op_0 x_9 y_10 h = some r) : c58_1 n h0 op_0 x_9 y_10 h = some r := yfrom_ok hv
end
 noncomputable def t58Y (N : NewF) (n : Nat) (op_0 w_1 a_2 b_3 : Int) (h : AH) : Option (Go.Value × AH) := yrun Tryd.prog (runS Tryd.prog n) n p58 N (resY Tryd.prog n) 58 [(.int .i64 op_0), (.int .i64 w_1), (.int .u64 a_2), (.int .u64 b_3)] h
theorem t58_ok {n : Nat} {op_0 w_1 a_2 b_3 : Int} {h : AH} {r : Go.Value × AH} (hv : t58Y hNew n op_0 w_1 a_2 b_3 h = some r) : runS Tryd.prog (n + 1) 58 [(.int .i64 op_0), (.int .i64 w_1), (.int .u64 a_2), (.int .u64 b_3)] h = some r := yrun_ok hv
theorem t58 (N : NewF) (n : Nat) (op_0 w_1 a_2 b_3 : Int) (h : AH) : t58Y N n op_0 w_1 a_2 b_3 h =
 ((runS Tryd.prog n 60 [(.int .i64 w_1), (.int .u64 a_2)] (setLow h h.next))).bind fun p0 =>
 ((gI .i64 (some p0.1))).bind fun n1 =>
 ((runS Tryd.prog n 60 [(.int .i64 w_1), (.int .u64 b_3)] p0.2)).bind fun p2 =>
 ((gI .i64 (some p2.1))).bind fun n3 =>
 cond (iEq op_0 5)
 (cond (iEq b_3 0)
 (((runS Tryd.prog n 36 [(.int .i64 w_1)] p2.2)).bind fun p4 =>
 ((gI .u64 (some p4.1))).bind fun n5 =>
 some (exitR h p4.2 (.int .u64 n5)))
 (cond (iEq op_0 7)
 (cond (iEq b_3 0)
 (((runS Tryd.prog n 36 [(.int .i64 w_1)] p2.2)).bind fun p6 =>
 ((gI .u64 (some p6.1))).bind fun n7 =>
 some (exitR h p6.2 (.int .u64 n7)))
 (c58_0 n h op_0 a_2 b_3 n1 n3 p2.2))
 (c58_0 n h op_0 a_2 b_3 n1 n3 p2.2)))
 (cond (iEq op_0 7)
 (cond (iEq b_3 0)
 (((runS Tryd.prog n 36 [(.int .i64 w_1)] p2.2)).bind fun p8 =>
 ((gI .u64 (some p8.1))).bind fun n9 =>
 some (exitR h p8.2 (.int .u64 n9)))
 (c58_0 n h op_0 a_2 b_3 n1 n3 p2.2))
 (c58_0 n h op_0 a_2 b_3 n1 n3 p2.2)) := by kernel_rfl
theorem c58_0_eq (N : NewF) (n  : Nat) (h0 : AH) (op_0 a_2 b_3 x_9 y_10 : Int) (h : AH) : c58_0Y N n  h0 op_0 a_2 b_3 x_9 y_10 h =
 cond (iEq b_3 0)
 (some (exitR h0 h (.int .u64 a_2)))
 (cond (iEq op_0 5)
 (cond (iEq b_3 0)
 (none)
 (some (exitR h0 h (.int .u64 (iQuo .u64 a_2 b_3)))))
 (cond (iEq op_0 6)
 (cond (iEq b_3 0)
 (none)
 (some (exitR h0 h (.int .u64 (iRem .u64 a_2 b_3)))))
 (cond (iEq y_10 (-1))
 (cond (iEq op_0 7)
 (some (exitR h0 h (.int .u64 (iNeg .u64 a_2))))
 (c58_1 n h0 op_0 x_9 y_10 h))
 (c58_1 n h0 op_0 x_9 y_10 h)))) := by kernel_rfl
theorem c58_1_eq (N : NewF) (n  : Nat) (h0 : AH) (op_0 x_9 y_10 : Int) (h : AH) : c58_1Y N n  h0 op_0 x_9 y_10 h =
 cond (iEq y_10 (-1))
 (some (exitR h0 h (.int .u64 0)))
 (cond (iEq op_0 7)
 (cond (iEq y_10 0)
 (none)
 (some (exitR h0 h (.int .u64 (iConv .u64 (iQuo .i64 x_9 y_10))))))
 (cond (iEq y_10 0)
 (none)
 (some (exitR h0 h (.int .u64 (iConv .u64 (iRem .i64 x_9 y_10))))))) := by kernel_rfl
def p59 : List (List Nat × List Nat) := []
 noncomputable def t59Y (N : NewF) (n : Nat) (op_0 w_1 a_2 b_3 : Int) (h : AH) : Option (Go.Value × AH) := yrun Tryd.prog (runS Tryd.prog n) n p59 N (resY Tryd.prog n) 59 [(.int .i64 op_0), (.int .i64 w_1), (.int .u64 a_2), (.int .u64 b_3)] h
theorem t59_ok {n : Nat} {op_0 w_1 a_2 b_3 : Int} {h : AH} {r : Go.Value × AH} (hv : t59Y hNew n op_0 w_1 a_2 b_3 h = some r) : runS Tryd.prog (n + 1) 59 [(.int .i64 op_0), (.int .i64 w_1), (.int .u64 a_2), (.int .u64 b_3)] h = some r := yrun_ok hv
theorem t59 (N : NewF) (n : Nat) (op_0 w_1 a_2 b_3 : Int) (h : AH) : t59Y N n op_0 w_1 a_2 b_3 h =
 cond (iEq op_0 14)
 (((runS Tryd.prog n 60 [(.int .i64 w_1), (.int .u64 a_2)] (setLow h h.next))).bind fun p0 =>
 ((gI .i64 (some p0.1))).bind fun n1 =>
 cond (iLt (iMin b_3 (iConv .u64 (iSub .i64 w_1 1))) 0)
 (none)
 (some (exitR h p0.2 (.int .u64 (iConv .u64 (iShr .i64 n1 (iMin b_3 (iConv .u64 (iSub .i64 w_1 1)))))))))
 (cond (iLe (iConv .u64 w_1) b_3)
 (some (exitR h (setLow h h.next) (.int .u64 0)))
 (cond (iEq op_0 12)
 (cond (iLt b_3 0)
 (none)
 (some (exitR h (setLow h h.next) (.int .u64 (iShl .u64 a_2 b_3)))))
 (cond (iLt b_3 0)
 (none)
 (some (exitR h (setLow h h.next) (.int .u64 (iShr .u64 a_2 b_3))))))) := by kernel_rfl
def p60 : List (List Nat × List Nat) := []
 noncomputable def t60Y (N : NewF) (n : Nat) (w_0 n_1 : Int) (h : AH) : Option (Go.Value × AH) := yrun Tryd.prog (runS Tryd.prog n) n p60 N (resY Tryd.prog n) 60 [(.int .i64 w_0), (.int .u64 n_1)] h
theorem t60_ok {n : Nat} {w_0 n_1 : Int} {h : AH} {r : Go.Value × AH} (hv : t60Y hNew n w_0 n_1 h = some r) : runS Tryd.prog (n + 1) 60 [(.int .i64 w_0), (.int .u64 n_1)] h = some r := yrun_ok hv
theorem t60 (N : NewF) (n : Nat) (w_0 n_1 : Int) (h : AH) : t60Y N n w_0 n_1 h =
 cond (iLt (iSub .i64 64 w_0) 0)
 (none)
 (cond (iLt (iSub .i64 64 w_0) 0)
 (none)
 (some (exitR h (setLow h h.next) (.int .i64 (iShr .i64 (iConv .i64 (iShl .u64 n_1 (iSub .i64 64 w_0))) (iSub .i64 64 w_0)))))) := by kernel_rfl
def p61 : List (List Nat × List Nat) := []
 noncomputable def t61Y (N : NewF) (n : Nat) (op_0 w_1 a_2 b_3 : Int) (h : AH) : Option (Go.Value × AH) := yrun Tryd.prog (runS Tryd.prog n) n p61 N (resY Tryd.prog n) 61 [(.int .i64 op_0), (.int .i64 w_1), (.int .u64 a_2), (.int .u64 b_3)] h
theorem t61_ok {n : Nat} {op_0 w_1 a_2 b_3 : Int} {h : AH} {r : Go.Value × AH} (hv : t61Y hNew n op_0 w_1 a_2 b_3 h = some r) : runS Tryd.prog (n + 1) 61 [(.int .i64 op_0), (.int .i64 w_1), (.int .u64 a_2), (.int .u64 b_3)] h = some r := yrun_ok hv
theorem t61 (N : NewF) (n : Nat) (op_0 w_1 a_2 b_3 : Int) (h : AH) : t61Y N n op_0 w_1 a_2 b_3 h =
 cond (iEq op_0 15)
 (((runS Tryd.prog n 32 [(.bool (iEq a_2 b_3))] (setLow h h.next))).bind fun p0 =>
 ((gI .u64 (some p0.1))).bind fun n1 =>
 some (exitR h p0.2 (.int .u64 n1)))
 (cond (iEq op_0 16)
 (((runS Tryd.prog n 32 [(.bool (iNe a_2 b_3))] (setLow h h.next))).bind fun p2 =>
 ((gI .u64 (some p2.1))).bind fun n3 =>
 some (exitR h p2.2 (.int .u64 n3)))
 (cond (iEq op_0 17)
 (((runS Tryd.prog n 32 [(.bool (iLt a_2 b_3))] (setLow h h.next))).bind fun p4 =>
 ((gI .u64 (some p4.1))).bind fun n5 =>
 some (exitR h p4.2 (.int .u64 n5)))
 (cond (iEq op_0 18)
 (((runS Tryd.prog n 32 [(.bool (iLe a_2 b_3))] (setLow h h.next))).bind fun p6 =>
 ((gI .u64 (some p6.1))).bind fun n7 =>
 some (exitR h p6.2 (.int .u64 n7)))
 (cond (iEq op_0 19)
 (((runS Tryd.prog n 60 [(.int .i64 w_1), (.int .u64 a_2)] (setLow h h.next))).bind fun p8 =>
 ((gI .i64 (some p8.1))).bind fun n9 =>
 ((runS Tryd.prog n 60 [(.int .i64 w_1), (.int .u64 b_3)] p8.2)).bind fun p10 =>
 ((gI .i64 (some p10.1))).bind fun n11 =>
 ((runS Tryd.prog n 32 [(.bool (iLt n9 n11))] p10.2)).bind fun p12 =>
 ((gI .u64 (some p12.1))).bind fun n13 =>
 some (exitR h p12.2 (.int .u64 n13)))
 (((runS Tryd.prog n 60 [(.int .i64 w_1), (.int .u64 a_2)] (setLow h h.next))).bind fun p14 =>
 ((gI .i64 (some p14.1))).bind fun n15 =>
 ((runS Tryd.prog n 60 [(.int .i64 w_1), (.int .u64 b_3)] p14.2)).bind fun p16 =>
 ((gI .i64 (some p16.1))).bind fun n17 =>
 ((runS Tryd.prog n 32 [(.bool (iLe n15 n17))] p16.2)).bind fun p18 =>
 ((gI .u64 (some p18.1))).bind fun n19 =>
 some (exitR h p18.2 (.int .u64 n19))))))) := by kernel_rfl
def p62 : List (List Nat × List Nat) := []
 noncomputable def t62Y (N : NewF) (n : Nat) (x_0 : Int) (h : AH) : Option (Go.Value × AH) := yrun Tryd.prog (runS Tryd.prog n) n p62 N (resY Tryd.prog n) 62 [(.int .u64 x_0)] h
theorem t62_ok {n : Nat} {x_0 : Int} {h : AH} {r : Go.Value × AH} (hv : t62Y hNew n x_0 h = some r) : runS Tryd.prog (n + 1) 62 [(.int .u64 x_0)] h = some r := yrun_ok hv
theorem t62 (N : NewF) (n : Nat) (x_0 : Int) (h : AH) : t62Y N n x_0 h =
 cond (iEq x_0 0)
 (some (exitR h (setLow h h.next) (.int .i64 64)))
 (cond (inB (iShr .u64 (mulS .u64 (iAnd .u64 x_0 (iNeg .u64 x_0)) 285870213051353865) 58) 64)
 (((gI .u8 (rdC (setLow h h.next) (Addr.add ⟨0, 0, none⟩ ((Int.toNat (iShr .u64 (mulS .u64 (iAnd .u64 x_0 (iNeg .u64 x_0)) 285870213051353865) 58)) * 1)) 0))).bind fun n0 =>
 some (exitR h (setLow h h.next) (.int .i64 (iConv .i64 n0))))
 (none)) := by kernel_rfl
def p63 : List (List Nat × List Nat) := []
 noncomputable def t63Y (N : NewF) (n : Nat) (a_0a a_0b : Int) (h : AH) : Option (Go.Value × AH) := yrun Tryd.prog (runS Tryd.prog n) n p63 N (resY Tryd.prog n) 63 [(.agg #[(.int .u64 a_0a), (.int .u64 a_0b)])] h
theorem t63_ok {n : Nat} {a_0a a_0b : Int} {h : AH} {r : Go.Value × AH} (hv : t63Y hNew n a_0a a_0b h = some r) : runS Tryd.prog (n + 1) 63 [(.agg #[(.int .u64 a_0a), (.int .u64 a_0b)])] h = some r := yrun_ok hv
theorem t63 (N : NewF) (n : Nat) (a_0a a_0b : Int) (h : AH) : t63Y N n a_0a a_0b h =
 ((N (setLow h h.next) [(.int .u64 a_0a), (.int .u64 a_0b)] 0)).bind fun p0 =>
 ((gI .u64 (rdC p0.2 (Addr.add ⟨p0.1, 0, none⟩ 0) 0))).bind fun n1 =>
 ((runS Tryd.prog n 62 [(.int .u64 (iNot .u64 n1))] p0.2)).bind fun p2 =>
 ((gI .i64 (some p2.1))).bind fun n3 =>
 some (exitR h p2.2 (.int .i64 n3)) := by kernel_rfl
def p64 : List (List Nat × List Nat) := []
 noncomputable def t64Y (N : NewF) (n : Nat) (x_0 : Int) (h : AH) : Option (Go.Value × AH) := yrun Tryd.prog (runS Tryd.prog n) n p64 N (resY Tryd.prog n) 64 [(.int .u64 x_0)] h
theorem t64_ok {n : Nat} {x_0 : Int} {h : AH} {r : Go.Value × AH} (hv : t64Y hNew n x_0 h = some r) : runS Tryd.prog (n + 1) 64 [(.int .u64 x_0)] h = some r := yrun_ok hv
theorem t64 (N : NewF) (n : Nat) (x_0 : Int) (h : AH) : t64Y N n x_0 h =
 ((runS Tryd.prog n 74 [(.int .u64 x_0)] (setLow h h.next))).bind fun p0 =>
 ((gI .i64 (some p0.1))).bind fun n1 =>
 some (exitR h p0.2 (.int .i64 (iSub .i64 64 n1))) := by kernel_rfl
end Go.Proofs.YtiadfnedbbkojaaDoor.Kb
namespace Go.Proofs.YtiadfnedbbkojaaDoor.Kb
open Go Go.Proofs Go.Proofs.YtiadfnedbbkojaaDoor Go.Proofs.YtiadfnedbbkojaaDoor.X
set_option maxRecDepth 100000
set_option linter.unusedVariables false
def p65 : List (List Nat × List Nat) := []
 noncomputable def t65Y (N : NewF) (n : Nat) (x_0 : Int) (h : AH) : Option (Go.Value × AH) := yrun Tryd.prog (runS Tryd.prog n) n p65 N (resY Tryd.prog n) 65 [(.int .u64 x_0)] h
theorem t65_ok {n : Nat} {x_0 : Int} {h : AH} {r : Go.Value × AH} (hv : t65Y hNew n x_0 h = some r) : runS Tryd.prog (n + 1) 65 [(.int .u64 x_0)] h = some r := yrun_ok hv
theorem t65 (N : NewF) (n : Nat) (x_0 : Int) (h : AH) : t65Y N n x_0 h =
 some (exitR h (setLow h h.next) (.int .i64 (iAnd .i64 (iConv .i64 (iAdd .u64 (iAdd .u64 (iAdd .u64 (iAnd .u64 (iAdd .u64 (iShr .u64 (iAdd .u64 (iAnd .u64 (iShr .u64 (iAdd .u64 (iAnd .u64 (iShr .u64 x_0 1) 6148914691236517205) (iAnd .u64 x_0 6148914691236517205)) 2) 3689348814741910323) (iAnd .u64 (iAdd .u64 (iAnd .u64 (iShr .u64 x_0 1) 6148914691236517205) (iAnd .u64 x_0 6148914691236517205)) 3689348814741910323)) 4) (iAdd .u64 (iAnd .u64 (iShr .u64 (iAdd .u64 (iAnd .u64 (iShr .u64 x_0 1) 6148914691236517205) (iAnd .u64 x_0 6148914691236517205)) 2) 3689348814741910323) (iAnd .u64 (iAdd .u64 (iAnd .u64 (iShr .u64 x_0 1) 6148914691236517205) (iAnd .u64 x_0 6148914691236517205)) 3689348814741910323))) 1085102592571150095) (iShr .u64 (iAnd .u64 (iAdd .u64 (iShr .u64 (iAdd .u64 (iAnd .u64 (iShr .u64 (iAdd .u64 (iAnd .u64 (iShr .u64 x_0 1) 6148914691236517205) (iAnd .u64 x_0 6148914691236517205)) 2) 3689348814741910323) (iAnd .u64 (iAdd .u64 (iAnd .u64 (iShr .u64 x_0 1) 6148914691236517205) (iAnd .u64 x_0 6148914691236517205)) 3689348814741910323)) 4) (iAdd .u64 (iAnd .u64 (iShr .u64 (iAdd .u64 (iAnd .u64 (iShr .u64 x_0 1) 6148914691236517205) (iAnd .u64 x_0 6148914691236517205)) 2) 3689348814741910323) (iAnd .u64 (iAdd .u64 (iAnd .u64 (iShr .u64 x_0 1) 6148914691236517205) (iAnd .u64 x_0 6148914691236517205)) 3689348814741910323))) 1085102592571150095) 8)) (iShr .u64 (iAdd .u64 (iAnd .u64 (iAdd .u64 (iShr .u64 (iAdd .u64 (iAnd .u64 (iShr .u64 (iAdd .u64 (iAnd .u64 (iShr .u64 x_0 1) 6148914691236517205) (iAnd .u64 x_0 6148914691236517205)) 2) 3689348814741910323) (iAnd .u64 (iAdd .u64 (iAnd .u64 (iShr .u64 x_0 1) 6148914691236517205) (iAnd .u64 x_0 6148914691236517205)) 3689348814741910323)) 4) (iAdd .u64 (iAnd .u64 (iShr .u64 (iAdd .u64 (iAnd .u64 (iShr .u64 x_0 1) 6148914691236517205) (iAnd .u64 x_0 6148914691236517205)) 2) 3689348814741910323) (iAnd .u64 (iAdd .u64 (iAnd .u64 (iShr .u64 x_0 1) 6148914691236517205) (iAnd .u64 x_0 6148914691236517205)) 3689348814741910323))) 1085102592571150095) (iShr .u64 (iAnd .u64 (iAdd .u64 (iShr .u64 (iAdd .u64 (iAnd .u64 (iShr .u64 (iAdd .u64 (iAnd .u64 (iShr .u64 x_0 1) 6148914691236517205) (iAnd .u64 x_0 6148914691236517205)) 2) 3689348814741910323) (iAnd .u64 (iAdd .u64 (iAnd .u64 (iShr .u64 x_0 1) 6148914691236517205) (iAnd .u64 x_0 6148914691236517205)) 3689348814741910323)) 4) (iAdd .u64 (iAnd .u64 (iShr .u64 (iAdd .u64 (iAnd .u64 (iShr .u64 x_0 1) 6148914691236517205) (iAnd .u64 x_0 6148914691236517205)) 2) 3689348814741910323) (iAnd .u64 (iAdd .u64 (iAnd .u64 (iShr .u64 x_0 1) 6148914691236517205) (iAnd .u64 x_0 6148914691236517205)) 3689348814741910323))) 1085102592571150095) 8)) 16)) (iShr .u64 (iAdd .u64 (iAdd .u64 (iAnd .u64 (iAdd .u64 (iShr .u64 (iAdd .u64 (iAnd .u64 (iShr .u64 (iAdd .u64 (iAnd .u64 (iShr .u64 x_0 1) 6148914691236517205) (iAnd .u64 x_0 6148914691236517205)) 2) 3689348814741910323) (iAnd .u64 (iAdd .u64 (iAnd .u64 (iShr .u64 x_0 1) 6148914691236517205) (iAnd .u64 x_0 6148914691236517205)) 3689348814741910323)) 4) (iAdd .u64 (iAnd .u64 (iShr .u64 (iAdd .u64 (iAnd .u64 (iShr .u64 x_0 1) 6148914691236517205) (iAnd .u64 x_0 6148914691236517205)) 2) 3689348814741910323) (iAnd .u64 (iAdd .u64 (iAnd .u64 (iShr .u64 x_0 1) 6148914691236517205) (iAnd .u64 x_0 6148914691236517205)) 3689348814741910323))) 1085102592571150095) (iShr .u64 (iAnd .u64 (iAdd .u64 (iShr .u64 (iAdd .u64 (iAnd .u64 (iShr .u64 (iAdd .u64 (iAnd .u64 (iShr .u64 x_0 1) 6148914691236517205) (iAnd .u64 x_0 6148914691236517205)) 2) 3689348814741910323) (iAnd .u64 (iAdd .u64 (iAnd .u64 (iShr .u64 x_0 1) 6148914691236517205) (iAnd .u64 x_0 6148914691236517205)) 3689348814741910323)) 4) (iAdd .u64 (iAnd .u64 (iShr .u64 (iAdd .u64 (iAnd .u64 (iShr .u64 x_0 1) 6148914691236517205) (iAnd .u64 x_0 6148914691236517205)) 2) 3689348814741910323) (iAnd .u64 (iAdd .u64 (iAnd .u64 (iShr .u64 x_0 1) 6148914691236517205) (iAnd .u64 x_0 6148914691236517205)) 3689348814741910323))) 1085102592571150095) 8)) (iShr .u64 (iAdd .u64 (iAnd .u64 (iAdd .u64 (iShr .u64 (iAdd .u64 (iAnd .u64 (iShr .u64 (iAdd .u64 (iAnd .u64 (iShr .u64 x_0 1) 6148914691236517205) (iAnd .u64 x_0 6148914691236517205)) 2) 3689348814741910323) (iAnd .u64 (iAdd .u64 (iAnd .u64 (iShr .u64 x_0 1) 6148914691236517205) (iAnd .u64 x_0 6148914691236517205)) 3689348814741910323)) 4) (iAdd .u64 (iAnd .u64 (iShr .u64 (iAdd .u64 (iAnd .u64 (iShr .u64 x_0 1) 6148914691236517205) (iAnd .u64 x_0 6148914691236517205)) 2) 3689348814741910323) (iAnd .u64 (iAdd .u64 (iAnd .u64 (iShr .u64 x_0 1) 6148914691236517205) (iAnd .u64 x_0 6148914691236517205)) 3689348814741910323))) 1085102592571150095) (iShr .u64 (iAnd .u64 (iAdd .u64 (iShr .u64 (iAdd .u64 (iAnd .u64 (iShr .u64 (iAdd .u64 (iAnd .u64 (iShr .u64 x_0 1) 6148914691236517205) (iAnd .u64 x_0 6148914691236517205)) 2) 3689348814741910323) (iAnd .u64 (iAdd .u64 (iAnd .u64 (iShr .u64 x_0 1) 6148914691236517205) (iAnd .u64 x_0 6148914691236517205)) 3689348814741910323)) 4) (iAdd .u64 (iAnd .u64 (iShr .u64 (iAdd .u64 (iAnd .u64 (iShr .u64 x_0 1) 6148914691236517205) (iAnd .u64 x_0 6148914691236517205)) 2) 3689348814741910323) (iAnd .u64 (iAdd .u64 (iAnd .u64 (iShr .u64 x_0 1) 6148914691236517205) (iAnd .u64 x_0 6148914691236517205)) 3689348814741910323))) 1085102592571150095) 8)) 16)) 32))) 127))) := by kernel_rfl
def p66 : List (List Nat × List Nat) := []
 noncomputable def t66Y (N : NewF) (n : Nat) (w_0 a_1a a_1b : Int) (h : AH) : Option (Go.Value × AH) := yrun Tryd.prog (runS Tryd.prog n) n p66 N (resY Tryd.prog n) 66 [(.int .i64 w_0), (.agg #[(.int .u64 a_1a), (.int .u64 a_1b)])] h
theorem t66_ok {n : Nat} {w_0 a_1a a_1b : Int} {h : AH} {r : Go.Value × AH} (hv : t66Y hNew n w_0 a_1a a_1b h = some r) : runS Tryd.prog (n + 1) 66 [(.int .i64 w_0), (.agg #[(.int .u64 a_1a), (.int .u64 a_1b)])] h = some r := yrun_ok hv
theorem t66 (N : NewF) (n : Nat) (w_0 a_1a a_1b : Int) (h : AH) : t66Y N n w_0 a_1a a_1b h =
 ((N (setLow h h.next) [(.int .u64 a_1a), (.int .u64 a_1b)] 0)).bind fun p0 =>
 ((runS Tryd.prog n 36 [(.int .i64 w_0)] (setLow p0.2 p0.2.next))).bind fun p1 =>
 ((gI .u64 (some p1.1))).bind fun n2 =>
 cond (Nat.beq p1.2.low p0.2.next)
 (((gI .u64 (rdC (setLow p1.2 p0.2.low) (Addr.add ⟨p0.1, 0, none⟩ 0) 0))).bind fun n3 =>
 some (exitR h (setLow p1.2 p0.2.low) (.int .u64 (iAndNot .u64 n2 n3))))
 (none) := by kernel_rfl
def p67 : List (List Nat × List Nat) := []
 noncomputable def t67Y (N : NewF) (n : Nat) (a_0a a_0b : Int) (h : AH) : Option (Go.Value × AH) := yrun Tryd.prog (runS Tryd.prog n) n p67 N (resY Tryd.prog n) 67 [(.agg #[(.int .u64 a_0a), (.int .u64 a_0b)])] h
theorem t67_ok {n : Nat} {a_0a a_0b : Int} {h : AH} {r : Go.Value × AH} (hv : t67Y hNew n a_0a a_0b h = some r) : runS Tryd.prog (n + 1) 67 [(.agg #[(.int .u64 a_0a), (.int .u64 a_0b)])] h = some r := yrun_ok hv
theorem t67 (N : NewF) (n : Nat) (a_0a a_0b : Int) (h : AH) : t67Y N n a_0a a_0b h =
 ((N (setLow h h.next) [(.int .u64 a_0a), (.int .u64 a_0b)] 0)).bind fun p0 =>
 ((gI .u64 (rdC p0.2 (Addr.add ⟨p0.1, 0, none⟩ 1) 0))).bind fun n1 =>
 some (exitR h p0.2 (.int .u64 n1)) := by kernel_rfl
def p70 : List (List Nat × List Nat) := [([0, 1, 0, 1, 1], [0, 2, 3, 5, 8, 9, 10])]
def p71 : List (List Nat × List Nat) := []
def p73 : List (List Nat × List Nat) := []
 noncomputable def t73Y (N : NewF) (n : Nat) (yes_0 no_1 : Bool) (h : AH) : Option (Go.Value × AH) := yrun Tryd.prog (runS Tryd.prog n) n p73 N (resY Tryd.prog n) 73 [(.bool yes_0), (.bool no_1)] h
theorem t73_ok {n : Nat} {yes_0 no_1 : Bool} {h : AH} {r : Go.Value × AH} (hv : t73Y hNew n yes_0 no_1 h = some r) : runS Tryd.prog (n + 1) 73 [(.bool yes_0), (.bool no_1)] h = some r := yrun_ok hv
theorem t73 (N : NewF) (n : Nat) (yes_0 no_1 : Bool) (h : AH) : t73Y N n yes_0 no_1 h =
 ((N (setLow h h.next) [(.int .u64 0), (.int .u64 0)] 0)).bind fun p0 =>
 cond yes_0
 (((runS Tryd.prog n 39 [(.int .i64 1), (.int .u64 1)] p0.2)).bind fun p1 =>
 cond (aggIs 2 p1.1)
 (((gI .u64 (aggC 0 p1.1))).bind fun n2 =>
 ((gI .u64 (aggC 1 p1.1))).bind fun n3 =>
 ((stL p1.2 ⟨p0.1, 0, none⟩ [(.int .u64 n2), (.int .u64 n3)])).bind fun x4 =>
 ((gI .u64 (rdC x4 ⟨p0.1, 0, none⟩ 0))).bind fun n5 =>
 ((gI .u64 (rdC x4 ⟨p0.1, 0, none⟩ 1))).bind fun n6 =>
 some (exitR h x4 (.agg #[(.int .u64 n5), (.int .u64 n6)])))
 (none))
 (cond no_1
 (((runS Tryd.prog n 39 [(.int .i64 1), (.int .u64 0)] p0.2)).bind fun p7 =>
 cond (aggIs 2 p7.1)
 (((gI .u64 (aggC 0 p7.1))).bind fun n8 =>
 ((gI .u64 (aggC 1 p7.1))).bind fun n9 =>
 ((stL p7.2 ⟨p0.1, 0, none⟩ [(.int .u64 n8), (.int .u64 n9)])).bind fun x10 =>
 ((gI .u64 (rdC x10 ⟨p0.1, 0, none⟩ 0))).bind fun n11 =>
 ((gI .u64 (rdC x10 ⟨p0.1, 0, none⟩ 1))).bind fun n12 =>
 some (exitR h x10 (.agg #[(.int .u64 n11), (.int .u64 n12)])))
 (none))
 (((stL p0.2 ⟨p0.1, 0, none⟩ [(.int .u64 0), (.int .u64 0)])).bind fun x13 =>
 ((gI .u64 (rdC x13 ⟨p0.1, 0, none⟩ 0))).bind fun n14 =>
 ((gI .u64 (rdC x13 ⟨p0.1, 0, none⟩ 1))).bind fun n15 =>
 some (exitR h x13 (.agg #[(.int .u64 n14), (.int .u64 n15)])))) := by kernel_rfl
def p74 : List (List Nat × List Nat) := [([1, 1], [0, 2]), ([1, 1, 1], [0, 2])]
section
variable (N : NewF) (n : Nat) (h0 : AH) (x_0 n_2 : Int) (h : AH)
 noncomputable def c74_0 : Option (Go.Value × AH) := resY Tryd.prog n Tryd.f74 h0 (.code (subC (bodyC Tryd.f74) [1, 1]) [1, 1]) [] (E [(0, .int .u64 x_0), (2, .int .i64 n_2)]) h
 noncomputable def c74_0Y : Option (Go.Value × AH) := yfrom Tryd.prog (runS Tryd.prog n) n Tryd.f74 h0 p74 N (resY Tryd.prog n Tryd.f74 h0) (subC (bodyC Tryd.f74) [1, 1]) [1, 1] [] (E [(0, .int .u64 x_0), (2, .int .i64 n_2)]) h
variable {n} {h0} {x_0 n_2} {h}
theorem c74_0_ok {r : Go.Value × AH} (hv : c74_0Y hNew n h0 x_0 n_2 h = some r) : c74_0 n h0 x_0 n_2 h = some r := yfrom_ok hv
end
section
variable (N : NewF) (n : Nat) (h0 : AH) (x_0 n_2 : Int) (h : AH)
 noncomputable def c74_1 : Option (Go.Value × AH) := resY Tryd.prog n Tryd.f74 h0 (.code (subC (bodyC Tryd.f74) [1, 1, 1]) [1, 1, 1]) [] (E [(0, .int .u64 x_0), (2, .int .i64 n_2)]) h
 noncomputable def c74_1Y : Option (Go.Value × AH) := yfrom Tryd.prog (runS Tryd.prog n) n Tryd.f74 h0 p74 N (resY Tryd.prog n Tryd.f74 h0) (subC (bodyC Tryd.f74) [1, 1, 1]) [1, 1, 1] [] (E [(0, .int .u64 x_0), (2, .int .i64 n_2)]) h
variable {n} {h0} {x_0 n_2} {h}
theorem c74_1_ok {r : Go.Value × AH} (hv : c74_1Y hNew n h0 x_0 n_2 h = some r) : c74_1 n h0 x_0 n_2 h = some r := yfrom_ok hv
end
 noncomputable def t74Y (N : NewF) (n : Nat) (x_0 : Int) (h : AH) : Option (Go.Value × AH) := yrun Tryd.prog (runS Tryd.prog n) n p74 N (resY Tryd.prog n) 74 [(.int .u64 x_0)] h
theorem t74_ok {n : Nat} {x_0 : Int} {h : AH} {r : Go.Value × AH} (hv : t74Y hNew n x_0 h = some r) : runS Tryd.prog (n + 1) 74 [(.int .u64 x_0)] h = some r := yrun_ok hv
theorem t74 (N : NewF) (n : Nat) (x_0 : Int) (h : AH) : t74Y N n x_0 h =
 cond (iLe 4294967296 x_0)
 (c74_0 n h (iShr .u64 x_0 32) 32 (setLow h h.next))
 (c74_0 n h x_0 0 (setLow h h.next)) := by kernel_rfl
theorem c74_0_eq (N : NewF) (n  : Nat) (h0 : AH) (x_0 n_2 : Int) (h : AH) : c74_0Y N n  h0 x_0 n_2 h =
 cond (iLe 65536 x_0)
 (c74_1 n h0 (iShr .u64 x_0 16) (iAdd .i64 n_2 16) h)
 (c74_1 n h0 x_0 n_2 h) := by kernel_rfl
theorem c74_1_eq (N : NewF) (n  : Nat) (h0 : AH) (x_0 n_2 : Int) (h : AH) : c74_1Y N n  h0 x_0 n_2 h =
 cond (iLe 256 x_0)
 (((sIx (ByteArray.mk (List.toArray [(OfNat.ofNat 0), (OfNat.ofNat 1), (OfNat.ofNat 2), (OfNat.ofNat 2), (OfNat.ofNat 3), (OfNat.ofNat 3), (OfNat.ofNat 3), (OfNat.ofNat 3), (OfNat.ofNat 4), (OfNat.ofNat 4), (OfNat.ofNat 4), (OfNat.ofNat 4), (OfNat.ofNat 4), (OfNat.ofNat 4), (OfNat.ofNat 4), (OfNat.ofNat 4), (OfNat.ofNat 5), (OfNat.ofNat 5), (OfNat.ofNat 5), (OfNat.ofNat 5), (OfNat.ofNat 5), (OfNat.ofNat 5), (OfNat.ofNat 5), (OfNat.ofNat 5), (OfNat.ofNat 5), (OfNat.ofNat 5), (OfNat.ofNat 5), (OfNat.ofNat 5), (OfNat.ofNat 5), (OfNat.ofNat 5), (OfNat.ofNat 5), (OfNat.ofNat 5), (OfNat.ofNat 6), (OfNat.ofNat 6), (OfNat.ofNat 6), (OfNat.ofNat 6), (OfNat.ofNat 6), (OfNat.ofNat 6), (OfNat.ofNat 6), (OfNat.ofNat 6), (OfNat.ofNat 6), (OfNat.ofNat 6), (OfNat.ofNat 6), (OfNat.ofNat 6), (OfNat.ofNat 6), (OfNat.ofNat 6), (OfNat.ofNat 6), (OfNat.ofNat 6), (OfNat.ofNat 6), (OfNat.ofNat 6), (OfNat.ofNat 6), (OfNat.ofNat 6), (OfNat.ofNat 6), (OfNat.ofNat 6), (OfNat.ofNat 6), (OfNat.ofNat 6), (OfNat.ofNat 6), (OfNat.ofNat 6), (OfNat.ofNat 6), (OfNat.ofNat 6), (OfNat.ofNat 6), (OfNat.ofNat 6), (OfNat.ofNat 6), (OfNat.ofNat 6), (OfNat.ofNat 7), (OfNat.ofNat 7), (OfNat.ofNat 7), (OfNat.ofNat 7), (OfNat.ofNat 7), (OfNat.ofNat 7), (OfNat.ofNat 7), (OfNat.ofNat 7), (OfNat.ofNat 7), (OfNat.ofNat 7), (OfNat.ofNat 7), (OfNat.ofNat 7), (OfNat.ofNat 7), (OfNat.ofNat 7), (OfNat.ofNat 7), (OfNat.ofNat 7), (OfNat.ofNat 7), (OfNat.ofNat 7), (OfNat.ofNat 7), (OfNat.ofNat 7), (OfNat.ofNat 7), (OfNat.ofNat 7), (OfNat.ofNat 7), (OfNat.ofNat 7), (OfNat.ofNat 7), (OfNat.ofNat 7), (OfNat.ofNat 7), (OfNat.ofNat 7), (OfNat.ofNat 7), (OfNat.ofNat 7), (OfNat.ofNat 7), (OfNat.ofNat 7), (OfNat.ofNat 7), (OfNat.ofNat 7), (OfNat.ofNat 7), (OfNat.ofNat 7), (OfNat.ofNat 7), (OfNat.ofNat 7), (OfNat.ofNat 7), (OfNat.ofNat 7), (OfNat.ofNat 7), (OfNat.ofNat 7), (OfNat.ofNat 7), (OfNat.ofNat 7), (OfNat.ofNat 7), (OfNat.ofNat 7), (OfNat.ofNat 7), (OfNat.ofNat 7), (OfNat.ofNat 7), (OfNat.ofNat 7), (OfNat.ofNat 7), (OfNat.ofNat 7), (OfNat.ofNat 7), (OfNat.ofNat 7), (OfNat.ofNat 7), (OfNat.ofNat 7), (OfNat.ofNat 7), (OfNat.ofNat 7), (OfNat.ofNat 7), (OfNat.ofNat 7), (OfNat.ofNat 7), (OfNat.ofNat 7), (OfNat.ofNat 7), (OfNat.ofNat 7), (OfNat.ofNat 8), (OfNat.ofNat 8), (OfNat.ofNat 8), (OfNat.ofNat 8), (OfNat.ofNat 8), (OfNat.ofNat 8), (OfNat.ofNat 8), (OfNat.ofNat 8), (OfNat.ofNat 8), (OfNat.ofNat 8), (OfNat.ofNat 8), (OfNat.ofNat 8), (OfNat.ofNat 8), (OfNat.ofNat 8), (OfNat.ofNat 8), (OfNat.ofNat 8), (OfNat.ofNat 8), (OfNat.ofNat 8), (OfNat.ofNat 8), (OfNat.ofNat 8), (OfNat.ofNat 8), (OfNat.ofNat 8), (OfNat.ofNat 8), (OfNat.ofNat 8), (OfNat.ofNat 8), (OfNat.ofNat 8), (OfNat.ofNat 8), (OfNat.ofNat 8), (OfNat.ofNat 8), (OfNat.ofNat 8), (OfNat.ofNat 8), (OfNat.ofNat 8), (OfNat.ofNat 8), (OfNat.ofNat 8), (OfNat.ofNat 8), (OfNat.ofNat 8), (OfNat.ofNat 8), (OfNat.ofNat 8), (OfNat.ofNat 8), (OfNat.ofNat 8), (OfNat.ofNat 8), (OfNat.ofNat 8), (OfNat.ofNat 8), (OfNat.ofNat 8), (OfNat.ofNat 8), (OfNat.ofNat 8), (OfNat.ofNat 8), (OfNat.ofNat 8), (OfNat.ofNat 8), (OfNat.ofNat 8), (OfNat.ofNat 8), (OfNat.ofNat 8), (OfNat.ofNat 8), (OfNat.ofNat 8), (OfNat.ofNat 8), (OfNat.ofNat 8), (OfNat.ofNat 8), (OfNat.ofNat 8), (OfNat.ofNat 8), (OfNat.ofNat 8), (OfNat.ofNat 8), (OfNat.ofNat 8), (OfNat.ofNat 8), (OfNat.ofNat 8), (OfNat.ofNat 8), (OfNat.ofNat 8), (OfNat.ofNat 8), (OfNat.ofNat 8), (OfNat.ofNat 8), (OfNat.ofNat 8), (OfNat.ofNat 8), (OfNat.ofNat 8), (OfNat.ofNat 8), (OfNat.ofNat 8), (OfNat.ofNat 8), (OfNat.ofNat 8), (OfNat.ofNat 8), (OfNat.ofNat 8), (OfNat.ofNat 8), (OfNat.ofNat 8), (OfNat.ofNat 8), (OfNat.ofNat 8), (OfNat.ofNat 8), (OfNat.ofNat 8), (OfNat.ofNat 8), (OfNat.ofNat 8), (OfNat.ofNat 8), (OfNat.ofNat 8), (OfNat.ofNat 8), (OfNat.ofNat 8), (OfNat.ofNat 8), (OfNat.ofNat 8), (OfNat.ofNat 8), (OfNat.ofNat 8), (OfNat.ofNat 8), (OfNat.ofNat 8), (OfNat.ofNat 8), (OfNat.ofNat 8), (OfNat.ofNat 8), (OfNat.ofNat 8), (OfNat.ofNat 8), (OfNat.ofNat 8), (OfNat.ofNat 8), (OfNat.ofNat 8), (OfNat.ofNat 8), (OfNat.ofNat 8), (OfNat.ofNat 8), (OfNat.ofNat 8), (OfNat.ofNat 8), (OfNat.ofNat 8), (OfNat.ofNat 8), (OfNat.ofNat 8), (OfNat.ofNat 8), (OfNat.ofNat 8), (OfNat.ofNat 8), (OfNat.ofNat 8), (OfNat.ofNat 8), (OfNat.ofNat 8), (OfNat.ofNat 8), (OfNat.ofNat 8), (OfNat.ofNat 8), (OfNat.ofNat 8), (OfNat.ofNat 8), (OfNat.ofNat 8), (OfNat.ofNat 8), (OfNat.ofNat 8), (OfNat.ofNat 8), (OfNat.ofNat 8)])) (iConv .u8 (iShr .u64 x_0 8)))).bind fun n0 =>
 some (exitR h0 h (.int .i64 (iAdd .i64 (iAdd .i64 n_2 8) (iConv .i64 n0)))))
 (((sIx (ByteArray.mk (List.toArray [(OfNat.ofNat 0), (OfNat.ofNat 1), (OfNat.ofNat 2), (OfNat.ofNat 2), (OfNat.ofNat 3), (OfNat.ofNat 3), (OfNat.ofNat 3), (OfNat.ofNat 3), (OfNat.ofNat 4), (OfNat.ofNat 4), (OfNat.ofNat 4), (OfNat.ofNat 4), (OfNat.ofNat 4), (OfNat.ofNat 4), (OfNat.ofNat 4), (OfNat.ofNat 4), (OfNat.ofNat 5), (OfNat.ofNat 5), (OfNat.ofNat 5), (OfNat.ofNat 5), (OfNat.ofNat 5), (OfNat.ofNat 5), (OfNat.ofNat 5), (OfNat.ofNat 5), (OfNat.ofNat 5), (OfNat.ofNat 5), (OfNat.ofNat 5), (OfNat.ofNat 5), (OfNat.ofNat 5), (OfNat.ofNat 5), (OfNat.ofNat 5), (OfNat.ofNat 5), (OfNat.ofNat 6), (OfNat.ofNat 6), (OfNat.ofNat 6), (OfNat.ofNat 6), (OfNat.ofNat 6), (OfNat.ofNat 6), (OfNat.ofNat 6), (OfNat.ofNat 6), (OfNat.ofNat 6), (OfNat.ofNat 6), (OfNat.ofNat 6), (OfNat.ofNat 6), (OfNat.ofNat 6), (OfNat.ofNat 6), (OfNat.ofNat 6), (OfNat.ofNat 6), (OfNat.ofNat 6), (OfNat.ofNat 6), (OfNat.ofNat 6), (OfNat.ofNat 6), (OfNat.ofNat 6), (OfNat.ofNat 6), (OfNat.ofNat 6), (OfNat.ofNat 6), (OfNat.ofNat 6), (OfNat.ofNat 6), (OfNat.ofNat 6), (OfNat.ofNat 6), (OfNat.ofNat 6), (OfNat.ofNat 6), (OfNat.ofNat 6), (OfNat.ofNat 6), (OfNat.ofNat 7), (OfNat.ofNat 7), (OfNat.ofNat 7), (OfNat.ofNat 7), (OfNat.ofNat 7), (OfNat.ofNat 7), (OfNat.ofNat 7), (OfNat.ofNat 7), (OfNat.ofNat 7), (OfNat.ofNat 7), (OfNat.ofNat 7), (OfNat.ofNat 7), (OfNat.ofNat 7), (OfNat.ofNat 7), (OfNat.ofNat 7), (OfNat.ofNat 7), (OfNat.ofNat 7), (OfNat.ofNat 7), (OfNat.ofNat 7), (OfNat.ofNat 7), (OfNat.ofNat 7), (OfNat.ofNat 7), (OfNat.ofNat 7), (OfNat.ofNat 7), (OfNat.ofNat 7), (OfNat.ofNat 7), (OfNat.ofNat 7), (OfNat.ofNat 7), (OfNat.ofNat 7), (OfNat.ofNat 7), (OfNat.ofNat 7), (OfNat.ofNat 7), (OfNat.ofNat 7), (OfNat.ofNat 7), (OfNat.ofNat 7), (OfNat.ofNat 7), (OfNat.ofNat 7), (OfNat.ofNat 7), (OfNat.ofNat 7), (OfNat.ofNat 7), (OfNat.ofNat 7), (OfNat.ofNat 7), (OfNat.ofNat 7), (OfNat.ofNat 7), (OfNat.ofNat 7), (OfNat.ofNat 7), (OfNat.ofNat 7), (OfNat.ofNat 7), (OfNat.ofNat 7), (OfNat.ofNat 7), (OfNat.ofNat 7), (OfNat.ofNat 7), (OfNat.ofNat 7), (OfNat.ofNat 7), (OfNat.ofNat 7), (OfNat.ofNat 7), (OfNat.ofNat 7), (OfNat.ofNat 7), (OfNat.ofNat 7), (OfNat.ofNat 7), (OfNat.ofNat 7), (OfNat.ofNat 7), (OfNat.ofNat 7), (OfNat.ofNat 7), (OfNat.ofNat 8), (OfNat.ofNat 8), (OfNat.ofNat 8), (OfNat.ofNat 8), (OfNat.ofNat 8), (OfNat.ofNat 8), (OfNat.ofNat 8), (OfNat.ofNat 8), (OfNat.ofNat 8), (OfNat.ofNat 8), (OfNat.ofNat 8), (OfNat.ofNat 8), (OfNat.ofNat 8), (OfNat.ofNat 8), (OfNat.ofNat 8), (OfNat.ofNat 8), (OfNat.ofNat 8), (OfNat.ofNat 8), (OfNat.ofNat 8), (OfNat.ofNat 8), (OfNat.ofNat 8), (OfNat.ofNat 8), (OfNat.ofNat 8), (OfNat.ofNat 8), (OfNat.ofNat 8), (OfNat.ofNat 8), (OfNat.ofNat 8), (OfNat.ofNat 8), (OfNat.ofNat 8), (OfNat.ofNat 8), (OfNat.ofNat 8), (OfNat.ofNat 8), (OfNat.ofNat 8), (OfNat.ofNat 8), (OfNat.ofNat 8), (OfNat.ofNat 8), (OfNat.ofNat 8), (OfNat.ofNat 8), (OfNat.ofNat 8), (OfNat.ofNat 8), (OfNat.ofNat 8), (OfNat.ofNat 8), (OfNat.ofNat 8), (OfNat.ofNat 8), (OfNat.ofNat 8), (OfNat.ofNat 8), (OfNat.ofNat 8), (OfNat.ofNat 8), (OfNat.ofNat 8), (OfNat.ofNat 8), (OfNat.ofNat 8), (OfNat.ofNat 8), (OfNat.ofNat 8), (OfNat.ofNat 8), (OfNat.ofNat 8), (OfNat.ofNat 8), (OfNat.ofNat 8), (OfNat.ofNat 8), (OfNat.ofNat 8), (OfNat.ofNat 8), (OfNat.ofNat 8), (OfNat.ofNat 8), (OfNat.ofNat 8), (OfNat.ofNat 8), (OfNat.ofNat 8), (OfNat.ofNat 8), (OfNat.ofNat 8), (OfNat.ofNat 8), (OfNat.ofNat 8), (OfNat.ofNat 8), (OfNat.ofNat 8), (OfNat.ofNat 8), (OfNat.ofNat 8), (OfNat.ofNat 8), (OfNat.ofNat 8), (OfNat.ofNat 8), (OfNat.ofNat 8), (OfNat.ofNat 8), (OfNat.ofNat 8), (OfNat.ofNat 8), (OfNat.ofNat 8), (OfNat.ofNat 8), (OfNat.ofNat 8), (OfNat.ofNat 8), (OfNat.ofNat 8), (OfNat.ofNat 8), (OfNat.ofNat 8), (OfNat.ofNat 8), (OfNat.ofNat 8), (OfNat.ofNat 8), (OfNat.ofNat 8), (OfNat.ofNat 8), (OfNat.ofNat 8), (OfNat.ofNat 8), (OfNat.ofNat 8), (OfNat.ofNat 8), (OfNat.ofNat 8), (OfNat.ofNat 8), (OfNat.ofNat 8), (OfNat.ofNat 8), (OfNat.ofNat 8), (OfNat.ofNat 8), (OfNat.ofNat 8), (OfNat.ofNat 8), (OfNat.ofNat 8), (OfNat.ofNat 8), (OfNat.ofNat 8), (OfNat.ofNat 8), (OfNat.ofNat 8), (OfNat.ofNat 8), (OfNat.ofNat 8), (OfNat.ofNat 8), (OfNat.ofNat 8), (OfNat.ofNat 8), (OfNat.ofNat 8), (OfNat.ofNat 8), (OfNat.ofNat 8), (OfNat.ofNat 8), (OfNat.ofNat 8), (OfNat.ofNat 8), (OfNat.ofNat 8), (OfNat.ofNat 8), (OfNat.ofNat 8), (OfNat.ofNat 8), (OfNat.ofNat 8), (OfNat.ofNat 8), (OfNat.ofNat 8), (OfNat.ofNat 8)])) (iConv .u8 x_0))).bind fun n1 =>
 some (exitR h0 h (.int .i64 (iAdd .i64 n_2 (iConv .i64 n1))))) := by kernel_rfl
end Go.Proofs.YtiadfnedbbkojaaDoor.Kb
namespace Go.Proofs.YtiadfnedbbkojaaDoor.Kb
open Go Go.Proofs Go.Proofs.YtiadfnedbbkojaaDoor Go.Proofs.YtiadfnedbbkojaaDoor.X
set_option maxRecDepth 100000
set_option linter.unusedVariables false
def p23 : List (List Nat × List Nat) := [([0, 1, 0, 1, 1], [0, 1, 2, 13, 14, 15]), ([0, 1, 1, 1, 0, 0, 1, 1, 1, 1], [1, 2, 9]), ([1, 1, 1, 1, 0, 0, 1, 1, 1, 1], [0, 1, 2, 9]), ([0, 1, 1, 1, 1, 1, 0, 0, 1, 1, 1, 1], [1, 2, 9]), ([1, 1, 1, 1, 1, 1, 0, 0, 1, 1, 1, 1], [0, 1, 2, 9]), ([0, 1, 1, 1, 1, 1, 1, 1, 1, 1, 0, 0, 1, 1, 1, 1], [1, 2, 9]), ([1, 1, 1, 1, 1, 1, 1, 1, 1, 1, 0, 0, 1, 1, 1, 1], [0, 1, 2, 9])]
section
variable (N : NewF) (n m0 : Nat) (h0 : AH) (op_0 w_1 : Int) (widths_2 : Option Addr) (widths_2n widths_2c : Nat) (t_13 : Option Addr) (t_13n t_13c : Nat) (t_14 t_15 : Int) (h : AH)
 noncomputable def c23_0 : Option (Go.Value × AH) := resY Tryd.prog n Tryd.f23 h0 (.head (subC (bodyC Tryd.f23) [1, 1, 0, 1, 0, 0]) [0, 1, 0, 1, 1] m0) [.block 0, .seq (subC (bodyC Tryd.f23) [1, 1, 1]) [1, 1, 1]] (E [(0, .int .i64 op_0), (1, .int .i64 w_1), (2, .slice widths_2 widths_2n widths_2c), (13, .slice t_13 t_13n t_13c), (14, .int .i64 t_14), (15, .int .i64 t_15)]) h
 noncomputable def c23_0Y : Option (Go.Value × AH) := yhead Tryd.prog (runS Tryd.prog n) n Tryd.f23 h0 p23 N (resY Tryd.prog n Tryd.f23 h0) (subC (bodyC Tryd.f23) [1, 1, 0, 1, 0, 0]) [0, 1, 0, 1, 1] m0 [.block 0, .seq (subC (bodyC Tryd.f23) [1, 1, 1]) [1, 1, 1]] (E [(0, .int .i64 op_0), (1, .int .i64 w_1), (2, .slice widths_2 widths_2n widths_2c), (13, .slice t_13 t_13n t_13c), (14, .int .i64 t_14), (15, .int .i64 t_15)]) h
variable {n m0} {h0} {op_0 w_1 widths_2 widths_2n widths_2c t_13 t_13n t_13c t_14 t_15} {h}
theorem c23_0_ok {r : Go.Value × AH} (hv : c23_0Y hNew n m0 h0 op_0 w_1 widths_2 widths_2n widths_2c t_13 t_13n t_13c t_14 t_15 h = some r) : c23_0 n (m0 + 1) h0 op_0 w_1 widths_2 widths_2n widths_2c t_13 t_13n t_13c t_14 t_15 h = some r := yhead_ok hv
end
section
variable (N : NewF) (n : Nat) (h0 : AH) (w_1 : Int) (widths_2 : Option Addr) (widths_2n widths_2c : Nat) (n_9 : Int) (h : AH)
 noncomputable def c23_1 : Option (Go.Value × AH) := resY Tryd.prog n Tryd.f23 h0 (.code (subC (bodyC Tryd.f23) [1, 1, 1, 1, 0, 0, 1, 1, 1, 0]) [0, 1, 1, 1, 0, 0, 1, 1, 1, 1]) [.block 2, .seq (subC (bodyC Tryd.f23) [1, 1, 1, 1, 1]) [1, 1, 1, 1, 1]] (E [(1, .int .i64 w_1), (2, .slice widths_2 widths_2n widths_2c), (9, .int .i64 n_9)]) h
 noncomputable def c23_1Y : Option (Go.Value × AH) := yfrom Tryd.prog (runS Tryd.prog n) n Tryd.f23 h0 p23 N (resY Tryd.prog n Tryd.f23 h0) (subC (bodyC Tryd.f23) [1, 1, 1, 1, 0, 0, 1, 1, 1, 0]) [0, 1, 1, 1, 0, 0, 1, 1, 1, 1] [.block 2, .seq (subC (bodyC Tryd.f23) [1, 1, 1, 1, 1]) [1, 1, 1, 1, 1]] (E [(1, .int .i64 w_1), (2, .slice widths_2 widths_2n widths_2c), (9, .int .i64 n_9)]) h
variable {n} {h0} {w_1 widths_2 widths_2n widths_2c n_9} {h}
theorem c23_1_ok {r : Go.Value × AH} (hv : c23_1Y hNew n h0 w_1 widths_2 widths_2n widths_2c n_9 h = some r) : c23_1 n h0 w_1 widths_2 widths_2n widths_2c n_9 h = some r := yfrom_ok hv
end
section
variable (N : NewF) (n : Nat) (h0 : AH) (op_0 w_1 : Int) (widths_2 : Option Addr) (widths_2n widths_2c : Nat) (n_9 : Int) (h : AH)
 noncomputable def c23_2 : Option (Go.Value × AH) := resY Tryd.prog n Tryd.f23 h0 (.code (subC (bodyC Tryd.f23) [1, 1, 1, 1, 0, 0, 1, 1, 1, 1]) [1, 1, 1, 1, 0, 0, 1, 1, 1, 1]) [.block 2, .seq (subC (bodyC Tryd.f23) [1, 1, 1, 1, 1]) [1, 1, 1, 1, 1]] (E [(0, .int .i64 op_0), (1, .int .i64 w_1), (2, .slice widths_2 widths_2n widths_2c), (9, .int .i64 n_9)]) h
 noncomputable def c23_2Y : Option (Go.Value × AH) := yfrom Tryd.prog (runS Tryd.prog n) n Tryd.f23 h0 p23 N (resY Tryd.prog n Tryd.f23 h0) (subC (bodyC Tryd.f23) [1, 1, 1, 1, 0, 0, 1, 1, 1, 1]) [1, 1, 1, 1, 0, 0, 1, 1, 1, 1] [.block 2, .seq (subC (bodyC Tryd.f23) [1, 1, 1, 1, 1]) [1, 1, 1, 1, 1]] (E [(0, .int .i64 op_0), (1, .int .i64 w_1), (2, .slice widths_2 widths_2n widths_2c), (9, .int .i64 n_9)]) h
variable {n} {h0} {op_0 w_1 widths_2 widths_2n widths_2c n_9} {h}
theorem c23_2_ok {r : Go.Value × AH} (hv : c23_2Y hNew n h0 op_0 w_1 widths_2 widths_2n widths_2c n_9 h = some r) : c23_2 n h0 op_0 w_1 widths_2 widths_2n widths_2c n_9 h = some r := yfrom_ok hv
end
section
variable (N : NewF) (n : Nat) (h0 : AH) (w_1 : Int) (widths_2 : Option Addr) (widths_2n widths_2c : Nat) (n_9 : Int) (h : AH)
 noncomputable def c23_3 : Option (Go.Value × AH) := resY Tryd.prog n Tryd.f23 h0 (.code (subC (bodyC Tryd.f23) [1, 1, 1, 1, 0, 0, 1, 1, 1, 1, 1, 0]) [0, 1, 1, 1, 1, 1, 0, 0, 1, 1, 1, 1]) [.block 2, .seq (subC (bodyC Tryd.f23) [1, 1, 1, 1, 1]) [1, 1, 1, 1, 1]] (E [(1, .int .i64 w_1), (2, .slice widths_2 widths_2n widths_2c), (9, .int .i64 n_9)]) h
 noncomputable def c23_3Y : Option (Go.Value × AH) := yfrom Tryd.prog (runS Tryd.prog n) n Tryd.f23 h0 p23 N (resY Tryd.prog n Tryd.f23 h0) (subC (bodyC Tryd.f23) [1, 1, 1, 1, 0, 0, 1, 1, 1, 1, 1, 0]) [0, 1, 1, 1, 1, 1, 0, 0, 1, 1, 1, 1] [.block 2, .seq (subC (bodyC Tryd.f23) [1, 1, 1, 1, 1]) [1, 1, 1, 1, 1]] (E [(1, .int .i64 w_1), (2, .slice widths_2 widths_2n widths_2c), (9, .int .i64 n_9)]) h
variable {n} {h0} {w_1 widths_2 widths_2n widths_2c n_9} {h}
theorem c23_3_ok {r : Go.Value × AH} (hv : c23_3Y hNew n h0 w_1 widths_2 widths_2n widths_2c n_9 h = some r) : c23_3 n h0 w_1 widths_2 widths_2n widths_2c n_9 h = some r := yfrom_ok hv
end
section
variable (N : NewF) (n : Nat) (h0 : AH) (op_0 w_1 : Int) (widths_2 : Option Addr) (widths_2n widths_2c : Nat) (n_9 : Int) (h : AH)
 noncomputable def c23_4 : Option (Go.Value × AH) := resY Tryd.prog n Tryd.f23 h0 (.code (subC (bodyC Tryd.f23) [1, 1, 1, 1, 0, 0, 1, 1, 1, 1, 1, 1]) [1, 1, 1, 1, 1, 1, 0, 0, 1, 1, 1, 1]) [.block 2, .seq (subC (bodyC Tryd.f23) [1, 1, 1, 1, 1]) [1, 1, 1, 1, 1]] (E [(0, .int .i64 op_0), (1, .int .i64 w_1), (2, .slice widths_2 widths_2n widths_2c), (9, .int .i64 n_9)]) h
 noncomputable def c23_4Y : Option (Go.Value × AH) := yfrom Tryd.prog (runS Tryd.prog n) n Tryd.f23 h0 p23 N (resY Tryd.prog n Tryd.f23 h0) (subC (bodyC Tryd.f23) [1, 1, 1, 1, 0, 0, 1, 1, 1, 1, 1, 1]) [1, 1, 1, 1, 1, 1, 0, 0, 1, 1, 1, 1] [.block 2, .seq (subC (bodyC Tryd.f23) [1, 1, 1, 1, 1]) [1, 1, 1, 1, 1]] (E [(0, .int .i64 op_0), (1, .int .i64 w_1), (2, .slice widths_2 widths_2n widths_2c), (9, .int .i64 n_9)]) h
variable {n} {h0} {op_0 w_1 widths_2 widths_2n widths_2c n_9} {h}
theorem c23_4_ok {r : Go.Value × AH} (hv : c23_4Y hNew n h0 op_0 w_1 widths_2 widths_2n widths_2c n_9 h = some r) : c23_4 n h0 op_0 w_1 widths_2 widths_2n widths_2c n_9 h = some r := yfrom_ok hv
end
section
variable (N : NewF) (n : Nat) (h0 : AH) (w_1 : Int) (widths_2 : Option Addr) (widths_2n widths_2c : Nat) (n_9 : Int) (h : AH)
 noncomputable def c23_5 : Option (Go.Value × AH) := resY Tryd.prog n Tryd.f23 h0 (.code (subC (bodyC Tryd.f23) [1, 1, 1, 1, 0, 0, 1, 1, 1, 1, 1, 1, 1, 1, 1, 0]) [0, 1, 1, 1, 1, 1, 1, 1, 1, 1, 0, 0, 1, 1, 1, 1]) [.block 2, .seq (subC (bodyC Tryd.f23) [1, 1, 1, 1, 1]) [1, 1, 1, 1, 1]] (E [(1, .int .i64 w_1), (2, .slice widths_2 widths_2n widths_2c), (9, .int .i64 n_9)]) h
 noncomputable def c23_5Y : Option (Go.Value × AH) := yfrom Tryd.prog (runS Tryd.prog n) n Tryd.f23 h0 p23 N (resY Tryd.prog n Tryd.f23 h0) (subC (bodyC Tryd.f23) [1, 1, 1, 1, 0, 0, 1, 1, 1, 1, 1, 1, 1, 1, 1, 0]) [0, 1, 1, 1, 1, 1, 1, 1, 1, 1, 0, 0, 1, 1, 1, 1] [.block 2, .seq (subC (bodyC Tryd.f23) [1, 1, 1, 1, 1]) [1, 1, 1, 1, 1]] (E [(1, .int .i64 w_1), (2, .slice widths_2 widths_2n widths_2c), (9, .int .i64 n_9)]) h
variable {n} {h0} {w_1 widths_2 widths_2n widths_2c n_9} {h}
theorem c23_5_ok {r : Go.Value × AH} (hv : c23_5Y hNew n h0 w_1 widths_2 widths_2n widths_2c n_9 h = some r) : c23_5 n h0 w_1 widths_2 widths_2n widths_2c n_9 h = some r := yfrom_ok hv
end
section
variable (N : NewF) (n : Nat) (h0 : AH) (op_0 w_1 : Int) (widths_2 : Option Addr) (widths_2n widths_2c : Nat) (n_9 : Int) (h : AH)
 noncomputable def c23_6 : Option (Go.Value × AH) := resY Tryd.prog n Tryd.f23 h0 (.code (subC (bodyC Tryd.f23) [1, 1, 1, 1, 0, 0, 1, 1, 1, 1, 1, 1, 1, 1, 1, 1]) [1, 1, 1, 1, 1, 1, 1, 1, 1, 1, 0, 0, 1, 1, 1, 1]) [.block 2, .seq (subC (bodyC Tryd.f23) [1, 1, 1, 1, 1]) [1, 1, 1, 1, 1]] (E [(0, .int .i64 op_0), (1, .int .i64 w_1), (2, .slice widths_2 widths_2n widths_2c), (9, .int .i64 n_9)]) h
 noncomputable def c23_6Y : Option (Go.Value × AH) := yfrom Tryd.prog (runS Tryd.prog n) n Tryd.f23 h0 p23 N (resY Tryd.prog n Tryd.f23 h0) (subC (bodyC Tryd.f23) [1, 1, 1, 1, 0, 0, 1, 1, 1, 1, 1, 1, 1, 1, 1, 1]) [1, 1, 1, 1, 1, 1, 1, 1, 1, 1, 0, 0, 1, 1, 1, 1] [.block 2, .seq (subC (bodyC Tryd.f23) [1, 1, 1, 1, 1]) [1, 1, 1, 1, 1]] (E [(0, .int .i64 op_0), (1, .int .i64 w_1), (2, .slice widths_2 widths_2n widths_2c), (9, .int .i64 n_9)]) h
variable {n} {h0} {op_0 w_1 widths_2 widths_2n widths_2c n_9} {h}
theorem c23_6_ok {r : Go.Value × AH} (hv : c23_6Y hNew n h0 op_0 w_1 widths_2 widths_2n widths_2c n_9 h = some r) : c23_6 n h0 op_0 w_1 widths_2 widths_2n widths_2c n_9 h = some r := yfrom_ok hv
end
 noncomputable def t23Y (N : NewF) (n : Nat) (op_0 w_1 : Int) (widths_2 : Option Addr) (widths_2n widths_2c : Nat) (h : AH) : Option (Go.Value × AH) := yrun Tryd.prog (runS Tryd.prog n) n p23 N (resY Tryd.prog n) 23 [(.int .i64 op_0), (.int .i64 w_1), (.slice widths_2 widths_2n widths_2c)] h
theorem t23_ok {n : Nat} {op_0 w_1 : Int} {widths_2 : Option Addr} {widths_2n widths_2c : Nat} {h : AH} {r : Go.Value × AH} (hv : t23Y hNew n op_0 w_1 widths_2 widths_2n widths_2c h = some r) : runS Tryd.prog (n + 1) 23 [(.int .i64 op_0), (.int .i64 w_1), (.slice widths_2 widths_2n widths_2c)] h = some r := yrun_ok hv
theorem t23 (N : NewF) (n : Nat) (op_0 w_1 : Int) (widths_2 : Option Addr) (widths_2n widths_2c : Nat) (h : AH) : t23Y N n op_0 w_1 widths_2 widths_2n widths_2c h =
 ((runS Tryd.prog n 57 [(.int .i64 w_1)] (setLow h h.next))).bind fun p0 =>
 ((gB (some p0.1))).bind fun b1 =>
 cond (Bool.not b1)
 (some (exitR h p0.2 (.bool false)))
 (c23_0 n n h op_0 w_1 widths_2 widths_2n widths_2c widths_2 widths_2n widths_2c (Int.ofNat widths_2n) 0 p0.2) := by kernel_rfl
theorem c23_0_eq (N : NewF) (n m0 : Nat) (h0 : AH) (op_0 w_1 : Int) (widths_2 : Option Addr) (widths_2n widths_2c : Nat) (t_13 : Option Addr) (t_13n t_13c : Nat) (t_14 t_15 : Int) (h : AH) : c23_0Y N n m0 h0 op_0 w_1 widths_2 widths_2n widths_2c t_13 t_13n t_13c t_14 t_15 h =
 cond (iLt t_15 t_14)
 ((t_13).bind fun a0 =>
 cond (inB t_15 t_13n)
 (((gI .i64 (rdC h (Addr.add a0 ((Int.toNat t_15) * 1)) 0))).bind fun n1 =>
 ((runS Tryd.prog n 57 [(.int .i64 n1)] h)).bind fun p2 =>
 ((gB (some p2.1))).bind fun b3 =>
 cond (Bool.not b3)
 (some (exitR h0 p2.2 (.bool false)))
 (c23_0 n m0 h0 op_0 w_1 widths_2 widths_2n widths_2c t_13 t_13n t_13c t_14 (iAdd .i64 t_15 1) p2.2))
 (none))
 (cond (iEq op_0 1)
 (some (exitR h0 h (.bool (iEq (Int.ofNat widths_2n) 0))))
 (cond (iLe 2 op_0)
 (cond (iLe op_0 14)
 (c23_1 n h0 w_1 widths_2 widths_2n widths_2c (Int.ofNat widths_2n) h)
 (c23_2 n h0 op_0 w_1 widths_2 widths_2n widths_2c (Int.ofNat widths_2n) h))
 (c23_2 n h0 op_0 w_1 widths_2 widths_2n widths_2c (Int.ofNat widths_2n) h))) := by kernel_rfl
theorem c23_1_eq (N : NewF) (n  : Nat) (h0 : AH) (w_1 : Int) (widths_2 : Option Addr) (widths_2n widths_2c : Nat) (n_9 : Int) (h : AH) : c23_1Y N n  h0 w_1 widths_2 widths_2n widths_2c n_9 h =
 cond (iEq n_9 2)
 ((widths_2).bind fun a0 =>
 cond (inB 0 widths_2n)
 (((gI .i64 (rdC h (Addr.add a0 0) 0))).bind fun n1 =>
 cond (iEq n1 w_1)
 ((widths_2).bind fun a2 =>
 cond (inB 1 widths_2n)
 (((gI .i64 (rdC h (Addr.add a2 1) 0))).bind fun n3 =>
 some (exitR h0 h (.bool (iEq n3 w_1))))
 (none))
 (some (exitR h0 h (.bool false))))
 (none))
 (some (exitR h0 h (.bool false))) := by kernel_rfl
theorem c23_2_eq (N : NewF) (n  : Nat) (h0 : AH) (op_0 w_1 : Int) (widths_2 : Option Addr) (widths_2n widths_2c : Nat) (n_9 : Int) (h : AH) : c23_2Y N n  h0 op_0 w_1 widths_2 widths_2n widths_2c n_9 h =
 cond (iLe 15 op_0)
 (cond (iLe op_0 20)
 (c23_3 n h0 w_1 widths_2 widths_2n widths_2c n_9 h)
 (c23_4 n h0 op_0 w_1 widths_2 widths_2n widths_2c n_9 h))
 (c23_4 n h0 op_0 w_1 widths_2 widths_2n widths_2c n_9 h) := by kernel_rfl
theorem c23_3_eq (N : NewF) (n  : Nat) (h0 : AH) (w_1 : Int) (widths_2 : Option Addr) (widths_2n widths_2c : Nat) (n_9 : Int) (h : AH) : c23_3Y N n  h0 w_1 widths_2 widths_2n widths_2c n_9 h =
 cond (iEq n_9 2)
 ((widths_2).bind fun a0 =>
 cond (inB 0 widths_2n)
 (((gI .i64 (rdC h (Addr.add a0 0) 0))).bind fun n1 =>
 (widths_2).bind fun a2 =>
 cond (inB 1 widths_2n)
 (((gI .i64 (rdC h (Addr.add a2 1) 0))).bind fun n3 =>
 cond (iEq n1 n3)
 (some (exitR h0 h (.bool (iEq w_1 1))))
 (some (exitR h0 h (.bool false))))
 (none))
 (none))
 (some (exitR h0 h (.bool false))) := by kernel_rfl
theorem c23_4_eq (N : NewF) (n  : Nat) (h0 : AH) (op_0 w_1 : Int) (widths_2 : Option Addr) (widths_2n widths_2c : Nat) (n_9 : Int) (h : AH) : c23_4Y N n  h0 op_0 w_1 widths_2 widths_2n widths_2c n_9 h =
 cond (iEq op_0 21)
 (cond (iEq n_9 3)
 ((widths_2).bind fun a0 =>
 cond (inB 0 widths_2n)
 (((gI .i64 (rdC h (Addr.add a0 0) 0))).bind fun n1 =>
 cond (iEq n1 1)
 ((widths_2).bind fun a2 =>
 cond (inB 1 widths_2n)
 (((gI .i64 (rdC h (Addr.add a2 1) 0))).bind fun n3 =>
 cond (iEq n3 w_1)
 ((widths_2).bind fun a4 =>
 cond (inB 2 widths_2n)
 (((gI .i64 (rdC h (Addr.add a4 2) 0))).bind fun n5 =>
 some (exitR h0 h (.bool (iEq n5 w_1))))
 (none))
 (some (exitR h0 h (.bool false))))
 (none))
 (some (exitR h0 h (.bool false))))
 (none))
 (some (exitR h0 h (.bool false))))
 (cond (iEq op_0 22)
 (c23_5 n h0 w_1 widths_2 widths_2n widths_2c n_9 h)
 (cond (iEq op_0 23)
 (c23_5 n h0 w_1 widths_2 widths_2n widths_2c n_9 h)
 (c23_6 n h0 op_0 w_1 widths_2 widths_2n widths_2c n_9 h))) := by kernel_rfl
theorem c23_5_eq (N : NewF) (n  : Nat) (h0 : AH) (w_1 : Int) (widths_2 : Option Addr) (widths_2n widths_2c : Nat) (n_9 : Int) (h : AH) : c23_5Y N n  h0 w_1 widths_2 widths_2n widths_2c n_9 h =
 cond (iEq n_9 1)
 ((widths_2).bind fun a0 =>
 cond (inB 0 widths_2n)
 (((gI .i64 (rdC h (Addr.add a0 0) 0))).bind fun n1 =>
 some (exitR h0 h (.bool (iLe n1 w_1))))
 (none))
 (some (exitR h0 h (.bool false))) := by kernel_rfl
theorem c23_6_eq (N : NewF) (n  : Nat) (h0 : AH) (op_0 w_1 : Int) (widths_2 : Option Addr) (widths_2n widths_2c : Nat) (n_9 : Int) (h : AH) : c23_6Y N n  h0 op_0 w_1 widths_2 widths_2n widths_2c n_9 h =
 cond (iEq op_0 24)
 (cond (iEq n_9 1)
 ((widths_2).bind fun a0 =>
 cond (inB 0 widths_2n)
 (((gI .i64 (rdC h (Addr.add a0 0) 0))).bind fun n1 =>
 some (exitR h0 h (.bool (iLe w_1 n1))))
 (none))
 (some (exitR h0 h (.bool false))))
 (some (exitR h0 h (.bool false))) := by kernel_rfl
def p24 : List (List Nat × List Nat) := [([1, 1, 1, 1, 1, 1, 1, 1, 1, 0, 1, 0, 1], [0, 1, 2, 3, 11, 42]), ([1, 1, 1, 1, 1, 1, 1, 1, 1, 1, 1, 1, 1, 1, 1, 1, 1, 0, 1, 0, 1], [0, 1, 2, 3, 11, 83]), ([1, 1, 1, 1, 1, 1, 1, 1, 1, 1, 1, 1, 1, 1, 1, 1, 1, 1, 1, 1, 1, 0, 1, 0, 1], [0, 2, 3, 11, 108]), ([1, 1], [0, 2, 3])]
section
variable (N : NewF) (n : Nat) (h0 : AH) (op_0 w_1 : Int) (widths_2 : Option Addr) (widths_2n widths_2c : Nat) (n_3 : Option Addr) (n_3n n_3c : Nat) (t_11 : Int) (t_42 : Bool) (h : AH)
 noncomputable def c24_0 : Option (Go.Value × AH) := resY Tryd.prog n Tryd.f24 h0 (.code (subC (bodyC Tryd.f24) [1, 0, 1, 0, 1, 1, 1, 1, 1, 1, 1, 1, 1]) [1, 1, 1, 1, 1, 1, 1, 1, 1, 0, 1, 0, 1]) [.block 0, .seq (subC (bodyC Tryd.f24) [1, 1]) [1, 1]] (E [(0, .int .i64 op_0), (1, .int .i64 w_1), (2, .slice widths_2 widths_2n widths_2c), (3, .slice n_3 n_3n n_3c), (11, .int .i64 t_11), (42, .bool t_42)]) h
 noncomputable def c24_0Y : Option (Go.Value × AH) := yfrom Tryd.prog (runS Tryd.prog n) n Tryd.f24 h0 p24 N (resY Tryd.prog n Tryd.f24 h0) (subC (bodyC Tryd.f24) [1, 0, 1, 0, 1, 1, 1, 1, 1, 1, 1, 1, 1]) [1, 1, 1, 1, 1, 1, 1, 1, 1, 0, 1, 0, 1] [.block 0, .seq (subC (bodyC Tryd.f24) [1, 1]) [1, 1]] (E [(0, .int .i64 op_0), (1, .int .i64 w_1), (2, .slice widths_2 widths_2n widths_2c), (3, .slice n_3 n_3n n_3c), (11, .int .i64 t_11), (42, .bool t_42)]) h
variable {n} {h0} {op_0 w_1 widths_2 widths_2n widths_2c n_3 n_3n n_3c t_11 t_42} {h}
theorem c24_0_ok {r : Go.Value × AH} (hv : c24_0Y hNew n h0 op_0 w_1 widths_2 widths_2n widths_2c n_3 n_3n n_3c t_11 t_42 h = some r) : c24_0 n h0 op_0 w_1 widths_2 widths_2n widths_2c n_3 n_3n n_3c t_11 t_42 h = some r := yfrom_ok hv
end
section
variable (N : NewF) (n : Nat) (h0 : AH) (op_0 w_1 : Int) (widths_2 : Option Addr) (widths_2n widths_2c : Nat) (n_3 : Option Addr) (n_3n n_3c : Nat) (t_11 : Int) (t_83 : Bool) (h : AH)
 noncomputable def c24_1 : Option (Go.Value × AH) := resY Tryd.prog n Tryd.f24 h0 (.code (subC (bodyC Tryd.f24) [1, 0, 1, 0, 1, 1, 1, 1, 1, 1, 1, 1, 1, 1, 1, 1, 1, 1, 1, 1, 1]) [1, 1, 1, 1, 1, 1, 1, 1, 1, 1, 1, 1, 1, 1, 1, 1, 1, 0, 1, 0, 1]) [.block 0, .seq (subC (bodyC Tryd.f24) [1, 1]) [1, 1]] (E [(0, .int .i64 op_0), (1, .int .i64 w_1), (2, .slice widths_2 widths_2n widths_2c), (3, .slice n_3 n_3n n_3c), (11, .int .i64 t_11), (83, .bool t_83)]) h
 noncomputable def c24_1Y : Option (Go.Value × AH) := yfrom Tryd.prog (runS Tryd.prog n) n Tryd.f24 h0 p24 N (resY Tryd.prog n Tryd.f24 h0) (subC (bodyC Tryd.f24) [1, 0, 1, 0, 1, 1, 1, 1, 1, 1, 1, 1, 1, 1, 1, 1, 1, 1, 1, 1, 1]) [1, 1, 1, 1, 1, 1, 1, 1, 1, 1, 1, 1, 1, 1, 1, 1, 1, 0, 1, 0, 1] [.block 0, .seq (subC (bodyC Tryd.f24) [1, 1]) [1, 1]] (E [(0, .int .i64 op_0), (1, .int .i64 w_1), (2, .slice widths_2 widths_2n widths_2c), (3, .slice n_3 n_3n n_3c), (11, .int .i64 t_11), (83, .bool t_83)]) h
variable {n} {h0} {op_0 w_1 widths_2 widths_2n widths_2c n_3 n_3n n_3c t_11 t_83} {h}
theorem c24_1_ok {r : Go.Value × AH} (hv : c24_1Y hNew n h0 op_0 w_1 widths_2 widths_2n widths_2c n_3 n_3n n_3c t_11 t_83 h = some r) : c24_1 n h0 op_0 w_1 widths_2 widths_2n widths_2c n_3 n_3n n_3c t_11 t_83 h = some r := yfrom_ok hv
end
section
variable (N : NewF) (n : Nat) (h0 : AH) (op_0 : Int) (widths_2 : Option Addr) (widths_2n widths_2c : Nat) (n_3 : Option Addr) (n_3n n_3c : Nat) (t_11 : Int) (t_108 : Bool) (h : AH)
 noncomputable def c24_2 : Option (Go.Value × AH) := resY Tryd.prog n Tryd.f24 h0 (.code (subC (bodyC Tryd.f24) [1, 0, 1, 0, 1, 1, 1, 1, 1, 1, 1, 1, 1, 1, 1, 1, 1, 1, 1, 1, 1, 1, 1, 1, 1]) [1, 1, 1, 1, 1, 1, 1, 1, 1, 1, 1, 1, 1, 1, 1, 1, 1, 1, 1, 1, 1, 0, 1, 0, 1]) [.block 0, .seq (subC (bodyC Tryd.f24) [1, 1]) [1, 1]] (E [(0, .int .i64 op_0), (2, .slice widths_2 widths_2n widths_2c), (3, .slice n_3 n_3n n_3c), (11, .int .i64 t_11), (108, .bool t_108)]) h
 noncomputable def c24_2Y : Option (Go.Value × AH) := yfrom Tryd.prog (runS Tryd.prog n) n Tryd.f24 h0 p24 N (resY Tryd.prog n Tryd.f24 h0) (subC (bodyC Tryd.f24) [1, 0, 1, 0, 1, 1, 1, 1, 1, 1, 1, 1, 1, 1, 1, 1, 1, 1, 1, 1, 1, 1, 1, 1, 1]) [1, 1, 1, 1, 1, 1, 1, 1, 1, 1, 1, 1, 1, 1, 1, 1, 1, 1, 1, 1, 1, 0, 1, 0, 1] [.block 0, .seq (subC (bodyC Tryd.f24) [1, 1]) [1, 1]] (E [(0, .int .i64 op_0), (2, .slice widths_2 widths_2n widths_2c), (3, .slice n_3 n_3n n_3c), (11, .int .i64 t_11), (108, .bool t_108)]) h
variable {n} {h0} {op_0 widths_2 widths_2n widths_2c n_3 n_3n n_3c t_11 t_108} {h}
theorem c24_2_ok {r : Go.Value × AH} (hv : c24_2Y hNew n h0 op_0 widths_2 widths_2n widths_2c n_3 n_3n n_3c t_11 t_108 h = some r) : c24_2 n h0 op_0 widths_2 widths_2n widths_2c n_3 n_3n n_3c t_11 t_108 h = some r := yfrom_ok hv
end
section
variable (N : NewF) (n : Nat) (h0 : AH) (op_0 : Int) (widths_2 : Option Addr) (widths_2n widths_2c : Nat) (n_3 : Option Addr) (n_3n n_3c : Nat) (h : AH)
 noncomputable def c24_3 : Option (Go.Value × AH) := resY Tryd.prog n Tryd.f24 h0 (.code (subC (bodyC Tryd.f24) [1, 1]) [1, 1]) [] (E [(0, .int .i64 op_0), (2, .slice widths_2 widths_2n widths_2c), (3, .slice n_3 n_3n n_3c)]) h
 noncomputable def c24_3Y : Option (Go.Value × AH) := yfrom Tryd.prog (runS Tryd.prog n) n Tryd.f24 h0 p24 N (resY Tryd.prog n Tryd.f24 h0) (subC (bodyC Tryd.f24) [1, 1]) [1, 1] [] (E [(0, .int .i64 op_0), (2, .slice widths_2 widths_2n widths_2c), (3, .slice n_3 n_3n n_3c)]) h
variable {n} {h0} {op_0 widths_2 widths_2n widths_2c n_3 n_3n n_3c} {h}
theorem c24_3_ok {r : Go.Value × AH} (hv : c24_3Y hNew n h0 op_0 widths_2 widths_2n widths_2c n_3 n_3n n_3c h = some r) : c24_3 n h0 op_0 widths_2 widths_2n widths_2c n_3 n_3n n_3c h = some r := yfrom_ok hv
end
 noncomputable def t24Y (N : NewF) (n : Nat) (op_0 w_1 : Int) (widths_2 : Option Addr) (widths_2n widths_2c : Nat) (n_3 : Option Addr) (n_3n n_3c : Nat) (num_4 : Int) (h : AH) : Option (Go.Value × AH) := yrun Tryd.prog (runS Tryd.prog n) n p24 N (resY Tryd.prog n) 24 [(.int .i64 op_0), (.int .i64 w_1), (.slice widths_2 widths_2n widths_2c), (.slice n_3 n_3n n_3c), (.int .u64 num_4)] h
theorem t24_ok {n : Nat} {op_0 w_1 : Int} {widths_2 : Option Addr} {widths_2n widths_2c : Nat} {n_3 : Option Addr} {n_3n n_3c : Nat} {num_4 : Int} {h : AH} {r : Go.Value × AH} (hv : t24Y hNew n op_0 w_1 widths_2 widths_2n widths_2c n_3 n_3n n_3c num_4 h = some r) : runS Tryd.prog (n + 1) 24 [(.int .i64 op_0), (.int .i64 w_1), (.slice widths_2 widths_2n widths_2c), (.slice n_3 n_3n n_3c), (.int .u64 num_4)] h = some r := yrun_ok hv
theorem t24 (N : NewF) (n : Nat) (op_0 w_1 : Int) (widths_2 : Option Addr) (widths_2n widths_2c : Nat) (n_3 : Option Addr) (n_3n n_3c : Nat) (num_4 : Int) (h : AH) : t24Y N n op_0 w_1 widths_2 widths_2n widths_2c n_3 n_3n n_3c num_4 h =
 cond (iEq op_0 1)
 (some (exitR h (setLow h h.next) (.int .u64 num_4)))
 (cond (iEq op_0 2)
 ((n_3).bind fun a0 =>
 cond (inB 0 n_3n)
 (((gI .u64 (rdC (setLow h h.next) (Addr.add a0 0) 0))).bind fun n1 =>
 (n_3).bind fun a2 =>
 cond (inB 1 n_3n)
 (((gI .u64 (rdC (setLow h h.next) (Addr.add a2 1) 0))).bind fun n3 =>
 some (exitR h (setLow h h.next) (.int .u64 (iAdd .u64 n1 n3))))
 (none))
 (none))
 (cond (iEq op_0 3)
 ((n_3).bind fun a4 =>
 cond (inB 0 n_3n)
 (((gI .u64 (rdC (setLow h h.next) (Addr.add a4 0) 0))).bind fun n5 =>
 (n_3).bind fun a6 =>
 cond (inB 1 n_3n)
 (((gI .u64 (rdC (setLow h h.next) (Addr.add a6 1) 0))).bind fun n7 =>
 some (exitR h (setLow h h.next) (.int .u64 (iSub .u64 n5 n7))))
 (none))
 (none))
 (cond (iEq op_0 4)
 ((n_3).bind fun a8 =>
 cond (inB 0 n_3n)
 (((gI .u64 (rdC (setLow h h.next) (Addr.add a8 0) 0))).bind fun n9 =>
 (n_3).bind fun a10 =>
 cond (inB 1 n_3n)
 (((gI .u64 (rdC (setLow h h.next) (Addr.add a10 1) 0))).bind fun n11 =>
 some (exitR h (setLow h h.next) (.int .u64 (mulS .u64 n9 n11))))
 (none))
 (none))
 (cond (iEq op_0 5)
 (c24_0 n h op_0 w_1 widths_2 widths_2n widths_2c n_3 n_3n n_3c op_0 true (setLow h h.next))
 (cond (iEq op_0 6)
 (c24_0 n h op_0 w_1 widths_2 widths_2n widths_2c n_3 n_3n n_3c op_0 true (setLow h h.next))
 (cond (iEq op_0 7)
 (c24_0 n h op_0 w_1 widths_2 widths_2n widths_2c n_3 n_3n n_3c op_0 true (setLow h h.next))
 (c24_0 n h op_0 w_1 widths_2 widths_2n widths_2c n_3 n_3n n_3c op_0 (iEq op_0 8) (setLow h h.next)))))))) := by kernel_rfl
theorem c24_0_eq (N : NewF) (n  : Nat) (h0 : AH) (op_0 w_1 : Int) (widths_2 : Option Addr) (widths_2n widths_2c : Nat) (n_3 : Option Addr) (n_3n n_3c : Nat) (t_11 : Int) (t_42 : Bool) (h : AH) : c24_0Y N n  h0 op_0 w_1 widths_2 widths_2n widths_2c n_3 n_3n n_3c t_11 t_42 h =
 cond t_42
 ((n_3).bind fun a0 =>
 cond (inB 0 n_3n)
 (((gI .u64 (rdC h (Addr.add a0 0) 0))).bind fun n1 =>
 (n_3).bind fun a2 =>
 cond (inB 1 n_3n)
 (((gI .u64 (rdC h (Addr.add a2 1) 0))).bind fun n3 =>
 ((runS Tryd.prog n 58 [(.int .i64 op_0), (.int .i64 w_1), (.int .u64 n1), (.int .u64 n3)] h)).bind fun p4 =>
 ((gI .u64 (some p4.1))).bind fun n5 =>
 some (exitR h0 p4.2 (.int .u64 n5)))
 (none))
 (none))
 (cond (iEq t_11 9)
 ((n_3).bind fun a6 =>
 cond (inB 0 n_3n)
 (((gI .u64 (rdC h (Addr.add a6 0) 0))).bind fun n7 =>
 (n_3).bind fun a8 =>
 cond (inB 1 n_3n)
 (((gI .u64 (rdC h (Addr.add a8 1) 0))).bind fun n9 =>
 some (exitR h0 h (.int .u64 (iAnd .u64 n7 n9))))
 (none))
 (none))
 (cond (iEq t_11 10)
 ((n_3).bind fun a10 =>
 cond (inB 0 n_3n)
 (((gI .u64 (rdC h (Addr.add a10 0) 0))).bind fun n11 =>
 (n_3).bind fun a12 =>
 cond (inB 1 n_3n)
 (((gI .u64 (rdC h (Addr.add a12 1) 0))).bind fun n13 =>
 some (exitR h0 h (.int .u64 (iOr .u64 n11 n13))))
 (none))
 (none))
 (cond (iEq t_11 11)
 ((n_3).bind fun a14 =>
 cond (inB 0 n_3n)
 (((gI .u64 (rdC h (Addr.add a14 0) 0))).bind fun n15 =>
 (n_3).bind fun a16 =>
 cond (inB 1 n_3n)
 (((gI .u64 (rdC h (Addr.add a16 1) 0))).bind fun n17 =>
 some (exitR h0 h (.int .u64 (iXor .u64 n15 n17))))
 (none))
 (none))
 (cond (iEq t_11 12)
 (c24_1 n h0 op_0 w_1 widths_2 widths_2n widths_2c n_3 n_3n n_3c t_11 true h)
 (cond (iEq t_11 13)
 (c24_1 n h0 op_0 w_1 widths_2 widths_2n widths_2c n_3 n_3n n_3c t_11 true h)
 (c24_1 n h0 op_0 w_1 widths_2 widths_2n widths_2c n_3 n_3n n_3c t_11 (iEq t_11 14) h)))))) := by kernel_rfl
theorem c24_1_eq (N : NewF) (n  : Nat) (h0 : AH) (op_0 w_1 : Int) (widths_2 : Option Addr) (widths_2n widths_2c : Nat) (n_3 : Option Addr) (n_3n n_3c : Nat) (t_11 : Int) (t_83 : Bool) (h : AH) : c24_1Y N n  h0 op_0 w_1 widths_2 widths_2n widths_2c n_3 n_3n n_3c t_11 t_83 h =
 cond t_83
 ((n_3).bind fun a0 =>
 cond (inB 0 n_3n)
 (((gI .u64 (rdC h (Addr.add a0 0) 0))).bind fun n1 =>
 (n_3).bind fun a2 =>
 cond (inB 1 n_3n)
 (((gI .u64 (rdC h (Addr.add a2 1) 0))).bind fun n3 =>
 ((runS Tryd.prog n 59 [(.int .i64 op_0), (.int .i64 w_1), (.int .u64 n1), (.int .u64 n3)] h)).bind fun p4 =>
 ((gI .u64 (some p4.1))).bind fun n5 =>
 some (exitR h0 p4.2 (.int .u64 n5)))
 (none))
 (none))
 (cond (iEq t_11 21)
 ((n_3).bind fun a6 =>
 cond (inB 0 n_3n)
 (((gI .u64 (rdC h (Addr.add a6 0) 0))).bind fun n7 =>
 cond (iEq n7 1)
 ((n_3).bind fun a8 =>
 cond (inB 1 n_3n)
 (((gI .u64 (rdC h (Addr.add a8 1) 0))).bind fun n9 =>
 some (exitR h0 h (.int .u64 n9)))
 (none))
 ((n_3).bind fun a10 =>
 cond (inB 2 n_3n)
 (((gI .u64 (rdC h (Addr.add a10 2) 0))).bind fun n11 =>
 some (exitR h0 h (.int .u64 n11)))
 (none)))
 (none))
 (cond (iEq t_11 22)
 (c24_2 n h0 op_0 widths_2 widths_2n widths_2c n_3 n_3n n_3c t_11 true h)
 (c24_2 n h0 op_0 widths_2 widths_2n widths_2c n_3 n_3n n_3c t_11 (iEq t_11 24) h))) := by kernel_rfl
theorem c24_2_eq (N : NewF) (n  : Nat) (h0 : AH) (op_0 : Int) (widths_2 : Option Addr) (widths_2n widths_2c : Nat) (n_3 : Option Addr) (n_3n n_3c : Nat) (t_11 : Int) (t_108 : Bool) (h : AH) : c24_2Y N n  h0 op_0 widths_2 widths_2n widths_2c n_3 n_3n n_3c t_11 t_108 h =
 cond t_108
 ((n_3).bind fun a0 =>
 cond (inB 0 n_3n)
 (((gI .u64 (rdC h (Addr.add a0 0) 0))).bind fun n1 =>
 some (exitR h0 h (.int .u64 n1)))
 (none))
 (cond (iEq t_11 23)
 ((widths_2).bind fun a2 =>
 cond (inB 0 widths_2n)
 (((gI .i64 (rdC h (Addr.add a2 0) 0))).bind fun n3 =>
 (n_3).bind fun a4 =>
 cond (inB 0 n_3n)
 (((gI .u64 (rdC h (Addr.add a4 0) 0))).bind fun n5 =>
 ((runS Tryd.prog n 60 [(.int .i64 n3), (.int .u64 n5)] h)).bind fun p6 =>
 ((gI .i64 (some p6.1))).bind fun n7 =>
 some (exitR h0 p6.2 (.int .u64 (iConv .u64 n7))))
 (none))
 (none))
 (c24_3 n h0 op_0 widths_2 widths_2n widths_2c n_3 n_3n n_3c h)) := by kernel_rfl
theorem c24_3_eq (N : NewF) (n  : Nat) (h0 : AH) (op_0 : Int) (widths_2 : Option Addr) (widths_2n widths_2c : Nat) (n_3 : Option Addr) (n_3n n_3c : Nat) (h : AH) : c24_3Y N n  h0 op_0 widths_2 widths_2n widths_2c n_3 n_3n n_3c h =
 (widths_2).bind fun a0 =>
 cond (inB 0 widths_2n)
 (((gI .i64 (rdC h (Addr.add a0 0) 0))).bind fun n1 =>
 (n_3).bind fun a2 =>
 cond (inB 0 n_3n)
 (((gI .u64 (rdC h (Addr.add a2 0) 0))).bind fun n3 =>
 (n_3).bind fun a4 =>
 cond (inB 1 n_3n)
 (((gI .u64 (rdC h (Addr.add a4 1) 0))).bind fun n5 =>
 ((runS Tryd.prog n 61 [(.int .i64 op_0), (.int .i64 n1), (.int .u64 n3), (.int .u64 n5)] h)).bind fun p6 =>
 ((gI .u64 (some p6.1))).bind fun n7 =>
 some (exitR h0 p6.2 (.int .u64 n7)))
 (none))
 (none))
 (none) := by kernel_rfl
def p26 : List (List Nat × List Nat) := []
 noncomputable def t26Y (N : NewF) (n : Nat) (w_0 a_1a a_1b b_2a b_2b : Int) (h : AH) : Option (Go.Value × AH) := yrun Tryd.prog (runS Tryd.prog n) n p26 N (resY Tryd.prog n) 26 [(.int .i64 w_0), (.agg #[(.int .u64 a_1a), (.int .u64 a_1b)]), (.agg #[(.int .u64 b_2a), (.int .u64 b_2b)])] h
theorem t26_ok {n : Nat} {w_0 a_1a a_1b b_2a b_2b : Int} {h : AH} {r : Go.Value × AH} (hv : t26Y hNew n w_0 a_1a a_1b b_2a b_2b h = some r) : runS Tryd.prog (n + 1) 26 [(.int .i64 w_0), (.agg #[(.int .u64 a_1a), (.int .u64 a_1b)]), (.agg #[(.int .u64 b_2a), (.int .u64 b_2b)])] h = some r := yrun_ok hv
theorem t26 (N : NewF) (n : Nat) (w_0 a_1a a_1b b_2a b_2b : Int) (h : AH) : t26Y N n w_0 a_1a a_1b b_2a b_2b h =
 ((N (setLow h h.next) [(.int .u64 a_1a), (.int .u64 a_1b)] 0)).bind fun p0 =>
 ((N p0.2 [(.int .u64 b_2a), (.int .u64 b_2b)] 0)).bind fun p1 =>
 ((N p1.2 [(.int .u64 0), (.int .u64 0)] 0)).bind fun p2 =>
 ((gI .u64 (rdC p2.2 (Addr.add ⟨p0.1, 0, none⟩ 0) 0))).bind fun n3 =>
 ((gI .u64 (rdC p2.2 (Addr.add ⟨p0.1, 0, none⟩ 1) 0))).bind fun n4 =>
 ((runS Tryd.prog n 62 [(.int .u64 (iNot .u64 (iOr .u64 n3 n4)))] (setLow p2.2 p2.2.next))).bind fun p5 =>
 ((gI .i64 (some p5.1))).bind fun n6 =>
 cond (Nat.beq p5.2.low p2.2.next)
 (((gI .u64 (rdC (setLow p5.2 p2.2.low) (Addr.add ⟨p1.1, 0, none⟩ 0) 0))).bind fun n7 =>
 ((gI .u64 (rdC (setLow p5.2 p2.2.low) (Addr.add ⟨p1.1, 0, none⟩ 1) 0))).bind fun n8 =>
 ((runS Tryd.prog n 62 [(.int .u64 (iNot .u64 (iOr .u64 n7 n8)))] (setLow (setLow p5.2 p2.2.low) (setLow p5.2 p2.2.low).next))).bind fun p9 =>
 ((gI .i64 (some p9.1))).bind fun n10 =>
 cond (Nat.beq p9.2.low (setLow p5.2 p2.2.low).next)
 (((runS Tryd.prog n 36 [(.int .i64 (cond (Decidable.decide (LT.lt w_0 (cond (Decidable.decide (LT.lt n10 n6)) n10 n6))) w_0 (cond (Decidable.decide (LT.lt n10 n6)) n10 n6)))] (setLow p9.2 (setLow p5.2 p2.2.low).low))).bind fun p11 =>
 ((gI .u64 (some p11.1))).bind fun n12 =>
 ((gI .u64 (rdC p11.2 (Addr.add ⟨p0.1, 0, none⟩ 1) 0))).bind fun n13 =>
 ((gI .u64 (rdC p11.2 (Addr.add ⟨p1.1, 0, none⟩ 1) 0))).bind fun n14 =>
 ((gI .u64 (rdC p11.2 ⟨p0.1, 0, none⟩ 0))).bind fun n15 =>
 ((gI .u64 (rdC p11.2 ⟨p0.1, 0, none⟩ 1))).bind fun n16 =>
 ((runS Tryd.prog n 63 [(.agg #[(.int .u64 n15), (.int .u64 n16)])] (setLow p11.2 p11.2.next))).bind fun p17 =>
 ((gI .i64 (some p17.1))).bind fun n18 =>
 cond (Nat.beq p17.2.low p11.2.next)
 (((gI .u64 (rdC (setLow p17.2 p11.2.low) ⟨p1.1, 0, none⟩ 0))).bind fun n19 =>
 ((gI .u64 (rdC (setLow p17.2 p11.2.low) ⟨p1.1, 0, none⟩ 1))).bind fun n20 =>
 ((runS Tryd.prog n 63 [(.agg #[(.int .u64 n19), (.int .u64 n20)])] (setLow (setLow p17.2 p11.2.low) (setLow p17.2 p11.2.low).next))).bind fun p21 =>
 ((gI .i64 (some p21.1))).bind fun n22 =>
 cond (Nat.beq p21.2.low (setLow p17.2 p11.2.low).next)
 (((runS Tryd.prog n 36 [(.int .i64 (iMin (iAdd .i64 n18 n22) w_0))] (setLow p21.2 (setLow p17.2 p11.2.low).low))).bind fun p23 =>
 ((gI .u64 (some p23.1))).bind fun n24 =>
 ((stL p23.2 ⟨p2.1, 0, none⟩ [(.int .u64 (iOr .u64 (iAnd .u64 (iNot .u64 (mulS .u64 (iAnd .u64 n13 n12) (iAnd .u64 n14 n12))) n12) n24)), (.int .u64 (iAndNot .u64 (iAnd .u64 (mulS .u64 (iAnd .u64 n13 n12) (iAnd .u64 n14 n12)) n12) n24))])).bind fun x25 =>
 ((gI .u64 (rdC x25 ⟨p2.1, 0, none⟩ 0))).bind fun n26 =>
 ((gI .u64 (rdC x25 ⟨p2.1, 0, none⟩ 1))).bind fun n27 =>
 some (exitR h x25 (.agg #[(.int .u64 n26), (.int .u64 n27)])))
 (none))
 (none))
 (none))
 (none) := by kernel_rfl
end Go.Proofs.YtiadfnedbbkojaaDoor.Kb
