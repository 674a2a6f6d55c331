/- Joined texts: HC. -/
import Derived.KernelRfl
import Derived.Test.YtiadfnedbbkojaaDoorYA
import Derived.Test.YtiadfnedbbkojaaDoorProg
namespace Go.Proofs.YtiadfnedbbkojaaDoor.Kb
open Go Go.Proofs Go.Proofs.YtiadfnedbbkojaaDoor Go.Proofs.YtiadfnedbbkojaaDoor.X
set_option maxRecDepth 100000
set_option linter.unusedVariables false
def p3 : List (List Nat × List Nat) := []
 noncomputable def t3Y (N : NewF) (n : Nat) (c_0a c_0b : Int) (c_0c : Option Addr) (c_0cn c_0cc : Nat) (c_0d : Option Addr) (c_0dn c_0dc : Nat) (c_0e : Int) (h : AH) : Option (Go.Value × AH) := yrun Tryd.prog (runS Tryd.prog n) n p3 N (resY Tryd.prog n) 3 [(.agg #[(.int .i64 c_0a), (.int .i64 c_0b), (.slice c_0c c_0cn c_0cc), (.slice c_0d c_0dn c_0dc), (.int .u64 c_0e)])] h
theorem t3 (N : NewF) (n : Nat) (c_0a c_0b : Int) (c_0c : Option Addr) (c_0cn c_0cc : Nat) (c_0d : Option Addr) (c_0dn c_0dc : Nat) (c_0e : Int) (h : AH) : t3Y N n c_0a c_0b c_0c c_0cn c_0cc c_0d c_0dn c_0dc c_0e h =
 ((N (setLow h h.next) [(.int .i64 c_0a), (.int .i64 c_0b), (.slice c_0c c_0cn c_0cc), (.slice c_0d c_0dn c_0dc), (.int .u64 c_0e)] 0)).bind fun p0 =>
 ((runS Tryd.prog n 8 [] p0.2)).bind fun p1 =>
 ((gB (some p1.1))).bind fun b2 =>
 cond (Bool.not b2)
 (some (exitR h p1.2 (.bool false)))
 (((gI .i64 (rdC p1.2 ⟨p0.1, 0, none⟩ 0))).bind fun n3 =>
 ((gI .i64 (rdC p1.2 ⟨p0.1, 0, none⟩ 1))).bind fun n4 =>
 ((gL (rdC p1.2 ⟨p0.1, 0, none⟩ 2))).bind fun p5 =>
 ((gL (rdC p1.2 ⟨p0.1, 0, none⟩ 3))).bind fun p6 =>
 ((gI .u64 (rdC p1.2 ⟨p0.1, 0, none⟩ 4))).bind fun n7 =>
 ((runS Tryd.prog n 9 [(.agg #[(.int .i64 n3), (.int .i64 n4), (.slice p5.1 p5.2.1 p5.2.2), (.slice p6.1 p6.2.1 p6.2.2), (.int .u64 n7)])] p1.2)).bind fun p8 =>
 ((gB (some p8.1))).bind fun b9 =>
 cond (Bool.not b9)
 (some (exitR h p8.2 (.bool true)))
 (((gI .i64 (rdC p8.2 (Addr.add ⟨p0.1, 0, none⟩ 0) 0))).bind fun n10 =>
 ((gI .i64 (rdC p8.2 (Addr.add ⟨p0.1, 0, none⟩ 1) 0))).bind fun n11 =>
 ((gL (rdC p8.2 (Addr.add ⟨p0.1, 0, none⟩ 2) 0))).bind fun p12 =>
 ((gL (rdC p8.2 (Addr.add ⟨p0.1, 0, none⟩ 3) 0))).bind fun p13 =>
 ((gI .u64 (rdC p8.2 (Addr.add ⟨p0.1, 0, none⟩ 4) 0))).bind fun n14 =>
 ((runS Tryd.prog n 10 [(.int .i64 n10), (.int .i64 n11), (.slice p12.1 p12.2.1 p12.2.2), (.slice p13.1 p13.2.1 p13.2.2), (.int .u64 n14)] (setLow p8.2 p8.2.next))).bind fun p15 =>
 cond (aggIs 2 p15.1)
 (((gI .u64 (aggC 0 p15.1))).bind fun n16 =>
 ((gI .u64 (aggC 1 p15.1))).bind fun n17 =>
 cond (Nat.beq p15.2.low p8.2.next)
 (((gI .i64 (rdC (setLow p15.2 p8.2.low) (Addr.add ⟨p0.1, 0, none⟩ 0) 0))).bind fun n18 =>
 ((gI .i64 (rdC (setLow p15.2 p8.2.low) (Addr.add ⟨p0.1, 0, none⟩ 1) 0))).bind fun n19 =>
 ((gL (rdC (setLow p15.2 p8.2.low) (Addr.add ⟨p0.1, 0, none⟩ 2) 0))).bind fun p20 =>
 ((gL (rdC (setLow p15.2 p8.2.low) (Addr.add ⟨p0.1, 0, none⟩ 3) 0))).bind fun p21 =>
 ((gI .u64 (rdC (setLow p15.2 p8.2.low) (Addr.add ⟨p0.1, 0, none⟩ 4) 0))).bind fun n22 =>
 ((runS Tryd.prog n 11 [(.int .i64 n18), (.int .i64 n19), (.slice p20.1 p20.2.1 p20.2.2), (.slice p21.1 p21.2.1 p21.2.2), (.int .u64 n22)] (setLow p15.2 p8.2.low))).bind fun p23 =>
 cond (aggIs 2 p23.1)
 (((gI .u64 (aggC 0 p23.1))).bind fun n24 =>
 ((gI .u64 (aggC 1 p23.1))).bind fun n25 =>
 cond (iEq n16 n24)
 (cond (iEq n17 n25)
 (some (exitR h p23.2 (.bool true)))
 (some (exitR h p23.2 (.bool false))))
 (some (exitR h p23.2 (.bool false))))
 (none))
 (none))
 (none))) := by kernel_rfl
def p4 : List (List Nat × List Nat) := [([1, 1, 1], [1]), ([0, 1, 0, 1, 1, 1], [1, 33, 34, 35]), ([1, 1, 1, 1, 1], [1]), ([1, 1, 1, 1, 1, 1], [1]), ([0, 1, 0, 1, 1, 1, 1, 1, 1, 1, 1], [1, 7, 8, 100, 101]), ([0, 1, 0, 1, 1, 1, 1, 1, 1, 1, 1, 1], [1, 7, 8, 119, 120, 121]), ([0, 1, 1, 0, 0, 1, 1, 0, 0, 1, 0, 1, 1, 1, 1, 1, 1, 1, 1, 1], [1, 7, 8, 11, 119, 120, 121, 126, 127, 128]), ([0, 1, 1, 0, 0, 1, 1, 0, 0, 1, 1, 0, 0, 1, 1, 0, 0, 1, 0, 1, 1, 1, 1, 1, 1, 1, 1, 1], [1, 7, 8, 11, 13, 119, 120, 121, 126, 127, 128, 133, 134, 135])]
section
variable (N : NewF) (n : Nat) (h0 : AH) (c_1 : Addr) (h : AH)
 noncomputable def c4_0 : Option (Go.Value × AH) := resY Tryd.prog n Tryd.f4 h0 (.code (subC (bodyC Tryd.f4) [1, 1, 1]) [1, 1, 1]) [] (E [(1, .pointer (some c_1))]) h
variable {n} {h0} {c_1} {h}
end
 noncomputable def t4Y (N : NewF) (n : Nat) (c_0a c_0b : Int) (c_0c : Option Addr) (c_0cn c_0cc : Nat) (c_0d : Option Addr) (c_0dn c_0dc : Nat) (c_0e : Int) (h : AH) : Option (Go.Value × AH) := yrun Tryd.prog (runS Tryd.prog n) n p4 N (resY Tryd.prog n) 4 [(.agg #[(.int .i64 c_0a), (.int .i64 c_0b), (.slice c_0c c_0cn c_0cc), (.slice c_0d c_0dn c_0dc), (.int .u64 c_0e)])] h
theorem t4 (N : NewF) (n : Nat) (c_0a c_0b : Int) (c_0c : Option Addr) (c_0cn c_0cc : Nat) (c_0d : Option Addr) (c_0dn c_0dc : Nat) (c_0e : Int) (h : AH) : t4Y N n c_0a c_0b c_0c c_0cn c_0cc c_0d c_0dn c_0dc c_0e h =
 ((N (setLow h h.next) [(.int .i64 c_0a), (.int .i64 c_0b), (.slice c_0c c_0cn c_0cc), (.slice c_0d c_0dn c_0dc), (.int .u64 c_0e)] 0)).bind fun p0 =>
 ((runS Tryd.prog n 8 [] p0.2)).bind fun p1 =>
 ((gB (some p1.1))).bind fun b2 =>
 cond (Bool.not b2)
 (some (exitR h p1.2 (.bool false)))
 (((gI .i64 (rdC p1.2 ⟨p0.1, 0, none⟩ 0))).bind fun n3 =>
 ((gI .i64 (rdC p1.2 ⟨p0.1, 0, none⟩ 1))).bind fun n4 =>
 ((gL (rdC p1.2 ⟨p0.1, 0, none⟩ 2))).bind fun p5 =>
 ((gL (rdC p1.2 ⟨p0.1, 0, none⟩ 3))).bind fun p6 =>
 ((gI .u64 (rdC p1.2 ⟨p0.1, 0, none⟩ 4))).bind fun n7 =>
 ((runS Tryd.prog n 12 [(.agg #[(.int .i64 n3), (.int .i64 n4), (.slice p5.1 p5.2.1 p5.2.2), (.slice p6.1 p6.2.1 p6.2.2), (.int .u64 n7)])] p1.2)).bind fun p8 =>
 ((gB (some p8.1))).bind fun b9 =>
 cond (Bool.not b9)
 (some (exitR h p8.2 (.bool true)))
 (((gI .i64 (rdC p8.2 (Addr.add ⟨p0.1, 0, none⟩ 1) 0))).bind fun n10 =>
 cond (iLt 6 n10)
 (some (exitR h p8.2 (.bool true)))
 (((gI .i64 (rdC p8.2 (Addr.add ⟨p0.1, 0, none⟩ 0) 0))).bind fun n11 =>
 cond (iEq n11 1)
 (some (exitR h p8.2 (.bool true)))
 (c4_0 n h ⟨p0.1, 0, none⟩ p8.2)))) := by kernel_rfl
def p5 : List (List Nat × List Nat) := [([0, 1, 0, 1, 1], [0, 1, 5, 43, 44, 45]), ([0, 1, 0, 1, 1, 1, 1, 0, 0, 1, 1, 0, 0, 1, 0, 1, 1], [0, 1, 5, 8, 9, 10, 43, 44, 45, 54, 55, 56])]
section
variable (N : NewF) (n m0 : Nat) (h0 : AH) (op_0 w_1 : Int) (n_5 : Addr) (t_43 : Option Addr) (t_43n t_43c : Nat) (t_44 t_45 : Int) (h : AH)
 noncomputable def c5_0 : Option (Go.Value × AH) := resY Tryd.prog n Tryd.f5 h0 (.head (subC (bodyC Tryd.f5) [1, 1, 0, 1, 0, 0]) [0, 1, 0, 1, 1] m0) [.block 0, .seq (subC (bodyC Tryd.f5) [1, 1, 1]) [1, 1, 1]] (E [(0, .int .i64 op_0), (1, .int .i64 w_1), (5, .pointer (some n_5)), (43, .slice t_43 t_43n t_43c), (44, .int .i64 t_44), (45, .int .i64 t_45)]) h
variable {n m0} {h0} {op_0 w_1 n_5 t_43 t_43n t_43c t_44 t_45} {h}
end
 noncomputable def t5Y (N : NewF) (n : Nat) (op_0 w_1 n_2a n_2b n_2c n_2d : Int) (h : AH) : Option (Go.Value × AH) := yrun Tryd.prog (runS Tryd.prog n) n p5 N (resY Tryd.prog n) 5 [(.int .i64 op_0), (.int .i64 w_1), (.agg #[(.int .u64 n_2a), (.int .u64 n_2b), (.int .u64 n_2c), (.int .u64 n_2d)])] h
theorem t5 (N : NewF) (n : Nat) (op_0 w_1 n_2a n_2b n_2c n_2d : Int) (h : AH) : t5Y N n op_0 w_1 n_2a n_2b n_2c n_2d h =
 ((N (setLow h h.next) [(.int .u64 n_2a), (.int .u64 n_2b), (.int .u64 n_2c), (.int .u64 n_2d)] 0)).bind fun p0 =>
 ((runS Tryd.prog n 8 [] p0.2)).bind fun p1 =>
 ((gB (some p1.1))).bind fun b2 =>
 cond (Bool.not b2)
 (some (exitR h p1.2 (.bool false)))
 (((N p1.2 [] 1)).bind fun p3 =>
 ((N p3.2 [(.int .i64 w_1)] 1)).bind fun p4 =>
 ((N p4.2 [(.int .i64 w_1), (.int .i64 w_1)] 1)).bind fun p5 =>
 ((N p5.2 [(.int .i64 1), (.int .i64 w_1), (.int .i64 w_1)] 1)).bind fun p6 =>
 ((gI .u64 (rdC p6.2 (Addr.add ⟨p0.1, 0, none⟩ 3) 0))).bind fun n7 =>
 ((N p6.2 [(.int .i64 (iAdd .i64 (iConv .i64 (iRem .u64 n7 64)) 1))] 1)).bind fun p8 =>
 ((gI .u64 (rdC p8.2 (Addr.add ⟨p0.1, 0, none⟩ 3) 0))).bind fun n9 =>
 ((gI .u64 (rdC p8.2 (Addr.add ⟨p0.1, 0, none⟩ 3) 0))).bind fun n10 =>
 ((N p8.2 [(.int .i64 (iAdd .i64 (iConv .i64 (iRem .u64 n9 64)) 1)), (.int .i64 (iAdd .i64 (iConv .i64 (iRem .u64 n10 64)) 1))] 1)).bind fun p11 =>
 ((N p11.2 [(.slice (some ⟨p3.1, 0, none⟩) 0 0), (.slice (some ⟨p4.1, 0, none⟩) 1 1), (.slice (some ⟨p5.1, 0, none⟩) 2 2), (.slice (some ⟨p6.1, 0, none⟩) 3 3), (.slice (some ⟨p8.1, 0, none⟩) 1 1), (.slice (some ⟨p11.1, 0, none⟩) 2 2)] 1)).bind fun p12 =>
 c5_0 n n h op_0 w_1 ⟨p0.1, 0, none⟩ (some ⟨p12.1, 0, none⟩) 6 6 6 0 p12.2) := by kernel_rfl
def p6 : List (List Nat × List Nat) := []
 noncomputable def t6Y (N : NewF) (n : Nat) (c_0a c_0b : Int) (c_0c : Option Addr) (c_0cn c_0cc : Nat) (c_0d : Option Addr) (c_0dn c_0dc : Nat) (c_0e : Int) (picks_1 : Option Addr) (picks_1n picks_1c : Nat) (h : AH) : Option (Go.Value × AH) := yrun Tryd.prog (runS Tryd.prog n) n p6 N (resY Tryd.prog n) 6 [(.agg #[(.int .i64 c_0a), (.int .i64 c_0b), (.slice c_0c c_0cn c_0cc), (.slice c_0d c_0dn c_0dc), (.int .u64 c_0e)]), (.slice picks_1 picks_1n picks_1c)] h
theorem t6_ok {n : Nat} {c_0a c_0b : Int} {c_0c : Option Addr} {c_0cn c_0cc : Nat} {c_0d : Option Addr} {c_0dn c_0dc : Nat} {c_0e : Int} {picks_1 : Option Addr} {picks_1n picks_1c : Nat} {h : AH} {r : Go.Value × AH} (hv : t6Y hNew n c_0a c_0b c_0c c_0cn c_0cc c_0d c_0dn c_0dc c_0e picks_1 picks_1n picks_1c h = some r) : runS Tryd.prog (n + 1) 6 [(.agg #[(.int .i64 c_0a), (.int .i64 c_0b), (.slice c_0c c_0cn c_0cc), (.slice c_0d c_0dn c_0dc), (.int .u64 c_0e)]), (.slice picks_1 picks_1n picks_1c)] h = some r := yrun_ok hv
theorem t6 (N : NewF) (n : Nat) (c_0a c_0b : Int) (c_0c : Option Addr) (c_0cn c_0cc : Nat) (c_0d : Option Addr) (c_0dn c_0dc : Nat) (c_0e : Int) (picks_1 : Option Addr) (picks_1n picks_1c : Nat) (h : AH) : t6Y N n c_0a c_0b c_0c c_0cn c_0cc c_0d c_0dn c_0dc c_0e picks_1 picks_1n picks_1c h =
 ((N (setLow h h.next) [(.int .i64 c_0a), (.int .i64 c_0b), (.slice c_0c c_0cn c_0cc), (.slice c_0d c_0dn c_0dc), (.int .u64 c_0e)] 0)).bind fun p0 =>
 ((runS Tryd.prog n 8 [] p0.2)).bind fun p1 =>
 ((gB (some p1.1))).bind fun b2 =>
 cond (Bool.not b2)
 (some (exitR h p1.2 (.bool false)))
 (((gI .i64 (rdC p1.2 ⟨p0.1, 0, none⟩ 0))).bind fun n3 =>
 ((gI .i64 (rdC p1.2 ⟨p0.1, 0, none⟩ 1))).bind fun n4 =>
 ((gL (rdC p1.2 ⟨p0.1, 0, none⟩ 2))).bind fun p5 =>
 ((gL (rdC p1.2 ⟨p0.1, 0, none⟩ 3))).bind fun p6 =>
 ((gI .u64 (rdC p1.2 ⟨p0.1, 0, none⟩ 4))).bind fun n7 =>
 ((runS Tryd.prog n 12 [(.agg #[(.int .i64 n3), (.int .i64 n4), (.slice p5.1 p5.2.1 p5.2.2), (.slice p6.1 p6.2.1 p6.2.2), (.int .u64 n7)])] p1.2)).bind fun p8 =>
 ((gB (some p8.1))).bind fun b9 =>
 cond (Bool.not b9)
 (some (exitR h p8.2 (.bool true)))
 (((gI .i64 (rdC p8.2 (Addr.add ⟨p0.1, 0, none⟩ 0) 0))).bind fun n10 =>
 ((gI .i64 (rdC p8.2 (Addr.add ⟨p0.1, 0, none⟩ 1) 0))).bind fun n11 =>
 ((gL (rdC p8.2 (Addr.add ⟨p0.1, 0, none⟩ 2) 0))).bind fun p12 =>
 ((gL (rdC p8.2 (Addr.add ⟨p0.1, 0, none⟩ 3) 0))).bind fun p13 =>
 ((gI .u64 (rdC p8.2 (Addr.add ⟨p0.1, 0, none⟩ 4) 0))).bind fun n14 =>
 ((runS Tryd.prog n 10 [(.int .i64 n10), (.int .i64 n11), (.slice p12.1 p12.2.1 p12.2.2), (.slice p13.1 p13.2.1 p13.2.2), (.int .u64 n14)] p8.2)).bind fun p15 =>
 cond (aggIs 2 p15.1)
 (((gI .u64 (aggC 0 p15.1))).bind fun n16 =>
 ((gI .u64 (aggC 1 p15.1))).bind fun n17 =>
 ((N p15.2 [(.int .u64 0), (.int .u64 0)] 0)).bind fun p18 =>
 ((stL p18.2 ⟨p18.1, 0, none⟩ [(.int .u64 n16), (.int .u64 n17)])).bind fun x19 =>
 ((gI .i64 (rdC x19 (Addr.add ⟨p0.1, 0, none⟩ 1) 0))).bind fun n20 =>
 ((gI .u64 (rdC x19 ⟨p18.1, 0, none⟩ 0))).bind fun n21 =>
 ((gI .u64 (rdC x19 ⟨p18.1, 0, none⟩ 1))).bind fun n22 =>
 ((runS Tryd.prog n 19 [(.int .i64 n20), (.agg #[(.int .u64 n21), (.int .u64 n22)])] (setLow x19 x19.next))).bind fun p23 =>
 ((gB (some p23.1))).bind fun b24 =>
 cond (Nat.beq p23.2.low x19.next)
 (cond b24
 (((gI .u64 (rdC (setLow p23.2 x19.low) ⟨p18.1, 0, none⟩ 0))).bind fun n25 =>
 ((gI .u64 (rdC (setLow p23.2 x19.low) ⟨p18.1, 0, none⟩ 1))).bind fun n26 =>
 ((gI .i64 (rdC (setLow p23.2 x19.low) (Addr.add ⟨p0.1, 0, none⟩ 0) 0))).bind fun n27 =>
 ((gI .i64 (rdC (setLow p23.2 x19.low) (Addr.add ⟨p0.1, 0, none⟩ 1) 0))).bind fun n28 =>
 ((gL (rdC (setLow p23.2 x19.low) (Addr.add ⟨p0.1, 0, none⟩ 2) 0))).bind fun p29 =>
 ((gI .i64 (rdC (setLow p23.2 x19.low) ⟨p0.1, 0, none⟩ 0))).bind fun n30 =>
 ((gI .i64 (rdC (setLow p23.2 x19.low) ⟨p0.1, 0, none⟩ 1))).bind fun n31 =>
 ((gL (rdC (setLow p23.2 x19.low) ⟨p0.1, 0, none⟩ 2))).bind fun p32 =>
 ((gL (rdC (setLow p23.2 x19.low) ⟨p0.1, 0, none⟩ 3))).bind fun p33 =>
 ((gI .u64 (rdC (setLow p23.2 x19.low) ⟨p0.1, 0, none⟩ 4))).bind fun n34 =>
 ((runS Tryd.prog n 21 [(.agg #[(.int .i64 n30), (.int .i64 n31), (.slice p32.1 p32.2.1 p32.2.2), (.slice p33.1 p33.2.1 p33.2.2), (.int .u64 n34)]), (.slice picks_1 picks_1n picks_1c)] (setLow (setLow p23.2 x19.low) (setLow p23.2 x19.low).next))).bind fun p35 =>
 ((gL (some p35.1))).bind fun p36 =>
 cond (Nat.beq p35.2.low (setLow p23.2 x19.low).next)
 (((gI .u64 (rdC (setLow p35.2 (setLow p23.2 x19.low).low) (Addr.add ⟨p0.1, 0, none⟩ 4) 0))).bind fun n37 =>
 ((runS Tryd.prog n 16 [(.int .i64 n27), (.int .i64 n28), (.slice p29.1 p29.2.1 p29.2.2), (.slice p36.1 p36.2.1 p36.2.2), (.int .u64 n37)] (setLow (setLow p35.2 (setLow p23.2 x19.low).low) (setLow p35.2 (setLow p23.2 x19.low).low).next))).bind fun p38 =>
 ((gI .u64 (some p38.1))).bind fun n39 =>
 cond (Nat.beq p38.2.low (setLow p35.2 (setLow p23.2 x19.low).low).next)
 (((runS Tryd.prog n 20 [(.agg #[(.int .u64 n25), (.int .u64 n26)]), (.int .u64 n39)] (setLow p38.2 (setLow p35.2 (setLow p23.2 x19.low).low).low))).bind fun p40 =>
 ((gB (some p40.1))).bind fun b41 =>
 some (exitR h p40.2 (.bool b41)))
 (none))
 (none))
 (some (exitR h (setLow p23.2 x19.low) (.bool false))))
 (none))
 (none))) := by kernel_rfl
def p7 : List (List Nat × List Nat) := [([0, 1, 0, 1, 1, 1, 1, 1], [1, 2, 5, 18, 19, 20]), ([1, 1, 1, 0, 0, 1, 1, 0, 0, 1, 0, 1, 1, 1, 1, 1], [1, 2, 5, 7, 8, 18, 19, 20])]
def p8 : List (List Nat × List Nat) := []
 noncomputable def t8Y (N : NewF) (n : Nat)  (h : AH) : Option (Go.Value × AH) := yrun Tryd.prog (runS Tryd.prog n) n p8 N (resY Tryd.prog n) 8 [] h
theorem t8_ok {n : Nat} {h : AH} {r : Go.Value × AH} (hv : t8Y hNew n h = some r) : runS Tryd.prog (n + 1) 8 [] h = some r := yrun_ok hv
theorem t8 (N : NewF) (n : Nat)  (h : AH) : t8Y N n h =
 ((runS Tryd.prog n 18 [(.int .i64 4), (.int .u64 10)] (setLow h h.next))).bind fun p0 =>
 cond (aggIs 2 p0.1)
 (((gI .u64 (aggC 0 p0.1))).bind fun n1 =>
 ((gI .u64 (aggC 1 p0.1))).bind fun n2 =>
 cond (iEq n1 5)
 (cond (iEq n2 10)
 (((runS Tryd.prog n 18 [(.int .i64 4), (.int .u64 10)] p0.2)).bind fun p3 =>
 cond (aggIs 2 p3.1)
 (((gI .u64 (aggC 0 p3.1))).bind fun n4 =>
 ((gI .u64 (aggC 1 p3.1))).bind fun n5 =>
 ((runS Tryd.prog n 19 [(.int .i64 4), (.agg #[(.int .u64 n4), (.int .u64 n5)])] p3.2)).bind fun p6 =>
 ((gB (some p6.1))).bind fun b7 =>
 some (exitR h p6.2 (.bool b7)))
 (none))
 (some (exitR h p0.2 (.bool false))))
 (some (exitR h p0.2 (.bool false))))
 (none) := by kernel_rfl
def p9 : List (List Nat × List Nat) := []
 noncomputable def t9Y (N : NewF) (n : Nat) (c_0a c_0b : Int) (c_0c : Option Addr) (c_0cn c_0cc : Nat) (c_0d : Option Addr) (c_0dn c_0dc : Nat) (c_0e : Int) (h : AH) : Option (Go.Value × AH) := yrun Tryd.prog (runS Tryd.prog n) n p9 N (resY Tryd.prog n) 9 [(.agg #[(.int .i64 c_0a), (.int .i64 c_0b), (.slice c_0c c_0cn c_0cc), (.slice c_0d c_0dn c_0dc), (.int .u64 c_0e)])] h
theorem t9_ok {n : Nat} {c_0a c_0b : Int} {c_0c : Option Addr} {c_0cn c_0cc : Nat} {c_0d : Option Addr} {c_0dn c_0dc : Nat} {c_0e : Int} {h : AH} {r : Go.Value × AH} (hv : t9Y hNew n c_0a c_0b c_0c c_0cn c_0cc c_0d c_0dn c_0dc c_0e h = some r) : runS Tryd.prog (n + 1) 9 [(.agg #[(.int .i64 c_0a), (.int .i64 c_0b), (.slice c_0c c_0cn c_0cc), (.slice c_0d c_0dn c_0dc), (.int .u64 c_0e)])] h = some r := yrun_ok hv
theorem t9 (N : NewF) (n : Nat) (c_0a c_0b : Int) (c_0c : Option Addr) (c_0cn c_0cc : Nat) (c_0d : Option Addr) (c_0dn c_0dc : Nat) (c_0e : Int) (h : AH) : t9Y N n c_0a c_0b c_0c c_0cn c_0cc c_0d c_0dn c_0dc c_0e h =
 ((N (setLow h h.next) [(.int .i64 c_0a), (.int .i64 c_0b), (.slice c_0c c_0cn c_0cc), (.slice c_0d c_0dn c_0dc), (.int .u64 c_0e)] 0)).bind fun p0 =>
 ((gL (rdC p0.2 (Addr.add ⟨p0.1, 0, none⟩ 2) 0))).bind fun p1 =>
 cond (iLe (Int.ofNat p1.2.1) 8)
 (((gL (rdC p0.2 (Addr.add ⟨p0.1, 0, none⟩ 3) 0))).bind fun p2 =>
 some (exitR h p0.2 (.bool (iLe (Int.ofNat p2.2.1) 8))))
 (some (exitR h p0.2 (.bool false))) := by kernel_rfl
end Go.Proofs.YtiadfnedbbkojaaDoor.Kb
