/- Joined texts: HC. -/
import Derived.KernelRfl
import Derived.Test.YtiadfnedbbkojaaDoorYA
import Derived.Test.YtiadfnedbbkojaaDoorProg
namespace Go.Proofs.YtiadfnedbbkojaaDoor.Kb
open Go Go.Proofs Go.Proofs.YtiadfnedbbkojaaDoor Go.Proofs.YtiadfnedbbkojaaDoor.X
set_option maxRecDepth 100000
set_option linter.unusedVariables false
def p3 : List (List Nat × List Nat) := []
 noncomputable def t3Y (N : NewF) (n : Nat) (c_0a c_0b : Int) (c_0c : Option Addr) (c_0cn c_0cc : Nat) (c_0d : Option Addr) (c_0dn c_0dc : Nat) (c_0e : Int) (h : AH) : Option (Go.Value × AH) := yrun Tryd.prog (runS Tryd.prog n) n p3 N (resY Tryd.prog n) 3 [(.agg #[(.int .i64 c_0a), (.int .i64 c_0b), (.slice c_0c c_0cn c_0cc), (.slice c_0d c_0dn c_0dc), (.int .u64 c_0e)])] h
theorem t3 (N : NewF) (n : Nat) (c_0a c_0b : Int) (c_0c : Option Addr) (c_0cn c_0cc : Nat) (c_0d : Option Addr) (c_0dn c_0dc : Nat) (c_0e : Int) (h : AH) : t3Y N n c_0a c_0b c_0c c_0cn c_0cc c_0d c_0dn c_0dc c_0e h =
 ((N (setLow h h.next) [(.int .i64 c_0a), (.int .i64 c_0b), (.slice c_0c c_0cn c_0cc), (.slice c_0d c_0dn c_0dc), (.int .u64 c_0e)] 0)).bind fun p0 =>
 ((runS Tryd.prog n 8 [] p0.2)).bind fun p1 =>
 ((gB (some p1.1))).bind fun b2 =>
 cond (Bool.not b2)
 (some (exitR h p1.2 (.bool false)))
 (((gI .i64 (rdC p1.2 ⟨p0.1, 0, none⟩ 0))).bind fun n3 =>
 ((gI .i64 (rdC p1.2 ⟨p0.1, 0, none⟩ 1))).bind fun n4 =>
 ((gL (rdC p1.2 ⟨p0.1, 0, none⟩ 2))).bind fun p5 =>
 ((gL (rdC p1.2 ⟨p0.1, 0, none⟩ 3))).bind fun p6 =>
 ((gI .u64 (rdC p1.2 ⟨p0.1, 0, none⟩ 4))).bind fun n7 =>
 ((runS Tryd.prog n 9 [(.agg #[(.int .i64 n3), (.int .i64 n4), (.slice p5.1 p5.2.1 p5.2.2), (.slice p6.1 p6.2.1 p6.2.2), (.int .u64 n7)])] p1.2)).bind fun p8 =>
 ((gB (some p8.1))).bind fun b9 =>
 cond (Bool.not b9)
 (some (exitR h p8.2 (.bool true)))
 (((gI .i64 (rdC p8.2 (Addr.add ⟨p0.1, 0, none⟩ 0) 0))).bind fun n10 =>
 ((gI .i64 (rdC p8.2 (Addr.add ⟨p0.1, 0, none⟩ 1) 0))).bind fun n11 =>
 ((gL (rdC p8.2 (Addr.add ⟨p0.1, 0, none⟩ 2) 0))).bind fun p12 =>
 ((gL (rdC p8.2 (Addr.add ⟨p0.1, 0, none⟩ 3) 0))).bind fun p13 =>
 ((gI .u64 (rdC p8.2 (Addr.add ⟨p0.1, 0, none⟩ 4) 0))).bind fun n14 =>
 ((runS Tryd.prog n 10 [(.int .i64 n10), (.int .i64 n11), (.slice p12.1 p12.2.1 p12.2.2), (.slice p13.1 p13.2.1 p13.2.2), (.int .u64 n14)] (setLow p8.2 p8.2.next))).bind fun p15 =>
 cond (aggIs 2 p15.1)
 (((gI .u64 (aggC 0 p15.1))).bind fun n16 =>
 ((gI .u64 (aggC 1 p15.1))).bind fun n17 =>
 cond (Nat.beq p15.2.low p8.2.next)
 (((gI .i64 (rdC (setLow p15.2 p8.2.low) (Addr.add ⟨p0.1, 0, none⟩ 0) 0))).bind fun n18 =>
 ((gI .i64 (rdC (setLow p15.2 p8.2.low) (Addr.add ⟨p0.1, 0, none⟩ 1) 0))).bind fun n19 =>
 ((gL (rdC (setLow p15.2 p8.2.low) (Addr.add ⟨p0.1, 0, none⟩ 2) 0))).bind fun p20 =>
 ((gL (rdC (setLow p15.2 p8.2.low) (Addr.add ⟨p0.1, 0, none⟩ 3) 0))).bind fun p21 =>
 ((gI .u64 (rdC (setLow p15.2 p8.2.low) (Addr.add ⟨p0.1, 0, none⟩ 4) 0))).bind fun n22 =>
 ((runS Tryd.prog n 11 [(.int .i64 n18), (.int .i64 n19), (.slice p20.1 p20.2.1 p20.2.2), (.slice p21.1 p21.2.1 p21.2.2), (.int .u64 n22)] (setLow p15.2 p8.2.low))).bind fun p23 =>
 cond (aggIs 2 p23.1)
 (((gI .u64 (aggC 0 p23.1))).bind fun n24 =>
 ((gI .u64 (aggC 1 p23.1))).bind fun n25 =>
 cond (iEq n16 n24)
 (cond (iEq n17 n25)
 (some (exitR h p23.2 (.bool true)))
 (some (exitR h p23.2 (.bool false))))
 (some (exitR h p23.2 (.bool false))))
 (none))
 (none))
 (none))) := by kernel_rfl
def p4 : List (List Nat × List Nat) := [([1, 1, 1], [1]), ([0, 1, 0, 1, 1, 1], [1, 33, 34, 35]), ([1, 1, 1, 1, 1], [1]), ([1, 1, 1, 1, 1, 1], [1]), ([0, 1, 0, 1, 1, 1, 1, 1, 1, 1, 1], [1, 7, 8, 100, 101]), ([0, 1, 0, 1, 1, 1, 1, 1, 1, 1, 1, 1], [1, 7, 8, 119, 120, 121]), ([0, 1, 1, 0, 0, 1, 1, 0, 0, 1, 0, 1, 1, 1, 1, 1, 1, 1, 1, 1], [1, 7, 8, 11, 119, 120, 121, 126, 127, 128]), ([0, 1, 1, 0, 0, 1, 1, 0, 0, 1, 1, 0, 0, 1, 1, 0, 0, 1, 0, 1, 1, 1, 1, 1, 1, 1, 1, 1], [1, 7, 8, 11, 13, 119, 120, 121, 126, 127, 128, 133, 134, 135])]
section
variable (N : NewF) (n : Nat) (h0 : AH) (c_1 : Addr) (h : AH)
 noncomputable def c4_0 : Option (Go.Value × AH) := resY Tryd.prog n Tryd.f4 h0 (.code (subC (bodyC Tryd.f4) [1, 1, 1]) [1, 1, 1]) [] (E [(1, .pointer (some c_1))]) h
variable {n} {h0} {c_1} {h}
end
 noncomputable def t4Y (N : NewF) (n : Nat) (c_0a c_0b : Int) (c_0c : Option Addr) (c_0cn c_0cc : Nat) (c_0d : Option Addr) (c_0dn c_0dc : Nat) (c_0e : Int) (h : AH) : Option (Go.Value × AH) := yrun Tryd.prog (runS Tryd.prog n) n p4 N (resY Tryd.prog n) 4 [(.agg #[(.int .i64 c_0a), (.int .i64 c_0b), (.slice c_0c c_0cn c_0cc), (.slice c_0d c_0dn c_0dc), (.int .u64 c_0e)])] h
theorem t4 (N : NewF) (n : Nat) (c_0a c_0b : Int) (c_0c : Option Addr) (c_0cn c_0cc : Nat) (c_0d : Option Addr) (c_0dn c_0dc : Nat) (c_0e : Int) (h : AH) : t4Y N n c_0a c_0b c_0c c_0cn c_0cc c_0d c_0dn c_0dc c_0e h =
 ((N (setLow h h.next) [(.int .i64 c_0a), (.int .i64 c_0b), (.slice c_0c c_0cn c_0cc), (.slice c_0d c_0dn c_0dc), (.int .u64 c_0e)] 0)).bind fun p0 =>
 ((runS Tryd.prog n 8 [] p0.2)).bind fun p1 =>
 ((gB (some p1.1))).bind fun b2 =>
 cond (Bool.not b2)
 (some (exitR h p1.2 (.bool false)))
 (((gI .i64 (rdC p1.2 ⟨p0.1, 0, none⟩ 0))).bind fun n3 =>
 ((gI .i64 (rdC p1.2 ⟨p0.1, 0, none⟩ 1))).bind fun n4 =>
 ((gL (rdC p1.2 ⟨p0.1, 0, none⟩ 2))).bind fun p5 =>
 ((gL (rdC p1.2 ⟨p0.1, 0, none⟩ 3))).bind fun p6 =>
 ((gI .u64 (rdC p1.2 ⟨p0.1, 0, none⟩ 4))).bind fun n7 =>
 ((runS Tryd.prog n 12 [(.agg #[(.int .i64 n3), (.int .i64 n4), (.slice p5.1 p5.2.1 p5.2.2), (.slice p6.1 p6.2.1 p6.2.2), (.int .u64 n7)])] p1.2)).bind fun p8 =>
 ((gB (some p8.1))).bind fun b9 =>
 cond (Bool.not b9)
 (some (exitR h p8.2 (.bool true)))
 (((gI .i64 (rdC p8.2 (Addr.add ⟨p0.1, 0, none⟩ 1) 0))).bind fun n10 =>
 cond (iLt 6 n10)
 (some (exitR h p8.2 (.bool true)))
 (((gI .i64 (rdC p8.2 (Addr.add ⟨p0.1, 0, none⟩ 0) 0))).bind fun n11 =>
 cond (iEq n11 1)
 (some (exitR h p8.2 (.bool true)))
 (c4_0 n h ⟨p0.1, 0, none⟩ p8.2)))) := by kernel_rfl
def p5 : List (List Nat × List Nat) := [([0, 1, 0, 1, 1], [0, 1, 5, 43, 44, 45]), ([0, 1, 0, 1, 1, 1, 1, 0, 0, 1, 1, 0, 0, 1, 0, 1, 1], [0, 1, 5, 8, 9, 10, 43, 44, 45, 54, 55, 56])]
section
variable (N : NewF) (n m0 : Nat) (h0 : AH) (op_0 w_1 : Int) (n_5 : Addr) (t_43 : Option Addr) (t_43n t_43c : Nat) (t_44 t_45 : Int) (h : AH)
 noncomputable def c5_0 : Option (Go.Value × AH) := resY Tryd.prog n Tryd.f5 h0 (.head (subC (bodyC Tryd.f5) [1, 1, 0, 1, 0, 0]) [0, 1, 0, 1, 1] m0) [.block 0, .seq (subC (bodyC Tryd.f5) [1, 1, 1]) [1, 1, 1]] (E [(0, .int .i64 op_0), (1, .int .i64 w_1), (5, .pointer (some n_5)), (43, .slice t_43 t_43n t_43c), (44, .int .i64 t_44), (45, .int .i64 t_45)]) h
variable {n m0} {h0} {op_0 w_1 n_5 t_43 t_43n t_43c t_44 t_45} {h}
end
 noncomputable def t5Y (N : NewF) (n : Nat) (op_0 w_1 n_2a n_2b n_2c n_2d : Int) (h : AH) : Option (Go.Value × AH) := yrun Tryd.prog (runS Tryd.prog n) n p5 N (resY Tryd.prog n) 5 [(.int .i64 op_0), (.int .i64 w_1), (.agg #[(.int .u64 n_2a), (.int .u64 n_2b), (.int .u64 n_2c), (.int .u64 n_2d)])] h
theorem t5 (N : NewF) (n : Nat) (op_0 w_1 n_2a n_2b n_2c n_2d : Int) (h : AH) : t5Y N n op_0 w_1 n_2a n_2b n_2c n_2d h =
 ((N (setLow h h.next) [(.int .u64 n_2a), (.int .u64 n_2b), (.int .u64 n_2c), (.int .u64 n_2d)] 0)).bind fun p0 =>
 ((runS Tryd.prog n 8 [] p0.2)).bind fun p1 =>
 ((gB (some p1.1))).bind fun b2 =>
 cond (Bool.not b2)
 (some (exitR h p1.2 (.bool false)))
 (((N p1.2 [] 1)).bind fun p3 =>
 ((N p3.2 [(.int .i64 w_1)] 1)).bind fun p4 =>
 ((N p4.2 [(.int .i64 w_1), (.int .i64 w_1)] 1)).bind fun p5 =>
 ((N p5.2 [(.int .i64 1), (.int .i64 w_1), (.int .i64 w_1)] 1)).bind fun p6 =>
 ((gI .u64 (rdC p6.2 (Addr.add ⟨p0.1, 0, none⟩ 3) 0))).bind fun n7 =>
 ((N p6.2 [(.int .i64 (iAdd .i64 (iConv .i64 (iRem .u64 n7 64)) 1))] 1)).bind fun p8 =>
 ((gI .u64 (rdC p8.2 (Addr.add ⟨p0.1, 0, none⟩ 3) 0))).bind fun n9 =>
 ((gI .u64 (rdC p8.2 (Addr.add ⟨p0.1, 0, none⟩ 3) 0))).bind fun n10 =>
 ((N p8.2 [(.int .i64 (iAdd .i64 (iConv .i64 (iRem .u64 n9 64)) 1)), (.int .i64 (iAdd .i64 (iConv .i64 (iRem .u64 n10 64)) 1))] 1)).bind fun p11 =>
 ((N p11.2 [(.slice (some ⟨p3.1, 0, none⟩) 0 0), (.slice (some ⟨p4.1, 0, none⟩) 1 1), (.slice (some ⟨p5.1, 0, none⟩) 2 2), (.slice (some ⟨p6.1, 0, none⟩) 3 3), (.slice (some ⟨p8.1, 0, none⟩) 1 1), (.slice (some ⟨p11.1, 0, none⟩) 2 2)] 1)).bind fun p12 =>
 c5_0 n n h op_0 w_1 ⟨p0.1, 0, none⟩ (some ⟨p12.1, 0, none⟩) 6 6 6 0 p12.2) := by kernel_rfl
def p6 : List (List Nat × List Nat) := []
def p7 : List (List Nat × List Nat) := [([0, 1, 0, 1, 1, 1, 1, 1], [1, 2, 5, 18, 19, 20]), ([1, 1, 1, 0, 0, 1, 1, 0, 0, 1, 0, 1, 1, 1, 1, 1], [1, 2, 5, 7, 8, 18, 19, 20])]
section
variable (N : NewF) (n m0 : Nat) (h0 : AH) (more_1 : Option Addr) (more_1n more_1c : Nat) (c_2 d_5 : Addr) (t_18 : Option Addr) (t_18n t_18c : Nat) (t_19 t_20 : Int) (h : AH)
 noncomputable def c7_0 : Option (Go.Value × AH) := resY Tryd.prog n Tryd.f7 h0 (.head (subC (bodyC Tryd.f7) [1, 1, 1, 1, 1, 0, 1, 0, 0]) [0, 1, 0, 1, 1, 1, 1, 1] m0) [.block 0, .seq (subC (bodyC Tryd.f7) [1, 1, 1, 1, 1, 1]) [1, 1, 1, 1, 1, 1]] (E [(1, .slice more_1 more_1n more_1c), (2, .pointer (some c_2)), (5, .pointer (some d_5)), (18, .slice t_18 t_18n t_18c), (19, .int .i64 t_19), (20, .int .i64 t_20)]) h
 noncomputable def c7_0Y : Option (Go.Value × AH) := yhead Tryd.prog (runS Tryd.prog n) n Tryd.f7 h0 p7 N (resY Tryd.prog n Tryd.f7 h0) (subC (bodyC Tryd.f7) [1, 1, 1, 1, 1, 0, 1, 0, 0]) [0, 1, 0, 1, 1, 1, 1, 1] m0 [.block 0, .seq (subC (bodyC Tryd.f7) [1, 1, 1, 1, 1, 1]) [1, 1, 1, 1, 1, 1]] (E [(1, .slice more_1 more_1n more_1c), (2, .pointer (some c_2)), (5, .pointer (some d_5)), (18, .slice t_18 t_18n t_18c), (19, .int .i64 t_19), (20, .int .i64 t_20)]) h
variable {n m0} {h0} {more_1 more_1n more_1c c_2 d_5 t_18 t_18n t_18c t_19 t_20} {h}
theorem c7_0_ok {r : Go.Value × AH} (hv : c7_0Y hNew n m0 h0 more_1 more_1n more_1c c_2 d_5 t_18 t_18n t_18c t_19 t_20 h = some r) : c7_0 n (m0 + 1) h0 more_1 more_1n more_1c c_2 d_5 t_18 t_18n t_18c t_19 t_20 h = some r := yhead_ok hv
end
section
variable (N : NewF) (n m0 : Nat) (h0 : AH) (more_1 : Option Addr) (more_1n more_1c : Nat) (c_2 d_5 b_7 : Addr) (mask_8 : Int) (t_18 : Option Addr) (t_18n t_18c : Nat) (t_19 t_20 : Int) (h : AH)
 noncomputable def c7_1 : Option (Go.Value × AH) := resY Tryd.prog n Tryd.f7 h0 (.code (subC (bodyC Tryd.f7) [1, 1, 1, 1, 1, 0, 1, 0, 0, 1, 1, 0, 0, 1, 1, 1]) [1, 1, 1, 0, 0, 1, 1, 0, 0, 1, 0, 1, 1, 1, 1, 1]) [.block 1, .seq (subC (bodyC Tryd.f7) [1, 1, 1, 1, 1, 0, 1, 0, 0, 1, 1, 1]) [1, 1, 1, 0, 0, 1, 0, 1, 1, 1, 1, 1], .loop (subC (bodyC Tryd.f7) [1, 1, 1, 1, 1, 0, 1, 0, 0]) [0, 1, 0, 1, 1, 1, 1, 1] m0, .block 0, .seq (subC (bodyC Tryd.f7) [1, 1, 1, 1, 1, 1]) [1, 1, 1, 1, 1, 1]] (E [(1, .slice more_1 more_1n more_1c), (2, .pointer (some c_2)), (5, .pointer (some d_5)), (7, .pointer (some b_7)), (8, .int .u64 mask_8), (18, .slice t_18 t_18n t_18c), (19, .int .i64 t_19), (20, .int .i64 t_20)]) h
 noncomputable def c7_1Y : Option (Go.Value × AH) := yfrom Tryd.prog (runS Tryd.prog n) n Tryd.f7 h0 p7 N (resY Tryd.prog n Tryd.f7 h0) (subC (bodyC Tryd.f7) [1, 1, 1, 1, 1, 0, 1, 0, 0, 1, 1, 0, 0, 1, 1, 1]) [1, 1, 1, 0, 0, 1, 1, 0, 0, 1, 0, 1, 1, 1, 1, 1] [.block 1, .seq (subC (bodyC Tryd.f7) [1, 1, 1, 1, 1, 0, 1, 0, 0, 1, 1, 1]) [1, 1, 1, 0, 0, 1, 0, 1, 1, 1, 1, 1], .loop (subC (bodyC Tryd.f7) [1, 1, 1, 1, 1, 0, 1, 0, 0]) [0, 1, 0, 1, 1, 1, 1, 1] m0, .block 0, .seq (subC (bodyC Tryd.f7) [1, 1, 1, 1, 1, 1]) [1, 1, 1, 1, 1, 1]] (E [(1, .slice more_1 more_1n more_1c), (2, .pointer (some c_2)), (5, .pointer (some d_5)), (7, .pointer (some b_7)), (8, .int .u64 mask_8), (18, .slice t_18 t_18n t_18c), (19, .int .i64 t_19), (20, .int .i64 t_20)]) h
variable {n m0} {h0} {more_1 more_1n more_1c c_2 d_5 b_7 mask_8 t_18 t_18n t_18c t_19 t_20} {h}
theorem c7_1_ok {r : Go.Value × AH} (hv : c7_1Y hNew n m0 h0 more_1 more_1n more_1c c_2 d_5 b_7 mask_8 t_18 t_18n t_18c t_19 t_20 h = some r) : c7_1 n m0 h0 more_1 more_1n more_1c c_2 d_5 b_7 mask_8 t_18 t_18n t_18c t_19 t_20 h = some r := yfrom_ok hv
end
 noncomputable def t7Y (N : NewF) (n : Nat) (c_0a c_0b : Int) (c_0c : Option Addr) (c_0cn c_0cc : Nat) (c_0d : Option Addr) (c_0dn c_0dc : Nat) (c_0e : Int) (more_1 : Option Addr) (more_1n more_1c : Nat) (h : AH) : Option (Go.Value × AH) := yrun Tryd.prog (runS Tryd.prog n) n p7 N (resY Tryd.prog n) 7 [(.agg #[(.int .i64 c_0a), (.int .i64 c_0b), (.slice c_0c c_0cn c_0cc), (.slice c_0d c_0dn c_0dc), (.int .u64 c_0e)]), (.slice more_1 more_1n more_1c)] h
theorem t7_ok {n : Nat} {c_0a c_0b : Int} {c_0c : Option Addr} {c_0cn c_0cc : Nat} {c_0d : Option Addr} {c_0dn c_0dc : Nat} {c_0e : Int} {more_1 : Option Addr} {more_1n more_1c : Nat} {h : AH} {r : Go.Value × AH} (hv : t7Y hNew n c_0a c_0b c_0c c_0cn c_0cc c_0d c_0dn c_0dc c_0e more_1 more_1n more_1c h = some r) : runS Tryd.prog (n + 1) 7 [(.agg #[(.int .i64 c_0a), (.int .i64 c_0b), (.slice c_0c c_0cn c_0cc), (.slice c_0d c_0dn c_0dc), (.int .u64 c_0e)]), (.slice more_1 more_1n more_1c)] h = some r := yrun_ok hv
theorem t7 (N : NewF) (n : Nat) (c_0a c_0b : Int) (c_0c : Option Addr) (c_0cn c_0cc : Nat) (c_0d : Option Addr) (c_0dn c_0dc : Nat) (c_0e : Int) (more_1 : Option Addr) (more_1n more_1c : Nat) (h : AH) : t7Y N n c_0a c_0b c_0c c_0cn c_0cc c_0d c_0dn c_0dc c_0e more_1 more_1n more_1c h =
 ((N (setLow h h.next) [(.int .i64 c_0a), (.int .i64 c_0b), (.slice c_0c c_0cn c_0cc), (.slice c_0d c_0dn c_0dc), (.int .u64 c_0e)] 0)).bind fun p0 =>
 ((runS Tryd.prog n 8 [] p0.2)).bind fun p1 =>
 ((gB (some p1.1))).bind fun b2 =>
 cond (Bool.not b2)
 (some (exitR h p1.2 (.bool false)))
 (((gI .i64 (rdC p1.2 ⟨p0.1, 0, none⟩ 0))).bind fun n3 =>
 ((gI .i64 (rdC p1.2 ⟨p0.1, 0, none⟩ 1))).bind fun n4 =>
 ((gL (rdC p1.2 ⟨p0.1, 0, none⟩ 2))).bind fun p5 =>
 ((gL (rdC p1.2 ⟨p0.1, 0, none⟩ 3))).bind fun p6 =>
 ((gI .u64 (rdC p1.2 ⟨p0.1, 0, none⟩ 4))).bind fun n7 =>
 ((runS Tryd.prog n 12 [(.agg #[(.int .i64 n3), (.int .i64 n4), (.slice p5.1 p5.2.1 p5.2.2), (.slice p6.1 p6.2.1 p6.2.2), (.int .u64 n7)])] p1.2)).bind fun p8 =>
 ((gB (some p8.1))).bind fun b9 =>
 cond (Bool.not b9)
 (some (exitR h p8.2 (.bool true)))
 (((gI .i64 (rdC p8.2 ⟨p0.1, 0, none⟩ 0))).bind fun n10 =>
 ((gI .i64 (rdC p8.2 ⟨p0.1, 0, none⟩ 1))).bind fun n11 =>
 ((gL (rdC p8.2 ⟨p0.1, 0, none⟩ 2))).bind fun p12 =>
 ((gL (rdC p8.2 ⟨p0.1, 0, none⟩ 3))).bind fun p13 =>
 ((gI .u64 (rdC p8.2 ⟨p0.1, 0, none⟩ 4))).bind fun n14 =>
 ((N p8.2 [(.int .i64 0), (.int .i64 0), (.slice none 0 0), (.slice none 0 0), (.int .u64 0)] 0)).bind fun p15 =>
 ((stL p15.2 ⟨p15.1, 0, none⟩ [(.int .i64 n10), (.int .i64 n11), (.slice p12.1 p12.2.1 p12.2.2), (.slice p13.1 p13.2.1 p13.2.2), (.int .u64 n14)])).bind fun x16 =>
 ((stL x16 (Addr.add ⟨p15.1, 0, none⟩ 3) [(.slice none 0 0)])).bind fun x17 =>
 ((gL (rdC x17 (Addr.add ⟨p0.1, 0, none⟩ 3) 0))).bind fun p18 =>
 c7_0 n n h more_1 more_1n more_1c ⟨p0.1, 0, none⟩ ⟨p15.1, 0, none⟩ p18.1 p18.2.1 p18.2.2 (Int.ofNat p18.2.1) 0 x17)) := by kernel_rfl
theorem c7_0_eq (N : NewF) (n m0 : Nat) (h0 : AH) (more_1 : Option Addr) (more_1n more_1c : Nat) (c_2 d_5 : Addr) (t_18 : Option Addr) (t_18n t_18c : Nat) (t_19 t_20 : Int) (h : AH) : c7_0Y N n m0 h0 more_1 more_1n more_1c c_2 d_5 t_18 t_18n t_18c t_19 t_20 h =
 cond (iLt t_20 t_19)
 ((t_18).bind fun a0 =>
 cond (inB t_20 t_18n)
 (((gI .u64 (rdC h (Addr.add a0 ((Int.toNat t_20) * 2)) 0))).bind fun n1 =>
 ((gI .u64 (rdC h (Addr.add a0 ((Int.toNat t_20) * 2)) 1))).bind fun n2 =>
 ((N h [(.int .u64 0), (.int .u64 0)] 0)).bind fun p3 =>
 ((stL p3.2 ⟨p3.1, 0, none⟩ [(.int .u64 n1), (.int .u64 n2)])).bind fun x4 =>
 cond (iLt t_20 (Int.ofNat more_1n))
 ((more_1).bind fun a5 =>
 cond (inB t_20 more_1n)
 (((gI .u64 (rdC x4 (Addr.add a5 ((Int.toNat t_20) * 1)) 0))).bind fun n6 =>
 ((gL (rdC x4 (Addr.add c_2 2) 0))).bind fun p7 =>
 (p7.1).bind fun a8 =>
 cond (inB t_20 p7.2.1)
 (((gI .i64 (rdC x4 (Addr.add a8 ((Int.toNat t_20) * 1)) 0))).bind fun n9 =>
 ((runS Tryd.prog n 14 [(.int .i64 n9)] (setLow x4 x4.next))).bind fun p10 =>
 ((gI .u64 (some p10.1))).bind fun n11 =>
 cond (Nat.beq p10.2.low x4.next)
 (((gI .u64 (rdC (setLow p10.2 x4.low) (Addr.add ⟨p3.1, 0, none⟩ 0) 0))).bind fun n12 =>
 ((gI .u64 (rdC (setLow p10.2 x4.low) (Addr.add ⟨p3.1, 0, none⟩ 1) 0))).bind fun n13 =>
 c7_1 n m0 h0 more_1 more_1n more_1c c_2 d_5 ⟨p3.1, 0, none⟩ (iAndNot .u64 (iAnd .u64 n6 n11) (iOr .u64 n12 n13)) t_18 t_18n t_18c t_19 t_20 (setLow p10.2 x4.low))
 (none))
 (none))
 (none))
 (c7_1 n m0 h0 more_1 more_1n more_1c c_2 d_5 ⟨p3.1, 0, none⟩ 0 t_18 t_18n t_18c t_19 t_20 x4))
 (none))
 (((gI .i64 (rdC h (Addr.add d_5 0) 0))).bind fun n14 =>
 ((gI .i64 (rdC h (Addr.add d_5 1) 0))).bind fun n15 =>
 ((gL (rdC h (Addr.add d_5 2) 0))).bind fun p16 =>
 ((gL (rdC h (Addr.add d_5 3) 0))).bind fun p17 =>
 ((gI .u64 (rdC h (Addr.add d_5 4) 0))).bind fun n18 =>
 ((runS Tryd.prog n 10 [(.int .i64 n14), (.int .i64 n15), (.slice p16.1 p16.2.1 p16.2.2), (.slice p17.1 p17.2.1 p17.2.2), (.int .u64 n18)] (setLow h h.next))).bind fun p19 =>
 cond (aggIs 2 p19.1)
 (((gI .u64 (aggC 0 p19.1))).bind fun n20 =>
 ((gI .u64 (aggC 1 p19.1))).bind fun n21 =>
 cond (Nat.beq p19.2.low h.next)
 (((gI .i64 (rdC (setLow p19.2 h.low) (Addr.add c_2 0) 0))).bind fun n22 =>
 ((gI .i64 (rdC (setLow p19.2 h.low) (Addr.add c_2 1) 0))).bind fun n23 =>
 ((gL (rdC (setLow p19.2 h.low) (Addr.add c_2 2) 0))).bind fun p24 =>
 ((gL (rdC (setLow p19.2 h.low) (Addr.add c_2 3) 0))).bind fun p25 =>
 ((gI .u64 (rdC (setLow p19.2 h.low) (Addr.add c_2 4) 0))).bind fun n26 =>
 ((runS Tryd.prog n 10 [(.int .i64 n22), (.int .i64 n23), (.slice p24.1 p24.2.1 p24.2.2), (.slice p25.1 p25.2.1 p25.2.2), (.int .u64 n26)] (setLow p19.2 h.low))).bind fun p27 =>
 cond (aggIs 2 p27.1)
 (((gI .u64 (aggC 0 p27.1))).bind fun n28 =>
 ((gI .u64 (aggC 1 p27.1))).bind fun n29 =>
 ((runS Tryd.prog n 22 [(.agg #[(.int .u64 n20), (.int .u64 n21)]), (.agg #[(.int .u64 n28), (.int .u64 n29)])] p27.2)).bind fun p30 =>
 ((gB (some p30.1))).bind fun b31 =>
 some (exitR h0 p30.2 (.bool b31)))
 (none))
 (none))
 (none)) := by kernel_rfl
theorem c7_1_eq (N : NewF) (n m0 : Nat) (h0 : AH) (more_1 : Option Addr) (more_1n more_1c : Nat) (c_2 d_5 b_7 : Addr) (mask_8 : Int) (t_18 : Option Addr) (t_18n t_18c : Nat) (t_19 t_20 : Int) (h : AH) : c7_1Y N n m0 h0 more_1 more_1n more_1c c_2 d_5 b_7 mask_8 t_18 t_18n t_18c t_19 t_20 h =
 ((gL (rdC h (Addr.add d_5 3) 0))).bind fun p0 =>
 ((gI .u64 (rdC h (Addr.add b_7 0) 0))).bind fun n1 =>
 ((gI .u64 (rdC h (Addr.add b_7 1) 0))).bind fun n2 =>
 ((N h [(.int .u64 (iOr .u64 n1 (iAnd .u64 mask_8 6148914691236517205))), (.int .u64 (iOr .u64 n2 (iAndNot .u64 mask_8 (iAnd .u64 mask_8 6148914691236517205))))] 2)).bind fun p3 =>
 ((appL 2 16 (.slice p0.1 p0.2.1 p0.2.2) (.slice (some ⟨p3.1, 0, none⟩) 1 1) p3.2)).bind fun p4 =>
 ((stL p4.2 (Addr.add d_5 3) [(.slice p4.1.1 p4.1.2.1 p4.1.2.2)])).bind fun x5 =>
 c7_0 n m0 h0 more_1 more_1n more_1c c_2 d_5 t_18 t_18n t_18c t_19 (iAdd .i64 t_20 1) x5 := by kernel_rfl
def p8 : List (List Nat × List Nat) := []
 noncomputable def t8Y (N : NewF) (n : Nat)  (h : AH) : Option (Go.Value × AH) := yrun Tryd.prog (runS Tryd.prog n) n p8 N (resY Tryd.prog n) 8 [] h
theorem t8_ok {n : Nat} {h : AH} {r : Go.Value × AH} (hv : t8Y hNew n h = some r) : runS Tryd.prog (n + 1) 8 [] h = some r := yrun_ok hv
theorem t8 (N : NewF) (n : Nat)  (h : AH) : t8Y N n h =
 ((runS Tryd.prog n 18 [(.int .i64 4), (.int .u64 10)] (setLow h h.next))).bind fun p0 =>
 cond (aggIs 2 p0.1)
 (((gI .u64 (aggC 0 p0.1))).bind fun n1 =>
 ((gI .u64 (aggC 1 p0.1))).bind fun n2 =>
 cond (iEq n1 5)
 (cond (iEq n2 10)
 (((runS Tryd.prog n 18 [(.int .i64 4), (.int .u64 10)] p0.2)).bind fun p3 =>
 cond (aggIs 2 p3.1)
 (((gI .u64 (aggC 0 p3.1))).bind fun n4 =>
 ((gI .u64 (aggC 1 p3.1))).bind fun n5 =>
 ((runS Tryd.prog n 19 [(.int .i64 4), (.agg #[(.int .u64 n4), (.int .u64 n5)])] p3.2)).bind fun p6 =>
 ((gB (some p6.1))).bind fun b7 =>
 some (exitR h p6.2 (.bool b7)))
 (none))
 (some (exitR h p0.2 (.bool false))))
 (some (exitR h p0.2 (.bool false))))
 (none) := by kernel_rfl
def p9 : List (List Nat × List Nat) := []
 noncomputable def t9Y (N : NewF) (n : Nat) (c_0a c_0b : Int) (c_0c : Option Addr) (c_0cn c_0cc : Nat) (c_0d : Option Addr) (c_0dn c_0dc : Nat) (c_0e : Int) (h : AH) : Option (Go.Value × AH) := yrun Tryd.prog (runS Tryd.prog n) n p9 N (resY Tryd.prog n) 9 [(.agg #[(.int .i64 c_0a), (.int .i64 c_0b), (.slice c_0c c_0cn c_0cc), (.slice c_0d c_0dn c_0dc), (.int .u64 c_0e)])] h
theorem t9_ok {n : Nat} {c_0a c_0b : Int} {c_0c : Option Addr} {c_0cn c_0cc : Nat} {c_0d : Option Addr} {c_0dn c_0dc : Nat} {c_0e : Int} {h : AH} {r : Go.Value × AH} (hv : t9Y hNew n c_0a c_0b c_0c c_0cn c_0cc c_0d c_0dn c_0dc c_0e h = some r) : runS Tryd.prog (n + 1) 9 [(.agg #[(.int .i64 c_0a), (.int .i64 c_0b), (.slice c_0c c_0cn c_0cc), (.slice c_0d c_0dn c_0dc), (.int .u64 c_0e)])] h = some r := yrun_ok hv
theorem t9 (N : NewF) (n : Nat) (c_0a c_0b : Int) (c_0c : Option Addr) (c_0cn c_0cc : Nat) (c_0d : Option Addr) (c_0dn c_0dc : Nat) (c_0e : Int) (h : AH) : t9Y N n c_0a c_0b c_0c c_0cn c_0cc c_0d c_0dn c_0dc c_0e h =
 ((N (setLow h h.next) [(.int .i64 c_0a), (.int .i64 c_0b), (.slice c_0c c_0cn c_0cc), (.slice c_0d c_0dn c_0dc), (.int .u64 c_0e)] 0)).bind fun p0 =>
 ((gL (rdC p0.2 (Addr.add ⟨p0.1, 0, none⟩ 2) 0))).bind fun p1 =>
 cond (iLe (Int.ofNat p1.2.1) 8)
 (((gL (rdC p0.2 (Addr.add ⟨p0.1, 0, none⟩ 3) 0))).bind fun p2 =>
 some (exitR h p0.2 (.bool (iLe (Int.ofNat p2.2.1) 8))))
 (some (exitR h p0.2 (.bool false))) := by kernel_rfl
end Go.Proofs.YtiadfnedbbkojaaDoor.Kb
