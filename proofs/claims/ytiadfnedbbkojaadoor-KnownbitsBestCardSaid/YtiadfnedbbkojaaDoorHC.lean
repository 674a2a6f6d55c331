/- Joined texts: HC. -/
import Derived.KernelRfl
import Derived.Test.YtiadfnedbbkojaaDoorYA
import Derived.Test.YtiadfnedbbkojaaDoorProg
namespace Go.Proofs.YtiadfnedbbkojaaDoor.Kb
open Go Go.Proofs Go.Proofs.YtiadfnedbbkojaaDoor Go.Proofs.YtiadfnedbbkojaaDoor.X
set_option maxRecDepth 100000
set_option linter.unusedVariables false
def p3 : List (List Nat × List Nat) := []
 noncomputable def t3Y (N : NewF) (n : Nat) (c_0a c_0b : Int) (c_0c : Option Addr) (c_0cn c_0cc : Nat) (c_0d : Option Addr) (c_0dn c_0dc : Nat) (c_0e : Int) (h : AH) : Option (Go.Value × AH) := yrun Tryd.prog (runS Tryd.prog n) n p3 N (resY Tryd.prog n) 3 [(.agg #[(.int .i64 c_0a), (.int .i64 c_0b), (.slice c_0c c_0cn c_0cc), (.slice c_0d c_0dn c_0dc), (.int .u64 c_0e)])] h
theorem t3 (N : NewF) (n : Nat) (c_0a c_0b : Int) (c_0c : Option Addr) (c_0cn c_0cc : Nat) (c_0d : Option Addr) (c_0dn c_0dc : Nat) (c_0e : Int) (h : AH) : t3Y N n c_0a c_0b c_0c c_0cn c_0cc c_0d c_0dn c_0dc c_0e h =
 ((N (setLow h h.next) [(.int .i64 c_0a), (.int .i64 c_0b), (.slice c_0c c_0cn c_0cc), (.slice c_0d c_0dn c_0dc), (.int .u64 c_0e)] 0)).bind fun p0 =>
 ((runS Tryd.prog n 8 [] p0.2)).bind fun p1 =>
 ((gB (some p1.1))).bind fun b2 =>
 cond (Bool.not b2)
 (some (exitR h p1.2 (.bool false)))
 (((gI .i64 (rdC p1.2 ⟨p0.1, 0, none⟩ 0))).bind fun n3 =>
 ((gI .i64 (rdC p1.2 ⟨p0.1, 0, none⟩ 1))).bind fun n4 =>
 ((gL (rdC p1.2 ⟨p0.1, 0, none⟩ 2))).bind fun p5 =>
 ((gL (rdC p1.2 ⟨p0.1, 0, none⟩ 3))).bind fun p6 =>
 ((gI .u64 (rdC p1.2 ⟨p0.1, 0, none⟩ 4))).bind fun n7 =>
 ((runS Tryd.prog n 9 [(.agg #[(.int .i64 n3), (.int .i64 n4), (.slice p5.1 p5.2.1 p5.2.2), (.slice p6.1 p6.2.1 p6.2.2), (.int .u64 n7)])] p1.2)).bind fun p8 =>
 ((gB (some p8.1))).bind fun b9 =>
 cond (Bool.not b9)
 (some (exitR h p8.2 (.bool true)))
 (((gI .i64 (rdC p8.2 (Addr.add ⟨p0.1, 0, none⟩ 0) 0))).bind fun n10 =>
 ((gI .i64 (rdC p8.2 (Addr.add ⟨p0.1, 0, none⟩ 1) 0))).bind fun n11 =>
 ((gL (rdC p8.2 (Addr.add ⟨p0.1, 0, none⟩ 2) 0))).bind fun p12 =>
 ((gL (rdC p8.2 (Addr.add ⟨p0.1, 0, none⟩ 3) 0))).bind fun p13 =>
 ((gI .u64 (rdC p8.2 (Addr.add ⟨p0.1, 0, none⟩ 4) 0))).bind fun n14 =>
 ((runS Tryd.prog n 10 [(.int .i64 n10), (.int .i64 n11), (.slice p12.1 p12.2.1 p12.2.2), (.slice p13.1 p13.2.1 p13.2.2), (.int .u64 n14)] (setLow p8.2 p8.2.next))).bind fun p15 =>
 cond (aggIs 2 p15.1)
 (((gI .u64 (aggC 0 p15.1))).bind fun n16 =>
 ((gI .u64 (aggC 1 p15.1))).bind fun n17 =>
 cond (Nat.beq p15.2.low p8.2.next)
 (((gI .i64 (rdC (setLow p15.2 p8.2.low) (Addr.add ⟨p0.1, 0, none⟩ 0) 0))).bind fun n18 =>
 ((gI .i64 (rdC (setLow p15.2 p8.2.low) (Addr.add ⟨p0.1, 0, none⟩ 1) 0))).bind fun n19 =>
 ((gL (rdC (setLow p15.2 p8.2.low) (Addr.add ⟨p0.1, 0, none⟩ 2) 0))).bind fun p20 =>
 ((gL (rdC (setLow p15.2 p8.2.low) (Addr.add ⟨p0.1, 0, none⟩ 3) 0))).bind fun p21 =>
 ((gI .u64 (rdC (setLow p15.2 p8.2.low) (Addr.add ⟨p0.1, 0, none⟩ 4) 0))).bind fun n22 =>
 ((runS Tryd.prog n 11 [(.int .i64 n18), (.int .i64 n19), (.slice p20.1 p20.2.1 p20.2.2), (.slice p21.1 p21.2.1 p21.2.2), (.int .u64 n22)] (setLow p15.2 p8.2.low))).bind fun p23 =>
 cond (aggIs 2 p23.1)
 (((gI .u64 (aggC 0 p23.1))).bind fun n24 =>
 ((gI .u64 (aggC 1 p23.1))).bind fun n25 =>
 cond (iEq n16 n24)
 (cond (iEq n17 n25)
 (some (exitR h p23.2 (.bool true)))
 (some (exitR h p23.2 (.bool false))))
 (some (exitR h p23.2 (.bool false))))
 (none))
 (none))
 (none))) := by kernel_rfl
def p4 : List (List Nat × List Nat) := [([1, 1, 1], [1]), ([0, 1, 0, 1, 1, 1], [1, 33, 34, 35]), ([1, 1, 1, 1, 1], [1]), ([1, 1, 1, 1, 1, 1], [1]), ([0, 1, 0, 1, 1, 1, 1, 1, 1, 1, 1], [1, 7, 8, 100, 101]), ([0, 1, 0, 1, 1, 1, 1, 1, 1, 1, 1, 1], [1, 7, 8, 119, 120, 121]), ([0, 1, 1, 0, 0, 1, 1, 0, 0, 1, 0, 1, 1, 1, 1, 1, 1, 1, 1, 1], [1, 7, 8, 11, 119, 120, 121, 126, 127, 128]), ([0, 1, 1, 0, 0, 1, 1, 0, 0, 1, 1, 0, 0, 1, 1, 0, 0, 1, 0, 1, 1, 1, 1, 1, 1, 1, 1, 1], [1, 7, 8, 11, 13, 119, 120, 121, 126, 127, 128, 133, 134, 135])]
section
variable (N : NewF) (n : Nat) (h0 : AH) (c_1 : Addr) (h : AH)
 noncomputable def c4_0 : Option (Go.Value × AH) := resY Tryd.prog n Tryd.f4 h0 (.code (subC (bodyC Tryd.f4) [1, 1, 1]) [1, 1, 1]) [] (E [(1, .pointer (some c_1))]) h
 noncomputable def c4_0Y : Option (Go.Value × AH) := yfrom Tryd.prog (runS Tryd.prog n) n Tryd.f4 h0 p4 N (resY Tryd.prog n Tryd.f4 h0) (subC (bodyC Tryd.f4) [1, 1, 1]) [1, 1, 1] [] (E [(1, .pointer (some c_1))]) h
variable {n} {h0} {c_1} {h}
theorem c4_0_ok {r : Go.Value × AH} (hv : c4_0Y hNew n h0 c_1 h = some r) : c4_0 n h0 c_1 h = some r := yfrom_ok hv
end
section
variable (N : NewF) (n m0 : Nat) (h0 : AH) (c_1 : Addr) (t_33 : Option Addr) (t_33n t_33c : Nat) (t_34 t_35 : Int) (h : AH)
 noncomputable def c4_1 : Option (Go.Value × AH) := resY Tryd.prog n Tryd.f4 h0 (.head (subC (bodyC Tryd.f4) [1, 1, 1, 0, 1, 0, 0]) [0, 1, 0, 1, 1, 1] m0) [.block 0, .seq (subC (bodyC Tryd.f4) [1, 1, 1, 1]) [1, 1, 1, 1]] (E [(1, .pointer (some c_1)), (33, .slice t_33 t_33n t_33c), (34, .int .i64 t_34), (35, .int .i64 t_35)]) h
 noncomputable def c4_1Y : Option (Go.Value × AH) := yhead Tryd.prog (runS Tryd.prog n) n Tryd.f4 h0 p4 N (resY Tryd.prog n Tryd.f4 h0) (subC (bodyC Tryd.f4) [1, 1, 1, 0, 1, 0, 0]) [0, 1, 0, 1, 1, 1] m0 [.block 0, .seq (subC (bodyC Tryd.f4) [1, 1, 1, 1]) [1, 1, 1, 1]] (E [(1, .pointer (some c_1)), (33, .slice t_33 t_33n t_33c), (34, .int .i64 t_34), (35, .int .i64 t_35)]) h
variable {n m0} {h0} {c_1 t_33 t_33n t_33c t_34 t_35} {h}
theorem c4_1_ok {r : Go.Value × AH} (hv : c4_1Y hNew n m0 h0 c_1 t_33 t_33n t_33c t_34 t_35 h = some r) : c4_1 n (m0 + 1) h0 c_1 t_33 t_33n t_33c t_34 t_35 h = some r := yhead_ok hv
end
section
variable (N : NewF) (n : Nat) (h0 : AH) (c_1 : Addr) (h : AH)
 noncomputable def c4_2 : Option (Go.Value × AH) := resY Tryd.prog n Tryd.f4 h0 (.code (subC (bodyC Tryd.f4) [1, 1, 1, 1, 1]) [1, 1, 1, 1, 1]) [] (E [(1, .pointer (some c_1))]) h
 noncomputable def c4_2Y : Option (Go.Value × AH) := yfrom Tryd.prog (runS Tryd.prog n) n Tryd.f4 h0 p4 N (resY Tryd.prog n Tryd.f4 h0) (subC (bodyC Tryd.f4) [1, 1, 1, 1, 1]) [1, 1, 1, 1, 1] [] (E [(1, .pointer (some c_1))]) h
variable {n} {h0} {c_1} {h}
theorem c4_2_ok {r : Go.Value × AH} (hv : c4_2Y hNew n h0 c_1 h = some r) : c4_2 n h0 c_1 h = some r := yfrom_ok hv
end
section
variable (N : NewF) (n : Nat) (h0 : AH) (c_1 : Addr) (h : AH)
 noncomputable def c4_3 : Option (Go.Value × AH) := resY Tryd.prog n Tryd.f4 h0 (.code (subC (bodyC Tryd.f4) [1, 1, 1, 1, 1, 1]) [1, 1, 1, 1, 1, 1]) [] (E [(1, .pointer (some c_1))]) h
 noncomputable def c4_3Y : Option (Go.Value × AH) := yfrom Tryd.prog (runS Tryd.prog n) n Tryd.f4 h0 p4 N (resY Tryd.prog n Tryd.f4 h0) (subC (bodyC Tryd.f4) [1, 1, 1, 1, 1, 1]) [1, 1, 1, 1, 1, 1] [] (E [(1, .pointer (some c_1))]) h
variable {n} {h0} {c_1} {h}
theorem c4_3_ok {r : Go.Value × AH} (hv : c4_3Y hNew n h0 c_1 h = some r) : c4_3 n h0 c_1 h = some r := yfrom_ok hv
end
section
variable (N : NewF) (n m0 : Nat) (h0 : AH) (c_1 best_7 lists_8 : Addr) (t_100 t_101 : Int) (h : AH)
 noncomputable def c4_4 : Option (Go.Value × AH) := resY Tryd.prog n Tryd.f4 h0 (.head (subC (bodyC Tryd.f4) [1, 1, 1, 1, 1, 1, 1, 1, 0, 1, 0, 0]) [0, 1, 0, 1, 1, 1, 1, 1, 1, 1, 1] m0) [.block 2, .seq (subC (bodyC Tryd.f4) [1, 1, 1, 1, 1, 1, 1, 1, 1]) [1, 1, 1, 1, 1, 1, 1, 1, 1]] (E [(1, .pointer (some c_1)), (7, .pointer (some best_7)), (8, .pointer (some lists_8)), (100, .int .i64 t_100), (101, .int .i64 t_101)]) h
 noncomputable def c4_4Y : Option (Go.Value × AH) := yhead Tryd.prog (runS Tryd.prog n) n Tryd.f4 h0 p4 N (resY Tryd.prog n Tryd.f4 h0) (subC (bodyC Tryd.f4) [1, 1, 1, 1, 1, 1, 1, 1, 0, 1, 0, 0]) [0, 1, 0, 1, 1, 1, 1, 1, 1, 1, 1] m0 [.block 2, .seq (subC (bodyC Tryd.f4) [1, 1, 1, 1, 1, 1, 1, 1, 1]) [1, 1, 1, 1, 1, 1, 1, 1, 1]] (E [(1, .pointer (some c_1)), (7, .pointer (some best_7)), (8, .pointer (some lists_8)), (100, .int .i64 t_100), (101, .int .i64 t_101)]) h
variable {n m0} {h0} {c_1 best_7 lists_8 t_100 t_101} {h}
theorem c4_4_ok {r : Go.Value × AH} (hv : c4_4Y hNew n m0 h0 c_1 best_7 lists_8 t_100 t_101 h = some r) : c4_4 n (m0 + 1) h0 c_1 best_7 lists_8 t_100 t_101 h = some r := yhead_ok hv
end
section
variable (N : NewF) (n m0 : Nat) (h0 : AH) (c_1 best_7 lists_8 : Addr) (t_119 : Option Addr) (t_119n t_119c : Nat) (t_120 t_121 : Int) (h : AH)
 noncomputable def c4_5 : Option (Go.Value × AH) := resY Tryd.prog n Tryd.f4 h0 (.head (subC (bodyC Tryd.f4) [1, 1, 1, 1, 1, 1, 1, 1, 1, 0, 1, 0, 0]) [0, 1, 0, 1, 1, 1, 1, 1, 1, 1, 1, 1] m0) [.block 4, .seq (subC (bodyC Tryd.f4) [1, 1, 1, 1, 1, 1, 1, 1, 1, 1]) [1, 1, 1, 1, 1, 1, 1, 1, 1, 1]] (E [(1, .pointer (some c_1)), (7, .pointer (some best_7)), (8, .pointer (some lists_8)), (119, .slice t_119 t_119n t_119c), (120, .int .i64 t_120), (121, .int .i64 t_121)]) h
 noncomputable def c4_5Y : Option (Go.Value × AH) := yhead Tryd.prog (runS Tryd.prog n) n Tryd.f4 h0 p4 N (resY Tryd.prog n Tryd.f4 h0) (subC (bodyC Tryd.f4) [1, 1, 1, 1, 1, 1, 1, 1, 1, 0, 1, 0, 0]) [0, 1, 0, 1, 1, 1, 1, 1, 1, 1, 1, 1] m0 [.block 4, .seq (subC (bodyC Tryd.f4) [1, 1, 1, 1, 1, 1, 1, 1, 1, 1]) [1, 1, 1, 1, 1, 1, 1, 1, 1, 1]] (E [(1, .pointer (some c_1)), (7, .pointer (some best_7)), (8, .pointer (some lists_8)), (119, .slice t_119 t_119n t_119c), (120, .int .i64 t_120), (121, .int .i64 t_121)]) h
variable {n m0} {h0} {c_1 best_7 lists_8 t_119 t_119n t_119c t_120 t_121} {h}
theorem c4_5_ok {r : Go.Value × AH} (hv : c4_5Y hNew n m0 h0 c_1 best_7 lists_8 t_119 t_119n t_119c t_120 t_121 h = some r) : c4_5 n (m0 + 1) h0 c_1 best_7 lists_8 t_119 t_119n t_119c t_120 t_121 h = some r := yhead_ok hv
end
section
variable (N : NewF) (n m0 m1 : Nat) (h0 : AH) (c_1 best_7 lists_8 : Addr) (x_11 : Int) (t_119 : Option Addr) (t_119n t_119c : Nat) (t_120 t_121 : Int) (t_126 : Option Addr) (t_126n t_126c : Nat) (t_127 t_128 : Int) (h : AH)
 noncomputable def c4_6 : Option (Go.Value × AH) := resY Tryd.prog n Tryd.f4 h0 (.head (subC (bodyC Tryd.f4) [1, 1, 1, 1, 1, 1, 1, 1, 1, 0, 1, 0, 0, 1, 1, 0, 0, 1, 1, 0, 0]) [0, 1, 1, 0, 0, 1, 1, 0, 0, 1, 0, 1, 1, 1, 1, 1, 1, 1, 1, 1] m0) [.block 6, .block 5, .seq (subC (bodyC Tryd.f4) [1, 1, 1, 1, 1, 1, 1, 1, 1, 0, 1, 0, 0, 1, 1, 1]) [1, 1, 1, 0, 0, 1, 0, 1, 1, 1, 1, 1, 1, 1, 1, 1], .loop (subC (bodyC Tryd.f4) [1, 1, 1, 1, 1, 1, 1, 1, 1, 0, 1, 0, 0]) [0, 1, 0, 1, 1, 1, 1, 1, 1, 1, 1, 1] m1, .block 4, .seq (subC (bodyC Tryd.f4) [1, 1, 1, 1, 1, 1, 1, 1, 1, 1]) [1, 1, 1, 1, 1, 1, 1, 1, 1, 1]] (E [(1, .pointer (some c_1)), (7, .pointer (some best_7)), (8, .pointer (some lists_8)), (11, .int .u64 x_11), (119, .slice t_119 t_119n t_119c), (120, .int .i64 t_120), (121, .int .i64 t_121), (126, .slice t_126 t_126n t_126c), (127, .int .i64 t_127), (128, .int .i64 t_128)]) h
 noncomputable def c4_6Y : Option (Go.Value × AH) := yhead Tryd.prog (runS Tryd.prog n) n Tryd.f4 h0 p4 N (resY Tryd.prog n Tryd.f4 h0) (subC (bodyC Tryd.f4) [1, 1, 1, 1, 1, 1, 1, 1, 1, 0, 1, 0, 0, 1, 1, 0, 0, 1, 1, 0, 0]) [0, 1, 1, 0, 0, 1, 1, 0, 0, 1, 0, 1, 1, 1, 1, 1, 1, 1, 1, 1] m0 [.block 6, .block 5, .seq (subC (bodyC Tryd.f4) [1, 1, 1, 1, 1, 1, 1, 1, 1, 0, 1, 0, 0, 1, 1, 1]) [1, 1, 1, 0, 0, 1, 0, 1, 1, 1, 1, 1, 1, 1, 1, 1], .loop (subC (bodyC Tryd.f4) [1, 1, 1, 1, 1, 1, 1, 1, 1, 0, 1, 0, 0]) [0, 1, 0, 1, 1, 1, 1, 1, 1, 1, 1, 1] m1, .block 4, .seq (subC (bodyC Tryd.f4) [1, 1, 1, 1, 1, 1, 1, 1, 1, 1]) [1, 1, 1, 1, 1, 1, 1, 1, 1, 1]] (E [(1, .pointer (some c_1)), (7, .pointer (some best_7)), (8, .pointer (some lists_8)), (11, .int .u64 x_11), (119, .slice t_119 t_119n t_119c), (120, .int .i64 t_120), (121, .int .i64 t_121), (126, .slice t_126 t_126n t_126c), (127, .int .i64 t_127), (128, .int .i64 t_128)]) h
variable {n m0 m1} {h0} {c_1 best_7 lists_8 x_11 t_119 t_119n t_119c t_120 t_121 t_126 t_126n t_126c t_127 t_128} {h}
theorem c4_6_ok {r : Go.Value × AH} (hv : c4_6Y hNew n m0 m1 h0 c_1 best_7 lists_8 x_11 t_119 t_119n t_119c t_120 t_121 t_126 t_126n t_126c t_127 t_128 h = some r) : c4_6 n (m0 + 1) m1 h0 c_1 best_7 lists_8 x_11 t_119 t_119n t_119c t_120 t_121 t_126 t_126n t_126c t_127 t_128 h = some r := yhead_ok hv
end
section
variable (N : NewF) (n m0 m1 m2 : Nat) (h0 : AH) (c_1 best_7 lists_8 : Addr) (x_11 y_13 : Int) (t_119 : Option Addr) (t_119n t_119c : Nat) (t_120 t_121 : Int) (t_126 : Option Addr) (t_126n t_126c : Nat) (t_127 t_128 : Int) (t_133 : Option Addr) (t_133n t_133c : Nat) (t_134 t_135 : Int) (h : AH)
 noncomputable def c4_7 : Option (Go.Value × AH) := resY Tryd.prog n Tryd.f4 h0 (.head (subC (bodyC Tryd.f4) [1, 1, 1, 1, 1, 1, 1, 1, 1, 0, 1, 0, 0, 1, 1, 0, 0, 1, 1, 0, 0, 1, 1, 0, 0, 1, 1, 0, 0]) [0, 1, 1, 0, 0, 1, 1, 0, 0, 1, 1, 0, 0, 1, 1, 0, 0, 1, 0, 1, 1, 1, 1, 1, 1, 1, 1, 1] m0) [.block 8, .block 7, .seq (subC (bodyC Tryd.f4) [1, 1, 1, 1, 1, 1, 1, 1, 1, 0, 1, 0, 0, 1, 1, 0, 0, 1, 1, 0, 0, 1, 1, 1]) [1, 1, 1, 0, 0, 1, 1, 0, 0, 1, 1, 0, 0, 1, 0, 1, 1, 1, 1, 1, 1, 1, 1, 1], .loop (subC (bodyC Tryd.f4) [1, 1, 1, 1, 1, 1, 1, 1, 1, 0, 1, 0, 0, 1, 1, 0, 0, 1, 1, 0, 0]) [0, 1, 1, 0, 0, 1, 1, 0, 0, 1, 0, 1, 1, 1, 1, 1, 1, 1, 1, 1] m1, .block 6, .block 5, .seq (subC (bodyC Tryd.f4) [1, 1, 1, 1, 1, 1, 1, 1, 1, 0, 1, 0, 0, 1, 1, 1]) [1, 1, 1, 0, 0, 1, 0, 1, 1, 1, 1, 1, 1, 1, 1, 1], .loop (subC (bodyC Tryd.f4) [1, 1, 1, 1, 1, 1, 1, 1, 1, 0, 1, 0, 0]) [0, 1, 0, 1, 1, 1, 1, 1, 1, 1, 1, 1] m2, .block 4, .seq (subC (bodyC Tryd.f4) [1, 1, 1, 1, 1, 1, 1, 1, 1, 1]) [1, 1, 1, 1, 1, 1, 1, 1, 1, 1]] (E [(1, .pointer (some c_1)), (7, .pointer (some best_7)), (8, .pointer (some lists_8)), (11, .int .u64 x_11), (13, .int .u64 y_13), (119, .slice t_119 t_119n t_119c), (120, .int .i64 t_120), (121, .int .i64 t_121), (126, .slice t_126 t_126n t_126c), (127, .int .i64 t_127), (128, .int .i64 t_128), (133, .slice t_133 t_133n t_133c), (134, .int .i64 t_134), (135, .int .i64 t_135)]) h
 noncomputable def c4_7Y : Option (Go.Value × AH) := yhead Tryd.prog (runS Tryd.prog n) n Tryd.f4 h0 p4 N (resY Tryd.prog n Tryd.f4 h0) (subC (bodyC Tryd.f4) [1, 1, 1, 1, 1, 1, 1, 1, 1, 0, 1, 0, 0, 1, 1, 0, 0, 1, 1, 0, 0, 1, 1, 0, 0, 1, 1, 0, 0]) [0, 1, 1, 0, 0, 1, 1, 0, 0, 1, 1, 0, 0, 1, 1, 0, 0, 1, 0, 1, 1, 1, 1, 1, 1, 1, 1, 1] m0 [.block 8, .block 7, .seq (subC (bodyC Tryd.f4) [1, 1, 1, 1, 1, 1, 1, 1, 1, 0, 1, 0, 0, 1, 1, 0, 0, 1, 1, 0, 0, 1, 1, 1]) [1, 1, 1, 0, 0, 1, 1, 0, 0, 1, 1, 0, 0, 1, 0, 1, 1, 1, 1, 1, 1, 1, 1, 1], .loop (subC (bodyC Tryd.f4) [1, 1, 1, 1, 1, 1, 1, 1, 1, 0, 1, 0, 0, 1, 1, 0, 0, 1, 1, 0, 0]) [0, 1, 1, 0, 0, 1, 1, 0, 0, 1, 0, 1, 1, 1, 1, 1, 1, 1, 1, 1] m1, .block 6, .block 5, .seq (subC (bodyC Tryd.f4) [1, 1, 1, 1, 1, 1, 1, 1, 1, 0, 1, 0, 0, 1, 1, 1]) [1, 1, 1, 0, 0, 1, 0, 1, 1, 1, 1, 1, 1, 1, 1, 1], .loop (subC (bodyC Tryd.f4) [1, 1, 1, 1, 1, 1, 1, 1, 1, 0, 1, 0, 0]) [0, 1, 0, 1, 1, 1, 1, 1, 1, 1, 1, 1] m2, .block 4, .seq (subC (bodyC Tryd.f4) [1, 1, 1, 1, 1, 1, 1, 1, 1, 1]) [1, 1, 1, 1, 1, 1, 1, 1, 1, 1]] (E [(1, .pointer (some c_1)), (7, .pointer (some best_7)), (8, .pointer (some lists_8)), (11, .int .u64 x_11), (13, .int .u64 y_13), (119, .slice t_119 t_119n t_119c), (120, .int .i64 t_120), (121, .int .i64 t_121), (126, .slice t_126 t_126n t_126c), (127, .int .i64 t_127), (128, .int .i64 t_128), (133, .slice t_133 t_133n t_133c), (134, .int .i64 t_134), (135, .int .i64 t_135)]) h
variable {n m0 m1 m2} {h0} {c_1 best_7 lists_8 x_11 y_13 t_119 t_119n t_119c t_120 t_121 t_126 t_126n t_126c t_127 t_128 t_133 t_133n t_133c t_134 t_135} {h}
theorem c4_7_ok {r : Go.Value × AH} (hv : c4_7Y hNew n m0 m1 m2 h0 c_1 best_7 lists_8 x_11 y_13 t_119 t_119n t_119c t_120 t_121 t_126 t_126n t_126c t_127 t_128 t_133 t_133n t_133c t_134 t_135 h = some r) : c4_7 n (m0 + 1) m1 m2 h0 c_1 best_7 lists_8 x_11 y_13 t_119 t_119n t_119c t_120 t_121 t_126 t_126n t_126c t_127 t_128 t_133 t_133n t_133c t_134 t_135 h = some r := yhead_ok hv
end
 noncomputable def t4Y (N : NewF) (n : Nat) (c_0a c_0b : Int) (c_0c : Option Addr) (c_0cn c_0cc : Nat) (c_0d : Option Addr) (c_0dn c_0dc : Nat) (c_0e : Int) (h : AH) : Option (Go.Value × AH) := yrun Tryd.prog (runS Tryd.prog n) n p4 N (resY Tryd.prog n) 4 [(.agg #[(.int .i64 c_0a), (.int .i64 c_0b), (.slice c_0c c_0cn c_0cc), (.slice c_0d c_0dn c_0dc), (.int .u64 c_0e)])] h
theorem t4_ok {n : Nat} {c_0a c_0b : Int} {c_0c : Option Addr} {c_0cn c_0cc : Nat} {c_0d : Option Addr} {c_0dn c_0dc : Nat} {c_0e : Int} {h : AH} {r : Go.Value × AH} (hv : t4Y hNew n c_0a c_0b c_0c c_0cn c_0cc c_0d c_0dn c_0dc c_0e h = some r) : runS Tryd.prog (n + 1) 4 [(.agg #[(.int .i64 c_0a), (.int .i64 c_0b), (.slice c_0c c_0cn c_0cc), (.slice c_0d c_0dn c_0dc), (.int .u64 c_0e)])] h = some r := yrun_ok hv
theorem t4 (N : NewF) (n : Nat) (c_0a c_0b : Int) (c_0c : Option Addr) (c_0cn c_0cc : Nat) (c_0d : Option Addr) (c_0dn c_0dc : Nat) (c_0e : Int) (h : AH) : t4Y N n c_0a c_0b c_0c c_0cn c_0cc c_0d c_0dn c_0dc c_0e h =
 ((N (setLow h h.next) [(.int .i64 c_0a), (.int .i64 c_0b), (.slice c_0c c_0cn c_0cc), (.slice c_0d c_0dn c_0dc), (.int .u64 c_0e)] 0)).bind fun p0 =>
 ((runS Tryd.prog n 8 [] p0.2)).bind fun p1 =>
 ((gB (some p1.1))).bind fun b2 =>
 cond (Bool.not b2)
 (some (exitR h p1.2 (.bool false)))
 (((gI .i64 (rdC p1.2 ⟨p0.1, 0, none⟩ 0))).bind fun n3 =>
 ((gI .i64 (rdC p1.2 ⟨p0.1, 0, none⟩ 1))).bind fun n4 =>
 ((gL (rdC p1.2 ⟨p0.1, 0, none⟩ 2))).bind fun p5 =>
 ((gL (rdC p1.2 ⟨p0.1, 0, none⟩ 3))).bind fun p6 =>
 ((gI .u64 (rdC p1.2 ⟨p0.1, 0, none⟩ 4))).bind fun n7 =>
 ((runS Tryd.prog n 12 [(.agg #[(.int .i64 n3), (.int .i64 n4), (.slice p5.1 p5.2.1 p5.2.2), (.slice p6.1 p6.2.1 p6.2.2), (.int .u64 n7)])] p1.2)).bind fun p8 =>
 ((gB (some p8.1))).bind fun b9 =>
 cond (Bool.not b9)
 (some (exitR h p8.2 (.bool true)))
 (((gI .i64 (rdC p8.2 (Addr.add ⟨p0.1, 0, none⟩ 1) 0))).bind fun n10 =>
 cond (iLt 6 n10)
 (some (exitR h p8.2 (.bool true)))
 (((gI .i64 (rdC p8.2 (Addr.add ⟨p0.1, 0, none⟩ 0) 0))).bind fun n11 =>
 cond (iEq n11 1)
 (some (exitR h p8.2 (.bool true)))
 (c4_0 n h ⟨p0.1, 0, none⟩ p8.2)))) := by kernel_rfl
theorem c4_0_eq (N : NewF) (n  : Nat) (h0 : AH) (c_1 : Addr) (h : AH) : c4_0Y N n  h0 c_1 h =
 ((gL (rdC h (Addr.add c_1 2) 0))).bind fun p0 =>
 c4_1 n n h0 c_1 p0.1 p0.2.1 p0.2.2 (Int.ofNat p0.2.1) 0 h := by kernel_rfl
theorem c4_1_eq (N : NewF) (n m0 : Nat) (h0 : AH) (c_1 : Addr) (t_33 : Option Addr) (t_33n t_33c : Nat) (t_34 t_35 : Int) (h : AH) : c4_1Y N n m0 h0 c_1 t_33 t_33n t_33c t_34 t_35 h =
 cond (iLt t_35 t_34)
 ((t_33).bind fun a0 =>
 cond (inB t_35 t_33n)
 (((gI .i64 (rdC h (Addr.add a0 ((Int.toNat t_35) * 1)) 0))).bind fun n1 =>
 cond (iLt 4 n1)
 (some (exitR h0 h (.bool true)))
 (c4_1 n m0 h0 c_1 t_33 t_33n t_33c t_34 (iAdd .i64 t_35 1) h))
 (none))
 (((gI .i64 (rdC h (Addr.add c_1 0) 0))).bind fun n2 =>
 cond (iEq n2 4)
 (some (exitR h0 h (.bool true)))
 (((gI .i64 (rdC h (Addr.add c_1 0) 0))).bind fun n3 =>
 cond (iLe 5 n3)
 (((gI .i64 (rdC h (Addr.add c_1 0) 0))).bind fun n4 =>
 cond (iLe n4 8)
 (some (exitR h0 h (.bool true)))
 (c4_2 n h0 c_1 h))
 (c4_2 n h0 c_1 h))) := by kernel_rfl
theorem c4_2_eq (N : NewF) (n  : Nat) (h0 : AH) (c_1 : Addr) (h : AH) : c4_2Y N n  h0 c_1 h =
 ((gL (rdC h (Addr.add c_1 2) 0))).bind fun p0 =>
 ((gL (rdC h (Addr.add c_1 2) 0))).bind fun p1 =>
 (p0.1).bind fun a2 =>
 cond (inB (iSub .i64 (Int.ofNat p1.2.1) 1) p0.2.1)
 (((gI .i64 (rdC h (Addr.add a2 ((Int.toNat (iSub .i64 (Int.ofNat p1.2.1) 1)) * 1)) 0))).bind fun n3 =>
 ((gL (rdC h (Addr.add c_1 3) 0))).bind fun p4 =>
 ((gL (rdC h (Addr.add c_1 3) 0))).bind fun p5 =>
 (p4.1).bind fun a6 =>
 cond (inB (iSub .i64 (Int.ofNat p5.2.1) 1) p4.2.1)
 (((gI .u64 (rdC h (Addr.add a6 ((Int.toNat (iSub .i64 (Int.ofNat p5.2.1) 1)) * 2)) 0))).bind fun n7 =>
 ((gI .u64 (rdC h (Addr.add a6 ((Int.toNat (iSub .i64 (Int.ofNat p5.2.1) 1)) * 2)) 1))).bind fun n8 =>
 ((runS Tryd.prog n 13 [(.int .i64 n3), (.agg #[(.int .u64 n7), (.int .u64 n8)])] (setLow h h.next))).bind fun p9 =>
 cond (tupIs 2 p9.1)
 (((gI .u64 (tupC 0 p9.1))).bind fun n10 =>
 ((gB (tupC 1 p9.1))).bind fun b11 =>
 cond (Nat.beq p9.2.low h.next)
 (cond (Bool.not b11)
 (((gI .i64 (rdC (setLow p9.2 h.low) (Addr.add c_1 0) 0))).bind fun n12 =>
 cond (iLe 12 n12)
 (((gI .i64 (rdC (setLow p9.2 h.low) (Addr.add c_1 0) 0))).bind fun n13 =>
 cond (iLe n13 14)
 (some (exitR h0 (setLow p9.2 h.low) (.bool true)))
 (c4_3 n h0 c_1 (setLow p9.2 h.low)))
 (c4_3 n h0 c_1 (setLow p9.2 h.low)))
 (c4_3 n h0 c_1 (setLow p9.2 h.low)))
 (none))
 (none))
 (none))
 (none) := by kernel_rfl
theorem c4_3_eq (N : NewF) (n  : Nat) (h0 : AH) (c_1 : Addr) (h : AH) : c4_3Y N n  h0 c_1 h =
 ((gI .i64 (rdC h (Addr.add c_1 1) 0))).bind fun n0 =>
 ((runS Tryd.prog n 14 [(.int .i64 n0)] (setLow h h.next))).bind fun p1 =>
 ((gI .u64 (some p1.1))).bind fun n2 =>
 cond (Nat.beq p1.2.low h.next)
 (((gI .i64 (rdC (setLow p1.2 h.low) (Addr.add c_1 1) 0))).bind fun n3 =>
 ((runS Tryd.prog n 14 [(.int .i64 n3)] (setLow (setLow p1.2 h.low) (setLow p1.2 h.low).next))).bind fun p4 =>
 ((gI .u64 (some p4.1))).bind fun n5 =>
 cond (Nat.beq p4.2.low (setLow p1.2 h.low).next)
 (((N (setLow p4.2 (setLow p1.2 h.low).low) [(.int .u64 0), (.int .u64 0)] 0)).bind fun p6 =>
 ((stL p6.2 ⟨p6.1, 0, none⟩ [(.int .u64 n2), (.int .u64 n5)])).bind fun x7 =>
 ((N x7 [(.int .u64 0)] 1)).bind fun p8 =>
 ((N p8.2 [(.int .u64 0)] 1)).bind fun p9 =>
 ((N p9.2 [(.int .u64 0)] 1)).bind fun p10 =>
 ((N p10.2 [(.slice none 0 0), (.slice none 0 0), (.slice none 0 0)] 0)).bind fun p11 =>
 ((stL p11.2 ⟨p11.1, 0, none⟩ [(.slice (some ⟨p8.1, 0, none⟩) 1 1), (.slice (some ⟨p9.1, 0, none⟩) 1 1), (.slice (some ⟨p10.1, 0, none⟩) 1 1)])).bind fun x12 =>
 ((gL (rdC x12 (Addr.add c_1 3) 0))).bind fun p13 =>
 c4_4 n n h0 c_1 ⟨p6.1, 0, none⟩ ⟨p11.1, 0, none⟩ (Int.ofNat p13.2.1) 0 x12)
 (none))
 (none) := by kernel_rfl
theorem c4_4_eq (N : NewF) (n m0 : Nat) (h0 : AH) (c_1 best_7 lists_8 : Addr) (t_100 t_101 : Int) (h : AH) : c4_4Y N n m0 h0 c_1 best_7 lists_8 t_100 t_101 h =
 cond (iLt t_101 t_100)
 (((gL (rdC h (Addr.add c_1 2) 0))).bind fun p0 =>
 (p0.1).bind fun a1 =>
 cond (inB t_101 p0.2.1)
 (((gI .i64 (rdC h (Addr.add a1 ((Int.toNat t_101) * 1)) 0))).bind fun n2 =>
 ((gL (rdC h (Addr.add c_1 3) 0))).bind fun p3 =>
 (p3.1).bind fun a4 =>
 cond (inB t_101 p3.2.1)
 (((gI .u64 (rdC h (Addr.add a4 ((Int.toNat t_101) * 2)) 0))).bind fun n5 =>
 ((gI .u64 (rdC h (Addr.add a4 ((Int.toNat t_101) * 2)) 1))).bind fun n6 =>
 ((runS Tryd.prog n 15 [(.int .i64 n2), (.agg #[(.int .u64 n5), (.int .u64 n6)])] (setLow h h.next))).bind fun p7 =>
 ((gL (some p7.1))).bind fun p8 =>
 cond (Nat.beq p7.2.low h.next)
 (cond (inB t_101 3)
 (((stL (setLow p7.2 h.low) (Addr.add lists_8 ((Int.toNat t_101) * 1)) [(.slice p8.1 p8.2.1 p8.2.2)])).bind fun x9 =>
 c4_4 n m0 h0 c_1 best_7 lists_8 t_100 (iAdd .i64 t_101 1) x9)
 (none))
 (none))
 (none))
 (none))
 (((gL (rdC h (Addr.add lists_8 0) 0))).bind fun p10 =>
 c4_5 n n h0 c_1 best_7 lists_8 p10.1 p10.2.1 p10.2.2 (Int.ofNat p10.2.1) 0 h) := by kernel_rfl
theorem c4_5_eq (N : NewF) (n m0 : Nat) (h0 : AH) (c_1 best_7 lists_8 : Addr) (t_119 : Option Addr) (t_119n t_119c : Nat) (t_120 t_121 : Int) (h : AH) : c4_5Y N n m0 h0 c_1 best_7 lists_8 t_119 t_119n t_119c t_120 t_121 h =
 cond (iLt t_121 t_120)
 ((t_119).bind fun a0 =>
 cond (inB t_121 t_119n)
 (((gI .u64 (rdC h (Addr.add a0 ((Int.toNat t_121) * 1)) 0))).bind fun n1 =>
 ((gL (rdC h (Addr.add lists_8 1) 0))).bind fun p2 =>
 c4_6 n n m0 h0 c_1 best_7 lists_8 n1 t_119 t_119n t_119c t_120 t_121 p2.1 p2.2.1 p2.2.2 (Int.ofNat p2.2.1) 0 h)
 (none))
 (((gI .i64 (rdC h (Addr.add c_1 0) 0))).bind fun n3 =>
 ((gI .i64 (rdC h (Addr.add c_1 1) 0))).bind fun n4 =>
 ((gL (rdC h (Addr.add c_1 2) 0))).bind fun p5 =>
 ((gL (rdC h (Addr.add c_1 3) 0))).bind fun p6 =>
 ((gI .u64 (rdC h (Addr.add c_1 4) 0))).bind fun n7 =>
 ((runS Tryd.prog n 10 [(.int .i64 n3), (.int .i64 n4), (.slice p5.1 p5.2.1 p5.2.2), (.slice p6.1 p6.2.1 p6.2.2), (.int .u64 n7)] (setLow h h.next))).bind fun p8 =>
 cond (aggIs 2 p8.1)
 (((gI .u64 (aggC 0 p8.1))).bind fun n9 =>
 ((gI .u64 (aggC 1 p8.1))).bind fun n10 =>
 cond (Nat.beq p8.2.low h.next)
 (((gI .u64 (rdC (setLow p8.2 h.low) best_7 0))).bind fun n11 =>
 ((gI .u64 (rdC (setLow p8.2 h.low) best_7 1))).bind fun n12 =>
 cond (iEq n9 n11)
 (cond (iEq n10 n12)
 (some (exitR h0 (setLow p8.2 h.low) (.bool true)))
 (some (exitR h0 (setLow p8.2 h.low) (.bool false))))
 (some (exitR h0 (setLow p8.2 h.low) (.bool false))))
 (none))
 (none)) := by kernel_rfl
theorem c4_6_eq (N : NewF) (n m0 m1 : Nat) (h0 : AH) (c_1 best_7 lists_8 : Addr) (x_11 : Int) (t_119 : Option Addr) (t_119n t_119c : Nat) (t_120 t_121 : Int) (t_126 : Option Addr) (t_126n t_126c : Nat) (t_127 t_128 : Int) (h : AH) : c4_6Y N n m0 m1 h0 c_1 best_7 lists_8 x_11 t_119 t_119n t_119c t_120 t_121 t_126 t_126n t_126c t_127 t_128 h =
 cond (iLt t_128 t_127)
 ((t_126).bind fun a0 =>
 cond (inB t_128 t_126n)
 (((gI .u64 (rdC h (Addr.add a0 ((Int.toNat t_128) * 1)) 0))).bind fun n1 =>
 ((gL (rdC h (Addr.add lists_8 2) 0))).bind fun p2 =>
 c4_7 n n m0 m1 h0 c_1 best_7 lists_8 x_11 n1 t_119 t_119n t_119c t_120 t_121 t_126 t_126n t_126c t_127 t_128 p2.1 p2.2.1 p2.2.2 (Int.ofNat p2.2.1) 0 h)
 (none))
 (c4_5 n m1 h0 c_1 best_7 lists_8 t_119 t_119n t_119c t_120 (iAdd .i64 t_121 1) h) := by kernel_rfl
theorem c4_7_eq (N : NewF) (n m0 m1 m2 : Nat) (h0 : AH) (c_1 best_7 lists_8 : Addr) (x_11 y_13 : Int) (t_119 : Option Addr) (t_119n t_119c : Nat) (t_120 t_121 : Int) (t_126 : Option Addr) (t_126n t_126c : Nat) (t_127 t_128 : Int) (t_133 : Option Addr) (t_133n t_133c : Nat) (t_134 t_135 : Int) (h : AH) : c4_7Y N n m0 m1 m2 h0 c_1 best_7 lists_8 x_11 y_13 t_119 t_119n t_119c t_120 t_121 t_126 t_126n t_126c t_127 t_128 t_133 t_133n t_133c t_134 t_135 h =
 cond (iLt t_135 t_134)
 ((t_133).bind fun a0 =>
 cond (inB t_135 t_133n)
 (((gI .u64 (rdC h (Addr.add a0 ((Int.toNat t_135) * 1)) 0))).bind fun n1 =>
 ((gI .i64 (rdC h (Addr.add c_1 0) 0))).bind fun n2 =>
 ((gI .i64 (rdC h (Addr.add c_1 1) 0))).bind fun n3 =>
 ((gL (rdC h (Addr.add c_1 2) 0))).bind fun p4 =>
 ((N h [(.int .u64 x_11), (.int .u64 y_13), (.int .u64 n1)] 1)).bind fun p5 =>
 ((gL (rdC p5.2 (Addr.add c_1 3) 0))).bind fun p6 =>
 ((sliceV Tryd.prog 35 (.slice (some ⟨p5.1, 0, none⟩) 3 3) none (some (.int .i64 (Int.ofNat p6.2.1))) none p5.2)).bind fun v7 =>
 ((vSl v7)).bind fun p8 =>
 ((gI .u64 (rdC p5.2 (Addr.add c_1 4) 0))).bind fun n9 =>
 ((runS Tryd.prog n 16 [(.int .i64 n2), (.int .i64 n3), (.slice p4.1 p4.2.1 p4.2.2), (.slice p8.1 p8.2.1 p8.2.2), (.int .u64 n9)] p5.2)).bind fun p10 =>
 ((gI .u64 (some p10.1))).bind fun n11 =>
 ((gI .u64 (rdC p10.2 (Addr.add best_7 0) 0))).bind fun n12 =>
 ((stL p10.2 (Addr.add best_7 0) [(.int .u64 (iAndNot .u64 n12 n11))])).bind fun x13 =>
 ((gI .u64 (rdC x13 (Addr.add best_7 1) 0))).bind fun n14 =>
 ((stL x13 (Addr.add best_7 1) [(.int .u64 (iAnd .u64 n14 n11))])).bind fun x15 =>
 c4_7 n m0 m1 m2 h0 c_1 best_7 lists_8 x_11 y_13 t_119 t_119n t_119c t_120 t_121 t_126 t_126n t_126c t_127 t_128 t_133 t_133n t_133c t_134 (iAdd .i64 t_135 1) x15)
 (none))
 (c4_6 n m1 m2 h0 c_1 best_7 lists_8 x_11 t_119 t_119n t_119c t_120 t_121 t_126 t_126n t_126c t_127 (iAdd .i64 t_128 1) h) := by kernel_rfl
def p5 : List (List Nat × List Nat) := [([0, 1, 0, 1, 1], [0, 1, 5, 43, 44, 45]), ([0, 1, 0, 1, 1, 1, 1, 0, 0, 1, 1, 0, 0, 1, 0, 1, 1], [0, 1, 5, 8, 9, 10, 43, 44, 45, 54, 55, 56])]
section
variable (N : NewF) (n m0 : Nat) (h0 : AH) (op_0 w_1 : Int) (n_5 : Addr) (t_43 : Option Addr) (t_43n t_43c : Nat) (t_44 t_45 : Int) (h : AH)
 noncomputable def c5_0 : Option (Go.Value × AH) := resY Tryd.prog n Tryd.f5 h0 (.head (subC (bodyC Tryd.f5) [1, 1, 0, 1, 0, 0]) [0, 1, 0, 1, 1] m0) [.block 0, .seq (subC (bodyC Tryd.f5) [1, 1, 1]) [1, 1, 1]] (E [(0, .int .i64 op_0), (1, .int .i64 w_1), (5, .pointer (some n_5)), (43, .slice t_43 t_43n t_43c), (44, .int .i64 t_44), (45, .int .i64 t_45)]) h
variable {n m0} {h0} {op_0 w_1 n_5 t_43 t_43n t_43c t_44 t_45} {h}
end
 noncomputable def t5Y (N : NewF) (n : Nat) (op_0 w_1 n_2a n_2b n_2c n_2d : Int) (h : AH) : Option (Go.Value × AH) := yrun Tryd.prog (runS Tryd.prog n) n p5 N (resY Tryd.prog n) 5 [(.int .i64 op_0), (.int .i64 w_1), (.agg #[(.int .u64 n_2a), (.int .u64 n_2b), (.int .u64 n_2c), (.int .u64 n_2d)])] h
theorem t5 (N : NewF) (n : Nat) (op_0 w_1 n_2a n_2b n_2c n_2d : Int) (h : AH) : t5Y N n op_0 w_1 n_2a n_2b n_2c n_2d h =
 ((N (setLow h h.next) [(.int .u64 n_2a), (.int .u64 n_2b), (.int .u64 n_2c), (.int .u64 n_2d)] 0)).bind fun p0 =>
 ((runS Tryd.prog n 8 [] p0.2)).bind fun p1 =>
 ((gB (some p1.1))).bind fun b2 =>
 cond (Bool.not b2)
 (some (exitR h p1.2 (.bool false)))
 (((N p1.2 [] 1)).bind fun p3 =>
 ((N p3.2 [(.int .i64 w_1)] 1)).bind fun p4 =>
 ((N p4.2 [(.int .i64 w_1), (.int .i64 w_1)] 1)).bind fun p5 =>
 ((N p5.2 [(.int .i64 1), (.int .i64 w_1), (.int .i64 w_1)] 1)).bind fun p6 =>
 ((gI .u64 (rdC p6.2 (Addr.add ⟨p0.1, 0, none⟩ 3) 0))).bind fun n7 =>
 ((N p6.2 [(.int .i64 (iAdd .i64 (iConv .i64 (iRem .u64 n7 64)) 1))] 1)).bind fun p8 =>
 ((gI .u64 (rdC p8.2 (Addr.add ⟨p0.1, 0, none⟩ 3) 0))).bind fun n9 =>
 ((gI .u64 (rdC p8.2 (Addr.add ⟨p0.1, 0, none⟩ 3) 0))).bind fun n10 =>
 ((N p8.2 [(.int .i64 (iAdd .i64 (iConv .i64 (iRem .u64 n9 64)) 1)), (.int .i64 (iAdd .i64 (iConv .i64 (iRem .u64 n10 64)) 1))] 1)).bind fun p11 =>
 ((N p11.2 [(.slice (some ⟨p3.1, 0, none⟩) 0 0), (.slice (some ⟨p4.1, 0, none⟩) 1 1), (.slice (some ⟨p5.1, 0, none⟩) 2 2), (.slice (some ⟨p6.1, 0, none⟩) 3 3), (.slice (some ⟨p8.1, 0, none⟩) 1 1), (.slice (some ⟨p11.1, 0, none⟩) 2 2)] 1)).bind fun p12 =>
 c5_0 n n h op_0 w_1 ⟨p0.1, 0, none⟩ (some ⟨p12.1, 0, none⟩) 6 6 6 0 p12.2) := by kernel_rfl
def p6 : List (List Nat × List Nat) := []
def p7 : List (List Nat × List Nat) := [([0, 1, 0, 1, 1, 1, 1, 1], [1, 2, 5, 18, 19, 20]), ([1, 1, 1, 0, 0, 1, 1, 0, 0, 1, 0, 1, 1, 1, 1, 1], [1, 2, 5, 7, 8, 18, 19, 20])]
def p8 : List (List Nat × List Nat) := []
 noncomputable def t8Y (N : NewF) (n : Nat)  (h : AH) : Option (Go.Value × AH) := yrun Tryd.prog (runS Tryd.prog n) n p8 N (resY Tryd.prog n) 8 [] h
theorem t8_ok {n : Nat} {h : AH} {r : Go.Value × AH} (hv : t8Y hNew n h = some r) : runS Tryd.prog (n + 1) 8 [] h = some r := yrun_ok hv
theorem t8 (N : NewF) (n : Nat)  (h : AH) : t8Y N n h =
 ((runS Tryd.prog n 18 [(.int .i64 4), (.int .u64 10)] (setLow h h.next))).bind fun p0 =>
 cond (aggIs 2 p0.1)
 (((gI .u64 (aggC 0 p0.1))).bind fun n1 =>
 ((gI .u64 (aggC 1 p0.1))).bind fun n2 =>
 cond (iEq n1 5)
 (cond (iEq n2 10)
 (((runS Tryd.prog n 18 [(.int .i64 4), (.int .u64 10)] p0.2)).bind fun p3 =>
 cond (aggIs 2 p3.1)
 (((gI .u64 (aggC 0 p3.1))).bind fun n4 =>
 ((gI .u64 (aggC 1 p3.1))).bind fun n5 =>
 ((runS Tryd.prog n 19 [(.int .i64 4), (.agg #[(.int .u64 n4), (.int .u64 n5)])] p3.2)).bind fun p6 =>
 ((gB (some p6.1))).bind fun b7 =>
 some (exitR h p6.2 (.bool b7)))
 (none))
 (some (exitR h p0.2 (.bool false))))
 (some (exitR h p0.2 (.bool false))))
 (none) := by kernel_rfl
def p9 : List (List Nat × List Nat) := []
 noncomputable def t9Y (N : NewF) (n : Nat) (c_0a c_0b : Int) (c_0c : Option Addr) (c_0cn c_0cc : Nat) (c_0d : Option Addr) (c_0dn c_0dc : Nat) (c_0e : Int) (h : AH) : Option (Go.Value × AH) := yrun Tryd.prog (runS Tryd.prog n) n p9 N (resY Tryd.prog n) 9 [(.agg #[(.int .i64 c_0a), (.int .i64 c_0b), (.slice c_0c c_0cn c_0cc), (.slice c_0d c_0dn c_0dc), (.int .u64 c_0e)])] h
theorem t9_ok {n : Nat} {c_0a c_0b : Int} {c_0c : Option Addr} {c_0cn c_0cc : Nat} {c_0d : Option Addr} {c_0dn c_0dc : Nat} {c_0e : Int} {h : AH} {r : Go.Value × AH} (hv : t9Y hNew n c_0a c_0b c_0c c_0cn c_0cc c_0d c_0dn c_0dc c_0e h = some r) : runS Tryd.prog (n + 1) 9 [(.agg #[(.int .i64 c_0a), (.int .i64 c_0b), (.slice c_0c c_0cn c_0cc), (.slice c_0d c_0dn c_0dc), (.int .u64 c_0e)])] h = some r := yrun_ok hv
theorem t9 (N : NewF) (n : Nat) (c_0a c_0b : Int) (c_0c : Option Addr) (c_0cn c_0cc : Nat) (c_0d : Option Addr) (c_0dn c_0dc : Nat) (c_0e : Int) (h : AH) : t9Y N n c_0a c_0b c_0c c_0cn c_0cc c_0d c_0dn c_0dc c_0e h =
 ((N (setLow h h.next) [(.int .i64 c_0a), (.int .i64 c_0b), (.slice c_0c c_0cn c_0cc), (.slice c_0d c_0dn c_0dc), (.int .u64 c_0e)] 0)).bind fun p0 =>
 ((gL (rdC p0.2 (Addr.add ⟨p0.1, 0, none⟩ 2) 0))).bind fun p1 =>
 cond (iLe (Int.ofNat p1.2.1) 8)
 (((gL (rdC p0.2 (Addr.add ⟨p0.1, 0, none⟩ 3) 0))).bind fun p2 =>
 some (exitR h p0.2 (.bool (iLe (Int.ofNat p2.2.1) 8))))
 (some (exitR h p0.2 (.bool false))) := by kernel_rfl
end Go.Proofs.YtiadfnedbbkojaaDoor.Kb
