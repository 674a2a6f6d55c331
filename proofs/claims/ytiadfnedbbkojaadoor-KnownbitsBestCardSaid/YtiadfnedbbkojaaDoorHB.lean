/- Joined texts: HB. -/
import Derived.KernelRfl
import Derived.Test.YtiadfnedbbkojaaDoorYA
import Derived.Test.YtiadfnedbbkojaaDoorProg
namespace Go.Proofs.YtiadfnedbbkojaaDoor.Kb
open Go Go.Proofs Go.Proofs.YtiadfnedbbkojaaDoor Go.Proofs.YtiadfnedbbkojaaDoor.X
set_option maxRecDepth 100000
set_option linter.unusedVariables false
def p42 : List (List Nat × List Nat) := [([0, 1, 0, 1, 1], [0, 1, 2, 6, 7, 8])]
def p45 : List (List Nat × List Nat) := [([0, 1, 0, 1, 1, 1, 0, 1, 0, 1, 1], [1, 8, 9, 11, 12]), ([1, 1, 1, 1, 1], [0, 1, 6, 8, 9, 13])]
end Go.Proofs.YtiadfnedbbkojaaDoor.Kb
namespace Go.Proofs.YtiadfnedbbkojaaDoor.Kb
open Go Go.Proofs Go.Proofs.YtiadfnedbbkojaaDoor Go.Proofs.YtiadfnedbbkojaaDoor.X
set_option maxRecDepth 100000
set_option linter.unusedVariables false
def p53 : List (List Nat × List Nat) := [([0, 1, 0, 1, 1], [0, 1, 2, 3, 9, 10])]
section
variable (N : NewF) (n m0 : Nat) (h0 : AH) (w_0 a_1 b_2 fill_3 out_9 i_10 : Int) (h : AH)
 noncomputable def c53_0 : Option (Go.Value × AH) := resY Tryd.prog n Tryd.f53 h0 (.head (subC (bodyC Tryd.f53) [1, 1, 0, 1, 0, 0]) [0, 1, 0, 1, 1] m0) [.block 0, .seq (subC (bodyC Tryd.f53) [1, 1, 1]) [1, 1, 1]] (E [(0, .int .i64 w_0), (1, .int .u64 a_1), (2, .int .u64 b_2), (3, .int .i64 fill_3), (9, .int .u64 out_9), (10, .int .i64 i_10)]) h
 noncomputable def c53_0Y : Option (Go.Value × AH) := yhead Tryd.prog (runS Tryd.prog n) n Tryd.f53 h0 p53 N (resY Tryd.prog n Tryd.f53 h0) (subC (bodyC Tryd.f53) [1, 1, 0, 1, 0, 0]) [0, 1, 0, 1, 1] m0 [.block 0, .seq (subC (bodyC Tryd.f53) [1, 1, 1]) [1, 1, 1]] (E [(0, .int .i64 w_0), (1, .int .u64 a_1), (2, .int .u64 b_2), (3, .int .i64 fill_3), (9, .int .u64 out_9), (10, .int .i64 i_10)]) h
variable {n m0} {h0} {w_0 a_1 b_2 fill_3 out_9 i_10} {h}
theorem c53_0_ok {r : Go.Value × AH} (hv : c53_0Y hNew n m0 h0 w_0 a_1 b_2 fill_3 out_9 i_10 h = some r) : c53_0 n (m0 + 1) h0 w_0 a_1 b_2 fill_3 out_9 i_10 h = some r := yhead_ok hv
end
 noncomputable def t53Y (N : NewF) (n : Nat) (w_0 a_1 b_2 fill_3 : Int) (h : AH) : Option (Go.Value × AH) := yrun Tryd.prog (runS Tryd.prog n) n p53 N (resY Tryd.prog n) 53 [(.int .i64 w_0), (.int .u64 a_1), (.int .u64 b_2), (.int .i64 fill_3)] h
theorem t53_ok {n : Nat} {w_0 a_1 b_2 fill_3 : Int} {h : AH} {r : Go.Value × AH} (hv : t53Y hNew n w_0 a_1 b_2 fill_3 h = some r) : runS Tryd.prog (n + 1) 53 [(.int .i64 w_0), (.int .u64 a_1), (.int .u64 b_2), (.int .i64 fill_3)] h = some r := yrun_ok hv
theorem t53 (N : NewF) (n : Nat) (w_0 a_1 b_2 fill_3 : Int) (h : AH) : t53Y N n w_0 a_1 b_2 fill_3 h =
 c53_0 n n h w_0 a_1 b_2 fill_3 0 0 (setLow h h.next) := by kernel_rfl
theorem c53_0_eq (N : NewF) (n m0 : Nat) (h0 : AH) (w_0 a_1 b_2 fill_3 out_9 i_10 : Int) (h : AH) : c53_0Y N n m0 h0 w_0 a_1 b_2 fill_3 out_9 i_10 h =
 cond (iLt i_10 w_0)
 (cond (iLt b_2 (iConv .u64 w_0))
 (cond (iLt (iAdd .i64 i_10 (iConv .i64 b_2)) w_0)
 (((runS Tryd.prog n 54 [(.int .u64 a_1), (.int .i64 (iAdd .i64 i_10 (iConv .i64 b_2)))] h)).bind fun p0 =>
 ((gI .i64 (some p0.1))).bind fun n1 =>
 cond (iLt i_10 0)
 (none)
 (c53_0 n m0 h0 w_0 a_1 b_2 fill_3 (iOr .u64 out_9 (iShl .u64 (iConv .u64 n1) i_10)) (iAdd .i64 i_10 1) p0.2))
 (cond (iLt i_10 0)
 (none)
 (c53_0 n m0 h0 w_0 a_1 b_2 fill_3 (iOr .u64 out_9 (iShl .u64 (iConv .u64 fill_3) i_10)) (iAdd .i64 i_10 1) h)))
 (cond (iLt i_10 0)
 (none)
 (c53_0 n m0 h0 w_0 a_1 b_2 fill_3 (iOr .u64 out_9 (iShl .u64 (iConv .u64 fill_3) i_10)) (iAdd .i64 i_10 1) h)))
 (some (exitR h0 h (.int .u64 out_9))) := by kernel_rfl
def p25 : List (List Nat × List Nat) := [([0, 1, 0, 1, 1], [3, 5, 6, 8, 9, 14, 15]), ([1, 1, 1, 1, 0, 0, 1, 1, 0, 0, 1, 0, 1, 1], [3, 5, 6, 8, 9, 11, 12, 13, 14, 15]), ([1, 1, 1, 1, 1, 0, 0, 1, 1, 0, 0, 1, 0, 1, 1], [3, 5, 6, 8, 9, 12, 13, 14, 15])]
section
variable (N : NewF) (n m0 : Nat) (h0 : AH) (carry_3 : Int) (a_5 b_6 t_8 out_9 : Addr) (t_14 t_15 : Int) (h : AH)
 noncomputable def c25_0 : Option (Go.Value × AH) := resY Tryd.prog n Tryd.f25 h0 (.head (subC (bodyC Tryd.f25) [1, 1, 0, 1, 0, 0]) [0, 1, 0, 1, 1] m0) [.block 0, .seq (subC (bodyC Tryd.f25) [1, 1, 1]) [1, 1, 1]] (E [(3, .int .i64 carry_3), (5, .pointer (some a_5)), (6, .pointer (some b_6)), (8, .pointer (some t_8)), (9, .pointer (some out_9)), (14, .int .i64 t_14), (15, .int .i64 t_15)]) h
 noncomputable def c25_0Y : Option (Go.Value × AH) := yhead Tryd.prog (runS Tryd.prog n) n Tryd.f25 h0 p25 N (resY Tryd.prog n Tryd.f25 h0) (subC (bodyC Tryd.f25) [1, 1, 0, 1, 0, 0]) [0, 1, 0, 1, 1] m0 [.block 0, .seq (subC (bodyC Tryd.f25) [1, 1, 1]) [1, 1, 1]] (E [(3, .int .i64 carry_3), (5, .pointer (some a_5)), (6, .pointer (some b_6)), (8, .pointer (some t_8)), (9, .pointer (some out_9)), (14, .int .i64 t_14), (15, .int .i64 t_15)]) h
variable {n m0} {h0} {carry_3 a_5 b_6 t_8 out_9 t_14 t_15} {h}
theorem c25_0_ok {r : Go.Value × AH} (hv : c25_0Y hNew n m0 h0 carry_3 a_5 b_6 t_8 out_9 t_14 t_15 h = some r) : c25_0 n (m0 + 1) h0 carry_3 a_5 b_6 t_8 out_9 t_14 t_15 h = some r := yhead_ok hv
end
section
variable (N : NewF) (n m0 : Nat) (h0 : AH) (carry_3 : Int) (a_5 b_6 t_8 out_9 : Addr) (s_11 zeros_12 ones_13 t_14 t_15 : Int) (h : AH)
 noncomputable def c25_1 : Option (Go.Value × AH) := resY Tryd.prog n Tryd.f25 h0 (.code (subC (bodyC Tryd.f25) [1, 1, 0, 1, 0, 0, 1, 1, 0, 0, 1, 1, 1, 1]) [1, 1, 1, 1, 0, 0, 1, 1, 0, 0, 1, 0, 1, 1]) [.block 1, .seq (subC (bodyC Tryd.f25) [1, 1, 0, 1, 0, 0, 1, 1, 1]) [1, 1, 1, 0, 0, 1, 0, 1, 1], .loop (subC (bodyC Tryd.f25) [1, 1, 0, 1, 0, 0]) [0, 1, 0, 1, 1] m0, .block 0, .seq (subC (bodyC Tryd.f25) [1, 1, 1]) [1, 1, 1]] (E [(3, .int .i64 carry_3), (5, .pointer (some a_5)), (6, .pointer (some b_6)), (8, .pointer (some t_8)), (9, .pointer (some out_9)), (11, .int .u64 s_11), (12, .int .i64 zeros_12), (13, .int .i64 ones_13), (14, .int .i64 t_14), (15, .int .i64 t_15)]) h
 noncomputable def c25_1Y : Option (Go.Value × AH) := yfrom Tryd.prog (runS Tryd.prog n) n Tryd.f25 h0 p25 N (resY Tryd.prog n Tryd.f25 h0) (subC (bodyC Tryd.f25) [1, 1, 0, 1, 0, 0, 1, 1, 0, 0, 1, 1, 1, 1]) [1, 1, 1, 1, 0, 0, 1, 1, 0, 0, 1, 0, 1, 1] [.block 1, .seq (subC (bodyC Tryd.f25) [1, 1, 0, 1, 0, 0, 1, 1, 1]) [1, 1, 1, 0, 0, 1, 0, 1, 1], .loop (subC (bodyC Tryd.f25) [1, 1, 0, 1, 0, 0]) [0, 1, 0, 1, 1] m0, .block 0, .seq (subC (bodyC Tryd.f25) [1, 1, 1]) [1, 1, 1]] (E [(3, .int .i64 carry_3), (5, .pointer (some a_5)), (6, .pointer (some b_6)), (8, .pointer (some t_8)), (9, .pointer (some out_9)), (11, .int .u64 s_11), (12, .int .i64 zeros_12), (13, .int .i64 ones_13), (14, .int .i64 t_14), (15, .int .i64 t_15)]) h
variable {n m0} {h0} {carry_3 a_5 b_6 t_8 out_9 s_11 zeros_12 ones_13 t_14 t_15} {h}
theorem c25_1_ok {r : Go.Value × AH} (hv : c25_1Y hNew n m0 h0 carry_3 a_5 b_6 t_8 out_9 s_11 zeros_12 ones_13 t_14 t_15 h = some r) : c25_1 n m0 h0 carry_3 a_5 b_6 t_8 out_9 s_11 zeros_12 ones_13 t_14 t_15 h = some r := yfrom_ok hv
end
section
variable (N : NewF) (n m0 : Nat) (h0 : AH) (carry_3 : Int) (a_5 b_6 t_8 out_9 : Addr) (zeros_12 ones_13 t_14 t_15 : Int) (h : AH)
 noncomputable def c25_2 : Option (Go.Value × AH) := resY Tryd.prog n Tryd.f25 h0 (.code (subC (bodyC Tryd.f25) [1, 1, 0, 1, 0, 0, 1, 1, 0, 0, 1, 1, 1, 1, 1]) [1, 1, 1, 1, 1, 0, 0, 1, 1, 0, 0, 1, 0, 1, 1]) [.block 1, .seq (subC (bodyC Tryd.f25) [1, 1, 0, 1, 0, 0, 1, 1, 1]) [1, 1, 1, 0, 0, 1, 0, 1, 1], .loop (subC (bodyC Tryd.f25) [1, 1, 0, 1, 0, 0]) [0, 1, 0, 1, 1] m0, .block 0, .seq (subC (bodyC Tryd.f25) [1, 1, 1]) [1, 1, 1]] (E [(3, .int .i64 carry_3), (5, .pointer (some a_5)), (6, .pointer (some b_6)), (8, .pointer (some t_8)), (9, .pointer (some out_9)), (12, .int .i64 zeros_12), (13, .int .i64 ones_13), (14, .int .i64 t_14), (15, .int .i64 t_15)]) h
 noncomputable def c25_2Y : Option (Go.Value × AH) := yfrom Tryd.prog (runS Tryd.prog n) n Tryd.f25 h0 p25 N (resY Tryd.prog n Tryd.f25 h0) (subC (bodyC Tryd.f25) [1, 1, 0, 1, 0, 0, 1, 1, 0, 0, 1, 1, 1, 1, 1]) [1, 1, 1, 1, 1, 0, 0, 1, 1, 0, 0, 1, 0, 1, 1] [.block 1, .seq (subC (bodyC Tryd.f25) [1, 1, 0, 1, 0, 0, 1, 1, 1]) [1, 1, 1, 0, 0, 1, 0, 1, 1], .loop (subC (bodyC Tryd.f25) [1, 1, 0, 1, 0, 0]) [0, 1, 0, 1, 1] m0, .block 0, .seq (subC (bodyC Tryd.f25) [1, 1, 1]) [1, 1, 1]] (E [(3, .int .i64 carry_3), (5, .pointer (some a_5)), (6, .pointer (some b_6)), (8, .pointer (some t_8)), (9, .pointer (some out_9)), (12, .int .i64 zeros_12), (13, .int .i64 ones_13), (14, .int .i64 t_14), (15, .int .i64 t_15)]) h
variable {n m0} {h0} {carry_3 a_5 b_6 t_8 out_9 zeros_12 ones_13 t_14 t_15} {h}
theorem c25_2_ok {r : Go.Value × AH} (hv : c25_2Y hNew n m0 h0 carry_3 a_5 b_6 t_8 out_9 zeros_12 ones_13 t_14 t_15 h = some r) : c25_2 n m0 h0 carry_3 a_5 b_6 t_8 out_9 zeros_12 ones_13 t_14 t_15 h = some r := yfrom_ok hv
end
 noncomputable def t25Y (N : NewF) (n : Nat) (w_0 a_1a a_1b b_2a b_2b carry_3 : Int) (h : AH) : Option (Go.Value × AH) := yrun Tryd.prog (runS Tryd.prog n) n p25 N (resY Tryd.prog n) 25 [(.int .i64 w_0), (.agg #[(.int .u64 a_1a), (.int .u64 a_1b)]), (.agg #[(.int .u64 b_2a), (.int .u64 b_2b)]), (.int .i64 carry_3)] h
theorem t25_ok {n : Nat} {w_0 a_1a a_1b b_2a b_2b carry_3 : Int} {h : AH} {r : Go.Value × AH} (hv : t25Y hNew n w_0 a_1a a_1b b_2a b_2b carry_3 h = some r) : runS Tryd.prog (n + 1) 25 [(.int .i64 w_0), (.agg #[(.int .u64 a_1a), (.int .u64 a_1b)]), (.agg #[(.int .u64 b_2a), (.int .u64 b_2b)]), (.int .i64 carry_3)] h = some r := yrun_ok hv
theorem t25 (N : NewF) (n : Nat) (w_0 a_1a a_1b b_2a b_2b carry_3 : Int) (h : AH) : t25Y N n w_0 a_1a a_1b b_2a b_2b carry_3 h =
 ((N (setLow h h.next) [(.int .u64 a_1a), (.int .u64 a_1b)] 0)).bind fun p0 =>
 ((N p0.2 [(.int .u64 b_2a), (.int .u64 b_2b)] 0)).bind fun p1 =>
 ((N p1.2 [(.int .u64 0), (.int .u64 0)] 0)).bind fun p2 =>
 ((N p2.2 [(.int .u64 0), (.int .u64 0)] 0)).bind fun p3 =>
 c25_0 n n h carry_3 ⟨p0.1, 0, none⟩ ⟨p1.1, 0, none⟩ ⟨p2.1, 0, none⟩ ⟨p3.1, 0, none⟩ w_0 0 p3.2 := by kernel_rfl
theorem c25_0_eq (N : NewF) (n m0 : Nat) (h0 : AH) (carry_3 : Int) (a_5 b_6 t_8 out_9 : Addr) (t_14 t_15 : Int) (h : AH) : c25_0Y N n m0 h0 carry_3 a_5 b_6 t_8 out_9 t_14 t_15 h =
 cond (iLt t_15 t_14)
 (cond (iLt t_15 0)
 (none)
 (((gI .u64 (rdC h (Addr.add a_5 0) 0))).bind fun n0 =>
 cond (iLt t_15 0)
 (none)
 (((gI .u64 (rdC h (Addr.add b_6 0) 0))).bind fun n1 =>
 cond (iLt t_15 0)
 (none)
 (((gI .u64 (rdC h (Addr.add a_5 1) 0))).bind fun n2 =>
 cond (iLt t_15 0)
 (none)
 (((gI .u64 (rdC h (Addr.add b_6 1) 0))).bind fun n3 =>
 cond (iLt t_15 0)
 (none)
 (cond (iEq carry_3 0)
 (c25_1 n m0 h0 carry_3 a_5 b_6 t_8 out_9 (iShl .u64 1 t_15) (iAdd .i64 (iConv .i64 (iAdd .u64 (iAnd .u64 (iShr .u64 n0 t_15) 1) (iAnd .u64 (iShr .u64 n1 t_15) 1))) 1) (iConv .i64 (iAdd .u64 (iAnd .u64 (iShr .u64 n2 t_15) 1) (iAnd .u64 (iShr .u64 n3 t_15) 1))) t_14 t_15 h)
 (cond (iEq carry_3 1)
 (c25_1 n m0 h0 carry_3 a_5 b_6 t_8 out_9 (iShl .u64 1 t_15) (iConv .i64 (iAdd .u64 (iAnd .u64 (iShr .u64 n0 t_15) 1) (iAnd .u64 (iShr .u64 n1 t_15) 1))) (iAdd .i64 (iConv .i64 (iAdd .u64 (iAnd .u64 (iShr .u64 n2 t_15) 1) (iAnd .u64 (iShr .u64 n3 t_15) 1))) 1) t_14 t_15 h)
 (c25_1 n m0 h0 carry_3 a_5 b_6 t_8 out_9 (iShl .u64 1 t_15) (iConv .i64 (iAdd .u64 (iAnd .u64 (iShr .u64 n0 t_15) 1) (iAnd .u64 (iShr .u64 n1 t_15) 1))) (iConv .i64 (iAdd .u64 (iAnd .u64 (iShr .u64 n2 t_15) 1) (iAnd .u64 (iShr .u64 n3 t_15) 1))) t_14 t_15 h))))))))
 (((gI .u64 (rdC h out_9 0))).bind fun n4 =>
 ((gI .u64 (rdC h out_9 1))).bind fun n5 =>
 ((stL h t_8 [(.int .u64 n4), (.int .u64 n5)])).bind fun x6 =>
 ((gI .u64 (rdC x6 t_8 0))).bind fun n7 =>
 ((gI .u64 (rdC x6 t_8 1))).bind fun n8 =>
 some (exitR h0 x6 (.agg #[(.int .u64 n7), (.int .u64 n8)]))) := by kernel_rfl
theorem c25_1_eq (N : NewF) (n m0 : Nat) (h0 : AH) (carry_3 : Int) (a_5 b_6 t_8 out_9 : Addr) (s_11 zeros_12 ones_13 t_14 t_15 : Int) (h : AH) : c25_1Y N n m0 h0 carry_3 a_5 b_6 t_8 out_9 s_11 zeros_12 ones_13 t_14 t_15 h =
 cond (iEq (iAdd .i64 zeros_12 ones_13) 3)
 (cond (iEq (iRem .i64 ones_13 2) 1)
 (((gI .u64 (rdC h (Addr.add out_9 1) 0))).bind fun n0 =>
 ((stL h (Addr.add out_9 1) [(.int .u64 (iOr .u64 n0 s_11))])).bind fun x1 =>
 c25_2 n m0 h0 carry_3 a_5 b_6 t_8 out_9 zeros_12 ones_13 t_14 t_15 x1)
 (((gI .u64 (rdC h (Addr.add out_9 0) 0))).bind fun n2 =>
 ((stL h (Addr.add out_9 0) [(.int .u64 (iOr .u64 n2 s_11))])).bind fun x3 =>
 c25_2 n m0 h0 carry_3 a_5 b_6 t_8 out_9 zeros_12 ones_13 t_14 t_15 x3))
 (c25_2 n m0 h0 carry_3 a_5 b_6 t_8 out_9 zeros_12 ones_13 t_14 t_15 h) := by kernel_rfl
theorem c25_2_eq (N : NewF) (n m0 : Nat) (h0 : AH) (carry_3 : Int) (a_5 b_6 t_8 out_9 : Addr) (zeros_12 ones_13 t_14 t_15 : Int) (h : AH) : c25_2Y N n m0 h0 carry_3 a_5 b_6 t_8 out_9 zeros_12 ones_13 t_14 t_15 h =
 cond (iLe 2 ones_13)
 (c25_0 n m0 h0 1 a_5 b_6 t_8 out_9 t_14 (iAdd .i64 t_15 1) h)
 (cond (iLe 2 zeros_12)
 (c25_0 n m0 h0 0 a_5 b_6 t_8 out_9 t_14 (iAdd .i64 t_15 1) h)
 (c25_0 n m0 h0 (-1) a_5 b_6 t_8 out_9 t_14 (iAdd .i64 t_15 1) h)) := by kernel_rfl
end Go.Proofs.YtiadfnedbbkojaaDoor.Kb
namespace Go.Proofs.YtiadfnedbbkojaaDoor.Kb
open Go Go.Proofs Go.Proofs.YtiadfnedbbkojaaDoor Go.Proofs.YtiadfnedbbkojaaDoor.X
set_option maxRecDepth 100000
set_option linter.unusedVariables false
def p10 : List (List Nat × List Nat) := [([1, 1], [0, 1, 2, 3, 4, 10]), ([0, 1, 0, 1, 1, 1, 1], [0, 1, 2, 3, 4, 10, 11, 12, 39, 40, 41]), ([1, 1, 1, 1, 1, 1, 1, 1, 1, 1, 1, 1, 1, 1, 1, 1, 1, 0, 1, 0, 1, 1, 1, 1, 1, 1, 1, 1], [0, 1, 2, 3, 10, 17, 18, 91, 183]), ([1, 1, 1, 1, 1, 1, 1, 1, 1, 1, 1, 1, 1, 1, 1, 1, 1, 1, 1, 0, 1, 0, 1, 1, 1, 1, 1, 1, 1, 1], [0, 1, 2, 3, 10, 17, 18, 91, 203]), ([1, 1, 1, 1, 1, 1, 1, 1, 1, 1, 1, 1, 1, 1, 1, 1, 1, 1, 1, 1, 1, 0, 1, 0, 1, 1, 1, 1, 1, 1, 1, 1], [0, 1, 2, 3, 10, 17, 18, 91, 222]), ([1, 1, 1, 1, 1, 1, 1, 1, 1, 1, 1, 1, 1, 1, 1, 1, 1, 1, 1, 1, 1, 1, 1, 0, 1, 0, 1, 1, 1, 1, 1, 1, 1, 1], [0, 1, 2, 3, 10, 17, 18, 91, 233]), ([1, 1, 1, 0, 1, 1, 1, 1, 1, 1, 1, 1, 1, 1, 1, 1, 1, 1, 1, 1, 1, 1, 1, 1, 1, 1, 1, 1, 1, 1, 1, 1, 1, 0, 1, 0, 1, 1, 1, 1, 1, 1, 1, 1], [10, 17, 23, 24, 25])]
section
variable (N : NewF) (n : Nat) (h0 : AH) (op_0 w_1 : Int) (widths_2 : Option Addr) (widths_2n widths_2c : Nat) (args_3 : Option Addr) (args_3n args_3c : Nat) (num_4 : Int) (t_10 : Addr) (h : AH)
 noncomputable def c10_0 : Option (Go.Value × AH) := resY Tryd.prog n Tryd.f10 h0 (.code (subC (bodyC Tryd.f10) [1, 1]) [1, 1]) [] (E [(0, .int .i64 op_0), (1, .int .i64 w_1), (2, .slice widths_2 widths_2n widths_2c), (3, .slice args_3 args_3n args_3c), (4, .int .u64 num_4), (10, .pointer (some t_10))]) h
 noncomputable def c10_0Y : Option (Go.Value × AH) := yfrom Tryd.prog (runS Tryd.prog n) n Tryd.f10 h0 p10 N (resY Tryd.prog n Tryd.f10 h0) (subC (bodyC Tryd.f10) [1, 1]) [1, 1] [] (E [(0, .int .i64 op_0), (1, .int .i64 w_1), (2, .slice widths_2 widths_2n widths_2c), (3, .slice args_3 args_3n args_3c), (4, .int .u64 num_4), (10, .pointer (some t_10))]) h
variable {n} {h0} {op_0 w_1 widths_2 widths_2n widths_2c args_3 args_3n args_3c num_4 t_10} {h}
theorem c10_0_ok {r : Go.Value × AH} (hv : c10_0Y hNew n h0 op_0 w_1 widths_2 widths_2n widths_2c args_3 args_3n args_3c num_4 t_10 h = some r) : c10_0 n h0 op_0 w_1 widths_2 widths_2n widths_2c args_3 args_3n args_3c num_4 t_10 h = some r := yfrom_ok hv
end
section
variable (N : NewF) (n m0 : Nat) (h0 : AH) (op_0 w_1 : Int) (widths_2 : Option Addr) (widths_2n widths_2c : Nat) (args_3 : Option Addr) (args_3n args_3c : Nat) (num_4 : Int) (t_10 : Addr) (exact_11 : Bool) (n_12 : Option Addr) (n_12n n_12c : Nat) (t_39 : Option Addr) (t_39n t_39c : Nat) (t_40 t_41 : Int) (h : AH)
 noncomputable def c10_1 : Option (Go.Value × AH) := resY Tryd.prog n Tryd.f10 h0 (.head (subC (bodyC Tryd.f10) [1, 1, 1, 1, 0, 1, 0, 0]) [0, 1, 0, 1, 1, 1, 1] m0) [.block 0, .seq (subC (bodyC Tryd.f10) [1, 1, 1, 1, 1]) [1, 1, 1, 1, 1]] (E [(0, .int .i64 op_0), (1, .int .i64 w_1), (2, .slice widths_2 widths_2n widths_2c), (3, .slice args_3 args_3n args_3c), (4, .int .u64 num_4), (10, .pointer (some t_10)), (11, .bool exact_11), (12, .slice n_12 n_12n n_12c), (39, .slice t_39 t_39n t_39c), (40, .int .i64 t_40), (41, .int .i64 t_41)]) h
 noncomputable def c10_1Y : Option (Go.Value × AH) := yhead Tryd.prog (runS Tryd.prog n) n Tryd.f10 h0 p10 N (resY Tryd.prog n Tryd.f10 h0) (subC (bodyC Tryd.f10) [1, 1, 1, 1, 0, 1, 0, 0]) [0, 1, 0, 1, 1, 1, 1] m0 [.block 0, .seq (subC (bodyC Tryd.f10) [1, 1, 1, 1, 1]) [1, 1, 1, 1, 1]] (E [(0, .int .i64 op_0), (1, .int .i64 w_1), (2, .slice widths_2 widths_2n widths_2c), (3, .slice args_3 args_3n args_3c), (4, .int .u64 num_4), (10, .pointer (some t_10)), (11, .bool exact_11), (12, .slice n_12 n_12n n_12c), (39, .slice t_39 t_39n t_39c), (40, .int .i64 t_40), (41, .int .i64 t_41)]) h
variable {n m0} {h0} {op_0 w_1 widths_2 widths_2n widths_2c args_3 args_3n args_3c num_4 t_10 exact_11 n_12 n_12n n_12c t_39 t_39n t_39c t_40 t_41} {h}
theorem c10_1_ok {r : Go.Value × AH} (hv : c10_1Y hNew n m0 h0 op_0 w_1 widths_2 widths_2n widths_2c args_3 args_3n args_3c num_4 t_10 exact_11 n_12 n_12n n_12c t_39 t_39n t_39c t_40 t_41 h = some r) : c10_1 n (m0 + 1) h0 op_0 w_1 widths_2 widths_2n widths_2c args_3 args_3n args_3c num_4 t_10 exact_11 n_12 n_12n n_12c t_39 t_39n t_39c t_40 t_41 h = some r := yhead_ok hv
end
section
variable (N : NewF) (n : Nat) (h0 : AH) (op_0 w_1 : Int) (widths_2 : Option Addr) (widths_2n widths_2c : Nat) (args_3 : Option Addr) (args_3n args_3c : Nat) (t_10 a_17 b_18 : Addr) (t_91 : Int) (t_183 : Bool) (h : AH)
 noncomputable def c10_2 : Option (Go.Value × AH) := resY Tryd.prog n Tryd.f10 h0 (.code (subC (bodyC Tryd.f10) [1, 1, 1, 1, 1, 1, 1, 1, 0, 1, 0, 1, 1, 1, 1, 1, 1, 1, 1, 1, 1, 1, 1, 1, 1, 1, 1, 1]) [1, 1, 1, 1, 1, 1, 1, 1, 1, 1, 1, 1, 1, 1, 1, 1, 1, 0, 1, 0, 1, 1, 1, 1, 1, 1, 1, 1]) [.block 2, .seq (subC (bodyC Tryd.f10) [1, 1, 1, 1, 1, 1, 1, 1, 1]) [1, 1, 1, 1, 1, 1, 1, 1, 1]] (E [(0, .int .i64 op_0), (1, .int .i64 w_1), (2, .slice widths_2 widths_2n widths_2c), (3, .slice args_3 args_3n args_3c), (10, .pointer (some t_10)), (17, .pointer (some a_17)), (18, .pointer (some b_18)), (91, .int .i64 t_91), (183, .bool t_183)]) h
 noncomputable def c10_2Y : Option (Go.Value × AH) := yfrom Tryd.prog (runS Tryd.prog n) n Tryd.f10 h0 p10 N (resY Tryd.prog n Tryd.f10 h0) (subC (bodyC Tryd.f10) [1, 1, 1, 1, 1, 1, 1, 1, 0, 1, 0, 1, 1, 1, 1, 1, 1, 1, 1, 1, 1, 1, 1, 1, 1, 1, 1, 1]) [1, 1, 1, 1, 1, 1, 1, 1, 1, 1, 1, 1, 1, 1, 1, 1, 1, 0, 1, 0, 1, 1, 1, 1, 1, 1, 1, 1] [.block 2, .seq (subC (bodyC Tryd.f10) [1, 1, 1, 1, 1, 1, 1, 1, 1]) [1, 1, 1, 1, 1, 1, 1, 1, 1]] (E [(0, .int .i64 op_0), (1, .int .i64 w_1), (2, .slice widths_2 widths_2n widths_2c), (3, .slice args_3 args_3n args_3c), (10, .pointer (some t_10)), (17, .pointer (some a_17)), (18, .pointer (some b_18)), (91, .int .i64 t_91), (183, .bool t_183)]) h
variable {n} {h0} {op_0 w_1 widths_2 widths_2n widths_2c args_3 args_3n args_3c t_10 a_17 b_18 t_91 t_183} {h}
theorem c10_2_ok {r : Go.Value × AH} (hv : c10_2Y hNew n h0 op_0 w_1 widths_2 widths_2n widths_2c args_3 args_3n args_3c t_10 a_17 b_18 t_91 t_183 h = some r) : c10_2 n h0 op_0 w_1 widths_2 widths_2n widths_2c args_3 args_3n args_3c t_10 a_17 b_18 t_91 t_183 h = some r := yfrom_ok hv
end
section
variable (N : NewF) (n : Nat) (h0 : AH) (op_0 w_1 : Int) (widths_2 : Option Addr) (widths_2n widths_2c : Nat) (args_3 : Option Addr) (args_3n args_3c : Nat) (t_10 a_17 b_18 : Addr) (t_91 : Int) (t_203 : Bool) (h : AH)
 noncomputable def c10_3 : Option (Go.Value × AH) := resY Tryd.prog n Tryd.f10 h0 (.code (subC (bodyC Tryd.f10) [1, 1, 1, 1, 1, 1, 1, 1, 0, 1, 0, 1, 1, 1, 1, 1, 1, 1, 1, 1, 1, 1, 1, 1, 1, 1, 1, 1, 1, 1]) [1, 1, 1, 1, 1, 1, 1, 1, 1, 1, 1, 1, 1, 1, 1, 1, 1, 1, 1, 0, 1, 0, 1, 1, 1, 1, 1, 1, 1, 1]) [.block 2, .seq (subC (bodyC Tryd.f10) [1, 1, 1, 1, 1, 1, 1, 1, 1]) [1, 1, 1, 1, 1, 1, 1, 1, 1]] (E [(0, .int .i64 op_0), (1, .int .i64 w_1), (2, .slice widths_2 widths_2n widths_2c), (3, .slice args_3 args_3n args_3c), (10, .pointer (some t_10)), (17, .pointer (some a_17)), (18, .pointer (some b_18)), (91, .int .i64 t_91), (203, .bool t_203)]) h
 noncomputable def c10_3Y : Option (Go.Value × AH) := yfrom Tryd.prog (runS Tryd.prog n) n Tryd.f10 h0 p10 N (resY Tryd.prog n Tryd.f10 h0) (subC (bodyC Tryd.f10) [1, 1, 1, 1, 1, 1, 1, 1, 0, 1, 0, 1, 1, 1, 1, 1, 1, 1, 1, 1, 1, 1, 1, 1, 1, 1, 1, 1, 1, 1]) [1, 1, 1, 1, 1, 1, 1, 1, 1, 1, 1, 1, 1, 1, 1, 1, 1, 1, 1, 0, 1, 0, 1, 1, 1, 1, 1, 1, 1, 1] [.block 2, .seq (subC (bodyC Tryd.f10) [1, 1, 1, 1, 1, 1, 1, 1, 1]) [1, 1, 1, 1, 1, 1, 1, 1, 1]] (E [(0, .int .i64 op_0), (1, .int .i64 w_1), (2, .slice widths_2 widths_2n widths_2c), (3, .slice args_3 args_3n args_3c), (10, .pointer (some t_10)), (17, .pointer (some a_17)), (18, .pointer (some b_18)), (91, .int .i64 t_91), (203, .bool t_203)]) h
variable {n} {h0} {op_0 w_1 widths_2 widths_2n widths_2c args_3 args_3n args_3c t_10 a_17 b_18 t_91 t_203} {h}
theorem c10_3_ok {r : Go.Value × AH} (hv : c10_3Y hNew n h0 op_0 w_1 widths_2 widths_2n widths_2c args_3 args_3n args_3c t_10 a_17 b_18 t_91 t_203 h = some r) : c10_3 n h0 op_0 w_1 widths_2 widths_2n widths_2c args_3 args_3n args_3c t_10 a_17 b_18 t_91 t_203 h = some r := yfrom_ok hv
end
section
variable (N : NewF) (n : Nat) (h0 : AH) (op_0 w_1 : Int) (widths_2 : Option Addr) (widths_2n widths_2c : Nat) (args_3 : Option Addr) (args_3n args_3c : Nat) (t_10 a_17 b_18 : Addr) (t_91 : Int) (t_222 : Bool) (h : AH)
 noncomputable def c10_4 : Option (Go.Value × AH) := resY Tryd.prog n Tryd.f10 h0 (.code (subC (bodyC Tryd.f10) [1, 1, 1, 1, 1, 1, 1, 1, 0, 1, 0, 1, 1, 1, 1, 1, 1, 1, 1, 1, 1, 1, 1, 1, 1, 1, 1, 1, 1, 1, 1, 1]) [1, 1, 1, 1, 1, 1, 1, 1, 1, 1, 1, 1, 1, 1, 1, 1, 1, 1, 1, 1, 1, 0, 1, 0, 1, 1, 1, 1, 1, 1, 1, 1]) [.block 2, .seq (subC (bodyC Tryd.f10) [1, 1, 1, 1, 1, 1, 1, 1, 1]) [1, 1, 1, 1, 1, 1, 1, 1, 1]] (E [(0, .int .i64 op_0), (1, .int .i64 w_1), (2, .slice widths_2 widths_2n widths_2c), (3, .slice args_3 args_3n args_3c), (10, .pointer (some t_10)), (17, .pointer (some a_17)), (18, .pointer (some b_18)), (91, .int .i64 t_91), (222, .bool t_222)]) h
 noncomputable def c10_4Y : Option (Go.Value × AH) := yfrom Tryd.prog (runS Tryd.prog n) n Tryd.f10 h0 p10 N (resY Tryd.prog n Tryd.f10 h0) (subC (bodyC Tryd.f10) [1, 1, 1, 1, 1, 1, 1, 1, 0, 1, 0, 1, 1, 1, 1, 1, 1, 1, 1, 1, 1, 1, 1, 1, 1, 1, 1, 1, 1, 1, 1, 1]) [1, 1, 1, 1, 1, 1, 1, 1, 1, 1, 1, 1, 1, 1, 1, 1, 1, 1, 1, 1, 1, 0, 1, 0, 1, 1, 1, 1, 1, 1, 1, 1] [.block 2, .seq (subC (bodyC Tryd.f10) [1, 1, 1, 1, 1, 1, 1, 1, 1]) [1, 1, 1, 1, 1, 1, 1, 1, 1]] (E [(0, .int .i64 op_0), (1, .int .i64 w_1), (2, .slice widths_2 widths_2n widths_2c), (3, .slice args_3 args_3n args_3c), (10, .pointer (some t_10)), (17, .pointer (some a_17)), (18, .pointer (some b_18)), (91, .int .i64 t_91), (222, .bool t_222)]) h
variable {n} {h0} {op_0 w_1 widths_2 widths_2n widths_2c args_3 args_3n args_3c t_10 a_17 b_18 t_91 t_222} {h}
theorem c10_4_ok {r : Go.Value × AH} (hv : c10_4Y hNew n h0 op_0 w_1 widths_2 widths_2n widths_2c args_3 args_3n args_3c t_10 a_17 b_18 t_91 t_222 h = some r) : c10_4 n h0 op_0 w_1 widths_2 widths_2n widths_2c args_3 args_3n args_3c t_10 a_17 b_18 t_91 t_222 h = some r := yfrom_ok hv
end
section
variable (N : NewF) (n : Nat) (h0 : AH) (op_0 w_1 : Int) (widths_2 : Option Addr) (widths_2n widths_2c : Nat) (args_3 : Option Addr) (args_3n args_3c : Nat) (t_10 a_17 b_18 : Addr) (t_91 : Int) (t_233 : Bool) (h : AH)
 noncomputable def c10_5 : Option (Go.Value × AH) := resY Tryd.prog n Tryd.f10 h0 (.code (subC (bodyC Tryd.f10) [1, 1, 1, 1, 1, 1, 1, 1, 0, 1, 0, 1, 1, 1, 1, 1, 1, 1, 1, 1, 1, 1, 1, 1, 1, 1, 1, 1, 1, 1, 1, 1, 1, 1]) [1, 1, 1, 1, 1, 1, 1, 1, 1, 1, 1, 1, 1, 1, 1, 1, 1, 1, 1, 1, 1, 1, 1, 0, 1, 0, 1, 1, 1, 1, 1, 1, 1, 1]) [.block 2, .seq (subC (bodyC Tryd.f10) [1, 1, 1, 1, 1, 1, 1, 1, 1]) [1, 1, 1, 1, 1, 1, 1, 1, 1]] (E [(0, .int .i64 op_0), (1, .int .i64 w_1), (2, .slice widths_2 widths_2n widths_2c), (3, .slice args_3 args_3n args_3c), (10, .pointer (some t_10)), (17, .pointer (some a_17)), (18, .pointer (some b_18)), (91, .int .i64 t_91), (233, .bool t_233)]) h
 noncomputable def c10_5Y : Option (Go.Value × AH) := yfrom Tryd.prog (runS Tryd.prog n) n Tryd.f10 h0 p10 N (resY Tryd.prog n Tryd.f10 h0) (subC (bodyC Tryd.f10) [1, 1, 1, 1, 1, 1, 1, 1, 0, 1, 0, 1, 1, 1, 1, 1, 1, 1, 1, 1, 1, 1, 1, 1, 1, 1, 1, 1, 1, 1, 1, 1, 1, 1]) [1, 1, 1, 1, 1, 1, 1, 1, 1, 1, 1, 1, 1, 1, 1, 1, 1, 1, 1, 1, 1, 1, 1, 0, 1, 0, 1, 1, 1, 1, 1, 1, 1, 1] [.block 2, .seq (subC (bodyC Tryd.f10) [1, 1, 1, 1, 1, 1, 1, 1, 1]) [1, 1, 1, 1, 1, 1, 1, 1, 1]] (E [(0, .int .i64 op_0), (1, .int .i64 w_1), (2, .slice widths_2 widths_2n widths_2c), (3, .slice args_3 args_3n args_3c), (10, .pointer (some t_10)), (17, .pointer (some a_17)), (18, .pointer (some b_18)), (91, .int .i64 t_91), (233, .bool t_233)]) h
variable {n} {h0} {op_0 w_1 widths_2 widths_2n widths_2c args_3 args_3n args_3c t_10 a_17 b_18 t_91 t_233} {h}
theorem c10_5_ok {r : Go.Value × AH} (hv : c10_5Y hNew n h0 op_0 w_1 widths_2 widths_2n widths_2c args_3 args_3n args_3c t_10 a_17 b_18 t_91 t_233 h = some r) : c10_5 n h0 op_0 w_1 widths_2 widths_2n widths_2c args_3 args_3n args_3c t_10 a_17 b_18 t_91 t_233 h = some r := yfrom_ok hv
end
section
variable (N : NewF) (n : Nat) (h0 : AH) (t_10 a_17 : Addr) (sign_23 : Int) (out_24 : Addr) (top_25 : Int) (h : AH)
 noncomputable def c10_6 : Option (Go.Value × AH) := resY Tryd.prog n Tryd.f10 h0 (.code (subC (bodyC Tryd.f10) [1, 1, 1, 1, 1, 1, 1, 1, 0, 1, 0, 1, 1, 1, 1, 1, 1, 1, 1, 1, 1, 1, 1, 1, 1, 1, 1, 1, 1, 1, 1, 1, 1, 1, 1, 1, 1, 1, 1, 1, 0, 1, 1, 1]) [1, 1, 1, 0, 1, 1, 1, 1, 1, 1, 1, 1, 1, 1, 1, 1, 1, 1, 1, 1, 1, 1, 1, 1, 1, 1, 1, 1, 1, 1, 1, 1, 1, 0, 1, 0, 1, 1, 1, 1, 1, 1, 1, 1]) [.block 2, .seq (subC (bodyC Tryd.f10) [1, 1, 1, 1, 1, 1, 1, 1, 1]) [1, 1, 1, 1, 1, 1, 1, 1, 1]] (E [(10, .pointer (some t_10)), (17, .pointer (some a_17)), (23, .int .u64 sign_23), (24, .pointer (some out_24)), (25, .int .u64 top_25)]) h
 noncomputable def c10_6Y : Option (Go.Value × AH) := yfrom Tryd.prog (runS Tryd.prog n) n Tryd.f10 h0 p10 N (resY Tryd.prog n Tryd.f10 h0) (subC (bodyC Tryd.f10) [1, 1, 1, 1, 1, 1, 1, 1, 0, 1, 0, 1, 1, 1, 1, 1, 1, 1, 1, 1, 1, 1, 1, 1, 1, 1, 1, 1, 1, 1, 1, 1, 1, 1, 1, 1, 1, 1, 1, 1, 0, 1, 1, 1]) [1, 1, 1, 0, 1, 1, 1, 1, 1, 1, 1, 1, 1, 1, 1, 1, 1, 1, 1, 1, 1, 1, 1, 1, 1, 1, 1, 1, 1, 1, 1, 1, 1, 0, 1, 0, 1, 1, 1, 1, 1, 1, 1, 1] [.block 2, .seq (subC (bodyC Tryd.f10) [1, 1, 1, 1, 1, 1, 1, 1, 1]) [1, 1, 1, 1, 1, 1, 1, 1, 1]] (E [(10, .pointer (some t_10)), (17, .pointer (some a_17)), (23, .int .u64 sign_23), (24, .pointer (some out_24)), (25, .int .u64 top_25)]) h
variable {n} {h0} {t_10 a_17 sign_23 out_24 top_25} {h}
theorem c10_6_ok {r : Go.Value × AH} (hv : c10_6Y hNew n h0 t_10 a_17 sign_23 out_24 top_25 h = some r) : c10_6 n h0 t_10 a_17 sign_23 out_24 top_25 h = some r := yfrom_ok hv
end
 noncomputable def t10Y (N : NewF) (n : Nat) (op_0 w_1 : Int) (widths_2 : Option Addr) (widths_2n widths_2c : Nat) (args_3 : Option Addr) (args_3n args_3c : Nat) (num_4 : Int) (h : AH) : Option (Go.Value × AH) := yrun Tryd.prog (runS Tryd.prog n) n p10 N (resY Tryd.prog n) 10 [(.int .i64 op_0), (.int .i64 w_1), (.slice widths_2 widths_2n widths_2c), (.slice args_3 args_3n args_3c), (.int .u64 num_4)] h
theorem t10_ok {n : Nat} {op_0 w_1 : Int} {widths_2 : Option Addr} {widths_2n widths_2c : Nat} {args_3 : Option Addr} {args_3n args_3c : Nat} {num_4 : Int} {h : AH} {r : Go.Value × AH} (hv : t10Y hNew n op_0 w_1 widths_2 widths_2n widths_2c args_3 args_3n args_3c num_4 h = some r) : runS Tryd.prog (n + 1) 10 [(.int .i64 op_0), (.int .i64 w_1), (.slice widths_2 widths_2n widths_2c), (.slice args_3 args_3n args_3c), (.int .u64 num_4)] h = some r := yrun_ok hv
theorem t10 (N : NewF) (n : Nat) (op_0 w_1 : Int) (widths_2 : Option Addr) (widths_2n widths_2c : Nat) (args_3 : Option Addr) (args_3n args_3c : Nat) (num_4 : Int) (h : AH) : t10Y N n op_0 w_1 widths_2 widths_2n widths_2c args_3 args_3n args_3c num_4 h =
 ((N (setLow h h.next) [(.int .u64 0), (.int .u64 0)] 0)).bind fun p0 =>
 ((runS Tryd.prog n 23 [(.int .i64 op_0), (.int .i64 w_1), (.slice widths_2 widths_2n widths_2c)] p0.2)).bind fun p1 =>
 ((gB (some p1.1))).bind fun b2 =>
 cond (Bool.not b2)
 (((stL p1.2 ⟨p0.1, 0, none⟩ [(.int .u64 0), (.int .u64 0)])).bind fun x3 =>
 ((gI .u64 (rdC x3 ⟨p0.1, 0, none⟩ 0))).bind fun n4 =>
 ((gI .u64 (rdC x3 ⟨p0.1, 0, none⟩ 1))).bind fun n5 =>
 some (exitR h x3 (.agg #[(.int .u64 n4), (.int .u64 n5)])))
 (cond (iNe (Int.ofNat args_3n) (Int.ofNat widths_2n))
 (((stL p1.2 ⟨p0.1, 0, none⟩ [(.int .u64 0), (.int .u64 0)])).bind fun x6 =>
 ((gI .u64 (rdC x6 ⟨p0.1, 0, none⟩ 0))).bind fun n7 =>
 ((gI .u64 (rdC x6 ⟨p0.1, 0, none⟩ 1))).bind fun n8 =>
 some (exitR h x6 (.agg #[(.int .u64 n7), (.int .u64 n8)])))
 (c10_0 n h op_0 w_1 widths_2 widths_2n widths_2c args_3 args_3n args_3c num_4 ⟨p0.1, 0, none⟩ p1.2)) := by kernel_rfl
theorem c10_0_eq (N : NewF) (n  : Nat) (h0 : AH) (op_0 w_1 : Int) (widths_2 : Option Addr) (widths_2n widths_2c : Nat) (args_3 : Option Addr) (args_3n args_3c : Nat) (num_4 : Int) (t_10 : Addr) (h : AH) : c10_0Y N n  h0 op_0 w_1 widths_2 widths_2n widths_2c args_3 args_3n args_3c num_4 t_10 h =
 c10_1 n n h0 op_0 w_1 widths_2 widths_2n widths_2c args_3 args_3n args_3c num_4 t_10 true none 0 0 args_3 args_3n args_3c (Int.ofNat args_3n) 0 h := by kernel_rfl
theorem c10_1_eq (N : NewF) (n m0 : Nat) (h0 : AH) (op_0 w_1 : Int) (widths_2 : Option Addr) (widths_2n widths_2c : Nat) (args_3 : Option Addr) (args_3n args_3c : Nat) (num_4 : Int) (t_10 : Addr) (exact_11 : Bool) (n_12 : Option Addr) (n_12n n_12c : Nat) (t_39 : Option Addr) (t_39n t_39c : Nat) (t_40 t_41 : Int) (h : AH) : c10_1Y N n m0 h0 op_0 w_1 widths_2 widths_2n widths_2c args_3 args_3n args_3c num_4 t_10 exact_11 n_12 n_12n n_12c t_39 t_39n t_39c t_40 t_41 h =
 cond (iLt t_41 t_40)
 ((t_39).bind fun a0 =>
 cond (inB t_41 t_39n)
 (((gI .u64 (rdC h (Addr.add a0 ((Int.toNat t_41) * 2)) 0))).bind fun n1 =>
 ((gI .u64 (rdC h (Addr.add a0 ((Int.toNat t_41) * 2)) 1))).bind fun n2 =>
 ((N h [(.int .u64 0), (.int .u64 0)] 0)).bind fun p3 =>
 ((stL p3.2 ⟨p3.1, 0, none⟩ [(.int .u64 n1), (.int .u64 n2)])).bind fun x4 =>
 (widths_2).bind fun a5 =>
 cond (inB t_41 widths_2n)
 (((gI .i64 (rdC x4 (Addr.add a5 ((Int.toNat t_41) * 1)) 0))).bind fun n6 =>
 ((gI .u64 (rdC x4 ⟨p3.1, 0, none⟩ 0))).bind fun n7 =>
 ((gI .u64 (rdC x4 ⟨p3.1, 0, none⟩ 1))).bind fun n8 =>
 ((runS Tryd.prog n 19 [(.int .i64 n6), (.agg #[(.int .u64 n7), (.int .u64 n8)])] x4)).bind fun p9 =>
 ((gB (some p9.1))).bind fun b10 =>
 cond (Bool.not b10)
 (((stL p9.2 t_10 [(.int .u64 0), (.int .u64 0)])).bind fun x11 =>
 ((gI .u64 (rdC x11 t_10 0))).bind fun n12 =>
 ((gI .u64 (rdC x11 t_10 1))).bind fun n13 =>
 some (exitR h0 x11 (.agg #[(.int .u64 n12), (.int .u64 n13)])))
 ((widths_2).bind fun a14 =>
 cond (inB t_41 widths_2n)
 (((gI .i64 (rdC p9.2 (Addr.add a14 ((Int.toNat t_41) * 1)) 0))).bind fun n15 =>
 ((gI .u64 (rdC p9.2 ⟨p3.1, 0, none⟩ 0))).bind fun n16 =>
 ((gI .u64 (rdC p9.2 ⟨p3.1, 0, none⟩ 1))).bind fun n17 =>
 ((runS Tryd.prog n 13 [(.int .i64 n15), (.agg #[(.int .u64 n16), (.int .u64 n17)])] (setLow p9.2 p9.2.next))).bind fun p18 =>
 cond (tupIs 2 p18.1)
 (((gI .u64 (tupC 0 p18.1))).bind fun n19 =>
 ((gB (tupC 1 p18.1))).bind fun b20 =>
 cond (Nat.beq p18.2.low p9.2.next)
 (((N (setLow p18.2 p9.2.low) [(.int .u64 n19)] 1)).bind fun p21 =>
 ((appL 1 8 (.slice n_12 n_12n n_12c) (.slice (some ⟨p21.1, 0, none⟩) 1 1) p21.2)).bind fun p22 =>
 cond exact_11
 (c10_1 n m0 h0 op_0 w_1 widths_2 widths_2n widths_2c args_3 args_3n args_3c num_4 t_10 b20 p22.1.1 p22.1.2.1 p22.1.2.2 t_39 t_39n t_39c t_40 (iAdd .i64 t_41 1) p22.2)
 (c10_1 n m0 h0 op_0 w_1 widths_2 widths_2n widths_2c args_3 args_3n args_3c num_4 t_10 false p22.1.1 p22.1.2.1 p22.1.2.2 t_39 t_39n t_39c t_40 (iAdd .i64 t_41 1) p22.2))
 (none))
 (none))
 (none)))
 (none))
 (none))
 (cond exact_11
 (((runS Tryd.prog n 24 [(.int .i64 op_0), (.int .i64 w_1), (.slice widths_2 widths_2n widths_2c), (.slice n_12 n_12n n_12c), (.int .u64 num_4)] h)).bind fun p23 =>
 ((gI .u64 (some p23.1))).bind fun n24 =>
 ((runS Tryd.prog n 18 [(.int .i64 w_1), (.int .u64 n24)] p23.2)).bind fun p25 =>
 cond (aggIs 2 p25.1)
 (((gI .u64 (aggC 0 p25.1))).bind fun n26 =>
 ((gI .u64 (aggC 1 p25.1))).bind fun n27 =>
 ((stL p25.2 t_10 [(.int .u64 n26), (.int .u64 n27)])).bind fun x28 =>
 ((gI .u64 (rdC x28 t_10 0))).bind fun n29 =>
 ((gI .u64 (rdC x28 t_10 1))).bind fun n30 =>
 some (exitR h0 x28 (.agg #[(.int .u64 n29), (.int .u64 n30)])))
 (none))
 ((args_3).bind fun a31 =>
 cond (inB 0 args_3n)
 (((gI .u64 (rdC h (Addr.add a31 0) 0))).bind fun n32 =>
 ((gI .u64 (rdC h (Addr.add a31 0) 1))).bind fun n33 =>
 ((N h [(.int .u64 0), (.int .u64 0)] 0)).bind fun p34 =>
 ((stL p34.2 ⟨p34.1, 0, none⟩ [(.int .u64 n32), (.int .u64 n33)])).bind fun x35 =>
 (args_3).bind fun a36 =>
 cond (inB (iMin 1 (iSub .i64 (Int.ofNat args_3n) 1)) args_3n)
 (((gI .u64 (rdC x35 (Addr.add a36 ((Int.toNat (iMin 1 (iSub .i64 (Int.ofNat args_3n) 1))) * 2)) 0))).bind fun n37 =>
 ((gI .u64 (rdC x35 (Addr.add a36 ((Int.toNat (iMin 1 (iSub .i64 (Int.ofNat args_3n) 1))) * 2)) 1))).bind fun n38 =>
 ((N x35 [(.int .u64 0), (.int .u64 0)] 0)).bind fun p39 =>
 ((stL p39.2 ⟨p39.1, 0, none⟩ [(.int .u64 n37), (.int .u64 n38)])).bind fun x40 =>
 cond (iEq op_0 9)
 (((gI .u64 (rdC x40 (Addr.add ⟨p34.1, 0, none⟩ 0) 0))).bind fun n41 =>
 ((gI .u64 (rdC x40 (Addr.add ⟨p39.1, 0, none⟩ 0) 0))).bind fun n42 =>
 ((gI .u64 (rdC x40 (Addr.add ⟨p34.1, 0, none⟩ 1) 0))).bind fun n43 =>
 ((gI .u64 (rdC x40 (Addr.add ⟨p39.1, 0, none⟩ 1) 0))).bind fun n44 =>
 ((stL x40 t_10 [(.int .u64 (iOr .u64 n41 n42)), (.int .u64 (iAnd .u64 n43 n44))])).bind fun x45 =>
 ((gI .u64 (rdC x45 t_10 0))).bind fun n46 =>
 ((gI .u64 (rdC x45 t_10 1))).bind fun n47 =>
 some (exitR h0 x45 (.agg #[(.int .u64 n46), (.int .u64 n47)])))
 (cond (iEq op_0 10)
 (((gI .u64 (rdC x40 (Addr.add ⟨p34.1, 0, none⟩ 0) 0))).bind fun n48 =>
 ((gI .u64 (rdC x40 (Addr.add ⟨p39.1, 0, none⟩ 0) 0))).bind fun n49 =>
 ((gI .u64 (rdC x40 (Addr.add ⟨p34.1, 0, none⟩ 1) 0))).bind fun n50 =>
 ((gI .u64 (rdC x40 (Addr.add ⟨p39.1, 0, none⟩ 1) 0))).bind fun n51 =>
 ((stL x40 t_10 [(.int .u64 (iAnd .u64 n48 n49)), (.int .u64 (iOr .u64 n50 n51))])).bind fun x52 =>
 ((gI .u64 (rdC x52 t_10 0))).bind fun n53 =>
 ((gI .u64 (rdC x52 t_10 1))).bind fun n54 =>
 some (exitR h0 x52 (.agg #[(.int .u64 n53), (.int .u64 n54)])))
 (cond (iEq op_0 11)
 (((gI .u64 (rdC x40 (Addr.add ⟨p34.1, 0, none⟩ 0) 0))).bind fun n55 =>
 ((gI .u64 (rdC x40 (Addr.add ⟨p39.1, 0, none⟩ 0) 0))).bind fun n56 =>
 ((gI .u64 (rdC x40 (Addr.add ⟨p34.1, 0, none⟩ 1) 0))).bind fun n57 =>
 ((gI .u64 (rdC x40 (Addr.add ⟨p39.1, 0, none⟩ 1) 0))).bind fun n58 =>
 ((gI .u64 (rdC x40 (Addr.add ⟨p34.1, 0, none⟩ 0) 0))).bind fun n59 =>
 ((gI .u64 (rdC x40 (Addr.add ⟨p39.1, 0, none⟩ 1) 0))).bind fun n60 =>
 ((gI .u64 (rdC x40 (Addr.add ⟨p34.1, 0, none⟩ 1) 0))).bind fun n61 =>
 ((gI .u64 (rdC x40 (Addr.add ⟨p39.1, 0, none⟩ 0) 0))).bind fun n62 =>
 ((stL x40 t_10 [(.int .u64 (iOr .u64 (iAnd .u64 n55 n56) (iAnd .u64 n57 n58))), (.int .u64 (iOr .u64 (iAnd .u64 n59 n60) (iAnd .u64 n61 n62)))])).bind fun x63 =>
 ((gI .u64 (rdC x63 t_10 0))).bind fun n64 =>
 ((gI .u64 (rdC x63 t_10 1))).bind fun n65 =>
 some (exitR h0 x63 (.agg #[(.int .u64 n64), (.int .u64 n65)])))
 (cond (iEq op_0 2)
 (((gI .u64 (rdC x40 ⟨p34.1, 0, none⟩ 0))).bind fun n66 =>
 ((gI .u64 (rdC x40 ⟨p34.1, 0, none⟩ 1))).bind fun n67 =>
 ((gI .u64 (rdC x40 ⟨p39.1, 0, none⟩ 0))).bind fun n68 =>
 ((gI .u64 (rdC x40 ⟨p39.1, 0, none⟩ 1))).bind fun n69 =>
 ((runS Tryd.prog n 25 [(.int .i64 w_1), (.agg #[(.int .u64 n66), (.int .u64 n67)]), (.agg #[(.int .u64 n68), (.int .u64 n69)]), (.int .i64 0)] x40)).bind fun p70 =>
 cond (aggIs 2 p70.1)
 (((gI .u64 (aggC 0 p70.1))).bind fun n71 =>
 ((gI .u64 (aggC 1 p70.1))).bind fun n72 =>
 ((stL p70.2 t_10 [(.int .u64 n71), (.int .u64 n72)])).bind fun x73 =>
 ((gI .u64 (rdC x73 t_10 0))).bind fun n74 =>
 ((gI .u64 (rdC x73 t_10 1))).bind fun n75 =>
 some (exitR h0 x73 (.agg #[(.int .u64 n74), (.int .u64 n75)])))
 (none))
 (cond (iEq op_0 3)
 (((gI .u64 (rdC x40 ⟨p34.1, 0, none⟩ 0))).bind fun n76 =>
 ((gI .u64 (rdC x40 ⟨p34.1, 0, none⟩ 1))).bind fun n77 =>
 ((gI .u64 (rdC x40 (Addr.add ⟨p39.1, 0, none⟩ 1) 0))).bind fun n78 =>
 ((gI .u64 (rdC x40 (Addr.add ⟨p39.1, 0, none⟩ 0) 0))).bind fun n79 =>
 ((runS Tryd.prog n 25 [(.int .i64 w_1), (.agg #[(.int .u64 n76), (.int .u64 n77)]), (.agg #[(.int .u64 n78), (.int .u64 n79)]), (.int .i64 1)] x40)).bind fun p80 =>
 cond (aggIs 2 p80.1)
 (((gI .u64 (aggC 0 p80.1))).bind fun n81 =>
 ((gI .u64 (aggC 1 p80.1))).bind fun n82 =>
 ((stL p80.2 t_10 [(.int .u64 n81), (.int .u64 n82)])).bind fun x83 =>
 ((gI .u64 (rdC x83 t_10 0))).bind fun n84 =>
 ((gI .u64 (rdC x83 t_10 1))).bind fun n85 =>
 some (exitR h0 x83 (.agg #[(.int .u64 n84), (.int .u64 n85)])))
 (none))
 (cond (iEq op_0 4)
 (((gI .u64 (rdC x40 ⟨p34.1, 0, none⟩ 0))).bind fun n86 =>
 ((gI .u64 (rdC x40 ⟨p34.1, 0, none⟩ 1))).bind fun n87 =>
 ((gI .u64 (rdC x40 ⟨p39.1, 0, none⟩ 0))).bind fun n88 =>
 ((gI .u64 (rdC x40 ⟨p39.1, 0, none⟩ 1))).bind fun n89 =>
 ((runS Tryd.prog n 26 [(.int .i64 w_1), (.agg #[(.int .u64 n86), (.int .u64 n87)]), (.agg #[(.int .u64 n88), (.int .u64 n89)])] x40)).bind fun p90 =>
 cond (aggIs 2 p90.1)
 (((gI .u64 (aggC 0 p90.1))).bind fun n91 =>
 ((gI .u64 (aggC 1 p90.1))).bind fun n92 =>
 ((stL p90.2 t_10 [(.int .u64 n91), (.int .u64 n92)])).bind fun x93 =>
 ((gI .u64 (rdC x93 t_10 0))).bind fun n94 =>
 ((gI .u64 (rdC x93 t_10 1))).bind fun n95 =>
 some (exitR h0 x93 (.agg #[(.int .u64 n94), (.int .u64 n95)])))
 (none))
 (cond (iEq op_0 5)
 (((gI .u64 (rdC x40 (Addr.add ⟨p39.1, 0, none⟩ 1) 0))).bind fun n96 =>
 cond (iNe n96 0)
 (((gI .u64 (rdC x40 (Addr.add ⟨p34.1, 0, none⟩ 0) 0))).bind fun n97 =>
 ((runS Tryd.prog n 28 [(.int .i64 w_1), (.int .u64 n97)] x40)).bind fun p98 =>
 ((gI .i64 (some p98.1))).bind fun n99 =>
 ((runS Tryd.prog n 27 [(.int .i64 w_1), (.int .i64 n99)] p98.2)).bind fun p100 =>
 ((gI .u64 (some p100.1))).bind fun n101 =>
 ((stL p100.2 t_10 [(.int .u64 n101), (.int .u64 0)])).bind fun x102 =>
 ((gI .u64 (rdC x102 t_10 0))).bind fun n103 =>
 ((gI .u64 (rdC x102 t_10 1))).bind fun n104 =>
 some (exitR h0 x102 (.agg #[(.int .u64 n103), (.int .u64 n104)])))
 (((stL x40 t_10 [(.int .u64 0), (.int .u64 0)])).bind fun x105 =>
 ((gI .u64 (rdC x105 t_10 0))).bind fun n106 =>
 ((gI .u64 (rdC x105 t_10 1))).bind fun n107 =>
 some (exitR h0 x105 (.agg #[(.int .u64 n106), (.int .u64 n107)]))))
 (cond (iEq op_0 6)
 (((gI .u64 (rdC x40 ⟨p34.1, 0, none⟩ 0))).bind fun n108 =>
 ((gI .u64 (rdC x40 ⟨p34.1, 0, none⟩ 1))).bind fun n109 =>
 ((gI .u64 (rdC x40 ⟨p39.1, 0, none⟩ 0))).bind fun n110 =>
 ((gI .u64 (rdC x40 ⟨p39.1, 0, none⟩ 1))).bind fun n111 =>
 ((runS Tryd.prog n 29 [(.int .i64 w_1), (.agg #[(.int .u64 n108), (.int .u64 n109)]), (.agg #[(.int .u64 n110), (.int .u64 n111)])] x40)).bind fun p112 =>
 cond (aggIs 2 p112.1)
 (((gI .u64 (aggC 0 p112.1))).bind fun n113 =>
 ((gI .u64 (aggC 1 p112.1))).bind fun n114 =>
 ((stL p112.2 t_10 [(.int .u64 n113), (.int .u64 n114)])).bind fun x115 =>
 ((gI .u64 (rdC x115 t_10 0))).bind fun n116 =>
 ((gI .u64 (rdC x115 t_10 1))).bind fun n117 =>
 some (exitR h0 x115 (.agg #[(.int .u64 n116), (.int .u64 n117)])))
 (none))
 (cond (iEq op_0 12)
 (c10_2 n h0 op_0 w_1 widths_2 widths_2n widths_2c args_3 args_3n args_3c t_10 ⟨p34.1, 0, none⟩ ⟨p39.1, 0, none⟩ op_0 true x40)
 (cond (iEq op_0 13)
 (c10_2 n h0 op_0 w_1 widths_2 widths_2n widths_2c args_3 args_3n args_3c t_10 ⟨p34.1, 0, none⟩ ⟨p39.1, 0, none⟩ op_0 true x40)
 (c10_2 n h0 op_0 w_1 widths_2 widths_2n widths_2c args_3 args_3n args_3c t_10 ⟨p34.1, 0, none⟩ ⟨p39.1, 0, none⟩ op_0 (iEq op_0 14) x40)))))))))))
 (none))
 (none))) := by kernel_rfl
theorem c10_2_eq (N : NewF) (n  : Nat) (h0 : AH) (op_0 w_1 : Int) (widths_2 : Option Addr) (widths_2n widths_2c : Nat) (args_3 : Option Addr) (args_3n args_3c : Nat) (t_10 a_17 b_18 : Addr) (t_91 : Int) (t_183 : Bool) (h : AH) : c10_2Y N n  h0 op_0 w_1 widths_2 widths_2n widths_2c args_3 args_3n args_3c t_10 a_17 b_18 t_91 t_183 h =
 cond t_183
 (((gI .u64 (rdC h b_18 0))).bind fun n0 =>
 ((gI .u64 (rdC h b_18 1))).bind fun n1 =>
 ((runS Tryd.prog n 13 [(.int .i64 w_1), (.agg #[(.int .u64 n0), (.int .u64 n1)])] h)).bind fun p2 =>
 cond (tupIs 2 p2.1)
 (((gI .u64 (tupC 0 p2.1))).bind fun n3 =>
 ((gB (tupC 1 p2.1))).bind fun b4 =>
 cond b4
 (((gI .u64 (rdC p2.2 a_17 0))).bind fun n5 =>
 ((gI .u64 (rdC p2.2 a_17 1))).bind fun n6 =>
 ((runS Tryd.prog n 30 [(.int .i64 op_0), (.int .i64 w_1), (.agg #[(.int .u64 n5), (.int .u64 n6)]), (.int .u64 n3)] p2.2)).bind fun p7 =>
 cond (aggIs 2 p7.1)
 (((gI .u64 (aggC 0 p7.1))).bind fun n8 =>
 ((gI .u64 (aggC 1 p7.1))).bind fun n9 =>
 ((stL p7.2 t_10 [(.int .u64 n8), (.int .u64 n9)])).bind fun x10 =>
 ((gI .u64 (rdC x10 t_10 0))).bind fun n11 =>
 ((gI .u64 (rdC x10 t_10 1))).bind fun n12 =>
 some (exitR h0 x10 (.agg #[(.int .u64 n11), (.int .u64 n12)])))
 (none))
 (((gI .u64 (rdC p2.2 a_17 0))).bind fun n13 =>
 ((gI .u64 (rdC p2.2 a_17 1))).bind fun n14 =>
 ((runS Tryd.prog n 31 [(.int .i64 op_0), (.int .i64 w_1), (.agg #[(.int .u64 n13), (.int .u64 n14)])] p2.2)).bind fun p15 =>
 cond (aggIs 2 p15.1)
 (((gI .u64 (aggC 0 p15.1))).bind fun n16 =>
 ((gI .u64 (aggC 1 p15.1))).bind fun n17 =>
 ((stL p15.2 t_10 [(.int .u64 n16), (.int .u64 n17)])).bind fun x18 =>
 ((gI .u64 (rdC x18 t_10 0))).bind fun n19 =>
 ((gI .u64 (rdC x18 t_10 1))).bind fun n20 =>
 some (exitR h0 x18 (.agg #[(.int .u64 n19), (.int .u64 n20)])))
 (none)))
 (none))
 (cond (iEq t_91 15)
 (c10_3 n h0 op_0 w_1 widths_2 widths_2n widths_2c args_3 args_3n args_3c t_10 a_17 b_18 t_91 true h)
 (c10_3 n h0 op_0 w_1 widths_2 widths_2n widths_2c args_3 args_3n args_3c t_10 a_17 b_18 t_91 (iEq t_91 16) h)) := by kernel_rfl
theorem c10_3_eq (N : NewF) (n  : Nat) (h0 : AH) (op_0 w_1 : Int) (widths_2 : Option Addr) (widths_2n widths_2c : Nat) (args_3 : Option Addr) (args_3n args_3c : Nat) (t_10 a_17 b_18 : Addr) (t_91 : Int) (t_203 : Bool) (h : AH) : c10_3Y N n  h0 op_0 w_1 widths_2 widths_2n widths_2c args_3 args_3n args_3c t_10 a_17 b_18 t_91 t_203 h =
 cond t_203
 (((gI .u64 (rdC h (Addr.add a_17 0) 0))).bind fun n0 =>
 ((gI .u64 (rdC h (Addr.add b_18 1) 0))).bind fun n1 =>
 ((gI .u64 (rdC h (Addr.add a_17 1) 0))).bind fun n2 =>
 ((gI .u64 (rdC h (Addr.add b_18 0) 0))).bind fun n3 =>
 cond (iNe (iOr .u64 (iAnd .u64 n0 n1) (iAnd .u64 n2 n3)) 0)
 (((runS Tryd.prog n 32 [(.bool (iEq op_0 16))] h)).bind fun p4 =>
 ((gI .u64 (some p4.1))).bind fun n5 =>
 ((runS Tryd.prog n 18 [(.int .i64 1), (.int .u64 n5)] p4.2)).bind fun p6 =>
 cond (aggIs 2 p6.1)
 (((gI .u64 (aggC 0 p6.1))).bind fun n7 =>
 ((gI .u64 (aggC 1 p6.1))).bind fun n8 =>
 ((stL p6.2 t_10 [(.int .u64 n7), (.int .u64 n8)])).bind fun x9 =>
 ((gI .u64 (rdC x9 t_10 0))).bind fun n10 =>
 ((gI .u64 (rdC x9 t_10 1))).bind fun n11 =>
 some (exitR h0 x9 (.agg #[(.int .u64 n10), (.int .u64 n11)])))
 (none))
 (((stL h t_10 [(.int .u64 0), (.int .u64 0)])).bind fun x12 =>
 ((gI .u64 (rdC x12 t_10 0))).bind fun n13 =>
 ((gI .u64 (rdC x12 t_10 1))).bind fun n14 =>
 some (exitR h0 x12 (.agg #[(.int .u64 n13), (.int .u64 n14)]))))
 (cond (iEq t_91 17)
 (c10_4 n h0 op_0 w_1 widths_2 widths_2n widths_2c args_3 args_3n args_3c t_10 a_17 b_18 t_91 true h)
 (c10_4 n h0 op_0 w_1 widths_2 widths_2n widths_2c args_3 args_3n args_3c t_10 a_17 b_18 t_91 (iEq t_91 18) h)) := by kernel_rfl
theorem c10_4_eq (N : NewF) (n  : Nat) (h0 : AH) (op_0 w_1 : Int) (widths_2 : Option Addr) (widths_2n widths_2c : Nat) (args_3 : Option Addr) (args_3n args_3c : Nat) (t_10 a_17 b_18 : Addr) (t_91 : Int) (t_222 : Bool) (h : AH) : c10_4Y N n  h0 op_0 w_1 widths_2 widths_2n widths_2c args_3 args_3n args_3c t_10 a_17 b_18 t_91 t_222 h =
 cond t_222
 ((widths_2).bind fun a0 =>
 cond (inB 0 widths_2n)
 (((gI .i64 (rdC h (Addr.add a0 0) 0))).bind fun n1 =>
 ((gI .u64 (rdC h a_17 0))).bind fun n2 =>
 ((gI .u64 (rdC h a_17 1))).bind fun n3 =>
 ((gI .u64 (rdC h b_18 0))).bind fun n4 =>
 ((gI .u64 (rdC h b_18 1))).bind fun n5 =>
 ((runS Tryd.prog n 33 [(.int .i64 n1), (.agg #[(.int .u64 n2), (.int .u64 n3)]), (.agg #[(.int .u64 n4), (.int .u64 n5)]), (.bool (iEq op_0 18))] h)).bind fun p6 =>
 cond (aggIs 2 p6.1)
 (((gI .u64 (aggC 0 p6.1))).bind fun n7 =>
 ((gI .u64 (aggC 1 p6.1))).bind fun n8 =>
 ((stL p6.2 t_10 [(.int .u64 n7), (.int .u64 n8)])).bind fun x9 =>
 ((gI .u64 (rdC x9 t_10 0))).bind fun n10 =>
 ((gI .u64 (rdC x9 t_10 1))).bind fun n11 =>
 some (exitR h0 x9 (.agg #[(.int .u64 n10), (.int .u64 n11)])))
 (none))
 (none))
 (cond (iEq t_91 19)
 (c10_5 n h0 op_0 w_1 widths_2 widths_2n widths_2c args_3 args_3n args_3c t_10 a_17 b_18 t_91 true h)
 (c10_5 n h0 op_0 w_1 widths_2 widths_2n widths_2c args_3 args_3n args_3c t_10 a_17 b_18 t_91 (iEq t_91 20) h)) := by kernel_rfl
theorem c10_5_eq (N : NewF) (n  : Nat) (h0 : AH) (op_0 w_1 : Int) (widths_2 : Option Addr) (widths_2n widths_2c : Nat) (args_3 : Option Addr) (args_3n args_3c : Nat) (t_10 a_17 b_18 : Addr) (t_91 : Int) (t_233 : Bool) (h : AH) : c10_5Y N n  h0 op_0 w_1 widths_2 widths_2n widths_2c args_3 args_3n args_3c t_10 a_17 b_18 t_91 t_233 h =
 cond t_233
 ((widths_2).bind fun a0 =>
 cond (inB 0 widths_2n)
 (((gI .i64 (rdC h (Addr.add a0 0) 0))).bind fun n1 =>
 (widths_2).bind fun a2 =>
 cond (inB 0 widths_2n)
 (((gI .i64 (rdC h (Addr.add a2 0) 0))).bind fun n3 =>
 ((gI .u64 (rdC h a_17 0))).bind fun n4 =>
 ((gI .u64 (rdC h a_17 1))).bind fun n5 =>
 ((runS Tryd.prog n 34 [(.int .i64 n3), (.agg #[(.int .u64 n4), (.int .u64 n5)])] (setLow h h.next))).bind fun p6 =>
 cond (aggIs 2 p6.1)
 (((gI .u64 (aggC 0 p6.1))).bind fun n7 =>
 ((gI .u64 (aggC 1 p6.1))).bind fun n8 =>
 cond (Nat.beq p6.2.low h.next)
 ((widths_2).bind fun a9 =>
 cond (inB 0 widths_2n)
 (((gI .i64 (rdC (setLow p6.2 h.low) (Addr.add a9 0) 0))).bind fun n10 =>
 ((gI .u64 (rdC (setLow p6.2 h.low) b_18 0))).bind fun n11 =>
 ((gI .u64 (rdC (setLow p6.2 h.low) b_18 1))).bind fun n12 =>
 ((runS Tryd.prog n 34 [(.int .i64 n10), (.agg #[(.int .u64 n11), (.int .u64 n12)])] (setLow (setLow p6.2 h.low) (setLow p6.2 h.low).next))).bind fun p13 =>
 cond (aggIs 2 p13.1)
 (((gI .u64 (aggC 0 p13.1))).bind fun n14 =>
 ((gI .u64 (aggC 1 p13.1))).bind fun n15 =>
 cond (Nat.beq p13.2.low (setLow p6.2 h.low).next)
 (((runS Tryd.prog n 33 [(.int .i64 n1), (.agg #[(.int .u64 n7), (.int .u64 n8)]), (.agg #[(.int .u64 n14), (.int .u64 n15)]), (.bool (iEq op_0 20))] (setLow p13.2 (setLow p6.2 h.low).low))).bind fun p16 =>
 cond (aggIs 2 p16.1)
 (((gI .u64 (aggC 0 p16.1))).bind fun n17 =>
 ((gI .u64 (aggC 1 p16.1))).bind fun n18 =>
 ((stL p16.2 t_10 [(.int .u64 n17), (.int .u64 n18)])).bind fun x19 =>
 ((gI .u64 (rdC x19 t_10 0))).bind fun n20 =>
 ((gI .u64 (rdC x19 t_10 1))).bind fun n21 =>
 some (exitR h0 x19 (.agg #[(.int .u64 n20), (.int .u64 n21)])))
 (none))
 (none))
 (none))
 (none))
 (none))
 (none))
 (none))
 (none))
 (cond (iEq t_91 21)
 (((gI .u64 (rdC h a_17 0))).bind fun n22 =>
 ((gI .u64 (rdC h a_17 1))).bind fun n23 =>
 ((runS Tryd.prog n 13 [(.int .i64 1), (.agg #[(.int .u64 n22), (.int .u64 n23)])] h)).bind fun p24 =>
 cond (tupIs 2 p24.1)
 (((gI .u64 (tupC 0 p24.1))).bind fun n25 =>
 ((gB (tupC 1 p24.1))).bind fun b26 =>
 cond b26
 ((args_3).bind fun a27 =>
 cond (inB (iSub .u64 2 n25) args_3n)
 (((gI .u64 (rdC p24.2 (Addr.add a27 ((Int.toNat (iSub .u64 2 n25)) * 2)) 0))).bind fun n28 =>
 ((gI .u64 (rdC p24.2 (Addr.add a27 ((Int.toNat (iSub .u64 2 n25)) * 2)) 1))).bind fun n29 =>
 ((stL p24.2 t_10 [(.int .u64 n28), (.int .u64 n29)])).bind fun x30 =>
 ((gI .u64 (rdC x30 t_10 0))).bind fun n31 =>
 ((gI .u64 (rdC x30 t_10 1))).bind fun n32 =>
 some (exitR h0 x30 (.agg #[(.int .u64 n31), (.int .u64 n32)])))
 (none))
 (((gI .u64 (rdC p24.2 b_18 0))).bind fun n33 =>
 ((gI .u64 (rdC p24.2 b_18 1))).bind fun n34 =>
 (args_3).bind fun a35 =>
 cond (inB 2 args_3n)
 (((gI .u64 (rdC p24.2 (Addr.add a35 4) 0))).bind fun n36 =>
 ((gI .u64 (rdC p24.2 (Addr.add a35 4) 1))).bind fun n37 =>
 ((runS Tryd.prog n 35 [(.agg #[(.int .u64 n33), (.int .u64 n34)]), (.agg #[(.int .u64 n36), (.int .u64 n37)])] p24.2)).bind fun p38 =>
 cond (aggIs 2 p38.1)
 (((gI .u64 (aggC 0 p38.1))).bind fun n39 =>
 ((gI .u64 (aggC 1 p38.1))).bind fun n40 =>
 ((stL p38.2 t_10 [(.int .u64 n39), (.int .u64 n40)])).bind fun x41 =>
 ((gI .u64 (rdC x41 t_10 0))).bind fun n42 =>
 ((gI .u64 (rdC x41 t_10 1))).bind fun n43 =>
 some (exitR h0 x41 (.agg #[(.int .u64 n42), (.int .u64 n43)])))
 (none))
 (none)))
 (none))
 (cond (iEq t_91 22)
 (((gI .u64 (rdC h (Addr.add a_17 0) 0))).bind fun n44 =>
 ((runS Tryd.prog n 36 [(.int .i64 w_1)] (setLow h h.next))).bind fun p45 =>
 ((gI .u64 (some p45.1))).bind fun n46 =>
 cond (Nat.beq p45.2.low h.next)
 ((widths_2).bind fun a47 =>
 cond (inB 0 widths_2n)
 (((gI .i64 (rdC (setLow p45.2 h.low) (Addr.add a47 0) 0))).bind fun n48 =>
 ((runS Tryd.prog n 36 [(.int .i64 n48)] (setLow (setLow p45.2 h.low) (setLow p45.2 h.low).next))).bind fun p49 =>
 ((gI .u64 (some p49.1))).bind fun n50 =>
 cond (Nat.beq p49.2.low (setLow p45.2 h.low).next)
 (((gI .u64 (rdC (setLow p49.2 (setLow p45.2 h.low).low) (Addr.add a_17 1) 0))).bind fun n51 =>
 ((stL (setLow p49.2 (setLow p45.2 h.low).low) t_10 [(.int .u64 (iOr .u64 n44 (iAndNot .u64 n46 n50))), (.int .u64 n51)])).bind fun x52 =>
 ((gI .u64 (rdC x52 t_10 0))).bind fun n53 =>
 ((gI .u64 (rdC x52 t_10 1))).bind fun n54 =>
 some (exitR h0 x52 (.agg #[(.int .u64 n53), (.int .u64 n54)])))
 (none))
 (none))
 (none))
 (cond (iEq t_91 23)
 ((widths_2).bind fun a55 =>
 cond (inB 0 widths_2n)
 (((gI .i64 (rdC h (Addr.add a55 0) 0))).bind fun n56 =>
 cond (iLt (iSub .i64 n56 1) 0)
 (none)
 (((gI .u64 (rdC h a_17 0))).bind fun n57 =>
 ((gI .u64 (rdC h a_17 1))).bind fun n58 =>
 ((runS Tryd.prog n 36 [(.int .i64 w_1)] (setLow h h.next))).bind fun p59 =>
 ((gI .u64 (some p59.1))).bind fun n60 =>
 cond (Nat.beq p59.2.low h.next)
 ((widths_2).bind fun a61 =>
 cond (inB 0 widths_2n)
 (((gI .i64 (rdC (setLow p59.2 h.low) (Addr.add a61 0) 0))).bind fun n62 =>
 ((runS Tryd.prog n 36 [(.int .i64 n62)] (setLow (setLow p59.2 h.low) (setLow p59.2 h.low).next))).bind fun p63 =>
 ((gI .u64 (some p63.1))).bind fun n64 =>
 cond (Nat.beq p63.2.low (setLow p59.2 h.low).next)
 (((N (setLow p63.2 (setLow p59.2 h.low).low) [(.int .u64 0), (.int .u64 0)] 0)).bind fun p65 =>
 ((stL p65.2 ⟨p65.1, 0, none⟩ [(.int .u64 n57), (.int .u64 n58)])).bind fun x66 =>
 ((gI .u64 (rdC x66 (Addr.add a_17 0) 0))).bind fun n67 =>
 cond (iNe (iAnd .u64 n67 (iShl .u64 1 (iSub .i64 n56 1))) 0)
 (((gI .u64 (rdC x66 (Addr.add ⟨p65.1, 0, none⟩ 0) 0))).bind fun n68 =>
 ((stL x66 (Addr.add ⟨p65.1, 0, none⟩ 0) [(.int .u64 (iOr .u64 n68 (iAndNot .u64 n60 n64)))])).bind fun x69 =>
 c10_6 n h0 t_10 a_17 (iShl .u64 1 (iSub .i64 n56 1)) ⟨p65.1, 0, none⟩ (iAndNot .u64 n60 n64) x69)
 (c10_6 n h0 t_10 a_17 (iShl .u64 1 (iSub .i64 n56 1)) ⟨p65.1, 0, none⟩ (iAndNot .u64 n60 n64) x66))
 (none))
 (none))
 (none)))
 (none))
 (cond (iEq t_91 24)
 (((gI .u64 (rdC h (Addr.add a_17 0) 0))).bind fun n70 =>
 ((runS Tryd.prog n 36 [(.int .i64 w_1)] (setLow h h.next))).bind fun p71 =>
 ((gI .u64 (some p71.1))).bind fun n72 =>
 cond (Nat.beq p71.2.low h.next)
 (((gI .u64 (rdC (setLow p71.2 h.low) (Addr.add a_17 1) 0))).bind fun n73 =>
 ((runS Tryd.prog n 36 [(.int .i64 w_1)] (setLow (setLow p71.2 h.low) (setLow p71.2 h.low).next))).bind fun p74 =>
 ((gI .u64 (some p74.1))).bind fun n75 =>
 cond (Nat.beq p74.2.low (setLow p71.2 h.low).next)
 (((stL (setLow p74.2 (setLow p71.2 h.low).low) t_10 [(.int .u64 (iAnd .u64 n70 n72)), (.int .u64 (iAnd .u64 n73 n75))])).bind fun x76 =>
 ((gI .u64 (rdC x76 t_10 0))).bind fun n77 =>
 ((gI .u64 (rdC x76 t_10 1))).bind fun n78 =>
 some (exitR h0 x76 (.agg #[(.int .u64 n77), (.int .u64 n78)])))
 (none))
 (none))
 (((stL h t_10 [(.int .u64 0), (.int .u64 0)])).bind fun x79 =>
 ((gI .u64 (rdC x79 t_10 0))).bind fun n80 =>
 ((gI .u64 (rdC x79 t_10 1))).bind fun n81 =>
 some (exitR h0 x79 (.agg #[(.int .u64 n80), (.int .u64 n81)]))))))) := by kernel_rfl
theorem c10_6_eq (N : NewF) (n  : Nat) (h0 : AH) (t_10 a_17 : Addr) (sign_23 : Int) (out_24 : Addr) (top_25 : Int) (h : AH) : c10_6Y N n  h0 t_10 a_17 sign_23 out_24 top_25 h =
 ((gI .u64 (rdC h (Addr.add a_17 1) 0))).bind fun n0 =>
 cond (iNe (iAnd .u64 n0 sign_23) 0)
 (((gI .u64 (rdC h (Addr.add out_24 1) 0))).bind fun n1 =>
 ((stL h (Addr.add out_24 1) [(.int .u64 (iOr .u64 n1 top_25))])).bind fun x2 =>
 ((gI .u64 (rdC x2 out_24 0))).bind fun n3 =>
 ((gI .u64 (rdC x2 out_24 1))).bind fun n4 =>
 ((stL x2 t_10 [(.int .u64 n3), (.int .u64 n4)])).bind fun x5 =>
 ((gI .u64 (rdC x5 t_10 0))).bind fun n6 =>
 ((gI .u64 (rdC x5 t_10 1))).bind fun n7 =>
 some (exitR h0 x5 (.agg #[(.int .u64 n6), (.int .u64 n7)])))
 (((gI .u64 (rdC h out_24 0))).bind fun n8 =>
 ((gI .u64 (rdC h out_24 1))).bind fun n9 =>
 ((stL h t_10 [(.int .u64 n8), (.int .u64 n9)])).bind fun x10 =>
 ((gI .u64 (rdC x10 t_10 0))).bind fun n11 =>
 ((gI .u64 (rdC x10 t_10 1))).bind fun n12 =>
 some (exitR h0 x10 (.agg #[(.int .u64 n11), (.int .u64 n12)]))) := by kernel_rfl
end Go.Proofs.YtiadfnedbbkojaaDoor.Kb
namespace Go.Proofs.YtiadfnedbbkojaaDoor.Kb
open Go Go.Proofs Go.Proofs.YtiadfnedbbkojaaDoor Go.Proofs.YtiadfnedbbkojaaDoor.X
set_option maxRecDepth 100000
set_option linter.unusedVariables false
def p11 : List (List Nat × List Nat) := [([1, 1, 1], [0, 1, 2, 3, 4, 10, 11]), ([0, 1, 0, 1, 1, 1, 1, 1], [0, 1, 2, 3, 4, 10, 11, 12, 13, 14]), ([1, 1, 0, 0, 1, 0, 0, 1, 0, 1, 1, 1, 1, 1], [0, 1, 2, 3, 4, 10, 11, 12, 13, 14]), ([1, 1, 1, 1, 1, 1, 1, 1, 1, 1], [0, 1, 2, 3, 10, 11, 15, 16]), ([1, 1, 1, 1, 1, 1, 1, 1, 1, 1, 1, 1, 1, 1, 1, 1, 1, 0, 1, 0, 1, 1, 1, 1, 1, 1, 1, 1, 1, 1], [0, 1, 2, 3, 10, 11, 15, 16, 88, 179]), ([1, 1, 1, 1, 1, 1, 1, 1, 1, 1, 1, 1, 1, 1, 1, 1, 1, 1, 1, 0, 1, 0, 1, 1, 1, 1, 1, 1, 1, 1, 1, 1], [0, 1, 2, 3, 10, 15, 16, 88, 183]), ([1, 0, 1, 1, 1, 1, 1, 1, 1, 1, 1, 1, 1, 1, 1, 1, 1, 1, 1, 1, 1, 1, 1, 0, 1, 0, 1, 1, 1, 1, 1, 1, 1, 1, 1, 1], [0, 2, 3, 10, 15, 16]), ([0, 1, 0, 1, 0, 1, 1, 1, 1, 1, 1, 1, 1, 1, 1, 1, 1, 1, 1, 1, 1, 1, 1, 1, 1, 1, 1, 1, 1, 1, 0, 1, 0, 1, 1, 1, 1, 1, 1, 1, 1, 1, 1], [0, 1, 2, 10, 15, 16, 17, 18]), ([1, 1, 1, 1, 1, 1, 1, 1, 1, 1, 1], [0, 2, 10, 15, 16])]
end Go.Proofs.YtiadfnedbbkojaaDoor.Kb
namespace Go.Proofs.YtiadfnedbbkojaaDoor.Kb
open Go Go.Proofs Go.Proofs.YtiadfnedbbkojaaDoor Go.Proofs.YtiadfnedbbkojaaDoor.X
set_option maxRecDepth 100000
set_option linter.unusedVariables false
def p12 : List (List Nat × List Nat) := [([1, 1], [1]), ([0, 1, 0, 1, 1], [1, 28, 29, 30])]
section
variable (N : NewF) (n : Nat) (h0 : AH) (c_1 : Addr) (h : AH)
 noncomputable def c12_0 : Option (Go.Value × AH) := resY Tryd.prog n Tryd.f12 h0 (.code (subC (bodyC Tryd.f12) [1, 1]) [1, 1]) [] (E [(1, .pointer (some c_1))]) h
 noncomputable def c12_0Y : Option (Go.Value × AH) := yfrom Tryd.prog (runS Tryd.prog n) n Tryd.f12 h0 p12 N (resY Tryd.prog n Tryd.f12 h0) (subC (bodyC Tryd.f12) [1, 1]) [1, 1] [] (E [(1, .pointer (some c_1))]) h
variable {n} {h0} {c_1} {h}
theorem c12_0_ok {r : Go.Value × AH} (hv : c12_0Y hNew n h0 c_1 h = some r) : c12_0 n h0 c_1 h = some r := yfrom_ok hv
end
section
variable (N : NewF) (n m0 : Nat) (h0 : AH) (c_1 : Addr) (t_28 : Option Addr) (t_28n t_28c : Nat) (t_29 t_30 : Int) (h : AH)
 noncomputable def c12_1 : Option (Go.Value × AH) := resY Tryd.prog n Tryd.f12 h0 (.head (subC (bodyC Tryd.f12) [1, 1, 0, 1, 0, 0]) [0, 1, 0, 1, 1] m0) [.block 0, .seq (subC (bodyC Tryd.f12) [1, 1, 1]) [1, 1, 1]] (E [(1, .pointer (some c_1)), (28, .slice t_28 t_28n t_28c), (29, .int .i64 t_29), (30, .int .i64 t_30)]) h
 noncomputable def c12_1Y : Option (Go.Value × AH) := yhead Tryd.prog (runS Tryd.prog n) n Tryd.f12 h0 p12 N (resY Tryd.prog n Tryd.f12 h0) (subC (bodyC Tryd.f12) [1, 1, 0, 1, 0, 0]) [0, 1, 0, 1, 1] m0 [.block 0, .seq (subC (bodyC Tryd.f12) [1, 1, 1]) [1, 1, 1]] (E [(1, .pointer (some c_1)), (28, .slice t_28 t_28n t_28c), (29, .int .i64 t_29), (30, .int .i64 t_30)]) h
variable {n m0} {h0} {c_1 t_28 t_28n t_28c t_29 t_30} {h}
theorem c12_1_ok {r : Go.Value × AH} (hv : c12_1Y hNew n m0 h0 c_1 t_28 t_28n t_28c t_29 t_30 h = some r) : c12_1 n (m0 + 1) h0 c_1 t_28 t_28n t_28c t_29 t_30 h = some r := yhead_ok hv
end
 noncomputable def t12Y (N : NewF) (n : Nat) (c_0a c_0b : Int) (c_0c : Option Addr) (c_0cn c_0cc : Nat) (c_0d : Option Addr) (c_0dn c_0dc : Nat) (c_0e : Int) (h : AH) : Option (Go.Value × AH) := yrun Tryd.prog (runS Tryd.prog n) n p12 N (resY Tryd.prog n) 12 [(.agg #[(.int .i64 c_0a), (.int .i64 c_0b), (.slice c_0c c_0cn c_0cc), (.slice c_0d c_0dn c_0dc), (.int .u64 c_0e)])] h
theorem t12_ok {n : Nat} {c_0a c_0b : Int} {c_0c : Option Addr} {c_0cn c_0cc : Nat} {c_0d : Option Addr} {c_0dn c_0dc : Nat} {c_0e : Int} {h : AH} {r : Go.Value × AH} (hv : t12Y hNew n c_0a c_0b c_0c c_0cn c_0cc c_0d c_0dn c_0dc c_0e h = some r) : runS Tryd.prog (n + 1) 12 [(.agg #[(.int .i64 c_0a), (.int .i64 c_0b), (.slice c_0c c_0cn c_0cc), (.slice c_0d c_0dn c_0dc), (.int .u64 c_0e)])] h = some r := yrun_ok hv
theorem t12 (N : NewF) (n : Nat) (c_0a c_0b : Int) (c_0c : Option Addr) (c_0cn c_0cc : Nat) (c_0d : Option Addr) (c_0dn c_0dc : Nat) (c_0e : Int) (h : AH) : t12Y N n c_0a c_0b c_0c c_0cn c_0cc c_0d c_0dn c_0dc c_0e h =
 ((N (setLow h h.next) [(.int .i64 c_0a), (.int .i64 c_0b), (.slice c_0c c_0cn c_0cc), (.slice c_0d c_0dn c_0dc), (.int .u64 c_0e)] 0)).bind fun p0 =>
 ((gI .i64 (rdC p0.2 ⟨p0.1, 0, none⟩ 0))).bind fun n1 =>
 ((gI .i64 (rdC p0.2 ⟨p0.1, 0, none⟩ 1))).bind fun n2 =>
 ((gL (rdC p0.2 ⟨p0.1, 0, none⟩ 2))).bind fun p3 =>
 ((gL (rdC p0.2 ⟨p0.1, 0, none⟩ 3))).bind fun p4 =>
 ((gI .u64 (rdC p0.2 ⟨p0.1, 0, none⟩ 4))).bind fun n5 =>
 ((runS Tryd.prog n 9 [(.agg #[(.int .i64 n1), (.int .i64 n2), (.slice p3.1 p3.2.1 p3.2.2), (.slice p4.1 p4.2.1 p4.2.2), (.int .u64 n5)])] p0.2)).bind fun p6 =>
 ((gB (some p6.1))).bind fun b7 =>
 cond (Bool.not b7)
 (some (exitR h p6.2 (.bool false)))
 (((gI .i64 (rdC p6.2 (Addr.add ⟨p0.1, 0, none⟩ 0) 0))).bind fun n8 =>
 ((gI .i64 (rdC p6.2 (Addr.add ⟨p0.1, 0, none⟩ 1) 0))).bind fun n9 =>
 ((gL (rdC p6.2 (Addr.add ⟨p0.1, 0, none⟩ 2) 0))).bind fun p10 =>
 ((runS Tryd.prog n 17 [(.int .i64 n8), (.int .i64 n9), (.slice p10.1 p10.2.1 p10.2.2)] p6.2)).bind fun p11 =>
 ((gB (some p11.1))).bind fun b12 =>
 cond (Bool.not b12)
 (some (exitR h p11.2 (.bool false)))
 (((gL (rdC p11.2 (Addr.add ⟨p0.1, 0, none⟩ 3) 0))).bind fun p13 =>
 ((gL (rdC p11.2 (Addr.add ⟨p0.1, 0, none⟩ 2) 0))).bind fun p14 =>
 cond (iNe (Int.ofNat p13.2.1) (Int.ofNat p14.2.1))
 (some (exitR h p11.2 (.bool false)))
 (c12_0 n h ⟨p0.1, 0, none⟩ p11.2))) := by kernel_rfl
theorem c12_0_eq (N : NewF) (n  : Nat) (h0 : AH) (c_1 : Addr) (h : AH) : c12_0Y N n  h0 c_1 h =
 ((gL (rdC h (Addr.add c_1 3) 0))).bind fun p0 =>
 c12_1 n n h0 c_1 p0.1 p0.2.1 p0.2.2 (Int.ofNat p0.2.1) 0 h := by kernel_rfl
theorem c12_1_eq (N : NewF) (n m0 : Nat) (h0 : AH) (c_1 : Addr) (t_28 : Option Addr) (t_28n t_28c : Nat) (t_29 t_30 : Int) (h : AH) : c12_1Y N n m0 h0 c_1 t_28 t_28n t_28c t_29 t_30 h =
 cond (iLt t_30 t_29)
 ((t_28).bind fun a0 =>
 cond (inB t_30 t_28n)
 (((gI .u64 (rdC h (Addr.add a0 ((Int.toNat t_30) * 2)) 0))).bind fun n1 =>
 ((gI .u64 (rdC h (Addr.add a0 ((Int.toNat t_30) * 2)) 1))).bind fun n2 =>
 ((N h [(.int .u64 0), (.int .u64 0)] 0)).bind fun p3 =>
 ((stL p3.2 ⟨p3.1, 0, none⟩ [(.int .u64 n1), (.int .u64 n2)])).bind fun x4 =>
 ((gL (rdC x4 (Addr.add c_1 2) 0))).bind fun p5 =>
 (p5.1).bind fun a6 =>
 cond (inB t_30 p5.2.1)
 (((gI .i64 (rdC x4 (Addr.add a6 ((Int.toNat t_30) * 1)) 0))).bind fun n7 =>
 ((gI .u64 (rdC x4 ⟨p3.1, 0, none⟩ 0))).bind fun n8 =>
 ((gI .u64 (rdC x4 ⟨p3.1, 0, none⟩ 1))).bind fun n9 =>
 ((runS Tryd.prog n 37 [(.int .i64 n7), (.agg #[(.int .u64 n8), (.int .u64 n9)])] x4)).bind fun p10 =>
 ((gB (some p10.1))).bind fun b11 =>
 cond (Bool.not b11)
 (some (exitR h0 p10.2 (.bool false)))
 (c12_1 n m0 h0 c_1 t_28 t_28n t_28c t_29 (iAdd .i64 t_30 1) p10.2))
 (none))
 (none))
 (some (exitR h0 h (.bool true))) := by kernel_rfl
end Go.Proofs.YtiadfnedbbkojaaDoor.Kb
