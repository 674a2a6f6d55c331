/- Joined texts: HB. -/
import Derived.KernelRfl
import Derived.Test.YtiadfnedbbkojaaDoorYA
import Derived.Test.YtiadfnedbbkojaaDoorProg
namespace Go.Proofs.YtiadfnedbbkojaaDoor.Kb
open Go Go.Proofs Go.Proofs.YtiadfnedbbkojaaDoor Go.Proofs.YtiadfnedbbkojaaDoor.X
set_option maxRecDepth 100000
set_option linter.unusedVariables false
def p41 : List (List Nat × List Nat) := [([0, 1, 0, 1, 1, 1, 1], [6, 7, 8, 9, 10])]
section
variable (N : NewF) (n m0 : Nat) (h0 : AH) (t_6 out_7 : Addr) (k_8 p_9 i_10 : Int) (h : AH)
 noncomputable def c41_0 : Option (Go.Value × AH) := resY Tryd.prog n Tryd.f41 h0 (.head (subC (bodyC Tryd.f41) [1, 1, 1, 1, 0, 1, 0, 0]) [0, 1, 0, 1, 1, 1, 1] m0) [.block 0, .seq (subC (bodyC Tryd.f41) [1, 1, 1, 1, 1]) [1, 1, 1, 1, 1]] (E [(6, .pointer (some t_6)), (7, .pointer (some out_7)), (8, .int .i64 k_8), (9, .int .u64 p_9), (10, .int .i64 i_10)]) h
 noncomputable def c41_0Y : Option (Go.Value × AH) := yhead Tryd.prog (runS Tryd.prog n) n Tryd.f41 h0 p41 N (resY Tryd.prog n Tryd.f41 h0) (subC (bodyC Tryd.f41) [1, 1, 1, 1, 0, 1, 0, 0]) [0, 1, 0, 1, 1, 1, 1] m0 [.block 0, .seq (subC (bodyC Tryd.f41) [1, 1, 1, 1, 1]) [1, 1, 1, 1, 1]] (E [(6, .pointer (some t_6)), (7, .pointer (some out_7)), (8, .int .i64 k_8), (9, .int .u64 p_9), (10, .int .i64 i_10)]) h
variable {n m0} {h0} {t_6 out_7 k_8 p_9 i_10} {h}
theorem c41_0_ok {r : Go.Value × AH} (hv : c41_0Y hNew n m0 h0 t_6 out_7 k_8 p_9 i_10 h = some r) : c41_0 n (m0 + 1) h0 t_6 out_7 k_8 p_9 i_10 h = some r := yhead_ok hv
end
 noncomputable def t41Y (N : NewF) (n : Nat) (w_0 a_1a a_1b b_2a b_2b : Int) (h : AH) : Option (Go.Value × AH) := yrun Tryd.prog (runS Tryd.prog n) n p41 N (resY Tryd.prog n) 41 [(.int .i64 w_0), (.agg #[(.int .u64 a_1a), (.int .u64 a_1b)]), (.agg #[(.int .u64 b_2a), (.int .u64 b_2b)])] h
theorem t41_ok {n : Nat} {w_0 a_1a a_1b b_2a b_2b : Int} {h : AH} {r : Go.Value × AH} (hv : t41Y hNew n w_0 a_1a a_1b b_2a b_2b h = some r) : runS Tryd.prog (n + 1) 41 [(.int .i64 w_0), (.agg #[(.int .u64 a_1a), (.int .u64 a_1b)]), (.agg #[(.int .u64 b_2a), (.int .u64 b_2b)])] h = some r := yrun_ok hv
theorem t41 (N : NewF) (n : Nat) (w_0 a_1a a_1b b_2a b_2b : Int) (h : AH) : t41Y N n w_0 a_1a a_1b b_2a b_2b h =
 ((N (setLow h h.next) [(.int .u64 a_1a), (.int .u64 a_1b)] 0)).bind fun p0 =>
 ((N p0.2 [(.int .u64 b_2a), (.int .u64 b_2b)] 0)).bind fun p1 =>
 ((N p1.2 [(.int .u64 0), (.int .u64 0)] 0)).bind fun p2 =>
 ((gI .u64 (rdC p2.2 ⟨p0.1, 0, none⟩ 0))).bind fun n3 =>
 ((gI .u64 (rdC p2.2 ⟨p0.1, 0, none⟩ 1))).bind fun n4 =>
 ((runS Tryd.prog n 68 [(.int .i64 w_0), (.agg #[(.int .u64 n3), (.int .u64 n4)])] (setLow p2.2 p2.2.next))).bind fun p5 =>
 ((gI .i64 (some p5.1))).bind fun n6 =>
 cond (Nat.beq p5.2.low p2.2.next)
 (((gI .u64 (rdC (setLow p5.2 p2.2.low) ⟨p1.1, 0, none⟩ 0))).bind fun n7 =>
 ((gI .u64 (rdC (setLow p5.2 p2.2.low) ⟨p1.1, 0, none⟩ 1))).bind fun n8 =>
 ((runS Tryd.prog n 68 [(.int .i64 w_0), (.agg #[(.int .u64 n7), (.int .u64 n8)])] (setLow (setLow p5.2 p2.2.low) (setLow p5.2 p2.2.low).next))).bind fun p9 =>
 ((gI .i64 (some p9.1))).bind fun n10 =>
 cond (Nat.beq p9.2.low (setLow p5.2 p2.2.low).next)
 (((runS Tryd.prog n 42 [(.int .i64 w_0), (.int .i64 (iMin w_0 (iAdd .i64 n6 n10))), (.int .i64 0)] (setLow (setLow p9.2 (setLow p5.2 p2.2.low).low) (setLow p9.2 (setLow p5.2 p2.2.low).low).next))).bind fun p11 =>
 cond (aggIs 2 p11.1)
 (((gI .u64 (aggC 0 p11.1))).bind fun n12 =>
 ((gI .u64 (aggC 1 p11.1))).bind fun n13 =>
 cond (Nat.beq p11.2.low (setLow p9.2 (setLow p5.2 p2.2.low).low).next)
 (((N (setLow p11.2 (setLow p9.2 (setLow p5.2 p2.2.low).low).low) [(.int .u64 0), (.int .u64 0)] 0)).bind fun p14 =>
 ((stL p14.2 ⟨p14.1, 0, none⟩ [(.int .u64 n12), (.int .u64 n13)])).bind fun x15 =>
 ((gI .u64 (rdC x15 ⟨p0.1, 0, none⟩ 0))).bind fun n16 =>
 ((gI .u64 (rdC x15 ⟨p0.1, 0, none⟩ 1))).bind fun n17 =>
 ((runS Tryd.prog n 69 [(.int .i64 w_0), (.agg #[(.int .u64 n16), (.int .u64 n17)])] (setLow x15 x15.next))).bind fun p18 =>
 ((gI .i64 (some p18.1))).bind fun n19 =>
 cond (Nat.beq p18.2.low x15.next)
 (((gI .u64 (rdC (setLow p18.2 x15.low) ⟨p1.1, 0, none⟩ 0))).bind fun n20 =>
 ((gI .u64 (rdC (setLow p18.2 x15.low) ⟨p1.1, 0, none⟩ 1))).bind fun n21 =>
 ((runS Tryd.prog n 69 [(.int .i64 w_0), (.agg #[(.int .u64 n20), (.int .u64 n21)])] (setLow p18.2 x15.low))).bind fun p22 =>
 ((gI .i64 (some p22.1))).bind fun n23 =>
 ((gI .u64 (rdC p22.2 (Addr.add ⟨p0.1, 0, none⟩ 1) 0))).bind fun n24 =>
 ((runS Tryd.prog n 14 [(.int .i64 (iMin n19 n23))] (setLow p22.2 p22.2.next))).bind fun p25 =>
 ((gI .u64 (some p25.1))).bind fun n26 =>
 cond (Nat.beq p25.2.low p22.2.next)
 (((gI .u64 (rdC (setLow p25.2 p22.2.low) (Addr.add ⟨p1.1, 0, none⟩ 1) 0))).bind fun n27 =>
 ((runS Tryd.prog n 14 [(.int .i64 (iMin n19 n23))] (setLow (setLow p25.2 p22.2.low) (setLow p25.2 p22.2.low).next))).bind fun p28 =>
 ((gI .u64 (some p28.1))).bind fun n29 =>
 cond (Nat.beq p28.2.low (setLow p25.2 p22.2.low).next)
 (c41_0 n n h ⟨p2.1, 0, none⟩ ⟨p14.1, 0, none⟩ (iMin n19 n23) (mulS .u64 (iAnd .u64 n24 n26) (iAnd .u64 n27 n29)) 0 (setLow p28.2 (setLow p25.2 p22.2.low).low))
 (none))
 (none))
 (none))
 (none))
 (none))
 (none))
 (none) := by kernel_rfl
theorem c41_0_eq (N : NewF) (n m0 : Nat) (h0 : AH) (t_6 out_7 : Addr) (k_8 p_9 i_10 : Int) (h : AH) : c41_0Y N n m0 h0 t_6 out_7 k_8 p_9 i_10 h =
 cond (iLt i_10 k_8)
 (((gI .u64 (rdC h out_7 0))).bind fun n0 =>
 ((gI .u64 (rdC h out_7 1))).bind fun n1 =>
 ((runS Tryd.prog n 54 [(.int .u64 p_9), (.int .i64 i_10)] (setLow h h.next))).bind fun p2 =>
 ((gI .i64 (some p2.1))).bind fun n3 =>
 cond (Nat.beq p2.2.low h.next)
 (((runS Tryd.prog n 48 [(.agg #[(.int .u64 0), (.int .u64 0)]), (.int .i64 i_10), (.int .i64 n3)] (setLow (setLow p2.2 h.low) (setLow p2.2 h.low).next))).bind fun p4 =>
 cond (aggIs 2 p4.1)
 (((gI .u64 (aggC 0 p4.1))).bind fun n5 =>
 ((gI .u64 (aggC 1 p4.1))).bind fun n6 =>
 cond (Nat.beq p4.2.low (setLow p2.2 h.low).next)
 (((runS Tryd.prog n 47 [(.agg #[(.int .u64 n0), (.int .u64 n1)]), (.agg #[(.int .u64 n5), (.int .u64 n6)])] (setLow p4.2 (setLow p2.2 h.low).low))).bind fun p7 =>
 cond (aggIs 2 p7.1)
 (((gI .u64 (aggC 0 p7.1))).bind fun n8 =>
 ((gI .u64 (aggC 1 p7.1))).bind fun n9 =>
 ((stL p7.2 out_7 [(.int .u64 n8), (.int .u64 n9)])).bind fun x10 =>
 c41_0 n m0 h0 t_6 out_7 k_8 p_9 (iAdd .i64 i_10 1) x10)
 (none))
 (none))
 (none))
 (none))
 (((gI .u64 (rdC h out_7 0))).bind fun n11 =>
 ((gI .u64 (rdC h out_7 1))).bind fun n12 =>
 ((stL h t_6 [(.int .u64 n11), (.int .u64 n12)])).bind fun x13 =>
 ((gI .u64 (rdC x13 t_6 0))).bind fun n14 =>
 ((gI .u64 (rdC x13 t_6 1))).bind fun n15 =>
 some (exitR h0 x13 (.agg #[(.int .u64 n14), (.int .u64 n15)]))) := by kernel_rfl
def p42 : List (List Nat × List Nat) := [([0, 1, 0, 1, 1], [0, 1, 2, 6, 7, 8])]
section
variable (N : NewF) (n m0 : Nat) (h0 : AH) (w_0 lowest_1 highest_2 : Int) (t_6 out_7 : Addr) (i_8 : Int) (h : AH)
 noncomputable def c42_0 : Option (Go.Value × AH) := resY Tryd.prog n Tryd.f42 h0 (.head (subC (bodyC Tryd.f42) [1, 1, 0, 1, 0, 0]) [0, 1, 0, 1, 1] m0) [.block 0, .seq (subC (bodyC Tryd.f42) [1, 1, 1]) [1, 1, 1]] (E [(0, .int .i64 w_0), (1, .int .i64 lowest_1), (2, .int .i64 highest_2), (6, .pointer (some t_6)), (7, .pointer (some out_7)), (8, .int .i64 i_8)]) h
 noncomputable def c42_0Y : Option (Go.Value × AH) := yhead Tryd.prog (runS Tryd.prog n) n Tryd.f42 h0 p42 N (resY Tryd.prog n Tryd.f42 h0) (subC (bodyC Tryd.f42) [1, 1, 0, 1, 0, 0]) [0, 1, 0, 1, 1] m0 [.block 0, .seq (subC (bodyC Tryd.f42) [1, 1, 1]) [1, 1, 1]] (E [(0, .int .i64 w_0), (1, .int .i64 lowest_1), (2, .int .i64 highest_2), (6, .pointer (some t_6)), (7, .pointer (some out_7)), (8, .int .i64 i_8)]) h
variable {n m0} {h0} {w_0 lowest_1 highest_2 t_6 out_7 i_8} {h}
theorem c42_0_ok {r : Go.Value × AH} (hv : c42_0Y hNew n m0 h0 w_0 lowest_1 highest_2 t_6 out_7 i_8 h = some r) : c42_0 n (m0 + 1) h0 w_0 lowest_1 highest_2 t_6 out_7 i_8 h = some r := yhead_ok hv
end
 noncomputable def t42Y (N : NewF) (n : Nat) (w_0 lowest_1 highest_2 : Int) (h : AH) : Option (Go.Value × AH) := yrun Tryd.prog (runS Tryd.prog n) n p42 N (resY Tryd.prog n) 42 [(.int .i64 w_0), (.int .i64 lowest_1), (.int .i64 highest_2)] h
theorem t42_ok {n : Nat} {w_0 lowest_1 highest_2 : Int} {h : AH} {r : Go.Value × AH} (hv : t42Y hNew n w_0 lowest_1 highest_2 h = some r) : runS Tryd.prog (n + 1) 42 [(.int .i64 w_0), (.int .i64 lowest_1), (.int .i64 highest_2)] h = some r := yrun_ok hv
theorem t42 (N : NewF) (n : Nat) (w_0 lowest_1 highest_2 : Int) (h : AH) : t42Y N n w_0 lowest_1 highest_2 h =
 ((N (setLow h h.next) [(.int .u64 0), (.int .u64 0)] 0)).bind fun p0 =>
 ((N p0.2 [(.int .u64 0), (.int .u64 0)] 0)).bind fun p1 =>
 c42_0 n n h w_0 lowest_1 highest_2 ⟨p0.1, 0, none⟩ ⟨p1.1, 0, none⟩ 0 p1.2 := by kernel_rfl
theorem c42_0_eq (N : NewF) (n m0 : Nat) (h0 : AH) (w_0 lowest_1 highest_2 : Int) (t_6 out_7 : Addr) (i_8 : Int) (h : AH) : c42_0Y N n m0 h0 w_0 lowest_1 highest_2 t_6 out_7 i_8 h =
 cond (iLt i_8 w_0)
 (cond (iLt i_8 lowest_1)
 (((gI .u64 (rdC h out_7 0))).bind fun n0 =>
 ((gI .u64 (rdC h out_7 1))).bind fun n1 =>
 ((runS Tryd.prog n 48 [(.agg #[(.int .u64 n0), (.int .u64 n1)]), (.int .i64 i_8), (.int .i64 0)] h)).bind fun p2 =>
 cond (aggIs 2 p2.1)
 (((gI .u64 (aggC 0 p2.1))).bind fun n3 =>
 ((gI .u64 (aggC 1 p2.1))).bind fun n4 =>
 ((stL p2.2 out_7 [(.int .u64 n3), (.int .u64 n4)])).bind fun x5 =>
 c42_0 n m0 h0 w_0 lowest_1 highest_2 t_6 out_7 (iAdd .i64 i_8 1) x5)
 (none))
 (cond (iLe (iSub .i64 w_0 highest_2) i_8)
 (((gI .u64 (rdC h out_7 0))).bind fun n6 =>
 ((gI .u64 (rdC h out_7 1))).bind fun n7 =>
 ((runS Tryd.prog n 48 [(.agg #[(.int .u64 n6), (.int .u64 n7)]), (.int .i64 i_8), (.int .i64 0)] h)).bind fun p8 =>
 cond (aggIs 2 p8.1)
 (((gI .u64 (aggC 0 p8.1))).bind fun n9 =>
 ((gI .u64 (aggC 1 p8.1))).bind fun n10 =>
 ((stL p8.2 out_7 [(.int .u64 n9), (.int .u64 n10)])).bind fun x11 =>
 c42_0 n m0 h0 w_0 lowest_1 highest_2 t_6 out_7 (iAdd .i64 i_8 1) x11)
 (none))
 (c42_0 n m0 h0 w_0 lowest_1 highest_2 t_6 out_7 (iAdd .i64 i_8 1) h)))
 (((gI .u64 (rdC h out_7 0))).bind fun n12 =>
 ((gI .u64 (rdC h out_7 1))).bind fun n13 =>
 ((stL h t_6 [(.int .u64 n12), (.int .u64 n13)])).bind fun x14 =>
 ((gI .u64 (rdC x14 t_6 0))).bind fun n15 =>
 ((gI .u64 (rdC x14 t_6 1))).bind fun n16 =>
 some (exitR h0 x14 (.agg #[(.int .u64 n15), (.int .u64 n16)]))) := by kernel_rfl
def p43 : List (List Nat × List Nat) := [([0, 0, 1, 1], [0, 2, 4, 7])]
section
variable (N : NewF) (n m0 : Nat) (h0 : AH) (w_0 v_2 : Int) (b_4 : Addr) (n_7 : Int) (h : AH)
 noncomputable def c43_0 : Option (Go.Value × AH) := resY Tryd.prog n Tryd.f43 h0 (.head (subC (bodyC Tryd.f43) [1, 1, 0, 0, 0]) [0, 0, 1, 1] m0) [.block 0, .seq (subC (bodyC Tryd.f43) [1, 1, 1]) [1, 1, 1]] (E [(0, .int .i64 w_0), (2, .int .i64 v_2), (4, .pointer (some b_4)), (7, .int .i64 n_7)]) h
 noncomputable def c43_0Y : Option (Go.Value × AH) := yhead Tryd.prog (runS Tryd.prog n) n Tryd.f43 h0 p43 N (resY Tryd.prog n Tryd.f43 h0) (subC (bodyC Tryd.f43) [1, 1, 0, 0, 0]) [0, 0, 1, 1] m0 [.block 0, .seq (subC (bodyC Tryd.f43) [1, 1, 1]) [1, 1, 1]] (E [(0, .int .i64 w_0), (2, .int .i64 v_2), (4, .pointer (some b_4)), (7, .int .i64 n_7)]) h
variable {n m0} {h0} {w_0 v_2 b_4 n_7} {h}
theorem c43_0_ok {r : Go.Value × AH} (hv : c43_0Y hNew n m0 h0 w_0 v_2 b_4 n_7 h = some r) : c43_0 n (m0 + 1) h0 w_0 v_2 b_4 n_7 h = some r := yhead_ok hv
end
 noncomputable def t43Y (N : NewF) (n : Nat) (w_0 b_1a b_1b v_2 : Int) (h : AH) : Option (Go.Value × AH) := yrun Tryd.prog (runS Tryd.prog n) n p43 N (resY Tryd.prog n) 43 [(.int .i64 w_0), (.agg #[(.int .u64 b_1a), (.int .u64 b_1b)]), (.int .i64 v_2)] h
theorem t43_ok {n : Nat} {w_0 b_1a b_1b v_2 : Int} {h : AH} {r : Go.Value × AH} (hv : t43Y hNew n w_0 b_1a b_1b v_2 h = some r) : runS Tryd.prog (n + 1) 43 [(.int .i64 w_0), (.agg #[(.int .u64 b_1a), (.int .u64 b_1b)]), (.int .i64 v_2)] h = some r := yrun_ok hv
theorem t43 (N : NewF) (n : Nat) (w_0 b_1a b_1b v_2 : Int) (h : AH) : t43Y N n w_0 b_1a b_1b v_2 h =
 ((N (setLow h h.next) [(.int .u64 b_1a), (.int .u64 b_1b)] 0)).bind fun p0 =>
 c43_0 n n h w_0 v_2 ⟨p0.1, 0, none⟩ 0 p0.2 := by kernel_rfl
theorem c43_0_eq (N : NewF) (n m0 : Nat) (h0 : AH) (w_0 v_2 : Int) (b_4 : Addr) (n_7 : Int) (h : AH) : c43_0Y N n m0 h0 w_0 v_2 b_4 n_7 h =
 cond (iLt n_7 w_0)
 (((gI .u64 (rdC h b_4 0))).bind fun n0 =>
 ((gI .u64 (rdC h b_4 1))).bind fun n1 =>
 ((runS Tryd.prog n 49 [(.agg #[(.int .u64 n0), (.int .u64 n1)]), (.int .i64 (iSub .i64 (iSub .i64 w_0 1) n_7))] h)).bind fun p2 =>
 ((gI .i64 (some p2.1))).bind fun n3 =>
 cond (iEq n3 v_2)
 (c43_0 n m0 h0 w_0 v_2 b_4 (iAdd .i64 n_7 1) p2.2)
 (some (exitR h0 p2.2 (.int .i64 n_7))))
 (some (exitR h0 h (.int .i64 n_7))) := by kernel_rfl
def p44 : List (List Nat × List Nat) := [([0, 1, 0, 1, 1], [0, 4, 5, 6, 7, 8]), ([0, 1, 0, 0, 1, 0, 0, 1, 0, 1, 1], [0, 4, 5, 6, 7, 8]), ([0, 1, 1, 0, 1, 0, 0, 1, 0, 0, 1, 0, 1, 1], [0, 4, 5, 6, 7, 8, 9])]
section
variable (N : NewF) (n m0 : Nat) (h0 : AH) (w_0 : Int) (a_4 b_5 t_6 out_7 : Addr) (k_8 : Int) (h : AH)
 noncomputable def c44_0 : Option (Go.Value × AH) := resY Tryd.prog n Tryd.f44 h0 (.head (subC (bodyC Tryd.f44) [1, 1, 0, 1, 0, 0]) [0, 1, 0, 1, 1] m0) [.block 0, .seq (subC (bodyC Tryd.f44) [1, 1, 1]) [1, 1, 1]] (E [(0, .int .i64 w_0), (4, .pointer (some a_4)), (5, .pointer (some b_5)), (6, .pointer (some t_6)), (7, .pointer (some out_7)), (8, .int .i64 k_8)]) h
 noncomputable def c44_0Y : Option (Go.Value × AH) := yhead Tryd.prog (runS Tryd.prog n) n Tryd.f44 h0 p44 N (resY Tryd.prog n Tryd.f44 h0) (subC (bodyC Tryd.f44) [1, 1, 0, 1, 0, 0]) [0, 1, 0, 1, 1] m0 [.block 0, .seq (subC (bodyC Tryd.f44) [1, 1, 1]) [1, 1, 1]] (E [(0, .int .i64 w_0), (4, .pointer (some a_4)), (5, .pointer (some b_5)), (6, .pointer (some t_6)), (7, .pointer (some out_7)), (8, .int .i64 k_8)]) h
variable {n m0} {h0} {w_0 a_4 b_5 t_6 out_7 k_8} {h}
theorem c44_0_ok {r : Go.Value × AH} (hv : c44_0Y hNew n m0 h0 w_0 a_4 b_5 t_6 out_7 k_8 h = some r) : c44_0 n (m0 + 1) h0 w_0 a_4 b_5 t_6 out_7 k_8 h = some r := yhead_ok hv
end
section
variable (N : NewF) (n m0 : Nat) (h0 : AH) (w_0 : Int) (a_4 b_5 t_6 out_7 : Addr) (k_8 : Int) (h : AH)
 noncomputable def c44_1 : Option (Go.Value × AH) := resY Tryd.prog n Tryd.f44 h0 (.code (subC (bodyC Tryd.f44) [1, 1, 0, 1, 0, 0, 1, 0, 0, 1, 0]) [0, 1, 0, 0, 1, 0, 0, 1, 0, 1, 1]) [.block 1, .seq (subC (bodyC Tryd.f44) [1, 1, 0, 1, 0, 0, 1, 1]) [1, 1, 0, 0, 1, 0, 1, 1], .loop (subC (bodyC Tryd.f44) [1, 1, 0, 1, 0, 0]) [0, 1, 0, 1, 1] m0, .block 0, .seq (subC (bodyC Tryd.f44) [1, 1, 1]) [1, 1, 1]] (E [(0, .int .i64 w_0), (4, .pointer (some a_4)), (5, .pointer (some b_5)), (6, .pointer (some t_6)), (7, .pointer (some out_7)), (8, .int .i64 k_8)]) h
 noncomputable def c44_1Y : Option (Go.Value × AH) := yfrom Tryd.prog (runS Tryd.prog n) n Tryd.f44 h0 p44 N (resY Tryd.prog n Tryd.f44 h0) (subC (bodyC Tryd.f44) [1, 1, 0, 1, 0, 0, 1, 0, 0, 1, 0]) [0, 1, 0, 0, 1, 0, 0, 1, 0, 1, 1] [.block 1, .seq (subC (bodyC Tryd.f44) [1, 1, 0, 1, 0, 0, 1, 1]) [1, 1, 0, 0, 1, 0, 1, 1], .loop (subC (bodyC Tryd.f44) [1, 1, 0, 1, 0, 0]) [0, 1, 0, 1, 1] m0, .block 0, .seq (subC (bodyC Tryd.f44) [1, 1, 1]) [1, 1, 1]] (E [(0, .int .i64 w_0), (4, .pointer (some a_4)), (5, .pointer (some b_5)), (6, .pointer (some t_6)), (7, .pointer (some out_7)), (8, .int .i64 k_8)]) h
variable {n m0} {h0} {w_0 a_4 b_5 t_6 out_7 k_8} {h}
theorem c44_1_ok {r : Go.Value × AH} (hv : c44_1Y hNew n m0 h0 w_0 a_4 b_5 t_6 out_7 k_8 h = some r) : c44_1 n m0 h0 w_0 a_4 b_5 t_6 out_7 k_8 h = some r := yfrom_ok hv
end
section
variable (N : NewF) (n m0 m1 : Nat) (h0 : AH) (w_0 : Int) (a_4 b_5 t_6 out_7 : Addr) (k_8 i_9 : Int) (h : AH)
 noncomputable def c44_2 : Option (Go.Value × AH) := resY Tryd.prog n Tryd.f44 h0 (.head (subC (bodyC Tryd.f44) [1, 1, 0, 1, 0, 0, 1, 0, 0, 1, 0, 1, 1, 0, 0]) [0, 1, 1, 0, 1, 0, 0, 1, 0, 0, 1, 0, 1, 1] m0) [.block 2, .block 1, .seq (subC (bodyC Tryd.f44) [1, 1, 0, 1, 0, 0, 1, 1]) [1, 1, 0, 0, 1, 0, 1, 1], .loop (subC (bodyC Tryd.f44) [1, 1, 0, 1, 0, 0]) [0, 1, 0, 1, 1] m1, .block 0, .seq (subC (bodyC Tryd.f44) [1, 1, 1]) [1, 1, 1]] (E [(0, .int .i64 w_0), (4, .pointer (some a_4)), (5, .pointer (some b_5)), (6, .pointer (some t_6)), (7, .pointer (some out_7)), (8, .int .i64 k_8), (9, .int .i64 i_9)]) h
 noncomputable def c44_2Y : Option (Go.Value × AH) := yhead Tryd.prog (runS Tryd.prog n) n Tryd.f44 h0 p44 N (resY Tryd.prog n Tryd.f44 h0) (subC (bodyC Tryd.f44) [1, 1, 0, 1, 0, 0, 1, 0, 0, 1, 0, 1, 1, 0, 0]) [0, 1, 1, 0, 1, 0, 0, 1, 0, 0, 1, 0, 1, 1] m0 [.block 2, .block 1, .seq (subC (bodyC Tryd.f44) [1, 1, 0, 1, 0, 0, 1, 1]) [1, 1, 0, 0, 1, 0, 1, 1], .loop (subC (bodyC Tryd.f44) [1, 1, 0, 1, 0, 0]) [0, 1, 0, 1, 1] m1, .block 0, .seq (subC (bodyC Tryd.f44) [1, 1, 1]) [1, 1, 1]] (E [(0, .int .i64 w_0), (4, .pointer (some a_4)), (5, .pointer (some b_5)), (6, .pointer (some t_6)), (7, .pointer (some out_7)), (8, .int .i64 k_8), (9, .int .i64 i_9)]) h
variable {n m0 m1} {h0} {w_0 a_4 b_5 t_6 out_7 k_8 i_9} {h}
theorem c44_2_ok {r : Go.Value × AH} (hv : c44_2Y hNew n m0 m1 h0 w_0 a_4 b_5 t_6 out_7 k_8 i_9 h = some r) : c44_2 n (m0 + 1) m1 h0 w_0 a_4 b_5 t_6 out_7 k_8 i_9 h = some r := yhead_ok hv
end
 noncomputable def t44Y (N : NewF) (n : Nat) (w_0 a_1a a_1b b_2a b_2b : Int) (h : AH) : Option (Go.Value × AH) := yrun Tryd.prog (runS Tryd.prog n) n p44 N (resY Tryd.prog n) 44 [(.int .i64 w_0), (.agg #[(.int .u64 a_1a), (.int .u64 a_1b)]), (.agg #[(.int .u64 b_2a), (.int .u64 b_2b)])] h
theorem t44_ok {n : Nat} {w_0 a_1a a_1b b_2a b_2b : Int} {h : AH} {r : Go.Value × AH} (hv : t44Y hNew n w_0 a_1a a_1b b_2a b_2b h = some r) : runS Tryd.prog (n + 1) 44 [(.int .i64 w_0), (.agg #[(.int .u64 a_1a), (.int .u64 a_1b)]), (.agg #[(.int .u64 b_2a), (.int .u64 b_2b)])] h = some r := yrun_ok hv
theorem t44 (N : NewF) (n : Nat) (w_0 a_1a a_1b b_2a b_2b : Int) (h : AH) : t44Y N n w_0 a_1a a_1b b_2a b_2b h =
 ((N (setLow h h.next) [(.int .u64 a_1a), (.int .u64 a_1b)] 0)).bind fun p0 =>
 ((N p0.2 [(.int .u64 b_2a), (.int .u64 b_2b)] 0)).bind fun p1 =>
 ((N p1.2 [(.int .u64 0), (.int .u64 0)] 0)).bind fun p2 =>
 ((gI .u64 (rdC p2.2 ⟨p0.1, 0, none⟩ 0))).bind fun n3 =>
 ((gI .u64 (rdC p2.2 ⟨p0.1, 0, none⟩ 1))).bind fun n4 =>
 ((runS Tryd.prog n 43 [(.int .i64 w_0), (.agg #[(.int .u64 n3), (.int .u64 n4)]), (.int .i64 0)] p2.2)).bind fun p5 =>
 ((gI .i64 (some p5.1))).bind fun n6 =>
 ((runS Tryd.prog n 42 [(.int .i64 w_0), (.int .i64 0), (.int .i64 n6)] p5.2)).bind fun p7 =>
 cond (aggIs 2 p7.1)
 (((gI .u64 (aggC 0 p7.1))).bind fun n8 =>
 ((gI .u64 (aggC 1 p7.1))).bind fun n9 =>
 ((N p7.2 [(.int .u64 0), (.int .u64 0)] 0)).bind fun p10 =>
 ((stL p10.2 ⟨p10.1, 0, none⟩ [(.int .u64 n8), (.int .u64 n9)])).bind fun x11 =>
 c44_0 n n h w_0 ⟨p0.1, 0, none⟩ ⟨p1.1, 0, none⟩ ⟨p2.1, 0, none⟩ ⟨p10.1, 0, none⟩ 0 x11)
 (none) := by kernel_rfl
theorem c44_0_eq (N : NewF) (n m0 : Nat) (h0 : AH) (w_0 : Int) (a_4 b_5 t_6 out_7 : Addr) (k_8 : Int) (h : AH) : c44_0Y N n m0 h0 w_0 a_4 b_5 t_6 out_7 k_8 h =
 cond (iLt k_8 w_0)
 (((gI .u64 (rdC h b_5 0))).bind fun n0 =>
 ((gI .u64 (rdC h b_5 1))).bind fun n1 =>
 ((runS Tryd.prog n 38 [(.int .i64 w_0), (.agg #[(.int .u64 n0), (.int .u64 n1)])] (setLow h h.next))).bind fun p2 =>
 ((gB (some p2.1))).bind fun b3 =>
 cond (Nat.beq p2.2.low h.next)
 (cond b3
 (((gI .u64 (rdC (setLow p2.2 h.low) (Addr.add b_5 1) 0))).bind fun n4 =>
 cond (iLt k_8 0)
 (none)
 (cond (iEq n4 (iShl .u64 1 k_8))
 (c44_1 n m0 h0 w_0 a_4 b_5 t_6 out_7 k_8 (setLow p2.2 h.low))
 (c44_0 n m0 h0 w_0 a_4 b_5 t_6 out_7 (iAdd .i64 k_8 1) (setLow p2.2 h.low))))
 (c44_0 n m0 h0 w_0 a_4 b_5 t_6 out_7 (iAdd .i64 k_8 1) (setLow p2.2 h.low)))
 (none))
 (((gI .u64 (rdC h out_7 0))).bind fun n5 =>
 ((gI .u64 (rdC h out_7 1))).bind fun n6 =>
 ((stL h t_6 [(.int .u64 n5), (.int .u64 n6)])).bind fun x7 =>
 ((gI .u64 (rdC x7 t_6 0))).bind fun n8 =>
 ((gI .u64 (rdC x7 t_6 1))).bind fun n9 =>
 some (exitR h0 x7 (.agg #[(.int .u64 n8), (.int .u64 n9)]))) := by kernel_rfl
theorem c44_1_eq (N : NewF) (n m0 : Nat) (h0 : AH) (w_0 : Int) (a_4 b_5 t_6 out_7 : Addr) (k_8 : Int) (h : AH) : c44_1Y N n m0 h0 w_0 a_4 b_5 t_6 out_7 k_8 h =
 ((runS Tryd.prog n 42 [(.int .i64 w_0), (.int .i64 0), (.int .i64 (iSub .i64 w_0 k_8))] h)).bind fun p0 =>
 cond (aggIs 2 p0.1)
 (((gI .u64 (aggC 0 p0.1))).bind fun n1 =>
 ((gI .u64 (aggC 1 p0.1))).bind fun n2 =>
 ((stL p0.2 out_7 [(.int .u64 n1), (.int .u64 n2)])).bind fun x3 =>
 c44_2 n n m0 h0 w_0 a_4 b_5 t_6 out_7 k_8 0 x3)
 (none) := by kernel_rfl
theorem c44_2_eq (N : NewF) (n m0 m1 : Nat) (h0 : AH) (w_0 : Int) (a_4 b_5 t_6 out_7 : Addr) (k_8 i_9 : Int) (h : AH) : c44_2Y N n m0 m1 h0 w_0 a_4 b_5 t_6 out_7 k_8 i_9 h =
 cond (iLt i_9 k_8)
 (((gI .u64 (rdC h out_7 0))).bind fun n0 =>
 ((gI .u64 (rdC h out_7 1))).bind fun n1 =>
 ((gI .u64 (rdC h a_4 0))).bind fun n2 =>
 ((gI .u64 (rdC h a_4 1))).bind fun n3 =>
 ((runS Tryd.prog n 49 [(.agg #[(.int .u64 n2), (.int .u64 n3)]), (.int .i64 i_9)] (setLow h h.next))).bind fun p4 =>
 ((gI .i64 (some p4.1))).bind fun n5 =>
 cond (Nat.beq p4.2.low h.next)
 (((runS Tryd.prog n 48 [(.agg #[(.int .u64 n0), (.int .u64 n1)]), (.int .i64 i_9), (.int .i64 n5)] (setLow p4.2 h.low))).bind fun p6 =>
 cond (aggIs 2 p6.1)
 (((gI .u64 (aggC 0 p6.1))).bind fun n7 =>
 ((gI .u64 (aggC 1 p6.1))).bind fun n8 =>
 ((stL p6.2 out_7 [(.int .u64 n7), (.int .u64 n8)])).bind fun x9 =>
 c44_2 n m0 m1 h0 w_0 a_4 b_5 t_6 out_7 k_8 (iAdd .i64 i_9 1) x9)
 (none))
 (none))
 (c44_0 n m1 h0 w_0 a_4 b_5 t_6 out_7 (iAdd .i64 k_8 1) h) := by kernel_rfl
def p45 : List (List Nat × List Nat) := [([0, 1, 0, 1, 1, 1, 0, 1, 0, 1, 1], [1, 8, 9, 11, 12]), ([1, 1, 1, 1, 1], [0, 1, 6, 8, 9, 13])]
section
variable (N : NewF) (n m0 : Nat) (h0 : AH) (w_1 : Int) (t_8 : Addr) (sign_9 : Int) (out_11 : Addr) (i_12 : Int) (h : AH)
 noncomputable def c45_0 : Option (Go.Value × AH) := resY Tryd.prog n Tryd.f45 h0 (.head (subC (bodyC Tryd.f45) [1, 1, 0, 1, 0, 1, 1, 1, 0, 1, 0, 0]) [0, 1, 0, 1, 1, 1, 0, 1, 0, 1, 1] m0) [.block 1, .seq (subC (bodyC Tryd.f45) [1, 1, 0, 1, 0, 1, 1, 1, 1]) [1, 1, 1, 1, 0, 1, 0, 1, 1], .seq (subC (bodyC Tryd.f45) [1, 1, 1]) [1, 1, 1]] (E [(1, .int .i64 w_1), (8, .pointer (some t_8)), (9, .int .i64 sign_9), (11, .pointer (some out_11)), (12, .int .i64 i_12)]) h
 noncomputable def c45_0Y : Option (Go.Value × AH) := yhead Tryd.prog (runS Tryd.prog n) n Tryd.f45 h0 p45 N (resY Tryd.prog n Tryd.f45 h0) (subC (bodyC Tryd.f45) [1, 1, 0, 1, 0, 1, 1, 1, 0, 1, 0, 0]) [0, 1, 0, 1, 1, 1, 0, 1, 0, 1, 1] m0 [.block 1, .seq (subC (bodyC Tryd.f45) [1, 1, 0, 1, 0, 1, 1, 1, 1]) [1, 1, 1, 1, 0, 1, 0, 1, 1], .seq (subC (bodyC Tryd.f45) [1, 1, 1]) [1, 1, 1]] (E [(1, .int .i64 w_1), (8, .pointer (some t_8)), (9, .int .i64 sign_9), (11, .pointer (some out_11)), (12, .int .i64 i_12)]) h
variable {n m0} {h0} {w_1 t_8 sign_9 out_11 i_12} {h}
theorem c45_0_ok {r : Go.Value × AH} (hv : c45_0Y hNew n m0 h0 w_1 t_8 sign_9 out_11 i_12 h = some r) : c45_0 n (m0 + 1) h0 w_1 t_8 sign_9 out_11 i_12 h = some r := yhead_ok hv
end
section
variable (N : NewF) (n : Nat) (h0 : AH) (op_0 w_1 : Int) (a_6 t_8 : Addr) (sign_9 n_13 : Int) (h : AH)
 noncomputable def c45_1 : Option (Go.Value × AH) := resY Tryd.prog n Tryd.f45 h0 (.code (subC (bodyC Tryd.f45) [1, 1, 1, 1, 1]) [1, 1, 1, 1, 1]) [] (E [(0, .int .i64 op_0), (1, .int .i64 w_1), (6, .pointer (some a_6)), (8, .pointer (some t_8)), (9, .int .i64 sign_9), (13, .int .i64 n_13)]) h
 noncomputable def c45_1Y : Option (Go.Value × AH) := yfrom Tryd.prog (runS Tryd.prog n) n Tryd.f45 h0 p45 N (resY Tryd.prog n Tryd.f45 h0) (subC (bodyC Tryd.f45) [1, 1, 1, 1, 1]) [1, 1, 1, 1, 1] [] (E [(0, .int .i64 op_0), (1, .int .i64 w_1), (6, .pointer (some a_6)), (8, .pointer (some t_8)), (9, .int .i64 sign_9), (13, .int .i64 n_13)]) h
variable {n} {h0} {op_0 w_1 a_6 t_8 sign_9 n_13} {h}
theorem c45_1_ok {r : Go.Value × AH} (hv : c45_1Y hNew n h0 op_0 w_1 a_6 t_8 sign_9 n_13 h = some r) : c45_1 n h0 op_0 w_1 a_6 t_8 sign_9 n_13 h = some r := yfrom_ok hv
end
 noncomputable def t45Y (N : NewF) (n : Nat) (op_0 w_1 a_2a a_2b b_3a b_3b : Int) (h : AH) : Option (Go.Value × AH) := yrun Tryd.prog (runS Tryd.prog n) n p45 N (resY Tryd.prog n) 45 [(.int .i64 op_0), (.int .i64 w_1), (.agg #[(.int .u64 a_2a), (.int .u64 a_2b)]), (.agg #[(.int .u64 b_3a), (.int .u64 b_3b)])] h
theorem t45_ok {n : Nat} {op_0 w_1 a_2a a_2b b_3a b_3b : Int} {h : AH} {r : Go.Value × AH} (hv : t45Y hNew n op_0 w_1 a_2a a_2b b_3a b_3b h = some r) : runS Tryd.prog (n + 1) 45 [(.int .i64 op_0), (.int .i64 w_1), (.agg #[(.int .u64 a_2a), (.int .u64 a_2b)]), (.agg #[(.int .u64 b_3a), (.int .u64 b_3b)])] h = some r := yrun_ok hv
theorem t45 (N : NewF) (n : Nat) (op_0 w_1 a_2a a_2b b_3a b_3b : Int) (h : AH) : t45Y N n op_0 w_1 a_2a a_2b b_3a b_3b h =
 ((N (setLow h h.next) [(.int .u64 a_2a), (.int .u64 a_2b)] 0)).bind fun p0 =>
 ((N p0.2 [(.int .u64 b_3a), (.int .u64 b_3b)] 0)).bind fun p1 =>
 ((N p1.2 [(.int .u64 0), (.int .u64 0)] 0)).bind fun p2 =>
 ((gI .u64 (rdC p2.2 ⟨p0.1, 0, none⟩ 0))).bind fun n3 =>
 ((gI .u64 (rdC p2.2 ⟨p0.1, 0, none⟩ 1))).bind fun n4 =>
 ((runS Tryd.prog n 49 [(.agg #[(.int .u64 n3), (.int .u64 n4)]), (.int .i64 (iSub .i64 w_1 1))] p2.2)).bind fun p5 =>
 ((gI .i64 (some p5.1))).bind fun n6 =>
 ((gI .u64 (rdC p5.2 ⟨p1.1, 0, none⟩ 0))).bind fun n7 =>
 ((gI .u64 (rdC p5.2 ⟨p1.1, 0, none⟩ 1))).bind fun n8 =>
 ((runS Tryd.prog n 38 [(.int .i64 w_1), (.agg #[(.int .u64 n7), (.int .u64 n8)])] p5.2)).bind fun p9 =>
 ((gB (some p9.1))).bind fun b10 =>
 cond (Bool.not b10)
 (cond (iEq op_0 12)
 (((gI .u64 (rdC p9.2 ⟨p0.1, 0, none⟩ 0))).bind fun n11 =>
 ((gI .u64 (rdC p9.2 ⟨p0.1, 0, none⟩ 1))).bind fun n12 =>
 ((runS Tryd.prog n 68 [(.int .i64 w_1), (.agg #[(.int .u64 n11), (.int .u64 n12)])] p9.2)).bind fun p13 =>
 ((gI .i64 (some p13.1))).bind fun n14 =>
 ((runS Tryd.prog n 42 [(.int .i64 w_1), (.int .i64 n14), (.int .i64 0)] p13.2)).bind fun p15 =>
 cond (aggIs 2 p15.1)
 (((gI .u64 (aggC 0 p15.1))).bind fun n16 =>
 ((gI .u64 (aggC 1 p15.1))).bind fun n17 =>
 ((stL p15.2 ⟨p2.1, 0, none⟩ [(.int .u64 n16), (.int .u64 n17)])).bind fun x18 =>
 ((gI .u64 (rdC x18 ⟨p2.1, 0, none⟩ 0))).bind fun n19 =>
 ((gI .u64 (rdC x18 ⟨p2.1, 0, none⟩ 1))).bind fun n20 =>
 some (exitR h x18 (.agg #[(.int .u64 n19), (.int .u64 n20)])))
 (none))
 (cond (iEq op_0 13)
 (((gI .u64 (rdC p9.2 ⟨p0.1, 0, none⟩ 0))).bind fun n21 =>
 ((gI .u64 (rdC p9.2 ⟨p0.1, 0, none⟩ 1))).bind fun n22 =>
 ((runS Tryd.prog n 43 [(.int .i64 w_1), (.agg #[(.int .u64 n21), (.int .u64 n22)]), (.int .i64 0)] p9.2)).bind fun p23 =>
 ((gI .i64 (some p23.1))).bind fun n24 =>
 ((runS Tryd.prog n 42 [(.int .i64 w_1), (.int .i64 0), (.int .i64 n24)] p23.2)).bind fun p25 =>
 cond (aggIs 2 p25.1)
 (((gI .u64 (aggC 0 p25.1))).bind fun n26 =>
 ((gI .u64 (aggC 1 p25.1))).bind fun n27 =>
 ((stL p25.2 ⟨p2.1, 0, none⟩ [(.int .u64 n26), (.int .u64 n27)])).bind fun x28 =>
 ((gI .u64 (rdC x28 ⟨p2.1, 0, none⟩ 0))).bind fun n29 =>
 ((gI .u64 (rdC x28 ⟨p2.1, 0, none⟩ 1))).bind fun n30 =>
 some (exitR h x28 (.agg #[(.int .u64 n29), (.int .u64 n30)])))
 (none))
 (cond (iLt n6 0)
 (((stL p9.2 ⟨p2.1, 0, none⟩ [(.int .u64 0), (.int .u64 0)])).bind fun x31 =>
 ((gI .u64 (rdC x31 ⟨p2.1, 0, none⟩ 0))).bind fun n32 =>
 ((gI .u64 (rdC x31 ⟨p2.1, 0, none⟩ 1))).bind fun n33 =>
 some (exitR h x31 (.agg #[(.int .u64 n32), (.int .u64 n33)])))
 (((gI .u64 (rdC p9.2 ⟨p0.1, 0, none⟩ 0))).bind fun n34 =>
 ((gI .u64 (rdC p9.2 ⟨p0.1, 0, none⟩ 1))).bind fun n35 =>
 ((runS Tryd.prog n 43 [(.int .i64 w_1), (.agg #[(.int .u64 n34), (.int .u64 n35)]), (.int .i64 n6)] p9.2)).bind fun p36 =>
 ((gI .i64 (some p36.1))).bind fun n37 =>
 ((N p36.2 [(.int .u64 0), (.int .u64 0)] 0)).bind fun p38 =>
 c45_0 n n h w_1 ⟨p2.1, 0, none⟩ n6 ⟨p38.1, 0, none⟩ (iSub .i64 w_1 n37) p38.2))))
 (((gI .u64 (rdC p9.2 (Addr.add ⟨p1.1, 0, none⟩ 1) 0))).bind fun n39 =>
 cond (iLt n39 (iConv .u64 w_1))
 (((gI .u64 (rdC p9.2 (Addr.add ⟨p1.1, 0, none⟩ 1) 0))).bind fun n40 =>
 c45_1 n h op_0 w_1 ⟨p0.1, 0, none⟩ ⟨p2.1, 0, none⟩ n6 (iConv .i64 n40) p9.2)
 (c45_1 n h op_0 w_1 ⟨p0.1, 0, none⟩ ⟨p2.1, 0, none⟩ n6 w_1 p9.2)) := by kernel_rfl
theorem c45_0_eq (N : NewF) (n m0 : Nat) (h0 : AH) (w_1 : Int) (t_8 : Addr) (sign_9 : Int) (out_11 : Addr) (i_12 : Int) (h : AH) : c45_0Y N n m0 h0 w_1 t_8 sign_9 out_11 i_12 h =
 cond (iLt i_12 w_1)
 (((gI .u64 (rdC h out_11 0))).bind fun n0 =>
 ((gI .u64 (rdC h out_11 1))).bind fun n1 =>
 ((runS Tryd.prog n 48 [(.agg #[(.int .u64 n0), (.int .u64 n1)]), (.int .i64 i_12), (.int .i64 sign_9)] h)).bind fun p2 =>
 cond (aggIs 2 p2.1)
 (((gI .u64 (aggC 0 p2.1))).bind fun n3 =>
 ((gI .u64 (aggC 1 p2.1))).bind fun n4 =>
 ((stL p2.2 out_11 [(.int .u64 n3), (.int .u64 n4)])).bind fun x5 =>
 c45_0 n m0 h0 w_1 t_8 sign_9 out_11 (iAdd .i64 i_12 1) x5)
 (none))
 (((gI .u64 (rdC h out_11 0))).bind fun n6 =>
 ((gI .u64 (rdC h out_11 1))).bind fun n7 =>
 ((stL h t_8 [(.int .u64 n6), (.int .u64 n7)])).bind fun x8 =>
 ((gI .u64 (rdC x8 t_8 0))).bind fun n9 =>
 ((gI .u64 (rdC x8 t_8 1))).bind fun n10 =>
 some (exitR h0 x8 (.agg #[(.int .u64 n9), (.int .u64 n10)]))) := by kernel_rfl
theorem c45_1_eq (N : NewF) (n  : Nat) (h0 : AH) (op_0 w_1 : Int) (a_6 t_8 : Addr) (sign_9 n_13 : Int) (h : AH) : c45_1Y N n  h0 op_0 w_1 a_6 t_8 sign_9 n_13 h =
 cond (iEq op_0 12)
 (((gI .u64 (rdC h a_6 0))).bind fun n0 =>
 ((gI .u64 (rdC h a_6 1))).bind fun n1 =>
 ((runS Tryd.prog n 70 [(.int .i64 w_1), (.agg #[(.int .u64 n0), (.int .u64 n1)]), (.int .i64 (iNeg .i64 n_13)), (.int .i64 0)] h)).bind fun p2 =>
 cond (aggIs 2 p2.1)
 (((gI .u64 (aggC 0 p2.1))).bind fun n3 =>
 ((gI .u64 (aggC 1 p2.1))).bind fun n4 =>
 ((stL p2.2 t_8 [(.int .u64 n3), (.int .u64 n4)])).bind fun x5 =>
 ((gI .u64 (rdC x5 t_8 0))).bind fun n6 =>
 ((gI .u64 (rdC x5 t_8 1))).bind fun n7 =>
 some (exitR h0 x5 (.agg #[(.int .u64 n6), (.int .u64 n7)])))
 (none))
 (cond (iEq op_0 13)
 (((gI .u64 (rdC h a_6 0))).bind fun n8 =>
 ((gI .u64 (rdC h a_6 1))).bind fun n9 =>
 ((runS Tryd.prog n 70 [(.int .i64 w_1), (.agg #[(.int .u64 n8), (.int .u64 n9)]), (.int .i64 n_13), (.int .i64 0)] h)).bind fun p10 =>
 cond (aggIs 2 p10.1)
 (((gI .u64 (aggC 0 p10.1))).bind fun n11 =>
 ((gI .u64 (aggC 1 p10.1))).bind fun n12 =>
 ((stL p10.2 t_8 [(.int .u64 n11), (.int .u64 n12)])).bind fun x13 =>
 ((gI .u64 (rdC x13 t_8 0))).bind fun n14 =>
 ((gI .u64 (rdC x13 t_8 1))).bind fun n15 =>
 some (exitR h0 x13 (.agg #[(.int .u64 n14), (.int .u64 n15)])))
 (none))
 (((gI .u64 (rdC h a_6 0))).bind fun n16 =>
 ((gI .u64 (rdC h a_6 1))).bind fun n17 =>
 ((runS Tryd.prog n 70 [(.int .i64 w_1), (.agg #[(.int .u64 n16), (.int .u64 n17)]), (.int .i64 n_13), (.int .i64 sign_9)] h)).bind fun p18 =>
 cond (aggIs 2 p18.1)
 (((gI .u64 (aggC 0 p18.1))).bind fun n19 =>
 ((gI .u64 (aggC 1 p18.1))).bind fun n20 =>
 ((stL p18.2 t_8 [(.int .u64 n19), (.int .u64 n20)])).bind fun x21 =>
 ((gI .u64 (rdC x21 t_8 0))).bind fun n22 =>
 ((gI .u64 (rdC x21 t_8 1))).bind fun n23 =>
 some (exitR h0 x21 (.agg #[(.int .u64 n22), (.int .u64 n23)])))
 (none))) := by kernel_rfl
end Go.Proofs.YtiadfnedbbkojaaDoor.Kb
namespace Go.Proofs.YtiadfnedbbkojaaDoor.Kb
open Go Go.Proofs Go.Proofs.YtiadfnedbbkojaaDoor Go.Proofs.YtiadfnedbbkojaaDoor.X
set_option maxRecDepth 100000
set_option linter.unusedVariables false
def p50 : List (List Nat × List Nat) := [([1, 1], [0, 1, 6, 7, 8, 9])]
section
variable (N : NewF) (n : Nat) (h0 : AH) (op_0 w_1 : Int) (a_6 b_7 t_8 : Addr) (differ_9 : Bool) (h : AH)
 noncomputable def c50_0 : Option (Go.Value × AH) := resY Tryd.prog n Tryd.f50 h0 (.code (subC (bodyC Tryd.f50) [1, 1]) [1, 1]) [] (E [(0, .int .i64 op_0), (1, .int .i64 w_1), (6, .pointer (some a_6)), (7, .pointer (some b_7)), (8, .pointer (some t_8)), (9, .bool differ_9)]) h
 noncomputable def c50_0Y : Option (Go.Value × AH) := yfrom Tryd.prog (runS Tryd.prog n) n Tryd.f50 h0 p50 N (resY Tryd.prog n Tryd.f50 h0) (subC (bodyC Tryd.f50) [1, 1]) [1, 1] [] (E [(0, .int .i64 op_0), (1, .int .i64 w_1), (6, .pointer (some a_6)), (7, .pointer (some b_7)), (8, .pointer (some t_8)), (9, .bool differ_9)]) h
variable {n} {h0} {op_0 w_1 a_6 b_7 t_8 differ_9} {h}
theorem c50_0_ok {r : Go.Value × AH} (hv : c50_0Y hNew n h0 op_0 w_1 a_6 b_7 t_8 differ_9 h = some r) : c50_0 n h0 op_0 w_1 a_6 b_7 t_8 differ_9 h = some r := yfrom_ok hv
end
 noncomputable def t50Y (N : NewF) (n : Nat) (op_0 w_1 a_2a a_2b b_3a b_3b : Int) (h : AH) : Option (Go.Value × AH) := yrun Tryd.prog (runS Tryd.prog n) n p50 N (resY Tryd.prog n) 50 [(.int .i64 op_0), (.int .i64 w_1), (.agg #[(.int .u64 a_2a), (.int .u64 a_2b)]), (.agg #[(.int .u64 b_3a), (.int .u64 b_3b)])] h
theorem t50_ok {n : Nat} {op_0 w_1 a_2a a_2b b_3a b_3b : Int} {h : AH} {r : Go.Value × AH} (hv : t50Y hNew n op_0 w_1 a_2a a_2b b_3a b_3b h = some r) : runS Tryd.prog (n + 1) 50 [(.int .i64 op_0), (.int .i64 w_1), (.agg #[(.int .u64 a_2a), (.int .u64 a_2b)]), (.agg #[(.int .u64 b_3a), (.int .u64 b_3b)])] h = some r := yrun_ok hv
theorem t50 (N : NewF) (n : Nat) (op_0 w_1 a_2a a_2b b_3a b_3b : Int) (h : AH) : t50Y N n op_0 w_1 a_2a a_2b b_3a b_3b h =
 ((N (setLow h h.next) [(.int .u64 a_2a), (.int .u64 a_2b)] 0)).bind fun p0 =>
 ((N p0.2 [(.int .u64 b_3a), (.int .u64 b_3b)] 0)).bind fun p1 =>
 ((N p1.2 [(.int .u64 0), (.int .u64 0)] 0)).bind fun p2 =>
 ((gI .u64 (rdC p2.2 (Addr.add ⟨p0.1, 0, none⟩ 1) 0))).bind fun n3 =>
 ((gI .u64 (rdC p2.2 (Addr.add ⟨p1.1, 0, none⟩ 0) 0))).bind fun n4 =>
 cond (iNe (iAnd .u64 n3 n4) 0)
 (c50_0 n h op_0 w_1 ⟨p0.1, 0, none⟩ ⟨p1.1, 0, none⟩ ⟨p2.1, 0, none⟩ true p2.2)
 (((gI .u64 (rdC p2.2 (Addr.add ⟨p0.1, 0, none⟩ 0) 0))).bind fun n5 =>
 ((gI .u64 (rdC p2.2 (Addr.add ⟨p1.1, 0, none⟩ 1) 0))).bind fun n6 =>
 c50_0 n h op_0 w_1 ⟨p0.1, 0, none⟩ ⟨p1.1, 0, none⟩ ⟨p2.1, 0, none⟩ (iNe (iAnd .u64 n5 n6) 0) p2.2) := by kernel_rfl
theorem c50_0_eq (N : NewF) (n  : Nat) (h0 : AH) (op_0 w_1 : Int) (a_6 b_7 t_8 : Addr) (differ_9 : Bool) (h : AH) : c50_0Y N n  h0 op_0 w_1 a_6 b_7 t_8 differ_9 h =
 ((gI .u64 (rdC h a_6 0))).bind fun n0 =>
 ((gI .u64 (rdC h a_6 1))).bind fun n1 =>
 ((runS Tryd.prog n 71 [(.int .i64 w_1), (.agg #[(.int .u64 n0), (.int .u64 n1)])] h)).bind fun p2 =>
 cond (tupIs 2 p2.1)
 (((gI .u64 (tupC 0 p2.1))).bind fun n3 =>
 ((gI .u64 (tupC 1 p2.1))).bind fun n4 =>
 ((gI .u64 (rdC p2.2 b_7 0))).bind fun n5 =>
 ((gI .u64 (rdC p2.2 b_7 1))).bind fun n6 =>
 ((runS Tryd.prog n 71 [(.int .i64 w_1), (.agg #[(.int .u64 n5), (.int .u64 n6)])] p2.2)).bind fun p7 =>
 cond (tupIs 2 p7.1)
 (((gI .u64 (tupC 0 p7.1))).bind fun n8 =>
 ((gI .u64 (tupC 1 p7.1))).bind fun n9 =>
 ((gI .u64 (rdC p7.2 a_6 0))).bind fun n10 =>
 ((gI .u64 (rdC p7.2 a_6 1))).bind fun n11 =>
 ((runS Tryd.prog n 72 [(.int .i64 w_1), (.agg #[(.int .u64 n10), (.int .u64 n11)])] p7.2)).bind fun p12 =>
 cond (tupIs 2 p12.1)
 (((gI .i64 (tupC 0 p12.1))).bind fun n13 =>
 ((gI .i64 (tupC 1 p12.1))).bind fun n14 =>
 ((gI .u64 (rdC p12.2 b_7 0))).bind fun n15 =>
 ((gI .u64 (rdC p12.2 b_7 1))).bind fun n16 =>
 ((runS Tryd.prog n 72 [(.int .i64 w_1), (.agg #[(.int .u64 n15), (.int .u64 n16)])] p12.2)).bind fun p17 =>
 cond (tupIs 2 p17.1)
 (((gI .i64 (tupC 0 p17.1))).bind fun n18 =>
 ((gI .i64 (tupC 1 p17.1))).bind fun n19 =>
 cond (iEq op_0 15)
 (((runS Tryd.prog n 73 [(.bool false), (.bool differ_9)] p17.2)).bind fun p20 =>
 cond (aggIs 2 p20.1)
 (((gI .u64 (aggC 0 p20.1))).bind fun n21 =>
 ((gI .u64 (aggC 1 p20.1))).bind fun n22 =>
 ((stL p20.2 t_8 [(.int .u64 n21), (.int .u64 n22)])).bind fun x23 =>
 ((gI .u64 (rdC x23 t_8 0))).bind fun n24 =>
 ((gI .u64 (rdC x23 t_8 1))).bind fun n25 =>
 some (exitR h0 x23 (.agg #[(.int .u64 n24), (.int .u64 n25)])))
 (none))
 (cond (iEq op_0 16)
 (((runS Tryd.prog n 73 [(.bool differ_9), (.bool false)] p17.2)).bind fun p26 =>
 cond (aggIs 2 p26.1)
 (((gI .u64 (aggC 0 p26.1))).bind fun n27 =>
 ((gI .u64 (aggC 1 p26.1))).bind fun n28 =>
 ((stL p26.2 t_8 [(.int .u64 n27), (.int .u64 n28)])).bind fun x29 =>
 ((gI .u64 (rdC x29 t_8 0))).bind fun n30 =>
 ((gI .u64 (rdC x29 t_8 1))).bind fun n31 =>
 some (exitR h0 x29 (.agg #[(.int .u64 n30), (.int .u64 n31)])))
 (none))
 (cond (iEq op_0 17)
 (((runS Tryd.prog n 73 [(.bool (iLt n4 n8)), (.bool (iLe n9 n3))] p17.2)).bind fun p32 =>
 cond (aggIs 2 p32.1)
 (((gI .u64 (aggC 0 p32.1))).bind fun n33 =>
 ((gI .u64 (aggC 1 p32.1))).bind fun n34 =>
 ((stL p32.2 t_8 [(.int .u64 n33), (.int .u64 n34)])).bind fun x35 =>
 ((gI .u64 (rdC x35 t_8 0))).bind fun n36 =>
 ((gI .u64 (rdC x35 t_8 1))).bind fun n37 =>
 some (exitR h0 x35 (.agg #[(.int .u64 n36), (.int .u64 n37)])))
 (none))
 (cond (iEq op_0 18)
 (((runS Tryd.prog n 73 [(.bool (iLe n4 n8)), (.bool (iLt n9 n3))] p17.2)).bind fun p38 =>
 cond (aggIs 2 p38.1)
 (((gI .u64 (aggC 0 p38.1))).bind fun n39 =>
 ((gI .u64 (aggC 1 p38.1))).bind fun n40 =>
 ((stL p38.2 t_8 [(.int .u64 n39), (.int .u64 n40)])).bind fun x41 =>
 ((gI .u64 (rdC x41 t_8 0))).bind fun n42 =>
 ((gI .u64 (rdC x41 t_8 1))).bind fun n43 =>
 some (exitR h0 x41 (.agg #[(.int .u64 n42), (.int .u64 n43)])))
 (none))
 (cond (iEq op_0 19)
 (((runS Tryd.prog n 73 [(.bool (iLt n14 n18)), (.bool (iLe n19 n13))] p17.2)).bind fun p44 =>
 cond (aggIs 2 p44.1)
 (((gI .u64 (aggC 0 p44.1))).bind fun n45 =>
 ((gI .u64 (aggC 1 p44.1))).bind fun n46 =>
 ((stL p44.2 t_8 [(.int .u64 n45), (.int .u64 n46)])).bind fun x47 =>
 ((gI .u64 (rdC x47 t_8 0))).bind fun n48 =>
 ((gI .u64 (rdC x47 t_8 1))).bind fun n49 =>
 some (exitR h0 x47 (.agg #[(.int .u64 n48), (.int .u64 n49)])))
 (none))
 (((runS Tryd.prog n 73 [(.bool (iLe n14 n18)), (.bool (iLt n19 n13))] p17.2)).bind fun p50 =>
 cond (aggIs 2 p50.1)
 (((gI .u64 (aggC 0 p50.1))).bind fun n51 =>
 ((gI .u64 (aggC 1 p50.1))).bind fun n52 =>
 ((stL p50.2 t_8 [(.int .u64 n51), (.int .u64 n52)])).bind fun x53 =>
 ((gI .u64 (rdC x53 t_8 0))).bind fun n54 =>
 ((gI .u64 (rdC x53 t_8 1))).bind fun n55 =>
 some (exitR h0 x53 (.agg #[(.int .u64 n54), (.int .u64 n55)])))
 (none)))))))
 (none))
 (none))
 (none))
 (none) := by kernel_rfl
def p53 : List (List Nat × List Nat) := [([0, 1, 0, 1, 1], [0, 1, 2, 3, 9, 10])]
section
variable (N : NewF) (n m0 : Nat) (h0 : AH) (w_0 a_1 b_2 fill_3 out_9 i_10 : Int) (h : AH)
 noncomputable def c53_0 : Option (Go.Value × AH) := resY Tryd.prog n Tryd.f53 h0 (.head (subC (bodyC Tryd.f53) [1, 1, 0, 1, 0, 0]) [0, 1, 0, 1, 1] m0) [.block 0, .seq (subC (bodyC Tryd.f53) [1, 1, 1]) [1, 1, 1]] (E [(0, .int .i64 w_0), (1, .int .u64 a_1), (2, .int .u64 b_2), (3, .int .i64 fill_3), (9, .int .u64 out_9), (10, .int .i64 i_10)]) h
 noncomputable def c53_0Y : Option (Go.Value × AH) := yhead Tryd.prog (runS Tryd.prog n) n Tryd.f53 h0 p53 N (resY Tryd.prog n Tryd.f53 h0) (subC (bodyC Tryd.f53) [1, 1, 0, 1, 0, 0]) [0, 1, 0, 1, 1] m0 [.block 0, .seq (subC (bodyC Tryd.f53) [1, 1, 1]) [1, 1, 1]] (E [(0, .int .i64 w_0), (1, .int .u64 a_1), (2, .int .u64 b_2), (3, .int .i64 fill_3), (9, .int .u64 out_9), (10, .int .i64 i_10)]) h
variable {n m0} {h0} {w_0 a_1 b_2 fill_3 out_9 i_10} {h}
theorem c53_0_ok {r : Go.Value × AH} (hv : c53_0Y hNew n m0 h0 w_0 a_1 b_2 fill_3 out_9 i_10 h = some r) : c53_0 n (m0 + 1) h0 w_0 a_1 b_2 fill_3 out_9 i_10 h = some r := yhead_ok hv
end
 noncomputable def t53Y (N : NewF) (n : Nat) (w_0 a_1 b_2 fill_3 : Int) (h : AH) : Option (Go.Value × AH) := yrun Tryd.prog (runS Tryd.prog n) n p53 N (resY Tryd.prog n) 53 [(.int .i64 w_0), (.int .u64 a_1), (.int .u64 b_2), (.int .i64 fill_3)] h
theorem t53_ok {n : Nat} {w_0 a_1 b_2 fill_3 : Int} {h : AH} {r : Go.Value × AH} (hv : t53Y hNew n w_0 a_1 b_2 fill_3 h = some r) : runS Tryd.prog (n + 1) 53 [(.int .i64 w_0), (.int .u64 a_1), (.int .u64 b_2), (.int .i64 fill_3)] h = some r := yrun_ok hv
theorem t53 (N : NewF) (n : Nat) (w_0 a_1 b_2 fill_3 : Int) (h : AH) : t53Y N n w_0 a_1 b_2 fill_3 h =
 c53_0 n n h w_0 a_1 b_2 fill_3 0 0 (setLow h h.next) := by kernel_rfl
theorem c53_0_eq (N : NewF) (n m0 : Nat) (h0 : AH) (w_0 a_1 b_2 fill_3 out_9 i_10 : Int) (h : AH) : c53_0Y N n m0 h0 w_0 a_1 b_2 fill_3 out_9 i_10 h =
 cond (iLt i_10 w_0)
 (cond (iLt b_2 (iConv .u64 w_0))
 (cond (iLt (iAdd .i64 i_10 (iConv .i64 b_2)) w_0)
 (((runS Tryd.prog n 54 [(.int .u64 a_1), (.int .i64 (iAdd .i64 i_10 (iConv .i64 b_2)))] h)).bind fun p0 =>
 ((gI .i64 (some p0.1))).bind fun n1 =>
 cond (iLt i_10 0)
 (none)
 (c53_0 n m0 h0 w_0 a_1 b_2 fill_3 (iOr .u64 out_9 (iShl .u64 (iConv .u64 n1) i_10)) (iAdd .i64 i_10 1) p0.2))
 (cond (iLt i_10 0)
 (none)
 (c53_0 n m0 h0 w_0 a_1 b_2 fill_3 (iOr .u64 out_9 (iShl .u64 (iConv .u64 fill_3) i_10)) (iAdd .i64 i_10 1) h)))
 (cond (iLt i_10 0)
 (none)
 (c53_0 n m0 h0 w_0 a_1 b_2 fill_3 (iOr .u64 out_9 (iShl .u64 (iConv .u64 fill_3) i_10)) (iAdd .i64 i_10 1) h)))
 (some (exitR h0 h (.int .u64 out_9))) := by kernel_rfl
def p25 : List (List Nat × List Nat) := [([0, 1, 0, 1, 1], [3, 5, 6, 8, 9, 14, 15]), ([1, 1, 1, 1, 0, 0, 1, 1, 0, 0, 1, 0, 1, 1], [3, 5, 6, 8, 9, 11, 12, 13, 14, 15]), ([1, 1, 1, 1, 1, 0, 0, 1, 1, 0, 0, 1, 0, 1, 1], [3, 5, 6, 8, 9, 12, 13, 14, 15])]
section
variable (N : NewF) (n m0 : Nat) (h0 : AH) (carry_3 : Int) (a_5 b_6 t_8 out_9 : Addr) (t_14 t_15 : Int) (h : AH)
 noncomputable def c25_0 : Option (Go.Value × AH) := resY Tryd.prog n Tryd.f25 h0 (.head (subC (bodyC Tryd.f25) [1, 1, 0, 1, 0, 0]) [0, 1, 0, 1, 1] m0) [.block 0, .seq (subC (bodyC Tryd.f25) [1, 1, 1]) [1, 1, 1]] (E [(3, .int .i64 carry_3), (5, .pointer (some a_5)), (6, .pointer (some b_6)), (8, .pointer (some t_8)), (9, .pointer (some out_9)), (14, .int .i64 t_14), (15, .int .i64 t_15)]) h
 noncomputable def c25_0Y : Option (Go.Value × AH) := yhead Tryd.prog (runS Tryd.prog n) n Tryd.f25 h0 p25 N (resY Tryd.prog n Tryd.f25 h0) (subC (bodyC Tryd.f25) [1, 1, 0, 1, 0, 0]) [0, 1, 0, 1, 1] m0 [.block 0, .seq (subC (bodyC Tryd.f25) [1, 1, 1]) [1, 1, 1]] (E [(3, .int .i64 carry_3), (5, .pointer (some a_5)), (6, .pointer (some b_6)), (8, .pointer (some t_8)), (9, .pointer (some out_9)), (14, .int .i64 t_14), (15, .int .i64 t_15)]) h
variable {n m0} {h0} {carry_3 a_5 b_6 t_8 out_9 t_14 t_15} {h}
theorem c25_0_ok {r : Go.Value × AH} (hv : c25_0Y hNew n m0 h0 carry_3 a_5 b_6 t_8 out_9 t_14 t_15 h = some r) : c25_0 n (m0 + 1) h0 carry_3 a_5 b_6 t_8 out_9 t_14 t_15 h = some r := yhead_ok hv
end
section
variable (N : NewF) (n m0 : Nat) (h0 : AH) (carry_3 : Int) (a_5 b_6 t_8 out_9 : Addr) (s_11 zeros_12 ones_13 t_14 t_15 : Int) (h : AH)
 noncomputable def c25_1 : Option (Go.Value × AH) := resY Tryd.prog n Tryd.f25 h0 (.code (subC (bodyC Tryd.f25) [1, 1, 0, 1, 0, 0, 1, 1, 0, 0, 1, 1, 1, 1]) [1, 1, 1, 1, 0, 0, 1, 1, 0, 0, 1, 0, 1, 1]) [.block 1, .seq (subC (bodyC Tryd.f25) [1, 1, 0, 1, 0, 0, 1, 1, 1]) [1, 1, 1, 0, 0, 1, 0, 1, 1], .loop (subC (bodyC Tryd.f25) [1, 1, 0, 1, 0, 0]) [0, 1, 0, 1, 1] m0, .block 0, .seq (subC (bodyC Tryd.f25) [1, 1, 1]) [1, 1, 1]] (E [(3, .int .i64 carry_3), (5, .pointer (some a_5)), (6, .pointer (some b_6)), (8, .pointer (some t_8)), (9, .pointer (some out_9)), (11, .int .u64 s_11), (12, .int .i64 zeros_12), (13, .int .i64 ones_13), (14, .int .i64 t_14), (15, .int .i64 t_15)]) h
 noncomputable def c25_1Y : Option (Go.Value × AH) := yfrom Tryd.prog (runS Tryd.prog n) n Tryd.f25 h0 p25 N (resY Tryd.prog n Tryd.f25 h0) (subC (bodyC Tryd.f25) [1, 1, 0, 1, 0, 0, 1, 1, 0, 0, 1, 1, 1, 1]) [1, 1, 1, 1, 0, 0, 1, 1, 0, 0, 1, 0, 1, 1] [.block 1, .seq (subC (bodyC Tryd.f25) [1, 1, 0, 1, 0, 0, 1, 1, 1]) [1, 1, 1, 0, 0, 1, 0, 1, 1], .loop (subC (bodyC Tryd.f25) [1, 1, 0, 1, 0, 0]) [0, 1, 0, 1, 1] m0, .block 0, .seq (subC (bodyC Tryd.f25) [1, 1, 1]) [1, 1, 1]] (E [(3, .int .i64 carry_3), (5, .pointer (some a_5)), (6, .pointer (some b_6)), (8, .pointer (some t_8)), (9, .pointer (some out_9)), (11, .int .u64 s_11), (12, .int .i64 zeros_12), (13, .int .i64 ones_13), (14, .int .i64 t_14), (15, .int .i64 t_15)]) h
variable {n m0} {h0} {carry_3 a_5 b_6 t_8 out_9 s_11 zeros_12 ones_13 t_14 t_15} {h}
theorem c25_1_ok {r : Go.Value × AH} (hv : c25_1Y hNew n m0 h0 carry_3 a_5 b_6 t_8 out_9 s_11 zeros_12 ones_13 t_14 t_15 h = some r) : c25_1 n m0 h0 carry_3 a_5 b_6 t_8 out_9 s_11 zeros_12 ones_13 t_14 t_15 h = some r := yfrom_ok hv
end
section
variable (N : NewF) (n m0 : Nat) (h0 : AH) (carry_3 : Int) (a_5 b_6 t_8 out_9 : Addr) (zeros_12 ones_13 t_14 t_15 : Int) (h : AH)
 noncomputable def c25_2 : Option (Go.Value × AH) := resY Tryd.prog n Tryd.f25 h0 (.code (subC (bodyC Tryd.f25) [1, 1, 0, 1, 0, 0, 1, 1, 0, 0, 1, 1, 1, 1, 1]) [1, 1, 1, 1, 1, 0, 0, 1, 1, 0, 0, 1, 0, 1, 1]) [.block 1, .seq (subC (bodyC Tryd.f25) [1, 1, 0, 1, 0, 0, 1, 1, 1]) [1, 1, 1, 0, 0, 1, 0, 1, 1], .loop (subC (bodyC Tryd.f25) [1, 1, 0, 1, 0, 0]) [0, 1, 0, 1, 1] m0, .block 0, .seq (subC (bodyC Tryd.f25) [1, 1, 1]) [1, 1, 1]] (E [(3, .int .i64 carry_3), (5, .pointer (some a_5)), (6, .pointer (some b_6)), (8, .pointer (some t_8)), (9, .pointer (some out_9)), (12, .int .i64 zeros_12), (13, .int .i64 ones_13), (14, .int .i64 t_14), (15, .int .i64 t_15)]) h
 noncomputable def c25_2Y : Option (Go.Value × AH) := yfrom Tryd.prog (runS Tryd.prog n) n Tryd.f25 h0 p25 N (resY Tryd.prog n Tryd.f25 h0) (subC (bodyC Tryd.f25) [1, 1, 0, 1, 0, 0, 1, 1, 0, 0, 1, 1, 1, 1, 1]) [1, 1, 1, 1, 1, 0, 0, 1, 1, 0, 0, 1, 0, 1, 1] [.block 1, .seq (subC (bodyC Tryd.f25) [1, 1, 0, 1, 0, 0, 1, 1, 1]) [1, 1, 1, 0, 0, 1, 0, 1, 1], .loop (subC (bodyC Tryd.f25) [1, 1, 0, 1, 0, 0]) [0, 1, 0, 1, 1] m0, .block 0, .seq (subC (bodyC Tryd.f25) [1, 1, 1]) [1, 1, 1]] (E [(3, .int .i64 carry_3), (5, .pointer (some a_5)), (6, .pointer (some b_6)), (8, .pointer (some t_8)), (9, .pointer (some out_9)), (12, .int .i64 zeros_12), (13, .int .i64 ones_13), (14, .int .i64 t_14), (15, .int .i64 t_15)]) h
variable {n m0} {h0} {carry_3 a_5 b_6 t_8 out_9 zeros_12 ones_13 t_14 t_15} {h}
theorem c25_2_ok {r : Go.Value × AH} (hv : c25_2Y hNew n m0 h0 carry_3 a_5 b_6 t_8 out_9 zeros_12 ones_13 t_14 t_15 h = some r) : c25_2 n m0 h0 carry_3 a_5 b_6 t_8 out_9 zeros_12 ones_13 t_14 t_15 h = some r := yfrom_ok hv
end
 noncomputable def t25Y (N : NewF) (n : Nat) (w_0 a_1a a_1b b_2a b_2b carry_3 : Int) (h : AH) : Option (Go.Value × AH) := yrun Tryd.prog (runS Tryd.prog n) n p25 N (resY Tryd.prog n) 25 [(.int .i64 w_0), (.agg #[(.int .u64 a_1a), (.int .u64 a_1b)]), (.agg #[(.int .u64 b_2a), (.int .u64 b_2b)]), (.int .i64 carry_3)] h
theorem t25_ok {n : Nat} {w_0 a_1a a_1b b_2a b_2b carry_3 : Int} {h : AH} {r : Go.Value × AH} (hv : t25Y hNew n w_0 a_1a a_1b b_2a b_2b carry_3 h = some r) : runS Tryd.prog (n + 1) 25 [(.int .i64 w_0), (.agg #[(.int .u64 a_1a), (.int .u64 a_1b)]), (.agg #[(.int .u64 b_2a), (.int .u64 b_2b)]), (.int .i64 carry_3)] h = some r := yrun_ok hv
theorem t25 (N : NewF) (n : Nat) (w_0 a_1a a_1b b_2a b_2b carry_3 : Int) (h : AH) : t25Y N n w_0 a_1a a_1b b_2a b_2b carry_3 h =
 ((N (setLow h h.next) [(.int .u64 a_1a), (.int .u64 a_1b)] 0)).bind fun p0 =>
 ((N p0.2 [(.int .u64 b_2a), (.int .u64 b_2b)] 0)).bind fun p1 =>
 ((N p1.2 [(.int .u64 0), (.int .u64 0)] 0)).bind fun p2 =>
 ((N p2.2 [(.int .u64 0), (.int .u64 0)] 0)).bind fun p3 =>
 c25_0 n n h carry_3 ⟨p0.1, 0, none⟩ ⟨p1.1, 0, none⟩ ⟨p2.1, 0, none⟩ ⟨p3.1, 0, none⟩ w_0 0 p3.2 := by kernel_rfl
theorem c25_0_eq (N : NewF) (n m0 : Nat) (h0 : AH) (carry_3 : Int) (a_5 b_6 t_8 out_9 : Addr) (t_14 t_15 : Int) (h : AH) : c25_0Y N n m0 h0 carry_3 a_5 b_6 t_8 out_9 t_14 t_15 h =
 cond (iLt t_15 t_14)
 (cond (iLt t_15 0)
 (none)
 (((gI .u64 (rdC h (Addr.add a_5 0) 0))).bind fun n0 =>
 cond (iLt t_15 0)
 (none)
 (((gI .u64 (rdC h (Addr.add b_6 0) 0))).bind fun n1 =>
 cond (iLt t_15 0)
 (none)
 (((gI .u64 (rdC h (Addr.add a_5 1) 0))).bind fun n2 =>
 cond (iLt t_15 0)
 (none)
 (((gI .u64 (rdC h (Addr.add b_6 1) 0))).bind fun n3 =>
 cond (iLt t_15 0)
 (none)
 (cond (iEq carry_3 0)
 (c25_1 n m0 h0 carry_3 a_5 b_6 t_8 out_9 (iShl .u64 1 t_15) (iAdd .i64 (iConv .i64 (iAdd .u64 (iAnd .u64 (iShr .u64 n0 t_15) 1) (iAnd .u64 (iShr .u64 n1 t_15) 1))) 1) (iConv .i64 (iAdd .u64 (iAnd .u64 (iShr .u64 n2 t_15) 1) (iAnd .u64 (iShr .u64 n3 t_15) 1))) t_14 t_15 h)
 (cond (iEq carry_3 1)
 (c25_1 n m0 h0 carry_3 a_5 b_6 t_8 out_9 (iShl .u64 1 t_15) (iConv .i64 (iAdd .u64 (iAnd .u64 (iShr .u64 n0 t_15) 1) (iAnd .u64 (iShr .u64 n1 t_15) 1))) (iAdd .i64 (iConv .i64 (iAdd .u64 (iAnd .u64 (iShr .u64 n2 t_15) 1) (iAnd .u64 (iShr .u64 n3 t_15) 1))) 1) t_14 t_15 h)
 (c25_1 n m0 h0 carry_3 a_5 b_6 t_8 out_9 (iShl .u64 1 t_15) (iConv .i64 (iAdd .u64 (iAnd .u64 (iShr .u64 n0 t_15) 1) (iAnd .u64 (iShr .u64 n1 t_15) 1))) (iConv .i64 (iAdd .u64 (iAnd .u64 (iShr .u64 n2 t_15) 1) (iAnd .u64 (iShr .u64 n3 t_15) 1))) t_14 t_15 h))))))))
 (((gI .u64 (rdC h out_9 0))).bind fun n4 =>
 ((gI .u64 (rdC h out_9 1))).bind fun n5 =>
 ((stL h t_8 [(.int .u64 n4), (.int .u64 n5)])).bind fun x6 =>
 ((gI .u64 (rdC x6 t_8 0))).bind fun n7 =>
 ((gI .u64 (rdC x6 t_8 1))).bind fun n8 =>
 some (exitR h0 x6 (.agg #[(.int .u64 n7), (.int .u64 n8)]))) := by kernel_rfl
theorem c25_1_eq (N : NewF) (n m0 : Nat) (h0 : AH) (carry_3 : Int) (a_5 b_6 t_8 out_9 : Addr) (s_11 zeros_12 ones_13 t_14 t_15 : Int) (h : AH) : c25_1Y N n m0 h0 carry_3 a_5 b_6 t_8 out_9 s_11 zeros_12 ones_13 t_14 t_15 h =
 cond (iEq (iAdd .i64 zeros_12 ones_13) 3)
 (cond (iEq (iRem .i64 ones_13 2) 1)
 (((gI .u64 (rdC h (Addr.add out_9 1) 0))).bind fun n0 =>
 ((stL h (Addr.add out_9 1) [(.int .u64 (iOr .u64 n0 s_11))])).bind fun x1 =>
 c25_2 n m0 h0 carry_3 a_5 b_6 t_8 out_9 zeros_12 ones_13 t_14 t_15 x1)
 (((gI .u64 (rdC h (Addr.add out_9 0) 0))).bind fun n2 =>
 ((stL h (Addr.add out_9 0) [(.int .u64 (iOr .u64 n2 s_11))])).bind fun x3 =>
 c25_2 n m0 h0 carry_3 a_5 b_6 t_8 out_9 zeros_12 ones_13 t_14 t_15 x3))
 (c25_2 n m0 h0 carry_3 a_5 b_6 t_8 out_9 zeros_12 ones_13 t_14 t_15 h) := by kernel_rfl
theorem c25_2_eq (N : NewF) (n m0 : Nat) (h0 : AH) (carry_3 : Int) (a_5 b_6 t_8 out_9 : Addr) (zeros_12 ones_13 t_14 t_15 : Int) (h : AH) : c25_2Y N n m0 h0 carry_3 a_5 b_6 t_8 out_9 zeros_12 ones_13 t_14 t_15 h =
 cond (iLe 2 ones_13)
 (c25_0 n m0 h0 1 a_5 b_6 t_8 out_9 t_14 (iAdd .i64 t_15 1) h)
 (cond (iLe 2 zeros_12)
 (c25_0 n m0 h0 0 a_5 b_6 t_8 out_9 t_14 (iAdd .i64 t_15 1) h)
 (c25_0 n m0 h0 (-1) a_5 b_6 t_8 out_9 t_14 (iAdd .i64 t_15 1) h)) := by kernel_rfl
end Go.Proofs.YtiadfnedbbkojaaDoor.Kb
namespace Go.Proofs.YtiadfnedbbkojaaDoor.Kb
open Go Go.Proofs Go.Proofs.YtiadfnedbbkojaaDoor Go.Proofs.YtiadfnedbbkojaaDoor.X
set_option maxRecDepth 100000
set_option linter.unusedVariables false
def p10 : List (List Nat × List Nat) := [([1, 1], [0, 1, 2, 3, 4, 10]), ([0, 1, 0, 1, 1, 1, 1], [0, 1, 2, 3, 4, 10, 11, 12, 39, 40, 41]), ([1, 1, 1, 1, 1, 1, 1, 1, 1, 1, 1, 1, 1, 1, 1, 1, 1, 0, 1, 0, 1, 1, 1, 1, 1, 1, 1, 1], [0, 1, 2, 3, 10, 17, 18, 91, 183]), ([1, 1, 1, 1, 1, 1, 1, 1, 1, 1, 1, 1, 1, 1, 1, 1, 1, 1, 1, 0, 1, 0, 1, 1, 1, 1, 1, 1, 1, 1], [0, 1, 2, 3, 10, 17, 18, 91, 203]), ([1, 1, 1, 1, 1, 1, 1, 1, 1, 1, 1, 1, 1, 1, 1, 1, 1, 1, 1, 1, 1, 0, 1, 0, 1, 1, 1, 1, 1, 1, 1, 1], [0, 1, 2, 3, 10, 17, 18, 91, 222]), ([1, 1, 1, 1, 1, 1, 1, 1, 1, 1, 1, 1, 1, 1, 1, 1, 1, 1, 1, 1, 1, 1, 1, 0, 1, 0, 1, 1, 1, 1, 1, 1, 1, 1], [0, 1, 2, 3, 10, 17, 18, 91, 233]), ([1, 1, 1, 0, 1, 1, 1, 1, 1, 1, 1, 1, 1, 1, 1, 1, 1, 1, 1, 1, 1, 1, 1, 1, 1, 1, 1, 1, 1, 1, 1, 1, 1, 0, 1, 0, 1, 1, 1, 1, 1, 1, 1, 1], [10, 17, 23, 24, 25])]
section
variable (N : NewF) (n : Nat) (h0 : AH) (op_0 w_1 : Int) (widths_2 : Option Addr) (widths_2n widths_2c : Nat) (args_3 : Option Addr) (args_3n args_3c : Nat) (num_4 : Int) (t_10 : Addr) (h : AH)
 noncomputable def c10_0 : Option (Go.Value × AH) := resY Tryd.prog n Tryd.f10 h0 (.code (subC (bodyC Tryd.f10) [1, 1]) [1, 1]) [] (E [(0, .int .i64 op_0), (1, .int .i64 w_1), (2, .slice widths_2 widths_2n widths_2c), (3, .slice args_3 args_3n args_3c), (4, .int .u64 num_4), (10, .pointer (some t_10))]) h
 noncomputable def c10_0Y : Option (Go.Value × AH) := yfrom Tryd.prog (runS Tryd.prog n) n Tryd.f10 h0 p10 N (resY Tryd.prog n Tryd.f10 h0) (subC (bodyC Tryd.f10) [1, 1]) [1, 1] [] (E [(0, .int .i64 op_0), (1, .int .i64 w_1), (2, .slice widths_2 widths_2n widths_2c), (3, .slice args_3 args_3n args_3c), (4, .int .u64 num_4), (10, .pointer (some t_10))]) h
variable {n} {h0} {op_0 w_1 widths_2 widths_2n widths_2c args_3 args_3n args_3c num_4 t_10} {h}
theorem c10_0_ok {r : Go.Value × AH} (hv : c10_0Y hNew n h0 op_0 w_1 widths_2 widths_2n widths_2c args_3 args_3n args_3c num_4 t_10 h = some r) : c10_0 n h0 op_0 w_1 widths_2 widths_2n widths_2c args_3 args_3n args_3c num_4 t_10 h = some r := yfrom_ok hv
end
section
variable (N : NewF) (n m0 : Nat) (h0 : AH) (op_0 w_1 : Int) (widths_2 : Option Addr) (widths_2n widths_2c : Nat) (args_3 : Option Addr) (args_3n args_3c : Nat) (num_4 : Int) (t_10 : Addr) (exact_11 : Bool) (n_12 : Option Addr) (n_12n n_12c : Nat) (t_39 : Option Addr) (t_39n t_39c : Nat) (t_40 t_41 : Int) (h : AH)
 noncomputable def c10_1 : Option (Go.Value × AH) := resY Tryd.prog n Tryd.f10 h0 (.head (subC (bodyC Tryd.f10) [1, 1, 1, 1, 0, 1, 0, 0]) [0, 1, 0, 1, 1, 1, 1] m0) [.block 0, .seq (subC (bodyC Tryd.f10) [1, 1, 1, 1, 1]) [1, 1, 1, 1, 1]] (E [(0, .int .i64 op_0), (1, .int .i64 w_1), (2, .slice widths_2 widths_2n widths_2c), (3, .slice args_3 args_3n args_3c), (4, .int .u64 num_4), (10, .pointer (some t_10)), (11, .bool exact_11), (12, .slice n_12 n_12n n_12c), (39, .slice t_39 t_39n t_39c), (40, .int .i64 t_40), (41, .int .i64 t_41)]) h
 noncomputable def c10_1Y : Option (Go.Value × AH) := yhead Tryd.prog (runS Tryd.prog n) n Tryd.f10 h0 p10 N (resY Tryd.prog n Tryd.f10 h0) (subC (bodyC Tryd.f10) [1, 1, 1, 1, 0, 1, 0, 0]) [0, 1, 0, 1, 1, 1, 1] m0 [.block 0, .seq (subC (bodyC Tryd.f10) [1, 1, 1, 1, 1]) [1, 1, 1, 1, 1]] (E [(0, .int .i64 op_0), (1, .int .i64 w_1), (2, .slice widths_2 widths_2n widths_2c), (3, .slice args_3 args_3n args_3c), (4, .int .u64 num_4), (10, .pointer (some t_10)), (11, .bool exact_11), (12, .slice n_12 n_12n n_12c), (39, .slice t_39 t_39n t_39c), (40, .int .i64 t_40), (41, .int .i64 t_41)]) h
variable {n m0} {h0} {op_0 w_1 widths_2 widths_2n widths_2c args_3 args_3n args_3c num_4 t_10 exact_11 n_12 n_12n n_12c t_39 t_39n t_39c t_40 t_41} {h}
theorem c10_1_ok {r : Go.Value × AH} (hv : c10_1Y hNew n m0 h0 op_0 w_1 widths_2 widths_2n widths_2c args_3 args_3n args_3c num_4 t_10 exact_11 n_12 n_12n n_12c t_39 t_39n t_39c t_40 t_41 h = some r) : c10_1 n (m0 + 1) h0 op_0 w_1 widths_2 widths_2n widths_2c args_3 args_3n args_3c num_4 t_10 exact_11 n_12 n_12n n_12c t_39 t_39n t_39c t_40 t_41 h = some r := yhead_ok hv
end
section
variable (N : NewF) (n : Nat) (h0 : AH) (op_0 w_1 : Int) (widths_2 : Option Addr) (widths_2n widths_2c : Nat) (args_3 : Option Addr) (args_3n args_3c : Nat) (t_10 a_17 b_18 : Addr) (t_91 : Int) (t_183 : Bool) (h : AH)
 noncomputable def c10_2 : Option (Go.Value × AH) := resY Tryd.prog n Tryd.f10 h0 (.code (subC (bodyC Tryd.f10) [1, 1, 1, 1, 1, 1, 1, 1, 0, 1, 0, 1, 1, 1, 1, 1, 1, 1, 1, 1, 1, 1, 1, 1, 1, 1, 1, 1]) [1, 1, 1, 1, 1, 1, 1, 1, 1, 1, 1, 1, 1, 1, 1, 1, 1, 0, 1, 0, 1, 1, 1, 1, 1, 1, 1, 1]) [.block 2, .seq (subC (bodyC Tryd.f10) [1, 1, 1, 1, 1, 1, 1, 1, 1]) [1, 1, 1, 1, 1, 1, 1, 1, 1]] (E [(0, .int .i64 op_0), (1, .int .i64 w_1), (2, .slice widths_2 widths_2n widths_2c), (3, .slice args_3 args_3n args_3c), (10, .pointer (some t_10)), (17, .pointer (some a_17)), (18, .pointer (some b_18)), (91, .int .i64 t_91), (183, .bool t_183)]) h
 noncomputable def c10_2Y : Option (Go.Value × AH) := yfrom Tryd.prog (runS Tryd.prog n) n Tryd.f10 h0 p10 N (resY Tryd.prog n Tryd.f10 h0) (subC (bodyC Tryd.f10) [1, 1, 1, 1, 1, 1, 1, 1, 0, 1, 0, 1, 1, 1, 1, 1, 1, 1, 1, 1, 1, 1, 1, 1, 1, 1, 1, 1]) [1, 1, 1, 1, 1, 1, 1, 1, 1, 1, 1, 1, 1, 1, 1, 1, 1, 0, 1, 0, 1, 1, 1, 1, 1, 1, 1, 1] [.block 2, .seq (subC (bodyC Tryd.f10) [1, 1, 1, 1, 1, 1, 1, 1, 1]) [1, 1, 1, 1, 1, 1, 1, 1, 1]] (E [(0, .int .i64 op_0), (1, .int .i64 w_1), (2, .slice widths_2 widths_2n widths_2c), (3, .slice args_3 args_3n args_3c), (10, .pointer (some t_10)), (17, .pointer (some a_17)), (18, .pointer (some b_18)), (91, .int .i64 t_91), (183, .bool t_183)]) h
variable {n} {h0} {op_0 w_1 widths_2 widths_2n widths_2c args_3 args_3n args_3c t_10 a_17 b_18 t_91 t_183} {h}
theorem c10_2_ok {r : Go.Value × AH} (hv : c10_2Y hNew n h0 op_0 w_1 widths_2 widths_2n widths_2c args_3 args_3n args_3c t_10 a_17 b_18 t_91 t_183 h = some r) : c10_2 n h0 op_0 w_1 widths_2 widths_2n widths_2c args_3 args_3n args_3c t_10 a_17 b_18 t_91 t_183 h = some r := yfrom_ok hv
end
section
variable (N : NewF) (n : Nat) (h0 : AH) (op_0 w_1 : Int) (widths_2 : Option Addr) (widths_2n widths_2c : Nat) (args_3 : Option Addr) (args_3n args_3c : Nat) (t_10 a_17 b_18 : Addr) (t_91 : Int) (t_203 : Bool) (h : AH)
 noncomputable def c10_3 : Option (Go.Value × AH) := resY Tryd.prog n Tryd.f10 h0 (.code (subC (bodyC Tryd.f10) [1, 1, 1, 1, 1, 1, 1, 1, 0, 1, 0, 1, 1, 1, 1, 1, 1, 1, 1, 1, 1, 1, 1, 1, 1, 1, 1, 1, 1, 1]) [1, 1, 1, 1, 1, 1, 1, 1, 1, 1, 1, 1, 1, 1, 1, 1, 1, 1, 1, 0, 1, 0, 1, 1, 1, 1, 1, 1, 1, 1]) [.block 2, .seq (subC (bodyC Tryd.f10) [1, 1, 1, 1, 1, 1, 1, 1, 1]) [1, 1, 1, 1, 1, 1, 1, 1, 1]] (E [(0, .int .i64 op_0), (1, .int .i64 w_1), (2, .slice widths_2 widths_2n widths_2c), (3, .slice args_3 args_3n args_3c), (10, .pointer (some t_10)), (17, .pointer (some a_17)), (18, .pointer (some b_18)), (91, .int .i64 t_91), (203, .bool t_203)]) h
 noncomputable def c10_3Y : Option (Go.Value × AH) := yfrom Tryd.prog (runS Tryd.prog n) n Tryd.f10 h0 p10 N (resY Tryd.prog n Tryd.f10 h0) (subC (bodyC Tryd.f10) [1, 1, 1, 1, 1, 1, 1, 1, 0, 1, 0, 1, 1, 1, 1, 1, 1, 1, 1, 1, 1, 1, 1, 1, 1, 1, 1, 1, 1, 1]) [1, 1, 1, 1, 1, 1, 1, 1, 1, 1, 1, 1, 1, 1, 1, 1, 1, 1, 1, 0, 1, 0, 1, 1, 1, 1, 1, 1, 1, 1] [.block 2, .seq (subC (bodyC Tryd.f10) [1, 1, 1, 1, 1, 1, 1, 1, 1]) [1, 1, 1, 1, 1, 1, 1, 1, 1]] (E [(0, .int .i64 op_0), (1, .int .i64 w_1), (2, .slice widths_2 widths_2n widths_2c), (3, .slice args_3 args_3n args_3c), (10, .pointer (some t_10)), (17, .pointer (some a_17)), (18, .pointer (some b_18)), (91, .int .i64 t_91), (203, .bool t_203)]) h
variable {n} {h0} {op_0 w_1 widths_2 widths_2n widths_2c args_3 args_3n args_3c t_10 a_17 b_18 t_91 t_203} {h}
theorem c10_3_ok {r : Go.Value × AH} (hv : c10_3Y hNew n h0 op_0 w_1 widths_2 widths_2n widths_2c args_3 args_3n args_3c t_10 a_17 b_18 t_91 t_203 h = some r) : c10_3 n h0 op_0 w_1 widths_2 widths_2n widths_2c args_3 args_3n args_3c t_10 a_17 b_18 t_91 t_203 h = some r := yfrom_ok hv
end
section
variable (N : NewF) (n : Nat) (h0 : AH) (op_0 w_1 : Int) (widths_2 : Option Addr) (widths_2n widths_2c : Nat) (args_3 : Option Addr) (args_3n args_3c : Nat) (t_10 a_17 b_18 : Addr) (t_91 : Int) (t_222 : Bool) (h : AH)
 noncomputable def c10_4 : Option (Go.Value × AH) := resY Tryd.prog n Tryd.f10 h0 (.code (subC (bodyC Tryd.f10) [1, 1, 1, 1, 1, 1, 1, 1, 0, 1, 0, 1, 1, 1, 1, 1, 1, 1, 1, 1, 1, 1, 1, 1, 1, 1, 1, 1, 1, 1, 1, 1]) [1, 1, 1, 1, 1, 1, 1, 1, 1, 1, 1, 1, 1, 1, 1, 1, 1, 1, 1, 1, 1, 0, 1, 0, 1, 1, 1, 1, 1, 1, 1, 1]) [.block 2, .seq (subC (bodyC Tryd.f10) [1, 1, 1, 1, 1, 1, 1, 1, 1]) [1, 1, 1, 1, 1, 1, 1, 1, 1]] (E [(0, .int .i64 op_0), (1, .int .i64 w_1), (2, .slice widths_2 widths_2n widths_2c), (3, .slice args_3 args_3n args_3c), (10, .pointer (some t_10)), (17, .pointer (some a_17)), (18, .pointer (some b_18)), (91, .int .i64 t_91), (222, .bool t_222)]) h
 noncomputable def c10_4Y : Option (Go.Value × AH) := yfrom Tryd.prog (runS Tryd.prog n) n Tryd.f10 h0 p10 N (resY Tryd.prog n Tryd.f10 h0) (subC (bodyC Tryd.f10) [1, 1, 1, 1, 1, 1, 1, 1, 0, 1, 0, 1, 1, 1, 1, 1, 1, 1, 1, 1, 1, 1, 1, 1, 1, 1, 1, 1, 1, 1, 1, 1]) [1, 1, 1, 1, 1, 1, 1, 1, 1, 1, 1, 1, 1, 1, 1, 1, 1, 1, 1, 1, 1, 0, 1, 0, 1, 1, 1, 1, 1, 1, 1, 1] [.block 2, .seq (subC (bodyC Tryd.f10) [1, 1, 1, 1, 1, 1, 1, 1, 1]) [1, 1, 1, 1, 1, 1, 1, 1, 1]] (E [(0, .int .i64 op_0), (1, .int .i64 w_1), (2, .slice widths_2 widths_2n widths_2c), (3, .slice args_3 args_3n args_3c), (10, .pointer (some t_10)), (17, .pointer (some a_17)), (18, .pointer (some b_18)), (91, .int .i64 t_91), (222, .bool t_222)]) h
variable {n} {h0} {op_0 w_1 widths_2 widths_2n widths_2c args_3 args_3n args_3c t_10 a_17 b_18 t_91 t_222} {h}
theorem c10_4_ok {r : Go.Value × AH} (hv : c10_4Y hNew n h0 op_0 w_1 widths_2 widths_2n widths_2c args_3 args_3n args_3c t_10 a_17 b_18 t_91 t_222 h = some r) : c10_4 n h0 op_0 w_1 widths_2 widths_2n widths_2c args_3 args_3n args_3c t_10 a_17 b_18 t_91 t_222 h = some r := yfrom_ok hv
end
section
variable (N : NewF) (n : Nat) (h0 : AH) (op_0 w_1 : Int) (widths_2 : Option Addr) (widths_2n widths_2c : Nat) (args_3 : Option Addr) (args_3n args_3c : Nat) (t_10 a_17 b_18 : Addr) (t_91 : Int) (t_233 : Bool) (h : AH)
 noncomputable def c10_5 : Option (Go.Value × AH) := resY Tryd.prog n Tryd.f10 h0 (.code (subC (bodyC Tryd.f10) [1, 1, 1, 1, 1, 1, 1, 1, 0, 1, 0, 1, 1, 1, 1, 1, 1, 1, 1, 1, 1, 1, 1, 1, 1, 1, 1, 1, 1, 1, 1, 1, 1, 1]) [1, 1, 1, 1, 1, 1, 1, 1, 1, 1, 1, 1, 1, 1, 1, 1, 1, 1, 1, 1, 1, 1, 1, 0, 1, 0, 1, 1, 1, 1, 1, 1, 1, 1]) [.block 2, .seq (subC (bodyC Tryd.f10) [1, 1, 1, 1, 1, 1, 1, 1, 1]) [1, 1, 1, 1, 1, 1, 1, 1, 1]] (E [(0, .int .i64 op_0), (1, .int .i64 w_1), (2, .slice widths_2 widths_2n widths_2c), (3, .slice args_3 args_3n args_3c), (10, .pointer (some t_10)), (17, .pointer (some a_17)), (18, .pointer (some b_18)), (91, .int .i64 t_91), (233, .bool t_233)]) h
 noncomputable def c10_5Y : Option (Go.Value × AH) := yfrom Tryd.prog (runS Tryd.prog n) n Tryd.f10 h0 p10 N (resY Tryd.prog n Tryd.f10 h0) (subC (bodyC Tryd.f10) [1, 1, 1, 1, 1, 1, 1, 1, 0, 1, 0, 1, 1, 1, 1, 1, 1, 1, 1, 1, 1, 1, 1, 1, 1, 1, 1, 1, 1, 1, 1, 1, 1, 1]) [1, 1, 1, 1, 1, 1, 1, 1, 1, 1, 1, 1, 1, 1, 1, 1, 1, 1, 1, 1, 1, 1, 1, 0, 1, 0, 1, 1, 1, 1, 1, 1, 1, 1] [.block 2, .seq (subC (bodyC Tryd.f10) [1, 1, 1, 1, 1, 1, 1, 1, 1]) [1, 1, 1, 1, 1, 1, 1, 1, 1]] (E [(0, .int .i64 op_0), (1, .int .i64 w_1), (2, .slice widths_2 widths_2n widths_2c), (3, .slice args_3 args_3n args_3c), (10, .pointer (some t_10)), (17, .pointer (some a_17)), (18, .pointer (some b_18)), (91, .int .i64 t_91), (233, .bool t_233)]) h
variable {n} {h0} {op_0 w_1 widths_2 widths_2n widths_2c args_3 args_3n args_3c t_10 a_17 b_18 t_91 t_233} {h}
theorem c10_5_ok {r : Go.Value × AH} (hv : c10_5Y hNew n h0 op_0 w_1 widths_2 widths_2n widths_2c args_3 args_3n args_3c t_10 a_17 b_18 t_91 t_233 h = some r) : c10_5 n h0 op_0 w_1 widths_2 widths_2n widths_2c args_3 args_3n args_3c t_10 a_17 b_18 t_91 t_233 h = some r := yfrom_ok hv
end
section
variable (N : NewF) (n : Nat) (h0 : AH) (t_10 a_17 : Addr) (sign_23 : Int) (out_24 : Addr) (top_25 : Int) (h : AH)
 noncomputable def c10_6 : Option (Go.Value × AH) := resY Tryd.prog n Tryd.f10 h0 (.code (subC (bodyC Tryd.f10) [1, 1, 1, 1, 1, 1, 1, 1, 0, 1, 0, 1, 1, 1, 1, 1, 1, 1, 1, 1, 1, 1, 1, 1, 1, 1, 1, 1, 1, 1, 1, 1, 1, 1, 1, 1, 1, 1, 1, 1, 0, 1, 1, 1]) [1, 1, 1, 0, 1, 1, 1, 1, 1, 1, 1, 1, 1, 1, 1, 1, 1, 1, 1, 1, 1, 1, 1, 1, 1, 1, 1, 1, 1, 1, 1, 1, 1, 0, 1, 0, 1, 1, 1, 1, 1, 1, 1, 1]) [.block 2, .seq (subC (bodyC Tryd.f10) [1, 1, 1, 1, 1, 1, 1, 1, 1]) [1, 1, 1, 1, 1, 1, 1, 1, 1]] (E [(10, .pointer (some t_10)), (17, .pointer (some a_17)), (23, .int .u64 sign_23), (24, .pointer (some out_24)), (25, .int .u64 top_25)]) h
 noncomputable def c10_6Y : Option (Go.Value × AH) := yfrom Tryd.prog (runS Tryd.prog n) n Tryd.f10 h0 p10 N (resY Tryd.prog n Tryd.f10 h0) (subC (bodyC Tryd.f10) [1, 1, 1, 1, 1, 1, 1, 1, 0, 1, 0, 1, 1, 1, 1, 1, 1, 1, 1, 1, 1, 1, 1, 1, 1, 1, 1, 1, 1, 1, 1, 1, 1, 1, 1, 1, 1, 1, 1, 1, 0, 1, 1, 1]) [1, 1, 1, 0, 1, 1, 1, 1, 1, 1, 1, 1, 1, 1, 1, 1, 1, 1, 1, 1, 1, 1, 1, 1, 1, 1, 1, 1, 1, 1, 1, 1, 1, 0, 1, 0, 1, 1, 1, 1, 1, 1, 1, 1] [.block 2, .seq (subC (bodyC Tryd.f10) [1, 1, 1, 1, 1, 1, 1, 1, 1]) [1, 1, 1, 1, 1, 1, 1, 1, 1]] (E [(10, .pointer (some t_10)), (17, .pointer (some a_17)), (23, .int .u64 sign_23), (24, .pointer (some out_24)), (25, .int .u64 top_25)]) h
variable {n} {h0} {t_10 a_17 sign_23 out_24 top_25} {h}
theorem c10_6_ok {r : Go.Value × AH} (hv : c10_6Y hNew n h0 t_10 a_17 sign_23 out_24 top_25 h = some r) : c10_6 n h0 t_10 a_17 sign_23 out_24 top_25 h = some r := yfrom_ok hv
end
 noncomputable def t10Y (N : NewF) (n : Nat) (op_0 w_1 : Int) (widths_2 : Option Addr) (widths_2n widths_2c : Nat) (args_3 : Option Addr) (args_3n args_3c : Nat) (num_4 : Int) (h : AH) : Option (Go.Value × AH) := yrun Tryd.prog (runS Tryd.prog n) n p10 N (resY Tryd.prog n) 10 [(.int .i64 op_0), (.int .i64 w_1), (.slice widths_2 widths_2n widths_2c), (.slice args_3 args_3n args_3c), (.int .u64 num_4)] h
theorem t10_ok {n : Nat} {op_0 w_1 : Int} {widths_2 : Option Addr} {widths_2n widths_2c : Nat} {args_3 : Option Addr} {args_3n args_3c : Nat} {num_4 : Int} {h : AH} {r : Go.Value × AH} (hv : t10Y hNew n op_0 w_1 widths_2 widths_2n widths_2c args_3 args_3n args_3c num_4 h = some r) : runS Tryd.prog (n + 1) 10 [(.int .i64 op_0), (.int .i64 w_1), (.slice widths_2 widths_2n widths_2c), (.slice args_3 args_3n args_3c), (.int .u64 num_4)] h = some r := yrun_ok hv
theorem t10 (N : NewF) (n : Nat) (op_0 w_1 : Int) (widths_2 : Option Addr) (widths_2n widths_2c : Nat) (args_3 : Option Addr) (args_3n args_3c : Nat) (num_4 : Int) (h : AH) : t10Y N n op_0 w_1 widths_2 widths_2n widths_2c args_3 args_3n args_3c num_4 h =
 ((N (setLow h h.next) [(.int .u64 0), (.int .u64 0)] 0)).bind fun p0 =>
 ((runS Tryd.prog n 23 [(.int .i64 op_0), (.int .i64 w_1), (.slice widths_2 widths_2n widths_2c)] p0.2)).bind fun p1 =>
 ((gB (some p1.1))).bind fun b2 =>
 cond (Bool.not b2)
 (((stL p1.2 ⟨p0.1, 0, none⟩ [(.int .u64 0), (.int .u64 0)])).bind fun x3 =>
 ((gI .u64 (rdC x3 ⟨p0.1, 0, none⟩ 0))).bind fun n4 =>
 ((gI .u64 (rdC x3 ⟨p0.1, 0, none⟩ 1))).bind fun n5 =>
 some (exitR h x3 (.agg #[(.int .u64 n4), (.int .u64 n5)])))
 (cond (iNe (Int.ofNat args_3n) (Int.ofNat widths_2n))
 (((stL p1.2 ⟨p0.1, 0, none⟩ [(.int .u64 0), (.int .u64 0)])).bind fun x6 =>
 ((gI .u64 (rdC x6 ⟨p0.1, 0, none⟩ 0))).bind fun n7 =>
 ((gI .u64 (rdC x6 ⟨p0.1, 0, none⟩ 1))).bind fun n8 =>
 some (exitR h x6 (.agg #[(.int .u64 n7), (.int .u64 n8)])))
 (c10_0 n h op_0 w_1 widths_2 widths_2n widths_2c args_3 args_3n args_3c num_4 ⟨p0.1, 0, none⟩ p1.2)) := by kernel_rfl
theorem c10_0_eq (N : NewF) (n  : Nat) (h0 : AH) (op_0 w_1 : Int) (widths_2 : Option Addr) (widths_2n widths_2c : Nat) (args_3 : Option Addr) (args_3n args_3c : Nat) (num_4 : Int) (t_10 : Addr) (h : AH) : c10_0Y N n  h0 op_0 w_1 widths_2 widths_2n widths_2c args_3 args_3n args_3c num_4 t_10 h =
 c10_1 n n h0 op_0 w_1 widths_2 widths_2n widths_2c args_3 args_3n args_3c num_4 t_10 true none 0 0 args_3 args_3n args_3c (Int.ofNat args_3n) 0 h := by kernel_rfl
theorem c10_1_eq (N : NewF) (n m0 : Nat) (h0 : AH) (op_0 w_1 : Int) (widths_2 : Option Addr) (widths_2n widths_2c : Nat) (args_3 : Option Addr) (args_3n args_3c : Nat) (num_4 : Int) (t_10 : Addr) (exact_11 : Bool) (n_12 : Option Addr) (n_12n n_12c : Nat) (t_39 : Option Addr) (t_39n t_39c : Nat) (t_40 t_41 : Int) (h : AH) : c10_1Y N n m0 h0 op_0 w_1 widths_2 widths_2n widths_2c args_3 args_3n args_3c num_4 t_10 exact_11 n_12 n_12n n_12c t_39 t_39n t_39c t_40 t_41 h =
 cond (iLt t_41 t_40)
 ((t_39).bind fun a0 =>
 cond (inB t_41 t_39n)
 (((gI .u64 (rdC h (Addr.add a0 ((Int.toNat t_41) * 2)) 0))).bind fun n1 =>
 ((gI .u64 (rdC h (Addr.add a0 ((Int.toNat t_41) * 2)) 1))).bind fun n2 =>
 ((N h [(.int .u64 0), (.int .u64 0)] 0)).bind fun p3 =>
 ((stL p3.2 ⟨p3.1, 0, none⟩ [(.int .u64 n1), (.int .u64 n2)])).bind fun x4 =>
 (widths_2).bind fun a5 =>
 cond (inB t_41 widths_2n)
 (((gI .i64 (rdC x4 (Addr.add a5 ((Int.toNat t_41) * 1)) 0))).bind fun n6 =>
 ((gI .u64 (rdC x4 ⟨p3.1, 0, none⟩ 0))).bind fun n7 =>
 ((gI .u64 (rdC x4 ⟨p3.1, 0, none⟩ 1))).bind fun n8 =>
 ((runS Tryd.prog n 19 [(.int .i64 n6), (.agg #[(.int .u64 n7), (.int .u64 n8)])] x4)).bind fun p9 =>
 ((gB (some p9.1))).bind fun b10 =>
 cond (Bool.not b10)
 (((stL p9.2 t_10 [(.int .u64 0), (.int .u64 0)])).bind fun x11 =>
 ((gI .u64 (rdC x11 t_10 0))).bind fun n12 =>
 ((gI .u64 (rdC x11 t_10 1))).bind fun n13 =>
 some (exitR h0 x11 (.agg #[(.int .u64 n12), (.int .u64 n13)])))
 ((widths_2).bind fun a14 =>
 cond (inB t_41 widths_2n)
 (((gI .i64 (rdC p9.2 (Addr.add a14 ((Int.toNat t_41) * 1)) 0))).bind fun n15 =>
 ((gI .u64 (rdC p9.2 ⟨p3.1, 0, none⟩ 0))).bind fun n16 =>
 ((gI .u64 (rdC p9.2 ⟨p3.1, 0, none⟩ 1))).bind fun n17 =>
 ((runS Tryd.prog n 13 [(.int .i64 n15), (.agg #[(.int .u64 n16), (.int .u64 n17)])] (setLow p9.2 p9.2.next))).bind fun p18 =>
 cond (tupIs 2 p18.1)
 (((gI .u64 (tupC 0 p18.1))).bind fun n19 =>
 ((gB (tupC 1 p18.1))).bind fun b20 =>
 cond (Nat.beq p18.2.low p9.2.next)
 (((N (setLow p18.2 p9.2.low) [(.int .u64 n19)] 1)).bind fun p21 =>
 ((appL 1 8 (.slice n_12 n_12n n_12c) (.slice (some ⟨p21.1, 0, none⟩) 1 1) p21.2)).bind fun p22 =>
 cond exact_11
 (c10_1 n m0 h0 op_0 w_1 widths_2 widths_2n widths_2c args_3 args_3n args_3c num_4 t_10 b20 p22.1.1 p22.1.2.1 p22.1.2.2 t_39 t_39n t_39c t_40 (iAdd .i64 t_41 1) p22.2)
 (c10_1 n m0 h0 op_0 w_1 widths_2 widths_2n widths_2c args_3 args_3n args_3c num_4 t_10 false p22.1.1 p22.1.2.1 p22.1.2.2 t_39 t_39n t_39c t_40 (iAdd .i64 t_41 1) p22.2))
 (none))
 (none))
 (none)))
 (none))
 (none))
 (cond exact_11
 (((runS Tryd.prog n 24 [(.int .i64 op_0), (.int .i64 w_1), (.slice widths_2 widths_2n widths_2c), (.slice n_12 n_12n n_12c), (.int .u64 num_4)] h)).bind fun p23 =>
 ((gI .u64 (some p23.1))).bind fun n24 =>
 ((runS Tryd.prog n 18 [(.int .i64 w_1), (.int .u64 n24)] p23.2)).bind fun p25 =>
 cond (aggIs 2 p25.1)
 (((gI .u64 (aggC 0 p25.1))).bind fun n26 =>
 ((gI .u64 (aggC 1 p25.1))).bind fun n27 =>
 ((stL p25.2 t_10 [(.int .u64 n26), (.int .u64 n27)])).bind fun x28 =>
 ((gI .u64 (rdC x28 t_10 0))).bind fun n29 =>
 ((gI .u64 (rdC x28 t_10 1))).bind fun n30 =>
 some (exitR h0 x28 (.agg #[(.int .u64 n29), (.int .u64 n30)])))
 (none))
 ((args_3).bind fun a31 =>
 cond (inB 0 args_3n)
 (((gI .u64 (rdC h (Addr.add a31 0) 0))).bind fun n32 =>
 ((gI .u64 (rdC h (Addr.add a31 0) 1))).bind fun n33 =>
 ((N h [(.int .u64 0), (.int .u64 0)] 0)).bind fun p34 =>
 ((stL p34.2 ⟨p34.1, 0, none⟩ [(.int .u64 n32), (.int .u64 n33)])).bind fun x35 =>
 (args_3).bind fun a36 =>
 cond (inB (iMin 1 (iSub .i64 (Int.ofNat args_3n) 1)) args_3n)
 (((gI .u64 (rdC x35 (Addr.add a36 ((Int.toNat (iMin 1 (iSub .i64 (Int.ofNat args_3n) 1))) * 2)) 0))).bind fun n37 =>
 ((gI .u64 (rdC x35 (Addr.add a36 ((Int.toNat (iMin 1 (iSub .i64 (Int.ofNat args_3n) 1))) * 2)) 1))).bind fun n38 =>
 ((N x35 [(.int .u64 0), (.int .u64 0)] 0)).bind fun p39 =>
 ((stL p39.2 ⟨p39.1, 0, none⟩ [(.int .u64 n37), (.int .u64 n38)])).bind fun x40 =>
 cond (iEq op_0 9)
 (((gI .u64 (rdC x40 (Addr.add ⟨p34.1, 0, none⟩ 0) 0))).bind fun n41 =>
 ((gI .u64 (rdC x40 (Addr.add ⟨p39.1, 0, none⟩ 0) 0))).bind fun n42 =>
 ((gI .u64 (rdC x40 (Addr.add ⟨p34.1, 0, none⟩ 1) 0))).bind fun n43 =>
 ((gI .u64 (rdC x40 (Addr.add ⟨p39.1, 0, none⟩ 1) 0))).bind fun n44 =>
 ((stL x40 t_10 [(.int .u64 (iOr .u64 n41 n42)), (.int .u64 (iAnd .u64 n43 n44))])).bind fun x45 =>
 ((gI .u64 (rdC x45 t_10 0))).bind fun n46 =>
 ((gI .u64 (rdC x45 t_10 1))).bind fun n47 =>
 some (exitR h0 x45 (.agg #[(.int .u64 n46), (.int .u64 n47)])))
 (cond (iEq op_0 10)
 (((gI .u64 (rdC x40 (Addr.add ⟨p34.1, 0, none⟩ 0) 0))).bind fun n48 =>
 ((gI .u64 (rdC x40 (Addr.add ⟨p39.1, 0, none⟩ 0) 0))).bind fun n49 =>
 ((gI .u64 (rdC x40 (Addr.add ⟨p34.1, 0, none⟩ 1) 0))).bind fun n50 =>
 ((gI .u64 (rdC x40 (Addr.add ⟨p39.1, 0, none⟩ 1) 0))).bind fun n51 =>
 ((stL x40 t_10 [(.int .u64 (iAnd .u64 n48 n49)), (.int .u64 (iOr .u64 n50 n51))])).bind fun x52 =>
 ((gI .u64 (rdC x52 t_10 0))).bind fun n53 =>
 ((gI .u64 (rdC x52 t_10 1))).bind fun n54 =>
 some (exitR h0 x52 (.agg #[(.int .u64 n53), (.int .u64 n54)])))
 (cond (iEq op_0 11)
 (((gI .u64 (rdC x40 (Addr.add ⟨p34.1, 0, none⟩ 0) 0))).bind fun n55 =>
 ((gI .u64 (rdC x40 (Addr.add ⟨p39.1, 0, none⟩ 0) 0))).bind fun n56 =>
 ((gI .u64 (rdC x40 (Addr.add ⟨p34.1, 0, none⟩ 1) 0))).bind fun n57 =>
 ((gI .u64 (rdC x40 (Addr.add ⟨p39.1, 0, none⟩ 1) 0))).bind fun n58 =>
 ((gI .u64 (rdC x40 (Addr.add ⟨p34.1, 0, none⟩ 0) 0))).bind fun n59 =>
 ((gI .u64 (rdC x40 (Addr.add ⟨p39.1, 0, none⟩ 1) 0))).bind fun n60 =>
 ((gI .u64 (rdC x40 (Addr.add ⟨p34.1, 0, none⟩ 1) 0))).bind fun n61 =>
 ((gI .u64 (rdC x40 (Addr.add ⟨p39.1, 0, none⟩ 0) 0))).bind fun n62 =>
 ((stL x40 t_10 [(.int .u64 (iOr .u64 (iAnd .u64 n55 n56) (iAnd .u64 n57 n58))), (.int .u64 (iOr .u64 (iAnd .u64 n59 n60) (iAnd .u64 n61 n62)))])).bind fun x63 =>
 ((gI .u64 (rdC x63 t_10 0))).bind fun n64 =>
 ((gI .u64 (rdC x63 t_10 1))).bind fun n65 =>
 some (exitR h0 x63 (.agg #[(.int .u64 n64), (.int .u64 n65)])))
 (cond (iEq op_0 2)
 (((gI .u64 (rdC x40 ⟨p34.1, 0, none⟩ 0))).bind fun n66 =>
 ((gI .u64 (rdC x40 ⟨p34.1, 0, none⟩ 1))).bind fun n67 =>
 ((gI .u64 (rdC x40 ⟨p39.1, 0, none⟩ 0))).bind fun n68 =>
 ((gI .u64 (rdC x40 ⟨p39.1, 0, none⟩ 1))).bind fun n69 =>
 ((runS Tryd.prog n 25 [(.int .i64 w_1), (.agg #[(.int .u64 n66), (.int .u64 n67)]), (.agg #[(.int .u64 n68), (.int .u64 n69)]), (.int .i64 0)] x40)).bind fun p70 =>
 cond (aggIs 2 p70.1)
 (((gI .u64 (aggC 0 p70.1))).bind fun n71 =>
 ((gI .u64 (aggC 1 p70.1))).bind fun n72 =>
 ((stL p70.2 t_10 [(.int .u64 n71), (.int .u64 n72)])).bind fun x73 =>
 ((gI .u64 (rdC x73 t_10 0))).bind fun n74 =>
 ((gI .u64 (rdC x73 t_10 1))).bind fun n75 =>
 some (exitR h0 x73 (.agg #[(.int .u64 n74), (.int .u64 n75)])))
 (none))
 (cond (iEq op_0 3)
 (((gI .u64 (rdC x40 ⟨p34.1, 0, none⟩ 0))).bind fun n76 =>
 ((gI .u64 (rdC x40 ⟨p34.1, 0, none⟩ 1))).bind fun n77 =>
 ((gI .u64 (rdC x40 (Addr.add ⟨p39.1, 0, none⟩ 1) 0))).bind fun n78 =>
 ((gI .u64 (rdC x40 (Addr.add ⟨p39.1, 0, none⟩ 0) 0))).bind fun n79 =>
 ((runS Tryd.prog n 25 [(.int .i64 w_1), (.agg #[(.int .u64 n76), (.int .u64 n77)]), (.agg #[(.int .u64 n78), (.int .u64 n79)]), (.int .i64 1)] x40)).bind fun p80 =>
 cond (aggIs 2 p80.1)
 (((gI .u64 (aggC 0 p80.1))).bind fun n81 =>
 ((gI .u64 (aggC 1 p80.1))).bind fun n82 =>
 ((stL p80.2 t_10 [(.int .u64 n81), (.int .u64 n82)])).bind fun x83 =>
 ((gI .u64 (rdC x83 t_10 0))).bind fun n84 =>
 ((gI .u64 (rdC x83 t_10 1))).bind fun n85 =>
 some (exitR h0 x83 (.agg #[(.int .u64 n84), (.int .u64 n85)])))
 (none))
 (cond (iEq op_0 4)
 (((gI .u64 (rdC x40 ⟨p34.1, 0, none⟩ 0))).bind fun n86 =>
 ((gI .u64 (rdC x40 ⟨p34.1, 0, none⟩ 1))).bind fun n87 =>
 ((gI .u64 (rdC x40 ⟨p39.1, 0, none⟩ 0))).bind fun n88 =>
 ((gI .u64 (rdC x40 ⟨p39.1, 0, none⟩ 1))).bind fun n89 =>
 ((runS Tryd.prog n 26 [(.int .i64 w_1), (.agg #[(.int .u64 n86), (.int .u64 n87)]), (.agg #[(.int .u64 n88), (.int .u64 n89)])] x40)).bind fun p90 =>
 cond (aggIs 2 p90.1)
 (((gI .u64 (aggC 0 p90.1))).bind fun n91 =>
 ((gI .u64 (aggC 1 p90.1))).bind fun n92 =>
 ((stL p90.2 t_10 [(.int .u64 n91), (.int .u64 n92)])).bind fun x93 =>
 ((gI .u64 (rdC x93 t_10 0))).bind fun n94 =>
 ((gI .u64 (rdC x93 t_10 1))).bind fun n95 =>
 some (exitR h0 x93 (.agg #[(.int .u64 n94), (.int .u64 n95)])))
 (none))
 (cond (iEq op_0 5)
 (((gI .u64 (rdC x40 (Addr.add ⟨p39.1, 0, none⟩ 1) 0))).bind fun n96 =>
 cond (iNe n96 0)
 (((gI .u64 (rdC x40 (Addr.add ⟨p34.1, 0, none⟩ 0) 0))).bind fun n97 =>
 ((runS Tryd.prog n 28 [(.int .i64 w_1), (.int .u64 n97)] x40)).bind fun p98 =>
 ((gI .i64 (some p98.1))).bind fun n99 =>
 ((runS Tryd.prog n 27 [(.int .i64 w_1), (.int .i64 n99)] p98.2)).bind fun p100 =>
 ((gI .u64 (some p100.1))).bind fun n101 =>
 ((stL p100.2 t_10 [(.int .u64 n101), (.int .u64 0)])).bind fun x102 =>
 ((gI .u64 (rdC x102 t_10 0))).bind fun n103 =>
 ((gI .u64 (rdC x102 t_10 1))).bind fun n104 =>
 some (exitR h0 x102 (.agg #[(.int .u64 n103), (.int .u64 n104)])))
 (((stL x40 t_10 [(.int .u64 0), (.int .u64 0)])).bind fun x105 =>
 ((gI .u64 (rdC x105 t_10 0))).bind fun n106 =>
 ((gI .u64 (rdC x105 t_10 1))).bind fun n107 =>
 some (exitR h0 x105 (.agg #[(.int .u64 n106), (.int .u64 n107)]))))
 (cond (iEq op_0 6)
 (((gI .u64 (rdC x40 ⟨p34.1, 0, none⟩ 0))).bind fun n108 =>
 ((gI .u64 (rdC x40 ⟨p34.1, 0, none⟩ 1))).bind fun n109 =>
 ((gI .u64 (rdC x40 ⟨p39.1, 0, none⟩ 0))).bind fun n110 =>
 ((gI .u64 (rdC x40 ⟨p39.1, 0, none⟩ 1))).bind fun n111 =>
 ((runS Tryd.prog n 29 [(.int .i64 w_1), (.agg #[(.int .u64 n108), (.int .u64 n109)]), (.agg #[(.int .u64 n110), (.int .u64 n111)])] x40)).bind fun p112 =>
 cond (aggIs 2 p112.1)
 (((gI .u64 (aggC 0 p112.1))).bind fun n113 =>
 ((gI .u64 (aggC 1 p112.1))).bind fun n114 =>
 ((stL p112.2 t_10 [(.int .u64 n113), (.int .u64 n114)])).bind fun x115 =>
 ((gI .u64 (rdC x115 t_10 0))).bind fun n116 =>
 ((gI .u64 (rdC x115 t_10 1))).bind fun n117 =>
 some (exitR h0 x115 (.agg #[(.int .u64 n116), (.int .u64 n117)])))
 (none))
 (cond (iEq op_0 12)
 (c10_2 n h0 op_0 w_1 widths_2 widths_2n widths_2c args_3 args_3n args_3c t_10 ⟨p34.1, 0, none⟩ ⟨p39.1, 0, none⟩ op_0 true x40)
 (cond (iEq op_0 13)
 (c10_2 n h0 op_0 w_1 widths_2 widths_2n widths_2c args_3 args_3n args_3c t_10 ⟨p34.1, 0, none⟩ ⟨p39.1, 0, none⟩ op_0 true x40)
 (c10_2 n h0 op_0 w_1 widths_2 widths_2n widths_2c args_3 args_3n args_3c t_10 ⟨p34.1, 0, none⟩ ⟨p39.1, 0, none⟩ op_0 (iEq op_0 14) x40)))))))))))
 (none))
 (none))) := by kernel_rfl
theorem c10_2_eq (N : NewF) (n  : Nat) (h0 : AH) (op_0 w_1 : Int) (widths_2 : Option Addr) (widths_2n widths_2c : Nat) (args_3 : Option Addr) (args_3n args_3c : Nat) (t_10 a_17 b_18 : Addr) (t_91 : Int) (t_183 : Bool) (h : AH) : c10_2Y N n  h0 op_0 w_1 widths_2 widths_2n widths_2c args_3 args_3n args_3c t_10 a_17 b_18 t_91 t_183 h =
 cond t_183
 (((gI .u64 (rdC h b_18 0))).bind fun n0 =>
 ((gI .u64 (rdC h b_18 1))).bind fun n1 =>
 ((runS Tryd.prog n 13 [(.int .i64 w_1), (.agg #[(.int .u64 n0), (.int .u64 n1)])] h)).bind fun p2 =>
 cond (tupIs 2 p2.1)
 (((gI .u64 (tupC 0 p2.1))).bind fun n3 =>
 ((gB (tupC 1 p2.1))).bind fun b4 =>
 cond b4
 (((gI .u64 (rdC p2.2 a_17 0))).bind fun n5 =>
 ((gI .u64 (rdC p2.2 a_17 1))).bind fun n6 =>
 ((runS Tryd.prog n 30 [(.int .i64 op_0), (.int .i64 w_1), (.agg #[(.int .u64 n5), (.int .u64 n6)]), (.int .u64 n3)] p2.2)).bind fun p7 =>
 cond (aggIs 2 p7.1)
 (((gI .u64 (aggC 0 p7.1))).bind fun n8 =>
 ((gI .u64 (aggC 1 p7.1))).bind fun n9 =>
 ((stL p7.2 t_10 [(.int .u64 n8), (.int .u64 n9)])).bind fun x10 =>
 ((gI .u64 (rdC x10 t_10 0))).bind fun n11 =>
 ((gI .u64 (rdC x10 t_10 1))).bind fun n12 =>
 some (exitR h0 x10 (.agg #[(.int .u64 n11), (.int .u64 n12)])))
 (none))
 (((gI .u64 (rdC p2.2 a_17 0))).bind fun n13 =>
 ((gI .u64 (rdC p2.2 a_17 1))).bind fun n14 =>
 ((runS Tryd.prog n 31 [(.int .i64 op_0), (.int .i64 w_1), (.agg #[(.int .u64 n13), (.int .u64 n14)])] p2.2)).bind fun p15 =>
 cond (aggIs 2 p15.1)
 (((gI .u64 (aggC 0 p15.1))).bind fun n16 =>
 ((gI .u64 (aggC 1 p15.1))).bind fun n17 =>
 ((stL p15.2 t_10 [(.int .u64 n16), (.int .u64 n17)])).bind fun x18 =>
 ((gI .u64 (rdC x18 t_10 0))).bind fun n19 =>
 ((gI .u64 (rdC x18 t_10 1))).bind fun n20 =>
 some (exitR h0 x18 (.agg #[(.int .u64 n19), (.int .u64 n20)])))
 (none)))
 (none))
 (cond (iEq t_91 15)
 (c10_3 n h0 op_0 w_1 widths_2 widths_2n widths_2c args_3 args_3n args_3c t_10 a_17 b_18 t_91 true h)
 (c10_3 n h0 op_0 w_1 widths_2 widths_2n widths_2c args_3 args_3n args_3c t_10 a_17 b_18 t_91 (iEq t_91 16) h)) := by kernel_rfl
theorem c10_3_eq (N : NewF) (n  : Nat) (h0 : AH) (op_0 w_1 : Int) (widths_2 : Option Addr) (widths_2n widths_2c : Nat) (args_3 : Option Addr) (args_3n args_3c : Nat) (t_10 a_17 b_18 : Addr) (t_91 : Int) (t_203 : Bool) (h : AH) : c10_3Y N n  h0 op_0 w_1 widths_2 widths_2n widths_2c args_3 args_3n args_3c t_10 a_17 b_18 t_91 t_203 h =
 cond t_203
 (((gI .u64 (rdC h (Addr.add a_17 0) 0))).bind fun n0 =>
 ((gI .u64 (rdC h (Addr.add b_18 1) 0))).bind fun n1 =>
 ((gI .u64 (rdC h (Addr.add a_17 1) 0))).bind fun n2 =>
 ((gI .u64 (rdC h (Addr.add b_18 0) 0))).bind fun n3 =>
 cond (iNe (iOr .u64 (iAnd .u64 n0 n1) (iAnd .u64 n2 n3)) 0)
 (((runS Tryd.prog n 32 [(.bool (iEq op_0 16))] h)).bind fun p4 =>
 ((gI .u64 (some p4.1))).bind fun n5 =>
 ((runS Tryd.prog n 18 [(.int .i64 1), (.int .u64 n5)] p4.2)).bind fun p6 =>
 cond (aggIs 2 p6.1)
 (((gI .u64 (aggC 0 p6.1))).bind fun n7 =>
 ((gI .u64 (aggC 1 p6.1))).bind fun n8 =>
 ((stL p6.2 t_10 [(.int .u64 n7), (.int .u64 n8)])).bind fun x9 =>
 ((gI .u64 (rdC x9 t_10 0))).bind fun n10 =>
 ((gI .u64 (rdC x9 t_10 1))).bind fun n11 =>
 some (exitR h0 x9 (.agg #[(.int .u64 n10), (.int .u64 n11)])))
 (none))
 (((stL h t_10 [(.int .u64 0), (.int .u64 0)])).bind fun x12 =>
 ((gI .u64 (rdC x12 t_10 0))).bind fun n13 =>
 ((gI .u64 (rdC x12 t_10 1))).bind fun n14 =>
 some (exitR h0 x12 (.agg #[(.int .u64 n13), (.int .u64 n14)]))))
 (cond (iEq t_91 17)
 (c10_4 n h0 op_0 w_1 widths_2 widths_2n widths_2c args_3 args_3n args_3c t_10 a_17 b_18 t_91 true h)
 (c10_4 n h0 op_0 w_1 widths_2 widths_2n widths_2c args_3 args_3n args_3c t_10 a_17 b_18 t_91 (iEq t_91 18) h)) := by kernel_rfl
theorem c10_4_eq (N : NewF) (n  : Nat) (h0 : AH) (op_0 w_1 : Int) (widths_2 : Option Addr) (widths_2n widths_2c : Nat) (args_3 : Option Addr) (args_3n args_3c : Nat) (t_10 a_17 b_18 : Addr) (t_91 : Int) (t_222 : Bool) (h : AH) : c10_4Y N n  h0 op_0 w_1 widths_2 widths_2n widths_2c args_3 args_3n args_3c t_10 a_17 b_18 t_91 t_222 h =
 cond t_222
 ((widths_2).bind fun a0 =>
 cond (inB 0 widths_2n)
 (((gI .i64 (rdC h (Addr.add a0 0) 0))).bind fun n1 =>
 ((gI .u64 (rdC h a_17 0))).bind fun n2 =>
 ((gI .u64 (rdC h a_17 1))).bind fun n3 =>
 ((gI .u64 (rdC h b_18 0))).bind fun n4 =>
 ((gI .u64 (rdC h b_18 1))).bind fun n5 =>
 ((runS Tryd.prog n 33 [(.int .i64 n1), (.agg #[(.int .u64 n2), (.int .u64 n3)]), (.agg #[(.int .u64 n4), (.int .u64 n5)]), (.bool (iEq op_0 18))] h)).bind fun p6 =>
 cond (aggIs 2 p6.1)
 (((gI .u64 (aggC 0 p6.1))).bind fun n7 =>
 ((gI .u64 (aggC 1 p6.1))).bind fun n8 =>
 ((stL p6.2 t_10 [(.int .u64 n7), (.int .u64 n8)])).bind fun x9 =>
 ((gI .u64 (rdC x9 t_10 0))).bind fun n10 =>
 ((gI .u64 (rdC x9 t_10 1))).bind fun n11 =>
 some (exitR h0 x9 (.agg #[(.int .u64 n10), (.int .u64 n11)])))
 (none))
 (none))
 (cond (iEq t_91 19)
 (c10_5 n h0 op_0 w_1 widths_2 widths_2n widths_2c args_3 args_3n args_3c t_10 a_17 b_18 t_91 true h)
 (c10_5 n h0 op_0 w_1 widths_2 widths_2n widths_2c args_3 args_3n args_3c t_10 a_17 b_18 t_91 (iEq t_91 20) h)) := by kernel_rfl
theorem c10_5_eq (N : NewF) (n  : Nat) (h0 : AH) (op_0 w_1 : Int) (widths_2 : Option Addr) (widths_2n widths_2c : Nat) (args_3 : Option Addr) (args_3n args_3c : Nat) (t_10 a_17 b_18 : Addr) (t_91 : Int) (t_233 : Bool) (h : AH) : c10_5Y N n  h0 op_0 w_1 widths_2 widths_2n widths_2c args_3 args_3n args_3c t_10 a_17 b_18 t_91 t_233 h =
 cond t_233
 ((widths_2).bind fun a0 =>
 cond (inB 0 widths_2n)
 (((gI .i64 (rdC h (Addr.add a0 0) 0))).bind fun n1 =>
 (widths_2).bind fun a2 =>
 cond (inB 0 widths_2n)
 (((gI .i64 (rdC h (Addr.add a2 0) 0))).bind fun n3 =>
 ((gI .u64 (rdC h a_17 0))).bind fun n4 =>
 ((gI .u64 (rdC h a_17 1))).bind fun n5 =>
 ((runS Tryd.prog n 34 [(.int .i64 n3), (.agg #[(.int .u64 n4), (.int .u64 n5)])] (setLow h h.next))).bind fun p6 =>
 cond (aggIs 2 p6.1)
 (((gI .u64 (aggC 0 p6.1))).bind fun n7 =>
 ((gI .u64 (aggC 1 p6.1))).bind fun n8 =>
 cond (Nat.beq p6.2.low h.next)
 ((widths_2).bind fun a9 =>
 cond (inB 0 widths_2n)
 (((gI .i64 (rdC (setLow p6.2 h.low) (Addr.add a9 0) 0))).bind fun n10 =>
 ((gI .u64 (rdC (setLow p6.2 h.low) b_18 0))).bind fun n11 =>
 ((gI .u64 (rdC (setLow p6.2 h.low) b_18 1))).bind fun n12 =>
 ((runS Tryd.prog n 34 [(.int .i64 n10), (.agg #[(.int .u64 n11), (.int .u64 n12)])] (setLow (setLow p6.2 h.low) (setLow p6.2 h.low).next))).bind fun p13 =>
 cond (aggIs 2 p13.1)
 (((gI .u64 (aggC 0 p13.1))).bind fun n14 =>
 ((gI .u64 (aggC 1 p13.1))).bind fun n15 =>
 cond (Nat.beq p13.2.low (setLow p6.2 h.low).next)
 (((runS Tryd.prog n 33 [(.int .i64 n1), (.agg #[(.int .u64 n7), (.int .u64 n8)]), (.agg #[(.int .u64 n14), (.int .u64 n15)]), (.bool (iEq op_0 20))] (setLow p13.2 (setLow p6.2 h.low).low))).bind fun p16 =>
 cond (aggIs 2 p16.1)
 (((gI .u64 (aggC 0 p16.1))).bind fun n17 =>
 ((gI .u64 (aggC 1 p16.1))).bind fun n18 =>
 ((stL p16.2 t_10 [(.int .u64 n17), (.int .u64 n18)])).bind fun x19 =>
 ((gI .u64 (rdC x19 t_10 0))).bind fun n20 =>
 ((gI .u64 (rdC x19 t_10 1))).bind fun n21 =>
 some (exitR h0 x19 (.agg #[(.int .u64 n20), (.int .u64 n21)])))
 (none))
 (none))
 (none))
 (none))
 (none))
 (none))
 (none))
 (none))
 (cond (iEq t_91 21)
 (((gI .u64 (rdC h a_17 0))).bind fun n22 =>
 ((gI .u64 (rdC h a_17 1))).bind fun n23 =>
 ((runS Tryd.prog n 13 [(.int .i64 1), (.agg #[(.int .u64 n22), (.int .u64 n23)])] h)).bind fun p24 =>
 cond (tupIs 2 p24.1)
 (((gI .u64 (tupC 0 p24.1))).bind fun n25 =>
 ((gB (tupC 1 p24.1))).bind fun b26 =>
 cond b26
 ((args_3).bind fun a27 =>
 cond (inB (iSub .u64 2 n25) args_3n)
 (((gI .u64 (rdC p24.2 (Addr.add a27 ((Int.toNat (iSub .u64 2 n25)) * 2)) 0))).bind fun n28 =>
 ((gI .u64 (rdC p24.2 (Addr.add a27 ((Int.toNat (iSub .u64 2 n25)) * 2)) 1))).bind fun n29 =>
 ((stL p24.2 t_10 [(.int .u64 n28), (.int .u64 n29)])).bind fun x30 =>
 ((gI .u64 (rdC x30 t_10 0))).bind fun n31 =>
 ((gI .u64 (rdC x30 t_10 1))).bind fun n32 =>
 some (exitR h0 x30 (.agg #[(.int .u64 n31), (.int .u64 n32)])))
 (none))
 (((gI .u64 (rdC p24.2 b_18 0))).bind fun n33 =>
 ((gI .u64 (rdC p24.2 b_18 1))).bind fun n34 =>
 (args_3).bind fun a35 =>
 cond (inB 2 args_3n)
 (((gI .u64 (rdC p24.2 (Addr.add a35 4) 0))).bind fun n36 =>
 ((gI .u64 (rdC p24.2 (Addr.add a35 4) 1))).bind fun n37 =>
 ((runS Tryd.prog n 35 [(.agg #[(.int .u64 n33), (.int .u64 n34)]), (.agg #[(.int .u64 n36), (.int .u64 n37)])] p24.2)).bind fun p38 =>
 cond (aggIs 2 p38.1)
 (((gI .u64 (aggC 0 p38.1))).bind fun n39 =>
 ((gI .u64 (aggC 1 p38.1))).bind fun n40 =>
 ((stL p38.2 t_10 [(.int .u64 n39), (.int .u64 n40)])).bind fun x41 =>
 ((gI .u64 (rdC x41 t_10 0))).bind fun n42 =>
 ((gI .u64 (rdC x41 t_10 1))).bind fun n43 =>
 some (exitR h0 x41 (.agg #[(.int .u64 n42), (.int .u64 n43)])))
 (none))
 (none)))
 (none))
 (cond (iEq t_91 22)
 (((gI .u64 (rdC h (Addr.add a_17 0) 0))).bind fun n44 =>
 ((runS Tryd.prog n 36 [(.int .i64 w_1)] (setLow h h.next))).bind fun p45 =>
 ((gI .u64 (some p45.1))).bind fun n46 =>
 cond (Nat.beq p45.2.low h.next)
 ((widths_2).bind fun a47 =>
 cond (inB 0 widths_2n)
 (((gI .i64 (rdC (setLow p45.2 h.low) (Addr.add a47 0) 0))).bind fun n48 =>
 ((runS Tryd.prog n 36 [(.int .i64 n48)] (setLow (setLow p45.2 h.low) (setLow p45.2 h.low).next))).bind fun p49 =>
 ((gI .u64 (some p49.1))).bind fun n50 =>
 cond (Nat.beq p49.2.low (setLow p45.2 h.low).next)
 (((gI .u64 (rdC (setLow p49.2 (setLow p45.2 h.low).low) (Addr.add a_17 1) 0))).bind fun n51 =>
 ((stL (setLow p49.2 (setLow p45.2 h.low).low) t_10 [(.int .u64 (iOr .u64 n44 (iAndNot .u64 n46 n50))), (.int .u64 n51)])).bind fun x52 =>
 ((gI .u64 (rdC x52 t_10 0))).bind fun n53 =>
 ((gI .u64 (rdC x52 t_10 1))).bind fun n54 =>
 some (exitR h0 x52 (.agg #[(.int .u64 n53), (.int .u64 n54)])))
 (none))
 (none))
 (none))
 (cond (iEq t_91 23)
 ((widths_2).bind fun a55 =>
 cond (inB 0 widths_2n)
 (((gI .i64 (rdC h (Addr.add a55 0) 0))).bind fun n56 =>
 cond (iLt (iSub .i64 n56 1) 0)
 (none)
 (((gI .u64 (rdC h a_17 0))).bind fun n57 =>
 ((gI .u64 (rdC h a_17 1))).bind fun n58 =>
 ((runS Tryd.prog n 36 [(.int .i64 w_1)] (setLow h h.next))).bind fun p59 =>
 ((gI .u64 (some p59.1))).bind fun n60 =>
 cond (Nat.beq p59.2.low h.next)
 ((widths_2).bind fun a61 =>
 cond (inB 0 widths_2n)
 (((gI .i64 (rdC (setLow p59.2 h.low) (Addr.add a61 0) 0))).bind fun n62 =>
 ((runS Tryd.prog n 36 [(.int .i64 n62)] (setLow (setLow p59.2 h.low) (setLow p59.2 h.low).next))).bind fun p63 =>
 ((gI .u64 (some p63.1))).bind fun n64 =>
 cond (Nat.beq p63.2.low (setLow p59.2 h.low).next)
 (((N (setLow p63.2 (setLow p59.2 h.low).low) [(.int .u64 0), (.int .u64 0)] 0)).bind fun p65 =>
 ((stL p65.2 ⟨p65.1, 0, none⟩ [(.int .u64 n57), (.int .u64 n58)])).bind fun x66 =>
 ((gI .u64 (rdC x66 (Addr.add a_17 0) 0))).bind fun n67 =>
 cond (iNe (iAnd .u64 n67 (iShl .u64 1 (iSub .i64 n56 1))) 0)
 (((gI .u64 (rdC x66 (Addr.add ⟨p65.1, 0, none⟩ 0) 0))).bind fun n68 =>
 ((stL x66 (Addr.add ⟨p65.1, 0, none⟩ 0) [(.int .u64 (iOr .u64 n68 (iAndNot .u64 n60 n64)))])).bind fun x69 =>
 c10_6 n h0 t_10 a_17 (iShl .u64 1 (iSub .i64 n56 1)) ⟨p65.1, 0, none⟩ (iAndNot .u64 n60 n64) x69)
 (c10_6 n h0 t_10 a_17 (iShl .u64 1 (iSub .i64 n56 1)) ⟨p65.1, 0, none⟩ (iAndNot .u64 n60 n64) x66))
 (none))
 (none))
 (none)))
 (none))
 (cond (iEq t_91 24)
 (((gI .u64 (rdC h (Addr.add a_17 0) 0))).bind fun n70 =>
 ((runS Tryd.prog n 36 [(.int .i64 w_1)] (setLow h h.next))).bind fun p71 =>
 ((gI .u64 (some p71.1))).bind fun n72 =>
 cond (Nat.beq p71.2.low h.next)
 (((gI .u64 (rdC (setLow p71.2 h.low) (Addr.add a_17 1) 0))).bind fun n73 =>
 ((runS Tryd.prog n 36 [(.int .i64 w_1)] (setLow (setLow p71.2 h.low) (setLow p71.2 h.low).next))).bind fun p74 =>
 ((gI .u64 (some p74.1))).bind fun n75 =>
 cond (Nat.beq p74.2.low (setLow p71.2 h.low).next)
 (((stL (setLow p74.2 (setLow p71.2 h.low).low) t_10 [(.int .u64 (iAnd .u64 n70 n72)), (.int .u64 (iAnd .u64 n73 n75))])).bind fun x76 =>
 ((gI .u64 (rdC x76 t_10 0))).bind fun n77 =>
 ((gI .u64 (rdC x76 t_10 1))).bind fun n78 =>
 some (exitR h0 x76 (.agg #[(.int .u64 n77), (.int .u64 n78)])))
 (none))
 (none))
 (((stL h t_10 [(.int .u64 0), (.int .u64 0)])).bind fun x79 =>
 ((gI .u64 (rdC x79 t_10 0))).bind fun n80 =>
 ((gI .u64 (rdC x79 t_10 1))).bind fun n81 =>
 some (exitR h0 x79 (.agg #[(.int .u64 n80), (.int .u64 n81)]))))))) := by kernel_rfl
theorem c10_6_eq (N : NewF) (n  : Nat) (h0 : AH) (t_10 a_17 : Addr) (sign_23 : Int) (out_24 : Addr) (top_25 : Int) (h : AH) : c10_6Y N n  h0 t_10 a_17 sign_23 out_24 top_25 h =
 ((gI .u64 (rdC h (Addr.add a_17 1) 0))).bind fun n0 =>
 cond (iNe (iAnd .u64 n0 sign_23) 0)
 (((gI .u64 (rdC h (Addr.add out_24 1) 0))).bind fun n1 =>
 ((stL h (Addr.add out_24 1) [(.int .u64 (iOr .u64 n1 top_25))])).bind fun x2 =>
 ((gI .u64 (rdC x2 out_24 0))).bind fun n3 =>
 ((gI .u64 (rdC x2 out_24 1))).bind fun n4 =>
 ((stL x2 t_10 [(.int .u64 n3), (.int .u64 n4)])).bind fun x5 =>
 ((gI .u64 (rdC x5 t_10 0))).bind fun n6 =>
 ((gI .u64 (rdC x5 t_10 1))).bind fun n7 =>
 some (exitR h0 x5 (.agg #[(.int .u64 n6), (.int .u64 n7)])))
 (((gI .u64 (rdC h out_24 0))).bind fun n8 =>
 ((gI .u64 (rdC h out_24 1))).bind fun n9 =>
 ((stL h t_10 [(.int .u64 n8), (.int .u64 n9)])).bind fun x10 =>
 ((gI .u64 (rdC x10 t_10 0))).bind fun n11 =>
 ((gI .u64 (rdC x10 t_10 1))).bind fun n12 =>
 some (exitR h0 x10 (.agg #[(.int .u64 n11), (.int .u64 n12)]))) := by kernel_rfl
end Go.Proofs.YtiadfnedbbkojaaDoor.Kb
namespace Go.Proofs.YtiadfnedbbkojaaDoor.Kb
open Go Go.Proofs Go.Proofs.YtiadfnedbbkojaaDoor Go.Proofs.YtiadfnedbbkojaaDoor.X
set_option maxRecDepth 100000
set_option linter.unusedVariables false
def p11 : List (List Nat × List Nat) := [([1, 1, 1], [0, 1, 2, 3, 4, 10, 11]), ([0, 1, 0, 1, 1, 1, 1, 1], [0, 1, 2, 3, 4, 10, 11, 12, 13, 14]), ([1, 1, 0, 0, 1, 0, 0, 1, 0, 1, 1, 1, 1, 1], [0, 1, 2, 3, 4, 10, 11, 12, 13, 14]), ([1, 1, 1, 1, 1, 1, 1, 1, 1, 1], [0, 1, 2, 3, 10, 11, 15, 16]), ([1, 1, 1, 1, 1, 1, 1, 1, 1, 1, 1, 1, 1, 1, 1, 1, 1, 0, 1, 0, 1, 1, 1, 1, 1, 1, 1, 1, 1, 1], [0, 1, 2, 3, 10, 11, 15, 16, 88, 179]), ([1, 1, 1, 1, 1, 1, 1, 1, 1, 1, 1, 1, 1, 1, 1, 1, 1, 1, 1, 0, 1, 0, 1, 1, 1, 1, 1, 1, 1, 1, 1, 1], [0, 1, 2, 3, 10, 15, 16, 88, 183]), ([1, 0, 1, 1, 1, 1, 1, 1, 1, 1, 1, 1, 1, 1, 1, 1, 1, 1, 1, 1, 1, 1, 1, 0, 1, 0, 1, 1, 1, 1, 1, 1, 1, 1, 1, 1], [0, 2, 3, 10, 15, 16]), ([0, 1, 0, 1, 0, 1, 1, 1, 1, 1, 1, 1, 1, 1, 1, 1, 1, 1, 1, 1, 1, 1, 1, 1, 1, 1, 1, 1, 1, 1, 0, 1, 0, 1, 1, 1, 1, 1, 1, 1, 1, 1, 1], [0, 1, 2, 10, 15, 16, 17, 18]), ([1, 1, 1, 1, 1, 1, 1, 1, 1, 1, 1], [0, 2, 10, 15, 16])]
section
variable (N : NewF) (n : Nat) (h0 : AH) (op_0 w_1 : Int) (widths_2 : Option Addr) (widths_2n widths_2c : Nat) (args_3 : Option Addr) (args_3n args_3c : Nat) (num_4 : Int) (t_10 none_11 : Addr) (h : AH)
 noncomputable def c11_0 : Option (Go.Value × AH) := resY Tryd.prog n Tryd.f11 h0 (.code (subC (bodyC Tryd.f11) [1, 1, 1]) [1, 1, 1]) [] (E [(0, .int .i64 op_0), (1, .int .i64 w_1), (2, .slice widths_2 widths_2n widths_2c), (3, .slice args_3 args_3n args_3c), (4, .int .u64 num_4), (10, .pointer (some t_10)), (11, .pointer (some none_11))]) h
 noncomputable def c11_0Y : Option (Go.Value × AH) := yfrom Tryd.prog (runS Tryd.prog n) n Tryd.f11 h0 p11 N (resY Tryd.prog n Tryd.f11 h0) (subC (bodyC Tryd.f11) [1, 1, 1]) [1, 1, 1] [] (E [(0, .int .i64 op_0), (1, .int .i64 w_1), (2, .slice widths_2 widths_2n widths_2c), (3, .slice args_3 args_3n args_3c), (4, .int .u64 num_4), (10, .pointer (some t_10)), (11, .pointer (some none_11))]) h
variable {n} {h0} {op_0 w_1 widths_2 widths_2n widths_2c args_3 args_3n args_3c num_4 t_10 none_11} {h}
theorem c11_0_ok {r : Go.Value × AH} (hv : c11_0Y hNew n h0 op_0 w_1 widths_2 widths_2n widths_2c args_3 args_3n args_3c num_4 t_10 none_11 h = some r) : c11_0 n h0 op_0 w_1 widths_2 widths_2n widths_2c args_3 args_3n args_3c num_4 t_10 none_11 h = some r := yfrom_ok hv
end
section
variable (N : NewF) (n m0 : Nat) (h0 : AH) (op_0 w_1 : Int) (widths_2 : Option Addr) (widths_2n widths_2c : Nat) (args_3 : Option Addr) (args_3n args_3c : Nat) (num_4 : Int) (t_10 none_11 : Addr) (exact_12 : Bool) (words_13 : Option Addr) (words_13n words_13c : Nat) (i_14 : Int) (h : AH)
 noncomputable def c11_1 : Option (Go.Value × AH) := resY Tryd.prog n Tryd.f11 h0 (.head (subC (bodyC Tryd.f11) [1, 1, 1, 1, 1, 0, 1, 0, 0]) [0, 1, 0, 1, 1, 1, 1, 1] m0) [.block 0, .seq (subC (bodyC Tryd.f11) [1, 1, 1, 1, 1, 1]) [1, 1, 1, 1, 1, 1]] (E [(0, .int .i64 op_0), (1, .int .i64 w_1), (2, .slice widths_2 widths_2n widths_2c), (3, .slice args_3 args_3n args_3c), (4, .int .u64 num_4), (10, .pointer (some t_10)), (11, .pointer (some none_11)), (12, .bool exact_12), (13, .slice words_13 words_13n words_13c), (14, .int .i64 i_14)]) h
 noncomputable def c11_1Y : Option (Go.Value × AH) := yhead Tryd.prog (runS Tryd.prog n) n Tryd.f11 h0 p11 N (resY Tryd.prog n Tryd.f11 h0) (subC (bodyC Tryd.f11) [1, 1, 1, 1, 1, 0, 1, 0, 0]) [0, 1, 0, 1, 1, 1, 1, 1] m0 [.block 0, .seq (subC (bodyC Tryd.f11) [1, 1, 1, 1, 1, 1]) [1, 1, 1, 1, 1, 1]] (E [(0, .int .i64 op_0), (1, .int .i64 w_1), (2, .slice widths_2 widths_2n widths_2c), (3, .slice args_3 args_3n args_3c), (4, .int .u64 num_4), (10, .pointer (some t_10)), (11, .pointer (some none_11)), (12, .bool exact_12), (13, .slice words_13 words_13n words_13c), (14, .int .i64 i_14)]) h
variable {n m0} {h0} {op_0 w_1 widths_2 widths_2n widths_2c args_3 args_3n args_3c num_4 t_10 none_11 exact_12 words_13 words_13n words_13c i_14} {h}
theorem c11_1_ok {r : Go.Value × AH} (hv : c11_1Y hNew n m0 h0 op_0 w_1 widths_2 widths_2n widths_2c args_3 args_3n args_3c num_4 t_10 none_11 exact_12 words_13 words_13n words_13c i_14 h = some r) : c11_1 n (m0 + 1) h0 op_0 w_1 widths_2 widths_2n widths_2c args_3 args_3n args_3c num_4 t_10 none_11 exact_12 words_13 words_13n words_13c i_14 h = some r := yhead_ok hv
end
section
variable (N : NewF) (n m0 : Nat) (h0 : AH) (op_0 w_1 : Int) (widths_2 : Option Addr) (widths_2n widths_2c : Nat) (args_3 : Option Addr) (args_3n args_3c : Nat) (num_4 : Int) (t_10 none_11 : Addr) (exact_12 : Bool) (words_13 : Option Addr) (words_13n words_13c : Nat) (i_14 : Int) (h : AH)
 noncomputable def c11_2 : Option (Go.Value × AH) := resY Tryd.prog n Tryd.f11 h0 (.code (subC (bodyC Tryd.f11) [1, 1, 1, 1, 1, 0, 1, 0, 0, 1, 0, 0, 1, 1]) [1, 1, 0, 0, 1, 0, 0, 1, 0, 1, 1, 1, 1, 1]) [.block 1, .seq (subC (bodyC Tryd.f11) [1, 1, 1, 1, 1, 0, 1, 0, 0, 1, 1]) [1, 1, 0, 0, 1, 0, 1, 1, 1, 1, 1], .loop (subC (bodyC Tryd.f11) [1, 1, 1, 1, 1, 0, 1, 0, 0]) [0, 1, 0, 1, 1, 1, 1, 1] m0, .block 0, .seq (subC (bodyC Tryd.f11) [1, 1, 1, 1, 1, 1]) [1, 1, 1, 1, 1, 1]] (E [(0, .int .i64 op_0), (1, .int .i64 w_1), (2, .slice widths_2 widths_2n widths_2c), (3, .slice args_3 args_3n args_3c), (4, .int .u64 num_4), (10, .pointer (some t_10)), (11, .pointer (some none_11)), (12, .bool exact_12), (13, .slice words_13 words_13n words_13c), (14, .int .i64 i_14)]) h
 noncomputable def c11_2Y : Option (Go.Value × AH) := yfrom Tryd.prog (runS Tryd.prog n) n Tryd.f11 h0 p11 N (resY Tryd.prog n Tryd.f11 h0) (subC (bodyC Tryd.f11) [1, 1, 1, 1, 1, 0, 1, 0, 0, 1, 0, 0, 1, 1]) [1, 1, 0, 0, 1, 0, 0, 1, 0, 1, 1, 1, 1, 1] [.block 1, .seq (subC (bodyC Tryd.f11) [1, 1, 1, 1, 1, 0, 1, 0, 0, 1, 1]) [1, 1, 0, 0, 1, 0, 1, 1, 1, 1, 1], .loop (subC (bodyC Tryd.f11) [1, 1, 1, 1, 1, 0, 1, 0, 0]) [0, 1, 0, 1, 1, 1, 1, 1] m0, .block 0, .seq (subC (bodyC Tryd.f11) [1, 1, 1, 1, 1, 1]) [1, 1, 1, 1, 1, 1]] (E [(0, .int .i64 op_0), (1, .int .i64 w_1), (2, .slice widths_2 widths_2n widths_2c), (3, .slice args_3 args_3n args_3c), (4, .int .u64 num_4), (10, .pointer (some t_10)), (11, .pointer (some none_11)), (12, .bool exact_12), (13, .slice words_13 words_13n words_13c), (14, .int .i64 i_14)]) h
variable {n m0} {h0} {op_0 w_1 widths_2 widths_2n widths_2c args_3 args_3n args_3c num_4 t_10 none_11 exact_12 words_13 words_13n words_13c i_14} {h}
theorem c11_2_ok {r : Go.Value × AH} (hv : c11_2Y hNew n m0 h0 op_0 w_1 widths_2 widths_2n widths_2c args_3 args_3n args_3c num_4 t_10 none_11 exact_12 words_13 words_13n words_13c i_14 h = some r) : c11_2 n m0 h0 op_0 w_1 widths_2 widths_2n widths_2c args_3 args_3n args_3c num_4 t_10 none_11 exact_12 words_13 words_13n words_13c i_14 h = some r := yfrom_ok hv
end
section
variable (N : NewF) (n : Nat) (h0 : AH) (op_0 w_1 : Int) (widths_2 : Option Addr) (widths_2n widths_2c : Nat) (args_3 : Option Addr) (args_3n args_3c : Nat) (t_10 none_11 a_15 b_16 : Addr) (h : AH)
 noncomputable def c11_3 : Option (Go.Value × AH) := resY Tryd.prog n Tryd.f11 h0 (.code (subC (bodyC Tryd.f11) [1, 1, 1, 1, 1, 1, 1, 1, 1, 1]) [1, 1, 1, 1, 1, 1, 1, 1, 1, 1]) [] (E [(0, .int .i64 op_0), (1, .int .i64 w_1), (2, .slice widths_2 widths_2n widths_2c), (3, .slice args_3 args_3n args_3c), (10, .pointer (some t_10)), (11, .pointer (some none_11)), (15, .pointer (some a_15)), (16, .pointer (some b_16))]) h
 noncomputable def c11_3Y : Option (Go.Value × AH) := yfrom Tryd.prog (runS Tryd.prog n) n Tryd.f11 h0 p11 N (resY Tryd.prog n Tryd.f11 h0) (subC (bodyC Tryd.f11) [1, 1, 1, 1, 1, 1, 1, 1, 1, 1]) [1, 1, 1, 1, 1, 1, 1, 1, 1, 1] [] (E [(0, .int .i64 op_0), (1, .int .i64 w_1), (2, .slice widths_2 widths_2n widths_2c), (3, .slice args_3 args_3n args_3c), (10, .pointer (some t_10)), (11, .pointer (some none_11)), (15, .pointer (some a_15)), (16, .pointer (some b_16))]) h
variable {n} {h0} {op_0 w_1 widths_2 widths_2n widths_2c args_3 args_3n args_3c t_10 none_11 a_15 b_16} {h}
theorem c11_3_ok {r : Go.Value × AH} (hv : c11_3Y hNew n h0 op_0 w_1 widths_2 widths_2n widths_2c args_3 args_3n args_3c t_10 none_11 a_15 b_16 h = some r) : c11_3 n h0 op_0 w_1 widths_2 widths_2n widths_2c args_3 args_3n args_3c t_10 none_11 a_15 b_16 h = some r := yfrom_ok hv
end
section
variable (N : NewF) (n : Nat) (h0 : AH) (op_0 w_1 : Int) (widths_2 : Option Addr) (widths_2n widths_2c : Nat) (args_3 : Option Addr) (args_3n args_3c : Nat) (t_10 none_11 a_15 b_16 : Addr) (t_88 : Int) (t_179 : Bool) (h : AH)
 noncomputable def c11_4 : Option (Go.Value × AH) := resY Tryd.prog n Tryd.f11 h0 (.code (subC (bodyC Tryd.f11) [1, 1, 1, 1, 1, 1, 1, 1, 1, 1, 0, 1, 0, 1, 1, 1, 1, 1, 1, 1, 1, 1, 1, 1, 1, 1, 1, 1, 1, 1]) [1, 1, 1, 1, 1, 1, 1, 1, 1, 1, 1, 1, 1, 1, 1, 1, 1, 0, 1, 0, 1, 1, 1, 1, 1, 1, 1, 1, 1, 1]) [.block 2, .seq (subC (bodyC Tryd.f11) [1, 1, 1, 1, 1, 1, 1, 1, 1, 1, 1]) [1, 1, 1, 1, 1, 1, 1, 1, 1, 1, 1]] (E [(0, .int .i64 op_0), (1, .int .i64 w_1), (2, .slice widths_2 widths_2n widths_2c), (3, .slice args_3 args_3n args_3c), (10, .pointer (some t_10)), (11, .pointer (some none_11)), (15, .pointer (some a_15)), (16, .pointer (some b_16)), (88, .int .i64 t_88), (179, .bool t_179)]) h
 noncomputable def c11_4Y : Option (Go.Value × AH) := yfrom Tryd.prog (runS Tryd.prog n) n Tryd.f11 h0 p11 N (resY Tryd.prog n Tryd.f11 h0) (subC (bodyC Tryd.f11) [1, 1, 1, 1, 1, 1, 1, 1, 1, 1, 0, 1, 0, 1, 1, 1, 1, 1, 1, 1, 1, 1, 1, 1, 1, 1, 1, 1, 1, 1]) [1, 1, 1, 1, 1, 1, 1, 1, 1, 1, 1, 1, 1, 1, 1, 1, 1, 0, 1, 0, 1, 1, 1, 1, 1, 1, 1, 1, 1, 1] [.block 2, .seq (subC (bodyC Tryd.f11) [1, 1, 1, 1, 1, 1, 1, 1, 1, 1, 1]) [1, 1, 1, 1, 1, 1, 1, 1, 1, 1, 1]] (E [(0, .int .i64 op_0), (1, .int .i64 w_1), (2, .slice widths_2 widths_2n widths_2c), (3, .slice args_3 args_3n args_3c), (10, .pointer (some t_10)), (11, .pointer (some none_11)), (15, .pointer (some a_15)), (16, .pointer (some b_16)), (88, .int .i64 t_88), (179, .bool t_179)]) h
variable {n} {h0} {op_0 w_1 widths_2 widths_2n widths_2c args_3 args_3n args_3c t_10 none_11 a_15 b_16 t_88 t_179} {h}
theorem c11_4_ok {r : Go.Value × AH} (hv : c11_4Y hNew n h0 op_0 w_1 widths_2 widths_2n widths_2c args_3 args_3n args_3c t_10 none_11 a_15 b_16 t_88 t_179 h = some r) : c11_4 n h0 op_0 w_1 widths_2 widths_2n widths_2c args_3 args_3n args_3c t_10 none_11 a_15 b_16 t_88 t_179 h = some r := yfrom_ok hv
end
section
variable (N : NewF) (n : Nat) (h0 : AH) (op_0 w_1 : Int) (widths_2 : Option Addr) (widths_2n widths_2c : Nat) (args_3 : Option Addr) (args_3n args_3c : Nat) (t_10 a_15 b_16 : Addr) (t_88 : Int) (t_183 : Bool) (h : AH)
 noncomputable def c11_5 : Option (Go.Value × AH) := resY Tryd.prog n Tryd.f11 h0 (.code (subC (bodyC Tryd.f11) [1, 1, 1, 1, 1, 1, 1, 1, 1, 1, 0, 1, 0, 1, 1, 1, 1, 1, 1, 1, 1, 1, 1, 1, 1, 1, 1, 1, 1, 1, 1, 1]) [1, 1, 1, 1, 1, 1, 1, 1, 1, 1, 1, 1, 1, 1, 1, 1, 1, 1, 1, 0, 1, 0, 1, 1, 1, 1, 1, 1, 1, 1, 1, 1]) [.block 2, .seq (subC (bodyC Tryd.f11) [1, 1, 1, 1, 1, 1, 1, 1, 1, 1, 1]) [1, 1, 1, 1, 1, 1, 1, 1, 1, 1, 1]] (E [(0, .int .i64 op_0), (1, .int .i64 w_1), (2, .slice widths_2 widths_2n widths_2c), (3, .slice args_3 args_3n args_3c), (10, .pointer (some t_10)), (15, .pointer (some a_15)), (16, .pointer (some b_16)), (88, .int .i64 t_88), (183, .bool t_183)]) h
 noncomputable def c11_5Y : Option (Go.Value × AH) := yfrom Tryd.prog (runS Tryd.prog n) n Tryd.f11 h0 p11 N (resY Tryd.prog n Tryd.f11 h0) (subC (bodyC Tryd.f11) [1, 1, 1, 1, 1, 1, 1, 1, 1, 1, 0, 1, 0, 1, 1, 1, 1, 1, 1, 1, 1, 1, 1, 1, 1, 1, 1, 1, 1, 1, 1, 1]) [1, 1, 1, 1, 1, 1, 1, 1, 1, 1, 1, 1, 1, 1, 1, 1, 1, 1, 1, 0, 1, 0, 1, 1, 1, 1, 1, 1, 1, 1, 1, 1] [.block 2, .seq (subC (bodyC Tryd.f11) [1, 1, 1, 1, 1, 1, 1, 1, 1, 1, 1]) [1, 1, 1, 1, 1, 1, 1, 1, 1, 1, 1]] (E [(0, .int .i64 op_0), (1, .int .i64 w_1), (2, .slice widths_2 widths_2n widths_2c), (3, .slice args_3 args_3n args_3c), (10, .pointer (some t_10)), (15, .pointer (some a_15)), (16, .pointer (some b_16)), (88, .int .i64 t_88), (183, .bool t_183)]) h
variable {n} {h0} {op_0 w_1 widths_2 widths_2n widths_2c args_3 args_3n args_3c t_10 a_15 b_16 t_88 t_183} {h}
theorem c11_5_ok {r : Go.Value × AH} (hv : c11_5Y hNew n h0 op_0 w_1 widths_2 widths_2n widths_2c args_3 args_3n args_3c t_10 a_15 b_16 t_88 t_183 h = some r) : c11_5 n h0 op_0 w_1 widths_2 widths_2n widths_2c args_3 args_3n args_3c t_10 a_15 b_16 t_88 t_183 h = some r := yfrom_ok hv
end
section
variable (N : NewF) (n : Nat) (h0 : AH) (op_0 : Int) (widths_2 : Option Addr) (widths_2n widths_2c : Nat) (args_3 : Option Addr) (args_3n args_3c : Nat) (t_10 a_15 b_16 : Addr) (h : AH)
 noncomputable def c11_6 : Option (Go.Value × AH) := resY Tryd.prog n Tryd.f11 h0 (.code (subC (bodyC Tryd.f11) [1, 1, 1, 1, 1, 1, 1, 1, 1, 1, 0, 1, 0, 1, 1, 1, 1, 1, 1, 1, 1, 1, 1, 1, 1, 1, 1, 1, 1, 1, 1, 1, 1, 1, 0, 1]) [1, 0, 1, 1, 1, 1, 1, 1, 1, 1, 1, 1, 1, 1, 1, 1, 1, 1, 1, 1, 1, 1, 1, 0, 1, 0, 1, 1, 1, 1, 1, 1, 1, 1, 1, 1]) [.block 2, .seq (subC (bodyC Tryd.f11) [1, 1, 1, 1, 1, 1, 1, 1, 1, 1, 1]) [1, 1, 1, 1, 1, 1, 1, 1, 1, 1, 1]] (E [(0, .int .i64 op_0), (2, .slice widths_2 widths_2n widths_2c), (3, .slice args_3 args_3n args_3c), (10, .pointer (some t_10)), (15, .pointer (some a_15)), (16, .pointer (some b_16))]) h
 noncomputable def c11_6Y : Option (Go.Value × AH) := yfrom Tryd.prog (runS Tryd.prog n) n Tryd.f11 h0 p11 N (resY Tryd.prog n Tryd.f11 h0) (subC (bodyC Tryd.f11) [1, 1, 1, 1, 1, 1, 1, 1, 1, 1, 0, 1, 0, 1, 1, 1, 1, 1, 1, 1, 1, 1, 1, 1, 1, 1, 1, 1, 1, 1, 1, 1, 1, 1, 0, 1]) [1, 0, 1, 1, 1, 1, 1, 1, 1, 1, 1, 1, 1, 1, 1, 1, 1, 1, 1, 1, 1, 1, 1, 0, 1, 0, 1, 1, 1, 1, 1, 1, 1, 1, 1, 1] [.block 2, .seq (subC (bodyC Tryd.f11) [1, 1, 1, 1, 1, 1, 1, 1, 1, 1, 1]) [1, 1, 1, 1, 1, 1, 1, 1, 1, 1, 1]] (E [(0, .int .i64 op_0), (2, .slice widths_2 widths_2n widths_2c), (3, .slice args_3 args_3n args_3c), (10, .pointer (some t_10)), (15, .pointer (some a_15)), (16, .pointer (some b_16))]) h
variable {n} {h0} {op_0 widths_2 widths_2n widths_2c args_3 args_3n args_3c t_10 a_15 b_16} {h}
theorem c11_6_ok {r : Go.Value × AH} (hv : c11_6Y hNew n h0 op_0 widths_2 widths_2n widths_2c args_3 args_3n args_3c t_10 a_15 b_16 h = some r) : c11_6 n h0 op_0 widths_2 widths_2n widths_2c args_3 args_3n args_3c t_10 a_15 b_16 h = some r := yfrom_ok hv
end
section
variable (N : NewF) (n m0 : Nat) (h0 : AH) (op_0 w_1 : Int) (widths_2 : Option Addr) (widths_2n widths_2c : Nat) (t_10 a_15 b_16 out_17 : Addr) (i_18 : Int) (h : AH)
 noncomputable def c11_7 : Option (Go.Value × AH) := resY Tryd.prog n Tryd.f11 h0 (.head (subC (bodyC Tryd.f11) [1, 1, 1, 1, 1, 1, 1, 1, 1, 1, 0, 1, 0, 1, 1, 1, 1, 1, 1, 1, 1, 1, 1, 1, 1, 1, 1, 1, 1, 1, 1, 1, 1, 1, 1, 1, 1, 1, 0, 1, 0, 1, 0, 0]) [0, 1, 0, 1, 0, 1, 1, 1, 1, 1, 1, 1, 1, 1, 1, 1, 1, 1, 1, 1, 1, 1, 1, 1, 1, 1, 1, 1, 1, 1, 0, 1, 0, 1, 1, 1, 1, 1, 1, 1, 1, 1, 1] m0) [.block 3, .seq (subC (bodyC Tryd.f11) [1, 1, 1, 1, 1, 1, 1, 1, 1, 1, 0, 1, 0, 1, 1, 1, 1, 1, 1, 1, 1, 1, 1, 1, 1, 1, 1, 1, 1, 1, 1, 1, 1, 1, 1, 1, 1, 1, 0, 1, 1]) [1, 1, 0, 1, 1, 1, 1, 1, 1, 1, 1, 1, 1, 1, 1, 1, 1, 1, 1, 1, 1, 1, 1, 1, 1, 1, 1, 1, 0, 1, 0, 1, 1, 1, 1, 1, 1, 1, 1, 1, 1], .block 2, .seq (subC (bodyC Tryd.f11) [1, 1, 1, 1, 1, 1, 1, 1, 1, 1, 1]) [1, 1, 1, 1, 1, 1, 1, 1, 1, 1, 1]] (E [(0, .int .i64 op_0), (1, .int .i64 w_1), (2, .slice widths_2 widths_2n widths_2c), (10, .pointer (some t_10)), (15, .pointer (some a_15)), (16, .pointer (some b_16)), (17, .pointer (some out_17)), (18, .int .i64 i_18)]) h
 noncomputable def c11_7Y : Option (Go.Value × AH) := yhead Tryd.prog (runS Tryd.prog n) n Tryd.f11 h0 p11 N (resY Tryd.prog n Tryd.f11 h0) (subC (bodyC Tryd.f11) [1, 1, 1, 1, 1, 1, 1, 1, 1, 1, 0, 1, 0, 1, 1, 1, 1, 1, 1, 1, 1, 1, 1, 1, 1, 1, 1, 1, 1, 1, 1, 1, 1, 1, 1, 1, 1, 1, 0, 1, 0, 1, 0, 0]) [0, 1, 0, 1, 0, 1, 1, 1, 1, 1, 1, 1, 1, 1, 1, 1, 1, 1, 1, 1, 1, 1, 1, 1, 1, 1, 1, 1, 1, 1, 0, 1, 0, 1, 1, 1, 1, 1, 1, 1, 1, 1, 1] m0 [.block 3, .seq (subC (bodyC Tryd.f11) [1, 1, 1, 1, 1, 1, 1, 1, 1, 1, 0, 1, 0, 1, 1, 1, 1, 1, 1, 1, 1, 1, 1, 1, 1, 1, 1, 1, 1, 1, 1, 1, 1, 1, 1, 1, 1, 1, 0, 1, 1]) [1, 1, 0, 1, 1, 1, 1, 1, 1, 1, 1, 1, 1, 1, 1, 1, 1, 1, 1, 1, 1, 1, 1, 1, 1, 1, 1, 1, 0, 1, 0, 1, 1, 1, 1, 1, 1, 1, 1, 1, 1], .block 2, .seq (subC (bodyC Tryd.f11) [1, 1, 1, 1, 1, 1, 1, 1, 1, 1, 1]) [1, 1, 1, 1, 1, 1, 1, 1, 1, 1, 1]] (E [(0, .int .i64 op_0), (1, .int .i64 w_1), (2, .slice widths_2 widths_2n widths_2c), (10, .pointer (some t_10)), (15, .pointer (some a_15)), (16, .pointer (some b_16)), (17, .pointer (some out_17)), (18, .int .i64 i_18)]) h
variable {n m0} {h0} {op_0 w_1 widths_2 widths_2n widths_2c t_10 a_15 b_16 out_17 i_18} {h}
theorem c11_7_ok {r : Go.Value × AH} (hv : c11_7Y hNew n m0 h0 op_0 w_1 widths_2 widths_2n widths_2c t_10 a_15 b_16 out_17 i_18 h = some r) : c11_7 n (m0 + 1) h0 op_0 w_1 widths_2 widths_2n widths_2c t_10 a_15 b_16 out_17 i_18 h = some r := yhead_ok hv
end
section
variable (N : NewF) (n : Nat) (h0 : AH) (op_0 : Int) (widths_2 : Option Addr) (widths_2n widths_2c : Nat) (t_10 a_15 b_16 : Addr) (h : AH)
 noncomputable def c11_8 : Option (Go.Value × AH) := resY Tryd.prog n Tryd.f11 h0 (.code (subC (bodyC Tryd.f11) [1, 1, 1, 1, 1, 1, 1, 1, 1, 1, 1]) [1, 1, 1, 1, 1, 1, 1, 1, 1, 1, 1]) [] (E [(0, .int .i64 op_0), (2, .slice widths_2 widths_2n widths_2c), (10, .pointer (some t_10)), (15, .pointer (some a_15)), (16, .pointer (some b_16))]) h
 noncomputable def c11_8Y : Option (Go.Value × AH) := yfrom Tryd.prog (runS Tryd.prog n) n Tryd.f11 h0 p11 N (resY Tryd.prog n Tryd.f11 h0) (subC (bodyC Tryd.f11) [1, 1, 1, 1, 1, 1, 1, 1, 1, 1, 1]) [1, 1, 1, 1, 1, 1, 1, 1, 1, 1, 1] [] (E [(0, .int .i64 op_0), (2, .slice widths_2 widths_2n widths_2c), (10, .pointer (some t_10)), (15, .pointer (some a_15)), (16, .pointer (some b_16))]) h
variable {n} {h0} {op_0 widths_2 widths_2n widths_2c t_10 a_15 b_16} {h}
theorem c11_8_ok {r : Go.Value × AH} (hv : c11_8Y hNew n h0 op_0 widths_2 widths_2n widths_2c t_10 a_15 b_16 h = some r) : c11_8 n h0 op_0 widths_2 widths_2n widths_2c t_10 a_15 b_16 h = some r := yfrom_ok hv
end
 noncomputable def t11Y (N : NewF) (n : Nat) (op_0 w_1 : Int) (widths_2 : Option Addr) (widths_2n widths_2c : Nat) (args_3 : Option Addr) (args_3n args_3c : Nat) (num_4 : Int) (h : AH) : Option (Go.Value × AH) := yrun Tryd.prog (runS Tryd.prog n) n p11 N (resY Tryd.prog n) 11 [(.int .i64 op_0), (.int .i64 w_1), (.slice widths_2 widths_2n widths_2c), (.slice args_3 args_3n args_3c), (.int .u64 num_4)] h
theorem t11_ok {n : Nat} {op_0 w_1 : Int} {widths_2 : Option Addr} {widths_2n widths_2c : Nat} {args_3 : Option Addr} {args_3n args_3c : Nat} {num_4 : Int} {h : AH} {r : Go.Value × AH} (hv : t11Y hNew n op_0 w_1 widths_2 widths_2n widths_2c args_3 args_3n args_3c num_4 h = some r) : runS Tryd.prog (n + 1) 11 [(.int .i64 op_0), (.int .i64 w_1), (.slice widths_2 widths_2n widths_2c), (.slice args_3 args_3n args_3c), (.int .u64 num_4)] h = some r := yrun_ok hv
theorem t11 (N : NewF) (n : Nat) (op_0 w_1 : Int) (widths_2 : Option Addr) (widths_2n widths_2c : Nat) (args_3 : Option Addr) (args_3n args_3c : Nat) (num_4 : Int) (h : AH) : t11Y N n op_0 w_1 widths_2 widths_2n widths_2c args_3 args_3n args_3c num_4 h =
 ((N (setLow h h.next) [(.int .u64 0), (.int .u64 0)] 0)).bind fun p0 =>
 ((N p0.2 [(.int .u64 0), (.int .u64 0)] 0)).bind fun p1 =>
 ((runS Tryd.prog n 17 [(.int .i64 op_0), (.int .i64 w_1), (.slice widths_2 widths_2n widths_2c)] p1.2)).bind fun p2 =>
 ((gB (some p2.1))).bind fun b3 =>
 cond (Bool.not b3)
 (((gI .u64 (rdC p2.2 ⟨p1.1, 0, none⟩ 0))).bind fun n4 =>
 ((gI .u64 (rdC p2.2 ⟨p1.1, 0, none⟩ 1))).bind fun n5 =>
 ((stL p2.2 ⟨p0.1, 0, none⟩ [(.int .u64 n4), (.int .u64 n5)])).bind fun x6 =>
 ((gI .u64 (rdC x6 ⟨p0.1, 0, none⟩ 0))).bind fun n7 =>
 ((gI .u64 (rdC x6 ⟨p0.1, 0, none⟩ 1))).bind fun n8 =>
 some (exitR h x6 (.agg #[(.int .u64 n7), (.int .u64 n8)])))
 (cond (iNe (Int.ofNat args_3n) (Int.ofNat widths_2n))
 (((gI .u64 (rdC p2.2 ⟨p1.1, 0, none⟩ 0))).bind fun n9 =>
 ((gI .u64 (rdC p2.2 ⟨p1.1, 0, none⟩ 1))).bind fun n10 =>
 ((stL p2.2 ⟨p0.1, 0, none⟩ [(.int .u64 n9), (.int .u64 n10)])).bind fun x11 =>
 ((gI .u64 (rdC x11 ⟨p0.1, 0, none⟩ 0))).bind fun n12 =>
 ((gI .u64 (rdC x11 ⟨p0.1, 0, none⟩ 1))).bind fun n13 =>
 some (exitR h x11 (.agg #[(.int .u64 n12), (.int .u64 n13)])))
 (c11_0 n h op_0 w_1 widths_2 widths_2n widths_2c args_3 args_3n args_3c num_4 ⟨p0.1, 0, none⟩ ⟨p1.1, 0, none⟩ p2.2)) := by kernel_rfl
theorem c11_0_eq (N : NewF) (n  : Nat) (h0 : AH) (op_0 w_1 : Int) (widths_2 : Option Addr) (widths_2n widths_2c : Nat) (args_3 : Option Addr) (args_3n args_3c : Nat) (num_4 : Int) (t_10 none_11 : Addr) (h : AH) : c11_0Y N n  h0 op_0 w_1 widths_2 widths_2n widths_2c args_3 args_3n args_3c num_4 t_10 none_11 h =
 c11_1 n n h0 op_0 w_1 widths_2 widths_2n widths_2c args_3 args_3n args_3c num_4 t_10 none_11 true none 0 0 0 h := by kernel_rfl
theorem c11_1_eq (N : NewF) (n m0 : Nat) (h0 : AH) (op_0 w_1 : Int) (widths_2 : Option Addr) (widths_2n widths_2c : Nat) (args_3 : Option Addr) (args_3n args_3c : Nat) (num_4 : Int) (t_10 none_11 : Addr) (exact_12 : Bool) (words_13 : Option Addr) (words_13n words_13c : Nat) (i_14 : Int) (h : AH) : c11_1Y N n m0 h0 op_0 w_1 widths_2 widths_2n widths_2c args_3 args_3n args_3c num_4 t_10 none_11 exact_12 words_13 words_13n words_13c i_14 h =
 cond (iLt i_14 (Int.ofNat args_3n))
 ((widths_2).bind fun a0 =>
 cond (inB i_14 widths_2n)
 (((gI .i64 (rdC h (Addr.add a0 ((Int.toNat i_14) * 1)) 0))).bind fun n1 =>
 (args_3).bind fun a2 =>
 cond (inB i_14 args_3n)
 (((gI .u64 (rdC h (Addr.add a2 ((Int.toNat i_14) * 2)) 0))).bind fun n3 =>
 ((gI .u64 (rdC h (Addr.add a2 ((Int.toNat i_14) * 2)) 1))).bind fun n4 =>
 ((runS Tryd.prog n 37 [(.int .i64 n1), (.agg #[(.int .u64 n3), (.int .u64 n4)])] h)).bind fun p5 =>
 ((gB (some p5.1))).bind fun b6 =>
 cond (Bool.not b6)
 (((gI .u64 (rdC p5.2 none_11 0))).bind fun n7 =>
 ((gI .u64 (rdC p5.2 none_11 1))).bind fun n8 =>
 ((stL p5.2 t_10 [(.int .u64 n7), (.int .u64 n8)])).bind fun x9 =>
 ((gI .u64 (rdC x9 t_10 0))).bind fun n10 =>
 ((gI .u64 (rdC x9 t_10 1))).bind fun n11 =>
 some (exitR h0 x9 (.agg #[(.int .u64 n10), (.int .u64 n11)])))
 (cond exact_12
 ((widths_2).bind fun a12 =>
 cond (inB i_14 widths_2n)
 (((gI .i64 (rdC p5.2 (Addr.add a12 ((Int.toNat i_14) * 1)) 0))).bind fun n13 =>
 (args_3).bind fun a14 =>
 cond (inB i_14 args_3n)
 (((gI .u64 (rdC p5.2 (Addr.add a14 ((Int.toNat i_14) * 2)) 0))).bind fun n15 =>
 ((gI .u64 (rdC p5.2 (Addr.add a14 ((Int.toNat i_14) * 2)) 1))).bind fun n16 =>
 ((runS Tryd.prog n 38 [(.int .i64 n13), (.agg #[(.int .u64 n15), (.int .u64 n16)])] p5.2)).bind fun p17 =>
 ((gB (some p17.1))).bind fun b18 =>
 c11_2 n m0 h0 op_0 w_1 widths_2 widths_2n widths_2c args_3 args_3n args_3c num_4 t_10 none_11 b18 words_13 words_13n words_13c i_14 p17.2)
 (none))
 (none))
 (c11_2 n m0 h0 op_0 w_1 widths_2 widths_2n widths_2c args_3 args_3n args_3c num_4 t_10 none_11 false words_13 words_13n words_13c i_14 p5.2)))
 (none))
 (none))
 (cond exact_12
 (((runS Tryd.prog n 16 [(.int .i64 op_0), (.int .i64 w_1), (.slice widths_2 widths_2n widths_2c), (.slice words_13 words_13n words_13c), (.int .u64 num_4)] h)).bind fun p19 =>
 ((gI .u64 (some p19.1))).bind fun n20 =>
 ((runS Tryd.prog n 39 [(.int .i64 w_1), (.int .u64 n20)] p19.2)).bind fun p21 =>
 cond (aggIs 2 p21.1)
 (((gI .u64 (aggC 0 p21.1))).bind fun n22 =>
 ((gI .u64 (aggC 1 p21.1))).bind fun n23 =>
 ((stL p21.2 t_10 [(.int .u64 n22), (.int .u64 n23)])).bind fun x24 =>
 ((gI .u64 (rdC x24 t_10 0))).bind fun n25 =>
 ((gI .u64 (rdC x24 t_10 1))).bind fun n26 =>
 some (exitR h0 x24 (.agg #[(.int .u64 n25), (.int .u64 n26)])))
 (none))
 ((args_3).bind fun a27 =>
 cond (inB 0 args_3n)
 (((gI .u64 (rdC h (Addr.add a27 0) 0))).bind fun n28 =>
 ((gI .u64 (rdC h (Addr.add a27 0) 1))).bind fun n29 =>
 ((N h [(.int .u64 0), (.int .u64 0)] 0)).bind fun p30 =>
 ((stL p30.2 ⟨p30.1, 0, none⟩ [(.int .u64 n28), (.int .u64 n29)])).bind fun x31 =>
 ((gI .u64 (rdC x31 none_11 0))).bind fun n32 =>
 ((gI .u64 (rdC x31 none_11 1))).bind fun n33 =>
 ((N x31 [(.int .u64 0), (.int .u64 0)] 0)).bind fun p34 =>
 ((stL p34.2 ⟨p34.1, 0, none⟩ [(.int .u64 n32), (.int .u64 n33)])).bind fun x35 =>
 cond (iLt 1 (Int.ofNat args_3n))
 ((args_3).bind fun a36 =>
 cond (inB 1 args_3n)
 (((gI .u64 (rdC x35 (Addr.add a36 2) 0))).bind fun n37 =>
 ((gI .u64 (rdC x35 (Addr.add a36 2) 1))).bind fun n38 =>
 ((stL x35 ⟨p34.1, 0, none⟩ [(.int .u64 n37), (.int .u64 n38)])).bind fun x39 =>
 c11_3 n h0 op_0 w_1 widths_2 widths_2n widths_2c args_3 args_3n args_3c t_10 none_11 ⟨p30.1, 0, none⟩ ⟨p34.1, 0, none⟩ x39)
 (none))
 (c11_3 n h0 op_0 w_1 widths_2 widths_2n widths_2c args_3 args_3n args_3c t_10 none_11 ⟨p30.1, 0, none⟩ ⟨p34.1, 0, none⟩ x35))
 (none))) := by kernel_rfl
theorem c11_2_eq (N : NewF) (n m0 : Nat) (h0 : AH) (op_0 w_1 : Int) (widths_2 : Option Addr) (widths_2n widths_2c : Nat) (args_3 : Option Addr) (args_3n args_3c : Nat) (num_4 : Int) (t_10 none_11 : Addr) (exact_12 : Bool) (words_13 : Option Addr) (words_13n words_13c : Nat) (i_14 : Int) (h : AH) : c11_2Y N n m0 h0 op_0 w_1 widths_2 widths_2n widths_2c args_3 args_3n args_3c num_4 t_10 none_11 exact_12 words_13 words_13n words_13c i_14 h =
 (args_3).bind fun a0 =>
 cond (inB i_14 args_3n)
 (((gI .u64 (rdC h (Addr.add (Addr.add a0 ((Int.toNat i_14) * 2)) 1) 0))).bind fun n1 =>
 ((N h [(.int .u64 n1)] 1)).bind fun p2 =>
 ((appL 1 8 (.slice words_13 words_13n words_13c) (.slice (some ⟨p2.1, 0, none⟩) 1 1) p2.2)).bind fun p3 =>
 c11_1 n m0 h0 op_0 w_1 widths_2 widths_2n widths_2c args_3 args_3n args_3c num_4 t_10 none_11 exact_12 p3.1.1 p3.1.2.1 p3.1.2.2 (iAdd .i64 i_14 1) p3.2)
 (none) := by kernel_rfl
theorem c11_3_eq (N : NewF) (n  : Nat) (h0 : AH) (op_0 w_1 : Int) (widths_2 : Option Addr) (widths_2n widths_2c : Nat) (args_3 : Option Addr) (args_3n args_3c : Nat) (t_10 none_11 a_15 b_16 : Addr) (h : AH) : c11_3Y N n  h0 op_0 w_1 widths_2 widths_2n widths_2c args_3 args_3n args_3c t_10 none_11 a_15 b_16 h =
 cond (iEq op_0 9)
 (((gI .u64 (rdC h (Addr.add a_15 0) 0))).bind fun n0 =>
 ((gI .u64 (rdC h (Addr.add b_16 0) 0))).bind fun n1 =>
 ((gI .u64 (rdC h (Addr.add a_15 1) 0))).bind fun n2 =>
 ((gI .u64 (rdC h (Addr.add b_16 1) 0))).bind fun n3 =>
 ((stL h t_10 [(.int .u64 (iOr .u64 n0 n1)), (.int .u64 (iAnd .u64 n2 n3))])).bind fun x4 =>
 ((gI .u64 (rdC x4 t_10 0))).bind fun n5 =>
 ((gI .u64 (rdC x4 t_10 1))).bind fun n6 =>
 some (exitR h0 x4 (.agg #[(.int .u64 n5), (.int .u64 n6)])))
 (cond (iEq op_0 10)
 (((gI .u64 (rdC h (Addr.add a_15 0) 0))).bind fun n7 =>
 ((gI .u64 (rdC h (Addr.add b_16 0) 0))).bind fun n8 =>
 ((gI .u64 (rdC h (Addr.add a_15 1) 0))).bind fun n9 =>
 ((gI .u64 (rdC h (Addr.add b_16 1) 0))).bind fun n10 =>
 ((stL h t_10 [(.int .u64 (iAnd .u64 n7 n8)), (.int .u64 (iOr .u64 n9 n10))])).bind fun x11 =>
 ((gI .u64 (rdC x11 t_10 0))).bind fun n12 =>
 ((gI .u64 (rdC x11 t_10 1))).bind fun n13 =>
 some (exitR h0 x11 (.agg #[(.int .u64 n12), (.int .u64 n13)])))
 (cond (iEq op_0 11)
 (((gI .u64 (rdC h (Addr.add a_15 0) 0))).bind fun n14 =>
 ((gI .u64 (rdC h (Addr.add b_16 0) 0))).bind fun n15 =>
 ((gI .u64 (rdC h (Addr.add a_15 1) 0))).bind fun n16 =>
 ((gI .u64 (rdC h (Addr.add b_16 1) 0))).bind fun n17 =>
 ((gI .u64 (rdC h (Addr.add a_15 0) 0))).bind fun n18 =>
 ((gI .u64 (rdC h (Addr.add b_16 1) 0))).bind fun n19 =>
 ((gI .u64 (rdC h (Addr.add a_15 1) 0))).bind fun n20 =>
 ((gI .u64 (rdC h (Addr.add b_16 0) 0))).bind fun n21 =>
 ((stL h t_10 [(.int .u64 (iOr .u64 (iAnd .u64 n14 n15) (iAnd .u64 n16 n17))), (.int .u64 (iOr .u64 (iAnd .u64 n18 n19) (iAnd .u64 n20 n21)))])).bind fun x22 =>
 ((gI .u64 (rdC x22 t_10 0))).bind fun n23 =>
 ((gI .u64 (rdC x22 t_10 1))).bind fun n24 =>
 some (exitR h0 x22 (.agg #[(.int .u64 n23), (.int .u64 n24)])))
 (cond (iEq op_0 2)
 (((gI .u64 (rdC h a_15 0))).bind fun n25 =>
 ((gI .u64 (rdC h a_15 1))).bind fun n26 =>
 ((gI .u64 (rdC h b_16 0))).bind fun n27 =>
 ((gI .u64 (rdC h b_16 1))).bind fun n28 =>
 ((runS Tryd.prog n 40 [(.int .i64 w_1), (.agg #[(.int .u64 n25), (.int .u64 n26)]), (.agg #[(.int .u64 n27), (.int .u64 n28)]), (.int .i64 0)] h)).bind fun p29 =>
 cond (aggIs 2 p29.1)
 (((gI .u64 (aggC 0 p29.1))).bind fun n30 =>
 ((gI .u64 (aggC 1 p29.1))).bind fun n31 =>
 ((stL p29.2 t_10 [(.int .u64 n30), (.int .u64 n31)])).bind fun x32 =>
 ((gI .u64 (rdC x32 t_10 0))).bind fun n33 =>
 ((gI .u64 (rdC x32 t_10 1))).bind fun n34 =>
 some (exitR h0 x32 (.agg #[(.int .u64 n33), (.int .u64 n34)])))
 (none))
 (cond (iEq op_0 3)
 (((gI .u64 (rdC h a_15 0))).bind fun n35 =>
 ((gI .u64 (rdC h a_15 1))).bind fun n36 =>
 ((gI .u64 (rdC h (Addr.add b_16 1) 0))).bind fun n37 =>
 ((gI .u64 (rdC h (Addr.add b_16 0) 0))).bind fun n38 =>
 ((runS Tryd.prog n 40 [(.int .i64 w_1), (.agg #[(.int .u64 n35), (.int .u64 n36)]), (.agg #[(.int .u64 n37), (.int .u64 n38)]), (.int .i64 1)] h)).bind fun p39 =>
 cond (aggIs 2 p39.1)
 (((gI .u64 (aggC 0 p39.1))).bind fun n40 =>
 ((gI .u64 (aggC 1 p39.1))).bind fun n41 =>
 ((stL p39.2 t_10 [(.int .u64 n40), (.int .u64 n41)])).bind fun x42 =>
 ((gI .u64 (rdC x42 t_10 0))).bind fun n43 =>
 ((gI .u64 (rdC x42 t_10 1))).bind fun n44 =>
 some (exitR h0 x42 (.agg #[(.int .u64 n43), (.int .u64 n44)])))
 (none))
 (cond (iEq op_0 4)
 (((gI .u64 (rdC h a_15 0))).bind fun n45 =>
 ((gI .u64 (rdC h a_15 1))).bind fun n46 =>
 ((gI .u64 (rdC h b_16 0))).bind fun n47 =>
 ((gI .u64 (rdC h b_16 1))).bind fun n48 =>
 ((runS Tryd.prog n 41 [(.int .i64 w_1), (.agg #[(.int .u64 n45), (.int .u64 n46)]), (.agg #[(.int .u64 n47), (.int .u64 n48)])] h)).bind fun p49 =>
 cond (aggIs 2 p49.1)
 (((gI .u64 (aggC 0 p49.1))).bind fun n50 =>
 ((gI .u64 (aggC 1 p49.1))).bind fun n51 =>
 ((stL p49.2 t_10 [(.int .u64 n50), (.int .u64 n51)])).bind fun x52 =>
 ((gI .u64 (rdC x52 t_10 0))).bind fun n53 =>
 ((gI .u64 (rdC x52 t_10 1))).bind fun n54 =>
 some (exitR h0 x52 (.agg #[(.int .u64 n53), (.int .u64 n54)])))
 (none))
 (cond (iEq op_0 5)
 (((gI .u64 (rdC h (Addr.add b_16 1) 0))).bind fun n55 =>
 cond (iEq n55 0)
 (((gI .u64 (rdC h none_11 0))).bind fun n56 =>
 ((gI .u64 (rdC h none_11 1))).bind fun n57 =>
 ((stL h t_10 [(.int .u64 n56), (.int .u64 n57)])).bind fun x58 =>
 ((gI .u64 (rdC x58 t_10 0))).bind fun n59 =>
 ((gI .u64 (rdC x58 t_10 1))).bind fun n60 =>
 some (exitR h0 x58 (.agg #[(.int .u64 n59), (.int .u64 n60)])))
 (((gI .u64 (rdC h a_15 0))).bind fun n61 =>
 ((gI .u64 (rdC h a_15 1))).bind fun n62 =>
 ((runS Tryd.prog n 43 [(.int .i64 w_1), (.agg #[(.int .u64 n61), (.int .u64 n62)]), (.int .i64 0)] h)).bind fun p63 =>
 ((gI .i64 (some p63.1))).bind fun n64 =>
 ((runS Tryd.prog n 42 [(.int .i64 w_1), (.int .i64 0), (.int .i64 n64)] p63.2)).bind fun p65 =>
 cond (aggIs 2 p65.1)
 (((gI .u64 (aggC 0 p65.1))).bind fun n66 =>
 ((gI .u64 (aggC 1 p65.1))).bind fun n67 =>
 ((stL p65.2 t_10 [(.int .u64 n66), (.int .u64 n67)])).bind fun x68 =>
 ((gI .u64 (rdC x68 t_10 0))).bind fun n69 =>
 ((gI .u64 (rdC x68 t_10 1))).bind fun n70 =>
 some (exitR h0 x68 (.agg #[(.int .u64 n69), (.int .u64 n70)])))
 (none)))
 (cond (iEq op_0 6)
 (((gI .u64 (rdC h a_15 0))).bind fun n71 =>
 ((gI .u64 (rdC h a_15 1))).bind fun n72 =>
 ((gI .u64 (rdC h b_16 0))).bind fun n73 =>
 ((gI .u64 (rdC h b_16 1))).bind fun n74 =>
 ((runS Tryd.prog n 44 [(.int .i64 w_1), (.agg #[(.int .u64 n71), (.int .u64 n72)]), (.agg #[(.int .u64 n73), (.int .u64 n74)])] h)).bind fun p75 =>
 cond (aggIs 2 p75.1)
 (((gI .u64 (aggC 0 p75.1))).bind fun n76 =>
 ((gI .u64 (aggC 1 p75.1))).bind fun n77 =>
 ((stL p75.2 t_10 [(.int .u64 n76), (.int .u64 n77)])).bind fun x78 =>
 ((gI .u64 (rdC x78 t_10 0))).bind fun n79 =>
 ((gI .u64 (rdC x78 t_10 1))).bind fun n80 =>
 some (exitR h0 x78 (.agg #[(.int .u64 n79), (.int .u64 n80)])))
 (none))
 (cond (iEq op_0 7)
 (c11_4 n h0 op_0 w_1 widths_2 widths_2n widths_2c args_3 args_3n args_3c t_10 none_11 a_15 b_16 op_0 true h)
 (c11_4 n h0 op_0 w_1 widths_2 widths_2n widths_2c args_3 args_3n args_3c t_10 none_11 a_15 b_16 op_0 (iEq op_0 8) h))))))))) := by kernel_rfl
theorem c11_4_eq (N : NewF) (n  : Nat) (h0 : AH) (op_0 w_1 : Int) (widths_2 : Option Addr) (widths_2n widths_2c : Nat) (args_3 : Option Addr) (args_3n args_3c : Nat) (t_10 none_11 a_15 b_16 : Addr) (t_88 : Int) (t_179 : Bool) (h : AH) : c11_4Y N n  h0 op_0 w_1 widths_2 widths_2n widths_2c args_3 args_3n args_3c t_10 none_11 a_15 b_16 t_88 t_179 h =
 cond t_179
 (((gI .u64 (rdC h none_11 0))).bind fun n0 =>
 ((gI .u64 (rdC h none_11 1))).bind fun n1 =>
 ((stL h t_10 [(.int .u64 n0), (.int .u64 n1)])).bind fun x2 =>
 ((gI .u64 (rdC x2 t_10 0))).bind fun n3 =>
 ((gI .u64 (rdC x2 t_10 1))).bind fun n4 =>
 some (exitR h0 x2 (.agg #[(.int .u64 n3), (.int .u64 n4)])))
 (cond (iEq t_88 12)
 (c11_5 n h0 op_0 w_1 widths_2 widths_2n widths_2c args_3 args_3n args_3c t_10 a_15 b_16 t_88 true h)
 (cond (iEq t_88 13)
 (c11_5 n h0 op_0 w_1 widths_2 widths_2n widths_2c args_3 args_3n args_3c t_10 a_15 b_16 t_88 true h)
 (c11_5 n h0 op_0 w_1 widths_2 widths_2n widths_2c args_3 args_3n args_3c t_10 a_15 b_16 t_88 (iEq t_88 14) h))) := by kernel_rfl
theorem c11_5_eq (N : NewF) (n  : Nat) (h0 : AH) (op_0 w_1 : Int) (widths_2 : Option Addr) (widths_2n widths_2c : Nat) (args_3 : Option Addr) (args_3n args_3c : Nat) (t_10 a_15 b_16 : Addr) (t_88 : Int) (t_183 : Bool) (h : AH) : c11_5Y N n  h0 op_0 w_1 widths_2 widths_2n widths_2c args_3 args_3n args_3c t_10 a_15 b_16 t_88 t_183 h =
 cond t_183
 (((gI .u64 (rdC h a_15 0))).bind fun n0 =>
 ((gI .u64 (rdC h a_15 1))).bind fun n1 =>
 ((gI .u64 (rdC h b_16 0))).bind fun n2 =>
 ((gI .u64 (rdC h b_16 1))).bind fun n3 =>
 ((runS Tryd.prog n 45 [(.int .i64 op_0), (.int .i64 w_1), (.agg #[(.int .u64 n0), (.int .u64 n1)]), (.agg #[(.int .u64 n2), (.int .u64 n3)])] h)).bind fun p4 =>
 cond (aggIs 2 p4.1)
 (((gI .u64 (aggC 0 p4.1))).bind fun n5 =>
 ((gI .u64 (aggC 1 p4.1))).bind fun n6 =>
 ((stL p4.2 t_10 [(.int .u64 n5), (.int .u64 n6)])).bind fun x7 =>
 ((gI .u64 (rdC x7 t_10 0))).bind fun n8 =>
 ((gI .u64 (rdC x7 t_10 1))).bind fun n9 =>
 some (exitR h0 x7 (.agg #[(.int .u64 n8), (.int .u64 n9)])))
 (none))
 (cond (iEq t_88 21)
 (((gI .u64 (rdC h a_15 0))).bind fun n10 =>
 ((gI .u64 (rdC h a_15 1))).bind fun n11 =>
 ((runS Tryd.prog n 38 [(.int .i64 1), (.agg #[(.int .u64 n10), (.int .u64 n11)])] h)).bind fun p12 =>
 ((gB (some p12.1))).bind fun b13 =>
 cond b13
 (((gI .u64 (rdC p12.2 (Addr.add a_15 1) 0))).bind fun n14 =>
 cond (iEq n14 1)
 (((gI .u64 (rdC p12.2 b_16 0))).bind fun n15 =>
 ((gI .u64 (rdC p12.2 b_16 1))).bind fun n16 =>
 ((stL p12.2 t_10 [(.int .u64 n15), (.int .u64 n16)])).bind fun x17 =>
 ((gI .u64 (rdC x17 t_10 0))).bind fun n18 =>
 ((gI .u64 (rdC x17 t_10 1))).bind fun n19 =>
 some (exitR h0 x17 (.agg #[(.int .u64 n18), (.int .u64 n19)])))
 (c11_6 n h0 op_0 widths_2 widths_2n widths_2c args_3 args_3n args_3c t_10 a_15 b_16 p12.2))
 (c11_6 n h0 op_0 widths_2 widths_2n widths_2c args_3 args_3n args_3c t_10 a_15 b_16 p12.2))
 (cond (iEq t_88 22)
 (((gI .u64 (rdC h a_15 0))).bind fun n20 =>
 ((gI .u64 (rdC h a_15 1))).bind fun n21 =>
 (widths_2).bind fun a22 =>
 cond (inB 0 widths_2n)
 (((gI .i64 (rdC h (Addr.add a22 0) 0))).bind fun n23 =>
 ((runS Tryd.prog n 42 [(.int .i64 w_1), (.int .i64 0), (.int .i64 (iSub .i64 w_1 n23))] (setLow h h.next))).bind fun p24 =>
 cond (aggIs 2 p24.1)
 (((gI .u64 (aggC 0 p24.1))).bind fun n25 =>
 ((gI .u64 (aggC 1 p24.1))).bind fun n26 =>
 cond (Nat.beq p24.2.low h.next)
 (((runS Tryd.prog n 47 [(.agg #[(.int .u64 n20), (.int .u64 n21)]), (.agg #[(.int .u64 n25), (.int .u64 n26)])] (setLow p24.2 h.low))).bind fun p27 =>
 cond (aggIs 2 p27.1)
 (((gI .u64 (aggC 0 p27.1))).bind fun n28 =>
 ((gI .u64 (aggC 1 p27.1))).bind fun n29 =>
 ((stL p27.2 t_10 [(.int .u64 n28), (.int .u64 n29)])).bind fun x30 =>
 ((gI .u64 (rdC x30 t_10 0))).bind fun n31 =>
 ((gI .u64 (rdC x30 t_10 1))).bind fun n32 =>
 some (exitR h0 x30 (.agg #[(.int .u64 n31), (.int .u64 n32)])))
 (none))
 (none))
 (none))
 (none))
 (cond (iEq t_88 23)
 (((gI .u64 (rdC h a_15 0))).bind fun n33 =>
 ((gI .u64 (rdC h a_15 1))).bind fun n34 =>
 ((N h [(.int .u64 0), (.int .u64 0)] 0)).bind fun p35 =>
 ((stL p35.2 ⟨p35.1, 0, none⟩ [(.int .u64 n33), (.int .u64 n34)])).bind fun x36 =>
 (widths_2).bind fun a37 =>
 cond (inB 0 widths_2n)
 (((gI .i64 (rdC x36 (Addr.add a37 0) 0))).bind fun n38 =>
 c11_7 n n h0 op_0 w_1 widths_2 widths_2n widths_2c t_10 a_15 b_16 ⟨p35.1, 0, none⟩ n38 x36)
 (none))
 (cond (iEq t_88 24)
 (((gI .u64 (rdC h (Addr.add a_15 0) 0))).bind fun n39 =>
 ((runS Tryd.prog n 14 [(.int .i64 w_1)] (setLow h h.next))).bind fun p40 =>
 ((gI .u64 (some p40.1))).bind fun n41 =>
 cond (Nat.beq p40.2.low h.next)
 (((gI .u64 (rdC (setLow p40.2 h.low) (Addr.add a_15 1) 0))).bind fun n42 =>
 ((runS Tryd.prog n 14 [(.int .i64 w_1)] (setLow (setLow p40.2 h.low) (setLow p40.2 h.low).next))).bind fun p43 =>
 ((gI .u64 (some p43.1))).bind fun n44 =>
 cond (Nat.beq p43.2.low (setLow p40.2 h.low).next)
 (((stL (setLow p43.2 (setLow p40.2 h.low).low) t_10 [(.int .u64 (iAnd .u64 n39 n41)), (.int .u64 (iAnd .u64 n42 n44))])).bind fun x45 =>
 ((gI .u64 (rdC x45 t_10 0))).bind fun n46 =>
 ((gI .u64 (rdC x45 t_10 1))).bind fun n47 =>
 some (exitR h0 x45 (.agg #[(.int .u64 n46), (.int .u64 n47)])))
 (none))
 (none))
 (c11_8 n h0 op_0 widths_2 widths_2n widths_2c t_10 a_15 b_16 h))))) := by kernel_rfl
theorem c11_6_eq (N : NewF) (n  : Nat) (h0 : AH) (op_0 : Int) (widths_2 : Option Addr) (widths_2n widths_2c : Nat) (args_3 : Option Addr) (args_3n args_3c : Nat) (t_10 a_15 b_16 : Addr) (h : AH) : c11_6Y N n  h0 op_0 widths_2 widths_2n widths_2c args_3 args_3n args_3c t_10 a_15 b_16 h =
 ((gI .u64 (rdC h a_15 0))).bind fun n0 =>
 ((gI .u64 (rdC h a_15 1))).bind fun n1 =>
 ((runS Tryd.prog n 38 [(.int .i64 1), (.agg #[(.int .u64 n0), (.int .u64 n1)])] h)).bind fun p2 =>
 ((gB (some p2.1))).bind fun b3 =>
 cond b3
 ((args_3).bind fun a4 =>
 cond (inB 2 args_3n)
 (((gI .u64 (rdC p2.2 (Addr.add a4 4) 0))).bind fun n5 =>
 ((gI .u64 (rdC p2.2 (Addr.add a4 4) 1))).bind fun n6 =>
 ((stL p2.2 t_10 [(.int .u64 n5), (.int .u64 n6)])).bind fun x7 =>
 ((gI .u64 (rdC x7 t_10 0))).bind fun n8 =>
 ((gI .u64 (rdC x7 t_10 1))).bind fun n9 =>
 some (exitR h0 x7 (.agg #[(.int .u64 n8), (.int .u64 n9)])))
 (none))
 (((gI .u64 (rdC p2.2 b_16 0))).bind fun n10 =>
 ((gI .u64 (rdC p2.2 b_16 1))).bind fun n11 =>
 (args_3).bind fun a12 =>
 cond (inB 2 args_3n)
 (((gI .u64 (rdC p2.2 (Addr.add a12 4) 0))).bind fun n13 =>
 ((gI .u64 (rdC p2.2 (Addr.add a12 4) 1))).bind fun n14 =>
 ((runS Tryd.prog n 46 [(.agg #[(.int .u64 n10), (.int .u64 n11)]), (.agg #[(.int .u64 n13), (.int .u64 n14)])] p2.2)).bind fun p15 =>
 cond (aggIs 2 p15.1)
 (((gI .u64 (aggC 0 p15.1))).bind fun n16 =>
 ((gI .u64 (aggC 1 p15.1))).bind fun n17 =>
 ((stL p15.2 t_10 [(.int .u64 n16), (.int .u64 n17)])).bind fun x18 =>
 ((gI .u64 (rdC x18 t_10 0))).bind fun n19 =>
 ((gI .u64 (rdC x18 t_10 1))).bind fun n20 =>
 some (exitR h0 x18 (.agg #[(.int .u64 n19), (.int .u64 n20)])))
 (none))
 (none)) := by kernel_rfl
theorem c11_7_eq (N : NewF) (n m0 : Nat) (h0 : AH) (op_0 w_1 : Int) (widths_2 : Option Addr) (widths_2n widths_2c : Nat) (t_10 a_15 b_16 out_17 : Addr) (i_18 : Int) (h : AH) : c11_7Y N n m0 h0 op_0 w_1 widths_2 widths_2n widths_2c t_10 a_15 b_16 out_17 i_18 h =
 cond (iLt i_18 w_1)
 (((gI .u64 (rdC h out_17 0))).bind fun n0 =>
 ((gI .u64 (rdC h out_17 1))).bind fun n1 =>
 ((gI .u64 (rdC h a_15 0))).bind fun n2 =>
 ((gI .u64 (rdC h a_15 1))).bind fun n3 =>
 (widths_2).bind fun a4 =>
 cond (inB 0 widths_2n)
 (((gI .i64 (rdC h (Addr.add a4 0) 0))).bind fun n5 =>
 ((runS Tryd.prog n 49 [(.agg #[(.int .u64 n2), (.int .u64 n3)]), (.int .i64 (iSub .i64 n5 1))] (setLow h h.next))).bind fun p6 =>
 ((gI .i64 (some p6.1))).bind fun n7 =>
 cond (Nat.beq p6.2.low h.next)
 (((runS Tryd.prog n 48 [(.agg #[(.int .u64 n0), (.int .u64 n1)]), (.int .i64 i_18), (.int .i64 n7)] (setLow p6.2 h.low))).bind fun p8 =>
 cond (aggIs 2 p8.1)
 (((gI .u64 (aggC 0 p8.1))).bind fun n9 =>
 ((gI .u64 (aggC 1 p8.1))).bind fun n10 =>
 ((stL p8.2 out_17 [(.int .u64 n9), (.int .u64 n10)])).bind fun x11 =>
 c11_7 n m0 h0 op_0 w_1 widths_2 widths_2n widths_2c t_10 a_15 b_16 out_17 (iAdd .i64 i_18 1) x11)
 (none))
 (none))
 (none))
 (((gI .u64 (rdC h out_17 0))).bind fun n12 =>
 ((gI .u64 (rdC h out_17 1))).bind fun n13 =>
 ((stL h t_10 [(.int .u64 n12), (.int .u64 n13)])).bind fun x14 =>
 ((gI .u64 (rdC x14 t_10 0))).bind fun n15 =>
 ((gI .u64 (rdC x14 t_10 1))).bind fun n16 =>
 some (exitR h0 x14 (.agg #[(.int .u64 n15), (.int .u64 n16)]))) := by kernel_rfl
theorem c11_8_eq (N : NewF) (n  : Nat) (h0 : AH) (op_0 : Int) (widths_2 : Option Addr) (widths_2n widths_2c : Nat) (t_10 a_15 b_16 : Addr) (h : AH) : c11_8Y N n  h0 op_0 widths_2 widths_2n widths_2c t_10 a_15 b_16 h =
 (widths_2).bind fun a0 =>
 cond (inB 0 widths_2n)
 (((gI .i64 (rdC h (Addr.add a0 0) 0))).bind fun n1 =>
 ((gI .u64 (rdC h a_15 0))).bind fun n2 =>
 ((gI .u64 (rdC h a_15 1))).bind fun n3 =>
 ((gI .u64 (rdC h b_16 0))).bind fun n4 =>
 ((gI .u64 (rdC h b_16 1))).bind fun n5 =>
 ((runS Tryd.prog n 50 [(.int .i64 op_0), (.int .i64 n1), (.agg #[(.int .u64 n2), (.int .u64 n3)]), (.agg #[(.int .u64 n4), (.int .u64 n5)])] h)).bind fun p6 =>
 cond (aggIs 2 p6.1)
 (((gI .u64 (aggC 0 p6.1))).bind fun n7 =>
 ((gI .u64 (aggC 1 p6.1))).bind fun n8 =>
 ((stL p6.2 t_10 [(.int .u64 n7), (.int .u64 n8)])).bind fun x9 =>
 ((gI .u64 (rdC x9 t_10 0))).bind fun n10 =>
 ((gI .u64 (rdC x9 t_10 1))).bind fun n11 =>
 some (exitR h0 x9 (.agg #[(.int .u64 n10), (.int .u64 n11)])))
 (none))
 (none) := by kernel_rfl
end Go.Proofs.YtiadfnedbbkojaaDoor.Kb
namespace Go.Proofs.YtiadfnedbbkojaaDoor.Kb
open Go Go.Proofs Go.Proofs.YtiadfnedbbkojaaDoor Go.Proofs.YtiadfnedbbkojaaDoor.X
set_option maxRecDepth 100000
set_option linter.unusedVariables false
def p12 : List (List Nat × List Nat) := [([1, 1], [1]), ([0, 1, 0, 1, 1], [1, 28, 29, 30])]
end Go.Proofs.YtiadfnedbbkojaaDoor.Kb
