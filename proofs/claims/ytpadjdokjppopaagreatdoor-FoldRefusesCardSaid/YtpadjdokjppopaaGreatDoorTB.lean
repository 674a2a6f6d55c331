/- Joined texts: TB. -/
import Derived.KernelRfl
import Derived.Test.YtpadjdokjppopaaGreatDoorYA
import Derived.Test.YtpadjdokjppopaaGreatDoorProg
namespace Go.Proofs.YtpadjdokjppopaaGreatDoor.Kb
open Go Go.Proofs Go.Proofs.YtpadjdokjppopaaGreatDoor Go.Proofs.YtpadjdokjppopaaGreatDoor.X
set_option maxRecDepth 100000
set_option linter.unusedVariables false
def p11 : List (List Nat × List Nat):=[([1,1],[1]),([1,1,1,1],[1]),([0,1,0,1,1,1,1,1],[4,62,63,64])]
section
variable (N : NewF) (n : Nat) (h0 : AH) (f_1 : Addr) (h : AH)
 noncomputable def c11_0 : Option (Go.Value × AH):=resY Tryz.prog n Tryz.f20 h0 (.code (subC (bodyC Tryz.f20) [1,1]) [1,1]) [] (E [(1,.pointer (some f_1))]) h
 noncomputable def c11_0Y : Option (Go.Value × AH):=yfrom Tryz.prog (runS Tryz.prog n) n Tryz.f20 h0 p11 N (resY Tryz.prog n Tryz.f20 h0) (subC (bodyC Tryz.f20) [1,1]) [1,1] [] (E [(1,.pointer (some f_1))]) h
variable {n} {h0} {f_1} {h}
theorem c11_0_ok {r : Go.Value × AH} (hv : c11_0Y hNew n h0 f_1 h = some r) : c11_0 n h0 f_1 h = some r:=yfrom_ok hv
end
section
variable (N : NewF) (n : Nat) (h0 : AH) (f_1 : Addr) (h : AH)
 noncomputable def c11_1 : Option (Go.Value × AH):=resY Tryz.prog n Tryz.f20 h0 (.code (subC (bodyC Tryz.f20) [1,1,1,1]) [1,1,1,1]) [] (E [(1,.pointer (some f_1))]) h
 noncomputable def c11_1Y : Option (Go.Value × AH):=yfrom Tryz.prog (runS Tryz.prog n) n Tryz.f20 h0 p11 N (resY Tryz.prog n Tryz.f20 h0) (subC (bodyC Tryz.f20) [1,1,1,1]) [1,1,1,1] [] (E [(1,.pointer (some f_1))]) h
variable {n} {h0} {f_1} {h}
theorem c11_1_ok {r : Go.Value × AH} (hv : c11_1Y hNew n h0 f_1 h = some r) : c11_1 n h0 f_1 h = some r:=yfrom_ok hv
end
section
variable (N : NewF) (n m0 : Nat) (h0 : AH) (c_4 : Addr) (t_62 : Option Addr) (t_62n t_62c : Nat) (t_63 t_64 : Int) (h : AH)
 noncomputable def c11_2 : Option (Go.Value × AH):=resY Tryz.prog n Tryz.f20 h0 (.head (subC (bodyC Tryz.f20) [1,1,1,1,1,0,1,0,0]) [0,1,0,1,1,1,1,1] m0) [.block 0,.seq (subC (bodyC Tryz.f20) [1,1,1,1,1,1]) [1,1,1,1,1,1]] (E [(4,.pointer (some c_4)),(62,.slice t_62 t_62n t_62c),(63,.int .i64 t_63),(64,.int .i64 t_64)]) h
 noncomputable def c11_2Y : Option (Go.Value × AH):=yhead Tryz.prog (runS Tryz.prog n) n Tryz.f20 h0 p11 N (resY Tryz.prog n Tryz.f20 h0) (subC (bodyC Tryz.f20) [1,1,1,1,1,0,1,0,0]) [0,1,0,1,1,1,1,1] m0 [.block 0,.seq (subC (bodyC Tryz.f20) [1,1,1,1,1,1]) [1,1,1,1,1,1]] (E [(4,.pointer (some c_4)),(62,.slice t_62 t_62n t_62c),(63,.int .i64 t_63),(64,.int .i64 t_64)]) h
variable {n m0} {h0} {c_4 t_62 t_62n t_62c t_63 t_64} {h}
theorem c11_2_ok {r : Go.Value × AH} (hv : c11_2Y hNew n m0 h0 c_4 t_62 t_62n t_62c t_63 t_64 h = some r) : c11_2 n (m0 + 1) h0 c_4 t_62 t_62n t_62c t_63 t_64 h = some r:=yhead_ok hv
end
 noncomputable def t11Y (N : NewF) (n : Nat) (f_0a : ByteArray) (f_0b : Option Addr) (f_0bn f_0bc : Nat) (f_0c : Option Addr) (f_0cn f_0cc : Nat) (f_0d : Option Addr) (f_0dn f_0dc : Nat) (f_0e : Option Addr) (f_0en f_0ec : Nat) (f_0f : Option Addr) (f_0fn f_0fc : Nat) (h : AH) : Option (Go.Value × AH):=yrun Tryz.prog (runS Tryz.prog n) n p11 N (resY Tryz.prog n) 20 [(.agg #[(.string f_0a),(.slice f_0b f_0bn f_0bc),(.slice f_0c f_0cn f_0cc),(.slice f_0d f_0dn f_0dc),(.slice f_0e f_0en f_0ec),(.slice f_0f f_0fn f_0fc)])] h
theorem t11_ok {n : Nat} {f_0a : ByteArray} {f_0b : Option Addr} {f_0bn f_0bc : Nat} {f_0c : Option Addr} {f_0cn f_0cc : Nat} {f_0d : Option Addr} {f_0dn f_0dc : Nat} {f_0e : Option Addr} {f_0en f_0ec : Nat} {f_0f : Option Addr} {f_0fn f_0fc : Nat} {h : AH} {r : Go.Value × AH} (hv : t11Y hNew n f_0a f_0b f_0bn f_0bc f_0c f_0cn f_0cc f_0d f_0dn f_0dc f_0e f_0en f_0ec f_0f f_0fn f_0fc h = some r) : runS Tryz.prog (n + 1) 20 [(.agg #[(.string f_0a),(.slice f_0b f_0bn f_0bc),(.slice f_0c f_0cn f_0cc),(.slice f_0d f_0dn f_0dc),(.slice f_0e f_0en f_0ec),(.slice f_0f f_0fn f_0fc)])] h = some r:=yrun_ok hv
theorem t11 (N : NewF) (n : Nat) (f_0a : ByteArray) (f_0b : Option Addr) (f_0bn f_0bc : Nat) (f_0c : Option Addr) (f_0cn f_0cc : Nat) (f_0d : Option Addr) (f_0dn f_0dc : Nat) (f_0e : Option Addr) (f_0en f_0ec : Nat) (f_0f : Option Addr) (f_0fn f_0fc : Nat) (h : AH) : t11Y N n f_0a f_0b f_0bn f_0bc f_0c f_0cn f_0cc f_0d f_0dn f_0dc f_0e f_0en f_0ec f_0f f_0fn f_0fc h =
 (N (setLow h h.next) [(.string f_0a),(.slice f_0b f_0bn f_0bc),(.slice f_0c f_0cn f_0cc),(.slice f_0d f_0dn f_0dc),(.slice f_0e f_0en f_0ec),(.slice f_0f f_0fn f_0fc)] 0).bind fun p0 =>
 (gS (rdC p0.2 (Addr.add ⟨p0.1,0,none⟩ 0) 0)).bind fun x1 =>
 (runS Tryz.prog n 43 [(.string x1)] p0.2).bind fun p2 =>
 (gB (some p2.1)).bind fun b3 =>
 cond (Bool.not b3)
 (some (exitR h p2.2 (.bool false)))
 ((gS (rdC p2.2 ⟨p0.1,0,none⟩ 0)).bind fun x4 =>
 (gL (rdC p2.2 ⟨p0.1,0,none⟩ 1)).bind fun p5 =>
 (gL (rdC p2.2 ⟨p0.1,0,none⟩ 2)).bind fun p6 =>
 (gL (rdC p2.2 ⟨p0.1,0,none⟩ 3)).bind fun p7 =>
 (gL (rdC p2.2 ⟨p0.1,0,none⟩ 4)).bind fun p8 =>
 (gL (rdC p2.2 ⟨p0.1,0,none⟩ 5)).bind fun p9 =>
 (runS Tryz.prog n 44 [(.agg #[(.string x4),(.slice p5.1 p5.2.1 p5.2.2),(.slice p6.1 p6.2.1 p6.2.2),(.slice p7.1 p7.2.1 p7.2.2),(.slice p8.1 p8.2.1 p8.2.2),(.slice p9.1 p9.2.1 p9.2.2)])] p2.2).bind fun p10 =>
 (gB (some p10.1)).bind fun b11 =>
 cond (Bool.not b11)
 (some (exitR h p10.2 (.bool false)))
 ((gL (rdC p10.2 (Addr.add ⟨p0.1,0,none⟩ 1) 0)).bind fun p12 =>
 cond (iLt 65536 (Int.ofNat p12.2.1))
 (some (exitR h p10.2 (.bool false)))
 ((gL (rdC p10.2 (Addr.add ⟨p0.1,0,none⟩ 4) 0)).bind fun p13 =>
 cond (iLt 64 (Int.ofNat p13.2.1))
 (some (exitR h p10.2 (.bool false)))
 ((gL (rdC p10.2 (Addr.add ⟨p0.1,0,none⟩ 5) 0)).bind fun p14 =>
 cond (iLt (Int.ofNat p14.2.1) 1)
 (some (exitR h p10.2 (.bool false)))
 ((gL (rdC p10.2 (Addr.add ⟨p0.1,0,none⟩ 5) 0)).bind fun p15 =>
 cond (iLt 1024 (Int.ofNat p15.2.1))
 (some (exitR h p10.2 (.bool false)))
 (c11_0 n h ⟨p0.1,0,none⟩ p10.2)))))):=by kernel_rfl
theorem c11_0_eq (N : NewF) (n  : Nat) (h0 : AH) (f_1 : Addr) (h : AH) : c11_0Y N n  h0 f_1 h =
 (gL (rdC h (Addr.add f_1 1) 0)).bind fun p0 =>
 (runS Tryz.prog n 47 [(.slice p0.1 p0.2.1 p0.2.2),(Value.func (Fn.func 45) (List.toArray []) (List.toArray []))] h).bind fun p1 =>
 (gB (some p1.1)).bind fun b2 =>
 cond b2
 (some (exitR h0 p1.2 (.bool false)))
 ((gL (rdC p1.2 (Addr.add f_1 4) 0)).bind fun p3 =>
 (runS Tryz.prog n 47 [(.slice p3.1 p3.2.1 p3.2.2),(Value.func (Fn.func 45) (List.toArray []) (List.toArray []))] p1.2).bind fun p4 =>
 (gB (some p4.1)).bind fun b5 =>
 cond b5
 (some (exitR h0 p4.2 (.bool false)))
 (c11_1 n h0 f_1 p4.2)):=by kernel_rfl
theorem c11_1_eq (N : NewF) (n  : Nat) (h0 : AH) (f_1 : Addr) (h : AH) : c11_1Y N n  h0 f_1 h =
 (gS (rdC h f_1 0)).bind fun x0 =>
 (gL (rdC h f_1 1)).bind fun p1 =>
 (gL (rdC h f_1 2)).bind fun p2 =>
 (gL (rdC h f_1 3)).bind fun p3 =>
 (gL (rdC h f_1 4)).bind fun p4 =>
 (gL (rdC h f_1 5)).bind fun p5 =>
 (gL (rdC h (Addr.add f_1 1) 0)).bind fun p6 =>
 cond (Bool.and (iLe 0 (Int.ofNat p6.2.1)) (Bool.and (iLe (Int.ofNat p6.2.1) (Int.ofNat p6.2.1)) (Bool.and (iLe (HMul.hMul (Int.ofNat p6.2.1) 1) 140737488355328) (iLt (Int.ofNat p6.2.1) 9223372036854775808))))
 ((N h (repl [(.bool false)] (Int.toNat (Int.ofNat p6.2.1))) 1).bind fun p7 =>
 (gL (rdC p7.2 (Addr.add f_1 1) 0)).bind fun p8 =>
 cond (Bool.and (iLe 0 (Int.ofNat p8.2.1)) (Bool.and (iLe (Int.ofNat p8.2.1) (Int.ofNat p8.2.1)) (Bool.and (iLe (HMul.hMul (Int.ofNat p8.2.1) 8) 140737488355328) (iLt (Int.ofNat p8.2.1) 9223372036854775808))))
 ((N p7.2 (repl [(.int .i64 0)] (Int.toNat (Int.ofNat p8.2.1))) 1).bind fun p9 =>
 (N p9.2 [(.string x0),(.slice p1.1 p1.2.1 p1.2.2),(.slice p2.1 p2.2.1 p2.2.2),(.slice p3.1 p3.2.1 p3.2.2),(.slice p4.1 p4.2.1 p4.2.2),(.slice p5.1 p5.2.1 p5.2.2),(.slice (some ⟨p7.1,0,none⟩) (Int.toNat (Int.ofNat p6.2.1)) (Int.toNat (Int.ofNat p6.2.1))),(.slice (some ⟨p9.1,0,none⟩) (Int.toNat (Int.ofNat p8.2.1)) (Int.toNat (Int.ofNat p8.2.1)))] 0).bind fun p10 =>
 (gL (rdC p10.2 (Addr.add f_1 5) 0)).bind fun p11 =>
 c11_2 n n h0 ⟨p10.1,0,none⟩ p11.1 p11.2.1 p11.2.2 (Int.ofNat p11.2.1) 0 p10.2)
 (none))
 (none):=by kernel_rfl
theorem c11_2_eq (N : NewF) (n m0 : Nat) (h0 : AH) (c_4 : Addr) (t_62 : Option Addr) (t_62n t_62c : Nat) (t_63 t_64 : Int) (h : AH) : c11_2Y N n m0 h0 c_4 t_62 t_62n t_62c t_63 t_64 h =
 cond (iLt t_64 t_63)
 ((t_62).bind fun a0 =>
 cond (inB t_64 t_62n)
 ((gL (rdC h (Addr.add a0 ((Int.toNat t_64) * 9)) 0)).bind fun p1 =>
 (gL (rdC h (Addr.add a0 ((Int.toNat t_64) * 9)) 1)).bind fun p2 =>
 (gI .i64 (rdC h (Addr.add a0 ((Int.toNat t_64) * 9)) 2)).bind fun n3 =>
 (gI .i64 (rdC h (Addr.add a0 ((Int.toNat t_64) * 9)) 3)).bind fun n4 =>
 (gL (rdC h (Addr.add a0 ((Int.toNat t_64) * 9)) 4)).bind fun p5 =>
 (gL (rdC h (Addr.add a0 ((Int.toNat t_64) * 9)) 5)).bind fun p6 =>
 (gI .i64 (rdC h (Addr.add a0 ((Int.toNat t_64) * 9)) 6)).bind fun n7 =>
 (gI .i64 (rdC h (Addr.add a0 ((Int.toNat t_64) * 9)) 7)).bind fun n8 =>
 (gI .i64 (rdC h (Addr.add a0 ((Int.toNat t_64) * 9)) 8)).bind fun n9 =>
 (N h [(.slice none 0 0),(.slice none 0 0),(.int .i64 0),(.int .i64 0),(.slice none 0 0),(.slice none 0 0),(.int .i64 0),(.int .i64 0),(.int .i64 0)] 0).bind fun p10 =>
 (stL p10.2 ⟨p10.1,0,none⟩ [(.slice p1.1 p1.2.1 p1.2.2),(.slice p2.1 p2.2.1 p2.2.2),(.int .i64 n3),(.int .i64 n4),(.slice p5.1 p5.2.1 p5.2.2),(.slice p6.1 p6.2.1 p6.2.2),(.int .i64 n7),(.int .i64 n8),(.int .i64 n9)]).bind fun x11 =>
 (gL (rdC x11 ⟨p10.1,0,none⟩ 0)).bind fun p12 =>
 (gL (rdC x11 ⟨p10.1,0,none⟩ 1)).bind fun p13 =>
 (gI .i64 (rdC x11 ⟨p10.1,0,none⟩ 2)).bind fun n14 =>
 (gI .i64 (rdC x11 ⟨p10.1,0,none⟩ 3)).bind fun n15 =>
 (gL (rdC x11 ⟨p10.1,0,none⟩ 4)).bind fun p16 =>
 (gL (rdC x11 ⟨p10.1,0,none⟩ 5)).bind fun p17 =>
 (gI .i64 (rdC x11 ⟨p10.1,0,none⟩ 6)).bind fun n18 =>
 (gI .i64 (rdC x11 ⟨p10.1,0,none⟩ 7)).bind fun n19 =>
 (gI .i64 (rdC x11 ⟨p10.1,0,none⟩ 8)).bind fun n20 =>
 (runS Tryz.prog n 48 [(.pointer (some c_4)),(.agg #[(.slice p12.1 p12.2.1 p12.2.2),(.slice p13.1 p13.2.1 p13.2.2),(.int .i64 n14),(.int .i64 n15),(.slice p16.1 p16.2.1 p16.2.2),(.slice p17.1 p17.2.1 p17.2.2),(.int .i64 n18),(.int .i64 n19),(.int .i64 n20)]),(.int .i64 t_64)] x11).bind fun p21 =>
 (gB (some p21.1)).bind fun b22 =>
 cond (Bool.not b22)
 (some (exitR h0 p21.2 (.bool false)))
 (c11_2 n m0 h0 c_4 t_62 t_62n t_62c t_63 (iAdd .i64 t_64 1) p21.2))
 (none))
 (some (exitR h0 h (.bool true))):=by kernel_rfl
def p32 : List (List Nat × List Nat):=[([1,1],[0]),([0,1,0,1,1],[14,15,16]),([1,1,0,0,1,1,0,0,1,0,1,1],[3,4,5,14,15,16])]
section
variable (N : NewF) (n : Nat) (h0 : AH) (s_0 : ByteArray) (h : AH)
 noncomputable def c32_0 : Option (Go.Value × AH):=resY Tryz.prog n Tryz.f43 h0 (.code (subC (bodyC Tryz.f43) [1,1]) [1,1]) [] (E [(0,.string s_0)]) h
 noncomputable def c32_0Y : Option (Go.Value × AH):=yfrom Tryz.prog (runS Tryz.prog n) n Tryz.f43 h0 p32 N (resY Tryz.prog n Tryz.f43 h0) (subC (bodyC Tryz.f43) [1,1]) [1,1] [] (E [(0,.string s_0)]) h
variable {n} {h0} {s_0} {h}
theorem c32_0_ok {r : Go.Value × AH} (hv : c32_0Y hNew n h0 s_0 h = some r) : c32_0 n h0 s_0 h = some r:=yfrom_ok hv
end
section
variable (N : NewF) (n m0 : Nat) (h0 : AH) (t_14 : Option Addr) (t_14n t_14c : Nat) (t_15 t_16 : Int) (h : AH)
 noncomputable def c32_1 : Option (Go.Value × AH):=resY Tryz.prog n Tryz.f43 h0 (.head (subC (bodyC Tryz.f43) [1,1,0,1,0,0]) [0,1,0,1,1] m0) [.block 0,.seq (subC (bodyC Tryz.f43) [1,1,1]) [1,1,1]] (E [(14,.slice t_14 t_14n t_14c),(15,.int .i64 t_15),(16,.int .i64 t_16)]) h
 noncomputable def c32_1Y : Option (Go.Value × AH):=yhead Tryz.prog (runS Tryz.prog n) n Tryz.f43 h0 p32 N (resY Tryz.prog n Tryz.f43 h0) (subC (bodyC Tryz.f43) [1,1,0,1,0,0]) [0,1,0,1,1] m0 [.block 0,.seq (subC (bodyC Tryz.f43) [1,1,1]) [1,1,1]] (E [(14,.slice t_14 t_14n t_14c),(15,.int .i64 t_15),(16,.int .i64 t_16)]) h
variable {n m0} {h0} {t_14 t_14n t_14c t_15 t_16} {h}
theorem c32_1_ok {r : Go.Value × AH} (hv : c32_1Y hNew n m0 h0 t_14 t_14n t_14c t_15 t_16 h = some r) : c32_1 n (m0 + 1) h0 t_14 t_14n t_14c t_15 t_16 h = some r:=yhead_ok hv
end
section
variable (N : NewF) (n m0 : Nat) (h0 : AH) (i_3 c_4 : Int) (letter_5 : Bool) (t_14 : Option Addr) (t_14n t_14c : Nat) (t_15 t_16 : Int) (h : AH)
 noncomputable def c32_2 : Option (Go.Value × AH):=resY Tryz.prog n Tryz.f43 h0 (.code (subC (bodyC Tryz.f43) [1,1,0,1,0,0,1,1,0,0,1,1]) [1,1,0,0,1,1,0,0,1,0,1,1]) [.block 1,.seq (subC (bodyC Tryz.f43) [1,1,0,1,0,0,1,1,1]) [1,1,1,0,0,1,0,1,1],.loop (subC (bodyC Tryz.f43) [1,1,0,1,0,0]) [0,1,0,1,1] m0,.block 0,.seq (subC (bodyC Tryz.f43) [1,1,1]) [1,1,1]] (E [(3,.int .i64 i_3),(4,.int .u8 c_4),(5,.bool letter_5),(14,.slice t_14 t_14n t_14c),(15,.int .i64 t_15),(16,.int .i64 t_16)]) h
 noncomputable def c32_2Y : Option (Go.Value × AH):=yfrom Tryz.prog (runS Tryz.prog n) n Tryz.f43 h0 p32 N (resY Tryz.prog n Tryz.f43 h0) (subC (bodyC Tryz.f43) [1,1,0,1,0,0,1,1,0,0,1,1]) [1,1,0,0,1,1,0,0,1,0,1,1] [.block 1,.seq (subC (bodyC Tryz.f43) [1,1,0,1,0,0,1,1,1]) [1,1,1,0,0,1,0,1,1],.loop (subC (bodyC Tryz.f43) [1,1,0,1,0,0]) [0,1,0,1,1] m0,.block 0,.seq (subC (bodyC Tryz.f43) [1,1,1]) [1,1,1]] (E [(3,.int .i64 i_3),(4,.int .u8 c_4),(5,.bool letter_5),(14,.slice t_14 t_14n t_14c),(15,.int .i64 t_15),(16,.int .i64 t_16)]) h
variable {n m0} {h0} {i_3 c_4 letter_5 t_14 t_14n t_14c t_15 t_16} {h}
theorem c32_2_ok {r : Go.Value × AH} (hv : c32_2Y hNew n m0 h0 i_3 c_4 letter_5 t_14 t_14n t_14c t_15 t_16 h = some r) : c32_2 n m0 h0 i_3 c_4 letter_5 t_14 t_14n t_14c t_15 t_16 h = some r:=yfrom_ok hv
end
 noncomputable def t32Y (N : NewF) (n : Nat) (s_0 : ByteArray) (h : AH) : Option (Go.Value × AH):=yrun Tryz.prog (runS Tryz.prog n) n p32 N (resY Tryz.prog n) 43 [(.string s_0)] h
theorem t32_ok {n : Nat} {s_0 : ByteArray} {h : AH} {r : Go.Value × AH} (hv : t32Y hNew n s_0 h = some r) : runS Tryz.prog (n + 1) 43 [(.string s_0)] h = some r:=yrun_ok hv
theorem t32 (N : NewF) (n : Nat) (s_0 : ByteArray) (h : AH) : t32Y N n s_0 h =
 cond (BEq.beq (ByteArray.toList s_0) [])
 (some (exitR h (setLow h h.next) (.bool false)))
 (cond (iLt 64 (Int.ofNat (ByteArray.size s_0)))
 (some (exitR h (setLow h h.next) (.bool false)))
 (c32_0 n h s_0 (setLow h h.next))):=by kernel_rfl
theorem c32_0_eq (N : NewF) (n  : Nat) (h0 : AH) (s_0 : ByteArray) (h : AH) : c32_0Y N n  h0 s_0 h =
 c32_1 n n h0 (some ⟨h.next,0,none⟩) (ByteArray.size s_0) 9223372036854775808 (Int.ofNat (ByteArray.size s_0)) 0 (AH.new h (bytesOf s_0) 1).2:=by kernel_rfl
theorem c32_1_eq (N : NewF) (n m0 : Nat) (h0 : AH) (t_14 : Option Addr) (t_14n t_14c : Nat) (t_15 t_16 : Int) (h : AH) : c32_1Y N n m0 h0 t_14 t_14n t_14c t_15 t_16 h =
 cond (iLt t_16 t_15)
 ((t_14).bind fun a0 =>
 cond (inB t_16 t_14n)
 ((gI .u8 (rdC h (Addr.add a0 ((Int.toNat t_16) * 1)) 0)).bind fun n1 =>
 cond (iEq n1 95)
 (c32_2 n m0 h0 t_16 n1 true t_14 t_14n t_14c t_15 t_16 h)
 (cond (iLe 97 n1)
 (cond (iLe n1 122)
 (c32_2 n m0 h0 t_16 n1 true t_14 t_14n t_14c t_15 t_16 h)
 (cond (iLe 65 n1)
 (c32_2 n m0 h0 t_16 n1 (iLe n1 90) t_14 t_14n t_14c t_15 t_16 h)
 (c32_2 n m0 h0 t_16 n1 false t_14 t_14n t_14c t_15 t_16 h)))
 (cond (iLe 65 n1)
 (c32_2 n m0 h0 t_16 n1 (iLe n1 90) t_14 t_14n t_14c t_15 t_16 h)
 (c32_2 n m0 h0 t_16 n1 false t_14 t_14n t_14c t_15 t_16 h))))
 (none))
 (some (exitR h0 h (.bool true))):=by kernel_rfl
theorem c32_2_eq (N : NewF) (n m0 : Nat) (h0 : AH) (i_3 c_4 : Int) (letter_5 : Bool) (t_14 : Option Addr) (t_14n t_14c : Nat) (t_15 t_16 : Int) (h : AH) : c32_2Y N n m0 h0 i_3 c_4 letter_5 t_14 t_14n t_14c t_15 t_16 h =
 cond (Bool.not letter_5)
 (cond (iEq i_3 0)
 (some (exitR h0 h (.bool false)))
 (cond (iLt c_4 48)
 (some (exitR h0 h (.bool false)))
 (cond (iLt 57 c_4)
 (some (exitR h0 h (.bool false)))
 (c32_1 n m0 h0 t_14 t_14n t_14c t_15 (iAdd .i64 t_16 1) h))))
 (c32_1 n m0 h0 t_14 t_14n t_14c t_15 (iAdd .i64 t_16 1) h):=by kernel_rfl
def p33 : List (List Nat × List Nat):=[([0,1,0,1,1,1],[1,4,12,13,14]),([0,1,0,1,1,1,1],[1,4,46,47,48])]
section
variable (N : NewF) (n m0 : Nat) (h0 : AH) (f_1 fresh_4a : Addr) (t_12 : Option Addr) (t_12n t_12c : Nat) (t_13 t_14 : Int) (h : AH)
 noncomputable def c33_0 : Option (Go.Value × AH):=resY Tryz.prog n Tryz.f44 h0 (.head (subC (bodyC Tryz.f44) [1,1,1,0,1,0,0]) [0,1,0,1,1,1] m0) [.block 0,.seq (subC (bodyC Tryz.f44) [1,1,1,1]) [1,1,1,1]] (E [(1,.pointer (some f_1)),(4,.func (.func 72) #[] #[(.pointer (some fresh_4a))]),(12,.slice t_12 t_12n t_12c),(13,.int .i64 t_13),(14,.int .i64 t_14)]) h
 noncomputable def c33_0Y : Option (Go.Value × AH):=yhead Tryz.prog (runS Tryz.prog n) n Tryz.f44 h0 p33 N (resY Tryz.prog n Tryz.f44 h0) (subC (bodyC Tryz.f44) [1,1,1,0,1,0,0]) [0,1,0,1,1,1] m0 [.block 0,.seq (subC (bodyC Tryz.f44) [1,1,1,1]) [1,1,1,1]] (E [(1,.pointer (some f_1)),(4,.func (.func 72) #[] #[(.pointer (some fresh_4a))]),(12,.slice t_12 t_12n t_12c),(13,.int .i64 t_13),(14,.int .i64 t_14)]) h
variable {n m0} {h0} {f_1 fresh_4a t_12 t_12n t_12c t_13 t_14} {h}
theorem c33_0_ok {r : Go.Value × AH} (hv : c33_0Y hNew n m0 h0 f_1 fresh_4a t_12 t_12n t_12c t_13 t_14 h = some r) : c33_0 n (m0 + 1) h0 f_1 fresh_4a t_12 t_12n t_12c t_13 t_14 h = some r:=yhead_ok hv
end
section
variable (N : NewF) (n m0 : Nat) (h0 : AH) (f_1 fresh_4a : Addr) (t_46 : Option Addr) (t_46n t_46c : Nat) (t_47 t_48 : Int) (h : AH)
 noncomputable def c33_1 : Option (Go.Value × AH):=resY Tryz.prog n Tryz.f44 h0 (.head (subC (bodyC Tryz.f44) [1,1,1,1,0,1,0,0]) [0,1,0,1,1,1,1] m0) [.block 2,.seq (subC (bodyC Tryz.f44) [1,1,1,1,1]) [1,1,1,1,1]] (E [(1,.pointer (some f_1)),(4,.func (.func 72) #[] #[(.pointer (some fresh_4a))]),(46,.slice t_46 t_46n t_46c),(47,.int .i64 t_47),(48,.int .i64 t_48)]) h
 noncomputable def c33_1Y : Option (Go.Value × AH):=yhead Tryz.prog (runS Tryz.prog n) n Tryz.f44 h0 p33 N (resY Tryz.prog n Tryz.f44 h0) (subC (bodyC Tryz.f44) [1,1,1,1,0,1,0,0]) [0,1,0,1,1,1,1] m0 [.block 2,.seq (subC (bodyC Tryz.f44) [1,1,1,1,1]) [1,1,1,1,1]] (E [(1,.pointer (some f_1)),(4,.func (.func 72) #[] #[(.pointer (some fresh_4a))]),(46,.slice t_46 t_46n t_46c),(47,.int .i64 t_47),(48,.int .i64 t_48)]) h
variable {n m0} {h0} {f_1 fresh_4a t_46 t_46n t_46c t_47 t_48} {h}
theorem c33_1_ok {r : Go.Value × AH} (hv : c33_1Y hNew n m0 h0 f_1 fresh_4a t_46 t_46n t_46c t_47 t_48 h = some r) : c33_1 n (m0 + 1) h0 f_1 fresh_4a t_46 t_46n t_46c t_47 t_48 h = some r:=yhead_ok hv
end
 noncomputable def t33Y (N : NewF) (n : Nat) (f_0a : ByteArray) (f_0b : Option Addr) (f_0bn f_0bc : Nat) (f_0c : Option Addr) (f_0cn f_0cc : Nat) (f_0d : Option Addr) (f_0dn f_0dc : Nat) (f_0e : Option Addr) (f_0en f_0ec : Nat) (f_0f : Option Addr) (f_0fn f_0fc : Nat) (h : AH) : Option (Go.Value × AH):=yrun Tryz.prog (runS Tryz.prog n) n p33 N (resY Tryz.prog n) 44 [(.agg #[(.string f_0a),(.slice f_0b f_0bn f_0bc),(.slice f_0c f_0cn f_0cc),(.slice f_0d f_0dn f_0dc),(.slice f_0e f_0en f_0ec),(.slice f_0f f_0fn f_0fc)])] h
theorem t33_ok {n : Nat} {f_0a : ByteArray} {f_0b : Option Addr} {f_0bn f_0bc : Nat} {f_0c : Option Addr} {f_0cn f_0cc : Nat} {f_0d : Option Addr} {f_0dn f_0dc : Nat} {f_0e : Option Addr} {f_0en f_0ec : Nat} {f_0f : Option Addr} {f_0fn f_0fc : Nat} {h : AH} {r : Go.Value × AH} (hv : t33Y hNew n f_0a f_0b f_0bn f_0bc f_0c f_0cn f_0cc f_0d f_0dn f_0dc f_0e f_0en f_0ec f_0f f_0fn f_0fc h = some r) : runS Tryz.prog (n + 1) 44 [(.agg #[(.string f_0a),(.slice f_0b f_0bn f_0bc),(.slice f_0c f_0cn f_0cc),(.slice f_0d f_0dn f_0dc),(.slice f_0e f_0en f_0ec),(.slice f_0f f_0fn f_0fc)])] h = some r:=yrun_ok hv
theorem t33 (N : NewF) (n : Nat) (f_0a : ByteArray) (f_0b : Option Addr) (f_0bn f_0bc : Nat) (f_0c : Option Addr) (f_0cn f_0cc : Nat) (f_0d : Option Addr) (f_0dn f_0dc : Nat) (f_0e : Option Addr) (f_0en f_0ec : Nat) (f_0f : Option Addr) (f_0fn f_0fc : Nat) (h : AH) : t33Y N n f_0a f_0b f_0bn f_0bc f_0c f_0cn f_0cc f_0d f_0dn f_0dc f_0e f_0en f_0ec f_0f f_0fn f_0fc h =
 (N (setLow h h.next) [(.string f_0a),(.slice f_0b f_0bn f_0bc),(.slice f_0c f_0cn f_0cc),(.slice f_0d f_0dn f_0dc),(.slice f_0e f_0en f_0ec),(.slice f_0f f_0fn f_0fc)] 0).bind fun p0 =>
 (N (AH.newMap p0.2) [(Value.map none)] 0).bind fun p1 =>
 (stL p1.2 ⟨p1.1,0,none⟩ [(Value.map (some p0.2.next))]).bind fun x2 =>
 (gL (rdC x2 (Addr.add ⟨p0.1,0,none⟩ 2) 0)).bind fun p3 =>
 c33_0 n n h ⟨p0.1,0,none⟩ ⟨p1.1,0,none⟩ p3.1 p3.2.1 p3.2.2 (Int.ofNat p3.2.1) 0 x2:=by kernel_rfl
theorem c33_0_eq (N : NewF) (n m0 : Nat) (h0 : AH) (f_1 fresh_4a : Addr) (t_12 : Option Addr) (t_12n t_12c : Nat) (t_13 t_14 : Int) (h : AH) : c33_0Y N n m0 h0 f_1 fresh_4a t_12 t_12n t_12c t_13 t_14 h =
 cond (iLt t_14 t_13)
 ((t_12).bind fun a0 =>
 cond (inB t_14 t_12n)
 ((gS (rdC h (Addr.add a0 ((Int.toNat t_14) * 5)) 0)).bind fun x1 =>
 (gI .i64 (rdC h (Addr.add a0 ((Int.toNat t_14) * 5)) 1)).bind fun n2 =>
 (gI .i64 (rdC h (Addr.add a0 ((Int.toNat t_14) * 5)) 2)).bind fun n3 =>
 (gI .i64 (rdC h (Addr.add a0 ((Int.toNat t_14) * 5)) 3)).bind fun n4 =>
 (gI .i64 (rdC h (Addr.add a0 ((Int.toNat t_14) * 5)) 4)).bind fun n5 =>
 (N h [(.string (ByteArray.mk (List.toArray []))),(.int .i64 0),(.int .i64 0),(.int .i64 0),(.int .i64 0)] 0).bind fun p6 =>
 (stL p6.2 ⟨p6.1,0,none⟩ [(.string x1),(.int .i64 n2),(.int .i64 n3),(.int .i64 n4),(.int .i64 n5)]).bind fun x7 =>
 (gS (rdC x7 (Addr.add ⟨p6.1,0,none⟩ 0) 0)).bind fun x8 =>
 (runS Tryz.prog n 72 [(.string x8),(.pointer (some fresh_4a))] x7).bind fun p9 =>
 (gB (some p9.1)).bind fun b10 =>
 cond (Bool.not b10)
 (some (exitR h0 p9.2 (.bool false)))
 ((gI .i64 (rdC p9.2 (Addr.add ⟨p6.1,0,none⟩ 1) 0)).bind fun n11 =>
 (runS Tryz.prog n 46 [(.int .i64 n11)] p9.2).bind fun p12 =>
 (gB (some p12.1)).bind fun b13 =>
 cond (Bool.not b13)
 (some (exitR h0 p12.2 (.bool false)))
 ((gI .i64 (rdC p12.2 (Addr.add ⟨p6.1,0,none⟩ 2) 0)).bind fun n14 =>
 cond (iLt n14 1)
 (some (exitR h0 p12.2 (.bool false)))
 ((gI .i64 (rdC p12.2 (Addr.add ⟨p6.1,0,none⟩ 2) 0)).bind fun n15 =>
 cond (iLt 4096 n15)
 (some (exitR h0 p12.2 (.bool false)))
 ((gS (rdC p12.2 ⟨p6.1,0,none⟩ 0)).bind fun x16 =>
 (gI .i64 (rdC p12.2 ⟨p6.1,0,none⟩ 1)).bind fun n17 =>
 (gI .i64 (rdC p12.2 ⟨p6.1,0,none⟩ 2)).bind fun n18 =>
 (gI .i64 (rdC p12.2 ⟨p6.1,0,none⟩ 3)).bind fun n19 =>
 (gI .i64 (rdC p12.2 ⟨p6.1,0,none⟩ 4)).bind fun n20 =>
 (runS Tryz.prog n 73 [(.agg #[(.string x16),(.int .i64 n17),(.int .i64 n18),(.int .i64 n19),(.int .i64 n20)])] p12.2).bind fun p21 =>
 (gB (some p21.1)).bind fun b22 =>
 cond (Bool.not b22)
 (some (exitR h0 p21.2 (.bool false)))
 (c33_0 n m0 h0 f_1 fresh_4a t_12 t_12n t_12c t_13 (iAdd .i64 t_14 1) p21.2))))))
 (none))
 ((gL (rdC h (Addr.add f_1 3) 0)).bind fun p23 =>
 c33_1 n n h0 f_1 fresh_4a p23.1 p23.2.1 p23.2.2 (Int.ofNat p23.2.1) 0 h):=by kernel_rfl
theorem c33_1_eq (N : NewF) (n m0 : Nat) (h0 : AH) (f_1 fresh_4a : Addr) (t_46 : Option Addr) (t_46n t_46c : Nat) (t_47 t_48 : Int) (h : AH) : c33_1Y N n m0 h0 f_1 fresh_4a t_46 t_46n t_46c t_47 t_48 h =
 cond (iLt t_48 t_47)
 ((t_46).bind fun a0 =>
 cond (inB t_48 t_46n)
 ((gS (rdC h (Addr.add a0 ((Int.toNat t_48) * 3)) 0)).bind fun x1 =>
 (gI .i64 (rdC h (Addr.add a0 ((Int.toNat t_48) * 3)) 1)).bind fun n2 =>
 (gB (rdC h (Addr.add a0 ((Int.toNat t_48) * 3)) 2)).bind fun b3 =>
 (N h [(.string (ByteArray.mk (List.toArray []))),(.int .i64 0),(.bool false)] 0).bind fun p4 =>
 (stL p4.2 ⟨p4.1,0,none⟩ [(.string x1),(.int .i64 n2),(.bool b3)]).bind fun x5 =>
 (gS (rdC x5 (Addr.add ⟨p4.1,0,none⟩ 0) 0)).bind fun x6 =>
 (runS Tryz.prog n 72 [(.string x6),(.pointer (some fresh_4a))] x5).bind fun p7 =>
 (gB (some p7.1)).bind fun b8 =>
 cond (Bool.not b8)
 (some (exitR h0 p7.2 (.bool false)))
 ((gI .i64 (rdC p7.2 (Addr.add ⟨p4.1,0,none⟩ 1) 0)).bind fun n9 =>
 (runS Tryz.prog n 46 [(.int .i64 n9)] p7.2).bind fun p10 =>
 (gB (some p10.1)).bind fun b11 =>
 cond (Bool.not b11)
 (some (exitR h0 p10.2 (.bool false)))
 (c33_1 n m0 h0 f_1 fresh_4a t_46 t_46n t_46c t_47 (iAdd .i64 t_48 1) p10.2)))
 (none))
 ((gL (rdC h (Addr.add f_1 2) 0)).bind fun p12 =>
 cond (iLe (Int.ofNat p12.2.1) 64)
 ((gL (rdC h (Addr.add f_1 3) 0)).bind fun p13 =>
 some (exitR h0 h (.bool (iLe (Int.ofNat p13.2.1) 64))))
 (some (exitR h0 h (.bool false)))):=by kernel_rfl
def p34 : List (List Nat × List Nat):=[]
 noncomputable def t34Y (N : NewF) (n : Nat) (w_0 : Int) (h : AH) : Option (Go.Value × AH):=yrun Tryz.prog (runS Tryz.prog n) n p34 N (resY Tryz.prog n) 45 [(.int .i64 w_0)] h
theorem t34_ok {n : Nat} {w_0 : Int} {h : AH} {r : Go.Value × AH} (hv : t34Y hNew n w_0 h = some r) : runS Tryz.prog (n + 1) 45 [(.int .i64 w_0)] h = some r:=yrun_ok hv
theorem t34 (N : NewF) (n : Nat) (w_0 : Int) (h : AH) : t34Y N n w_0 h =
 (runS Tryz.prog n 46 [(.int .i64 w_0)] (setLow h h.next)).bind fun p0 =>
 (gB (some p0.1)).bind fun b1 =>
 some (exitR h p0.2 (.bool (Bool.not b1))):=by kernel_rfl
def p35 : List (List Nat × List Nat):=[]
 noncomputable def t35Y (N : NewF) (n : Nat) (w_0 : Int) (h : AH) : Option (Go.Value × AH):=yrun Tryz.prog (runS Tryz.prog n) n p35 N (resY Tryz.prog n) 46 [(.int .i64 w_0)] h
theorem t35_ok {n : Nat} {w_0 : Int} {h : AH} {r : Go.Value × AH} (hv : t35Y hNew n w_0 h = some r) : runS Tryz.prog (n + 1) 46 [(.int .i64 w_0)] h = some r:=yrun_ok hv
theorem t35 (N : NewF) (n : Nat) (w_0 : Int) (h : AH) : t35Y N n w_0 h =
 cond (iLe 1 w_0)
 (some (exitR h (setLow h h.next) (.bool (iLe w_0 64))))
 (some (exitR h (setLow h h.next) (.bool false))):=by kernel_rfl
def p37 : List (List Nat × List Nat):=[([1,1],[0,2,4]),([0,1,0,1,1],[0,2,4,46,47,48]),([0,1,0,1,1,1],[0,2,4,59,60,61])]
section
variable (N : NewF) (n : Nat) (h0 : AH) (c_0 : Addr) (b_2 : Int) (x_4 : Addr) (h : AH)
 noncomputable def c37_0 : Option (Go.Value × AH):=resY Tryz.prog n Tryz.f48 h0 (.code (subC (bodyC Tryz.f48) [1,1]) [1,1]) [] (E [(0,.pointer (some c_0)),(2,.int .i64 b_2),(4,.pointer (some x_4))]) h
 noncomputable def c37_0Y : Option (Go.Value × AH):=yfrom Tryz.prog (runS Tryz.prog n) n Tryz.f48 h0 p37 N (resY Tryz.prog n Tryz.f48 h0) (subC (bodyC Tryz.f48) [1,1]) [1,1] [] (E [(0,.pointer (some c_0)),(2,.int .i64 b_2),(4,.pointer (some x_4))]) h
variable {n} {h0} {c_0 b_2 x_4} {h}
theorem c37_0_ok {r : Go.Value × AH} (hv : c37_0Y hNew n h0 c_0 b_2 x_4 h = some r) : c37_0 n h0 c_0 b_2 x_4 h = some r:=yfrom_ok hv
end
section
variable (N : NewF) (n m0 : Nat) (h0 : AH) (c_0 : Addr) (b_2 : Int) (x_4 : Addr) (t_46 : Option Addr) (t_46n t_46c : Nat) (t_47 t_48 : Int) (h : AH)
 noncomputable def c37_1 : Option (Go.Value × AH):=resY Tryz.prog n Tryz.f48 h0 (.head (subC (bodyC Tryz.f48) [1,1,0,1,0,0]) [0,1,0,1,1] m0) [.block 0,.seq (subC (bodyC Tryz.f48) [1,1,1]) [1,1,1]] (E [(0,.pointer (some c_0)),(2,.int .i64 b_2),(4,.pointer (some x_4)),(46,.slice t_46 t_46n t_46c),(47,.int .i64 t_47),(48,.int .i64 t_48)]) h
 noncomputable def c37_1Y : Option (Go.Value × AH):=yhead Tryz.prog (runS Tryz.prog n) n Tryz.f48 h0 p37 N (resY Tryz.prog n Tryz.f48 h0) (subC (bodyC Tryz.f48) [1,1,0,1,0,0]) [0,1,0,1,1] m0 [.block 0,.seq (subC (bodyC Tryz.f48) [1,1,1]) [1,1,1]] (E [(0,.pointer (some c_0)),(2,.int .i64 b_2),(4,.pointer (some x_4)),(46,.slice t_46 t_46n t_46c),(47,.int .i64 t_47),(48,.int .i64 t_48)]) h
variable {n m0} {h0} {c_0 b_2 x_4 t_46 t_46n t_46c t_47 t_48} {h}
theorem c37_1_ok {r : Go.Value × AH} (hv : c37_1Y hNew n m0 h0 c_0 b_2 x_4 t_46 t_46n t_46c t_47 t_48 h = some r) : c37_1 n (m0 + 1) h0 c_0 b_2 x_4 t_46 t_46n t_46c t_47 t_48 h = some r:=yhead_ok hv
end
section
variable (N : NewF) (n m0 : Nat) (h0 : AH) (c_0 : Addr) (b_2 : Int) (x_4 : Addr) (t_59 : Option Addr) (t_59n t_59c : Nat) (t_60 t_61 : Int) (h : AH)
 noncomputable def c37_2 : Option (Go.Value × AH):=resY Tryz.prog n Tryz.f48 h0 (.head (subC (bodyC Tryz.f48) [1,1,1,0,1,0,0]) [0,1,0,1,1,1] m0) [.block 2,.seq (subC (bodyC Tryz.f48) [1,1,1,1]) [1,1,1,1]] (E [(0,.pointer (some c_0)),(2,.int .i64 b_2),(4,.pointer (some x_4)),(59,.slice t_59 t_59n t_59c),(60,.int .i64 t_60),(61,.int .i64 t_61)]) h
 noncomputable def c37_2Y : Option (Go.Value × AH):=yhead Tryz.prog (runS Tryz.prog n) n Tryz.f48 h0 p37 N (resY Tryz.prog n Tryz.f48 h0) (subC (bodyC Tryz.f48) [1,1,1,0,1,0,0]) [0,1,0,1,1,1] m0 [.block 2,.seq (subC (bodyC Tryz.f48) [1,1,1,1]) [1,1,1,1]] (E [(0,.pointer (some c_0)),(2,.int .i64 b_2),(4,.pointer (some x_4)),(59,.slice t_59 t_59n t_59c),(60,.int .i64 t_60),(61,.int .i64 t_61)]) h
variable {n m0} {h0} {c_0 b_2 x_4 t_59 t_59n t_59c t_60 t_61} {h}
theorem c37_2_ok {r : Go.Value × AH} (hv : c37_2Y hNew n m0 h0 c_0 b_2 x_4 t_59 t_59n t_59c t_60 t_61 h = some r) : c37_2 n (m0 + 1) h0 c_0 b_2 x_4 t_59 t_59n t_59c t_60 t_61 h = some r:=yhead_ok hv
end
 noncomputable def t37Y (N : NewF) (n : Nat) (c_0 : Addr) (x_1a : Option Addr) (x_1an x_1ac : Nat) (x_1b : Option Addr) (x_1bn x_1bc : Nat) (x_1c x_1d : Int) (x_1e : Option Addr) (x_1en x_1ec : Nat) (x_1f : Option Addr) (x_1fn x_1fc : Nat) (x_1g x_1h x_1i b_2 : Int) (h : AH) : Option (Go.Value × AH):=yrun Tryz.prog (runS Tryz.prog n) n p37 N (resY Tryz.prog n) 48 [(.pointer (some c_0)),(.agg #[(.slice x_1a x_1an x_1ac),(.slice x_1b x_1bn x_1bc),(.int .i64 x_1c),(.int .i64 x_1d),(.slice x_1e x_1en x_1ec),(.slice x_1f x_1fn x_1fc),(.int .i64 x_1g),(.int .i64 x_1h),(.int .i64 x_1i)]),(.int .i64 b_2)] h
theorem t37_ok {n : Nat} {c_0 : Addr} {x_1a : Option Addr} {x_1an x_1ac : Nat} {x_1b : Option Addr} {x_1bn x_1bc : Nat} {x_1c x_1d : Int} {x_1e : Option Addr} {x_1en x_1ec : Nat} {x_1f : Option Addr} {x_1fn x_1fc : Nat} {x_1g x_1h x_1i b_2 : Int} {h : AH} {r : Go.Value × AH} (hv : t37Y hNew n c_0 x_1a x_1an x_1ac x_1b x_1bn x_1bc x_1c x_1d x_1e x_1en x_1ec x_1f x_1fn x_1fc x_1g x_1h x_1i b_2 h = some r) : runS Tryz.prog (n + 1) 48 [(.pointer (some c_0)),(.agg #[(.slice x_1a x_1an x_1ac),(.slice x_1b x_1bn x_1bc),(.int .i64 x_1c),(.int .i64 x_1d),(.slice x_1e x_1en x_1ec),(.slice x_1f x_1fn x_1fc),(.int .i64 x_1g),(.int .i64 x_1h),(.int .i64 x_1i)]),(.int .i64 b_2)] h = some r:=yrun_ok hv
theorem t37 (N : NewF) (n : Nat) (c_0 : Addr) (x_1a : Option Addr) (x_1an x_1ac : Nat) (x_1b : Option Addr) (x_1bn x_1bc : Nat) (x_1c x_1d : Int) (x_1e : Option Addr) (x_1en x_1ec : Nat) (x_1f : Option Addr) (x_1fn x_1fc : Nat) (x_1g x_1h x_1i b_2 : Int) (h : AH) : t37Y N n c_0 x_1a x_1an x_1ac x_1b x_1bn x_1bc x_1c x_1d x_1e x_1en x_1ec x_1f x_1fn x_1fc x_1g x_1h x_1i b_2 h =
 (N (setLow h h.next) [(.slice x_1a x_1an x_1ac),(.slice x_1b x_1bn x_1bc),(.int .i64 x_1c),(.int .i64 x_1d),(.slice x_1e x_1en x_1ec),(.slice x_1f x_1fn x_1fc),(.int .i64 x_1g),(.int .i64 x_1h),(.int .i64 x_1i)] 0).bind fun p0 =>
 (gL (rdC p0.2 (Addr.add ⟨p0.1,0,none⟩ 1) 0)).bind fun p1 =>
 cond (iLt 4096 (Int.ofNat p1.2.1))
 (some (exitR h p0.2 (.bool false)))
 ((gI .i64 (rdC p0.2 (Addr.add ⟨p0.1,0,none⟩ 6) 0)).bind fun n2 =>
 cond (iLt n2 0)
 (some (exitR h p0.2 (.bool false)))
 ((gI .i64 (rdC p0.2 (Addr.add ⟨p0.1,0,none⟩ 6) 0)).bind fun n3 =>
 cond (iLt 256 n3)
 (some (exitR h p0.2 (.bool false)))
 ((gI .i64 (rdC p0.2 (Addr.add ⟨p0.1,0,none⟩ 7) 0)).bind fun n4 =>
 cond (iLt n4 0)
 (some (exitR h p0.2 (.bool false)))
 ((gI .i64 (rdC p0.2 (Addr.add ⟨p0.1,0,none⟩ 7) 0)).bind fun n5 =>
 cond (iLt 64 n5)
 (some (exitR h p0.2 (.bool false)))
 ((gI .i64 (rdC p0.2 (Addr.add ⟨p0.1,0,none⟩ 8) 0)).bind fun n6 =>
 cond (iLt n6 0)
 (some (exitR h p0.2 (.bool false)))
 ((gI .i64 (rdC p0.2 (Addr.add ⟨p0.1,0,none⟩ 8) 0)).bind fun n7 =>
 cond (iLt 2147483647 n7)
 (some (exitR h p0.2 (.bool false)))
 (c37_0 n h c_0 b_2 ⟨p0.1,0,none⟩ p0.2))))))):=by kernel_rfl
theorem c37_0_eq (N : NewF) (n  : Nat) (h0 : AH) (c_0 : Addr) (b_2 : Int) (x_4 : Addr) (h : AH) : c37_0Y N n  h0 c_0 b_2 x_4 h =
 (gL (rdC h (Addr.add x_4 0) 0)).bind fun p0 =>
 c37_1 n n h0 c_0 b_2 x_4 p0.1 p0.2.1 p0.2.2 (Int.ofNat p0.2.1) 0 h:=by kernel_rfl
theorem c37_1_eq (N : NewF) (n m0 : Nat) (h0 : AH) (c_0 : Addr) (b_2 : Int) (x_4 : Addr) (t_46 : Option Addr) (t_46n t_46c : Nat) (t_47 t_48 : Int) (h : AH) : c37_1Y N n m0 h0 c_0 b_2 x_4 t_46 t_46n t_46c t_47 t_48 h =
 cond (iLt t_48 t_47)
 ((t_46).bind fun a0 =>
 cond (inB t_48 t_46n)
 ((gI .i64 (rdC h (Addr.add a0 ((Int.toNat t_48) * 1)) 0)).bind fun n1 =>
 (runS Tryz.prog n 75 [(.pointer (some c_0)),(.int .i64 n1),(.int .i64 b_2)] h).bind fun p2 =>
 (gB (some p2.1)).bind fun b3 =>
 cond (Bool.not b3)
 (some (exitR h0 p2.2 (.bool false)))
 (c37_1 n m0 h0 c_0 b_2 x_4 t_46 t_46n t_46c t_47 (iAdd .i64 t_48 1) p2.2))
 (none))
 ((gL (rdC h (Addr.add x_4 1) 0)).bind fun p4 =>
 c37_2 n n h0 c_0 b_2 x_4 p4.1 p4.2.1 p4.2.2 (Int.ofNat p4.2.1) 0 h):=by kernel_rfl
theorem c37_2_eq (N : NewF) (n m0 : Nat) (h0 : AH) (c_0 : Addr) (b_2 : Int) (x_4 : Addr) (t_59 : Option Addr) (t_59n t_59c : Nat) (t_60 t_61 : Int) (h : AH) : c37_2Y N n m0 h0 c_0 b_2 x_4 t_59 t_59n t_59c t_60 t_61 h =
 cond (iLt t_61 t_60)
 ((t_59).bind fun a0 =>
 cond (inB t_61 t_59n)
 ((gI .i64 (rdC h (Addr.add a0 ((Int.toNat t_61) * 5)) 0)).bind fun n1 =>
 (gI .i64 (rdC h (Addr.add a0 ((Int.toNat t_61) * 5)) 1)).bind fun n2 =>
 (gL (rdC h (Addr.add a0 ((Int.toNat t_61) * 5)) 2)).bind fun p3 =>
 (gI .u64 (rdC h (Addr.add a0 ((Int.toNat t_61) * 5)) 3)).bind fun n4 =>
 (gI .i64 (rdC h (Addr.add a0 ((Int.toNat t_61) * 5)) 4)).bind fun n5 =>
 (N h [(.int .i64 0),(.int .i64 0),(.slice none 0 0),(.int .u64 0),(.int .i64 0)] 0).bind fun p6 =>
 (stL p6.2 ⟨p6.1,0,none⟩ [(.int .i64 n1),(.int .i64 n2),(.slice p3.1 p3.2.1 p3.2.2),(.int .u64 n4),(.int .i64 n5)]).bind fun x7 =>
 (gI .i64 (rdC x7 (Addr.add ⟨p6.1,0,none⟩ 0) 0)).bind fun n8 =>
 (runS Tryz.prog n 76 [(.int .i64 n8)] (setLow x7 x7.next)).bind fun p9 =>
 (gI .i64 (some p9.1)).bind fun n10 =>
 cond (Nat.beq p9.2.low x7.next)
 ((gL (rdC (setLow p9.2 x7.low) (Addr.add ⟨p6.1,0,none⟩ 2) 0)).bind fun p11 =>
 cond (iNe n10 (Int.ofNat p11.2.1))
 (some (exitR h0 (setLow p9.2 x7.low) (.bool false)))
 ((gL (rdC (setLow p9.2 x7.low) (Addr.add ⟨p6.1,0,none⟩ 2) 0)).bind fun p12 =>
 (runS Tryz.prog n 77 [(.pointer (some c_0)),(.slice p12.1 p12.2.1 p12.2.2),(.int .i64 b_2)] (setLow (setLow p9.2 x7.low) (setLow p9.2 x7.low).next)).bind fun p13 =>
 (gB (some p13.1)).bind fun b14 =>
 cond (Nat.beq p13.2.low (setLow p9.2 x7.low).next)
 (cond (Bool.not b14)
 (some (exitR h0 (setLow p13.2 (setLow p9.2 x7.low).low) (.bool false)))
 ((gI .i64 (rdC (setLow p13.2 (setLow p9.2 x7.low).low) ⟨p6.1,0,none⟩ 0)).bind fun n15 =>
 (gI .i64 (rdC (setLow p13.2 (setLow p9.2 x7.low).low) ⟨p6.1,0,none⟩ 1)).bind fun n16 =>
 (gL (rdC (setLow p13.2 (setLow p9.2 x7.low).low) ⟨p6.1,0,none⟩ 2)).bind fun p17 =>
 (gI .u64 (rdC (setLow p13.2 (setLow p9.2 x7.low).low) ⟨p6.1,0,none⟩ 3)).bind fun n18 =>
 (gI .i64 (rdC (setLow p13.2 (setLow p9.2 x7.low).low) ⟨p6.1,0,none⟩ 4)).bind fun n19 =>
 (runS Tryz.prog n 78 [(.pointer (some c_0)),(.agg #[(.int .i64 n15),(.int .i64 n16),(.slice p17.1 p17.2.1 p17.2.2),(.int .u64 n18),(.int .i64 n19)])] (setLow (setLow p13.2 (setLow p9.2 x7.low).low) (setLow p13.2 (setLow p9.2 x7.low).low).next)).bind fun p20 =>
 (gB (some p20.1)).bind fun b21 =>
 cond (Nat.beq p20.2.low (setLow p13.2 (setLow p9.2 x7.low).low).next)
 (cond (Bool.not b21)
 (some (exitR h0 (setLow p20.2 (setLow p13.2 (setLow p9.2 x7.low).low).low) (.bool false)))
 ((gI .i64 (rdC (setLow p20.2 (setLow p13.2 (setLow p9.2 x7.low).low).low) (Addr.add ⟨p6.1,0,none⟩ 0) 0)).bind fun n22 =>
 (runS Tryz.prog n 79 [(.int .i64 n22)] (setLow (setLow p20.2 (setLow p13.2 (setLow p9.2 x7.low).low).low) (setLow p20.2 (setLow p13.2 (setLow p9.2 x7.low).low).low).next)).bind fun p23 =>
 (gB (some p23.1)).bind fun b24 =>
 cond (Nat.beq p23.2.low (setLow p20.2 (setLow p13.2 (setLow p9.2 x7.low).low).low).next)
 (cond b24
 ((gI .i64 (rdC (setLow p23.2 (setLow p20.2 (setLow p13.2 (setLow p9.2 x7.low).low).low).low) (Addr.add ⟨p6.1,0,none⟩ 1) 0)).bind fun n25 =>
 (runS Tryz.prog n 75 [(.pointer (some c_0)),(.int .i64 n25),(.int .i64 b_2)] (setLow p23.2 (setLow p20.2 (setLow p13.2 (setLow p9.2 x7.low).low).low).low)).bind fun p26 =>
 (gB (some p26.1)).bind fun b27 =>
 cond (Bool.not b27)
 (some (exitR h0 p26.2 (.bool false)))
 (c37_2 n m0 h0 c_0 b_2 x_4 t_59 t_59n t_59c t_60 (iAdd .i64 t_61 1) p26.2))
 (c37_2 n m0 h0 c_0 b_2 x_4 t_59 t_59n t_59c t_60 (iAdd .i64 t_61 1) (setLow p23.2 (setLow p20.2 (setLow p13.2 (setLow p9.2 x7.low).low).low).low)))
 (none)))
 (none)))
 (none)))
 (none))
 (none))
 ((gI .i64 (rdC h (Addr.add x_4 2) 0)).bind fun n28 =>
 (gI .i64 (rdC h (Addr.add x_4 2) 1)).bind fun n29 =>
 (gL (rdC h (Addr.add x_4 2) 2)).bind fun p30 =>
 (gL (rdC h (Addr.add x_4 2) 3)).bind fun p31 =>
 (runS Tryz.prog n 80 [(.pointer (some c_0)),(.agg #[(.int .i64 n28),(.int .i64 n29),(.slice p30.1 p30.2.1 p30.2.2),(.slice p31.1 p31.2.1 p31.2.2)]),(.int .i64 b_2)] h).bind fun p32 =>
 (gB (some p32.1)).bind fun b33 =>
 some (exitR h0 p32.2 (.bool b33))):=by kernel_rfl
def p67 : List (List Nat × List Nat):=[([1,1,1,0,1,0,1],[1,4,10])]
section
variable (N : NewF) (n : Nat) (h0 : AH) (a_1 : Addr) (t_4 : Int) (t_10 : Bool) (h : AH)
 noncomputable def c67_0 : Option (Go.Value × AH):=resY Tryz.prog n Tryz.f73 h0 (.code (subC (bodyC Tryz.f73) [1,0,1,0,1,1,1]) [1,1,1,0,1,0,1]) [.block 0,.seq (subC (bodyC Tryz.f73) [1,1]) [1,1]] (E [(1,.pointer (some a_1)),(4,.int .i64 t_4),(10,.bool t_10)]) h
 noncomputable def c67_0Y : Option (Go.Value × AH):=yfrom Tryz.prog (runS Tryz.prog n) n Tryz.f73 h0 p67 N (resY Tryz.prog n Tryz.f73 h0) (subC (bodyC Tryz.f73) [1,0,1,0,1,1,1]) [1,1,1,0,1,0,1] [.block 0,.seq (subC (bodyC Tryz.f73) [1,1]) [1,1]] (E [(1,.pointer (some a_1)),(4,.int .i64 t_4),(10,.bool t_10)]) h
variable {n} {h0} {a_1 t_4 t_10} {h}
theorem c67_0_ok {r : Go.Value × AH} (hv : c67_0Y hNew n h0 a_1 t_4 t_10 h = some r) : c67_0 n h0 a_1 t_4 t_10 h = some r:=yfrom_ok hv
end
 noncomputable def t67Y (N : NewF) (n : Nat) (a_0a : ByteArray) (a_0b a_0c a_0d a_0e : Int) (h : AH) : Option (Go.Value × AH):=yrun Tryz.prog (runS Tryz.prog n) n p67 N (resY Tryz.prog n) 73 [(.agg #[(.string a_0a),(.int .i64 a_0b),(.int .i64 a_0c),(.int .i64 a_0d),(.int .i64 a_0e)])] h
theorem t67_ok {n : Nat} {a_0a : ByteArray} {a_0b a_0c a_0d a_0e : Int} {h : AH} {r : Go.Value × AH} (hv : t67Y hNew n a_0a a_0b a_0c a_0d a_0e h = some r) : runS Tryz.prog (n + 1) 73 [(.agg #[(.string a_0a),(.int .i64 a_0b),(.int .i64 a_0c),(.int .i64 a_0d),(.int .i64 a_0e)])] h = some r:=yrun_ok hv
theorem t67 (N : NewF) (n : Nat) (a_0a : ByteArray) (a_0b a_0c a_0d a_0e : Int) (h : AH) : t67Y N n a_0a a_0b a_0c a_0d a_0e h =
 (N (setLow h h.next) [(.string a_0a),(.int .i64 a_0b),(.int .i64 a_0c),(.int .i64 a_0d),(.int .i64 a_0e)] 0).bind fun p0 =>
 (gI .i64 (rdC p0.2 (Addr.add ⟨p0.1,0,none⟩ 3) 0)).bind fun n1 =>
 cond (iEq n1 0)
 ((gI .i64 (rdC p0.2 (Addr.add ⟨p0.1,0,none⟩ 4) 0)).bind fun n2 =>
 some (exitR h p0.2 (.bool (iEq n2 0))))
 (cond (iEq n1 1)
 (c67_0 n h ⟨p0.1,0,none⟩ n1 true p0.2)
 (c67_0 n h ⟨p0.1,0,none⟩ n1 (iEq n1 2) p0.2)):=by kernel_rfl
theorem c67_0_eq (N : NewF) (n  : Nat) (h0 : AH) (a_1 : Addr) (t_4 : Int) (t_10 : Bool) (h : AH) : c67_0Y N n  h0 a_1 t_4 t_10 h =
 cond t_10
 ((gI .i64 (rdC h (Addr.add a_1 4) 0)).bind fun n0 =>
 cond (iLe 1 n0)
 ((gI .i64 (rdC h (Addr.add a_1 4) 0)).bind fun n1 =>
 (gI .i64 (rdC h (Addr.add a_1 2) 0)).bind fun n2 =>
 some (exitR h0 h (.bool (iLe n1 (iMin n2 64)))))
 (some (exitR h0 h (.bool false))))
 (cond (iEq t_4 3)
 ((gI .i64 (rdC h (Addr.add a_1 4) 0)).bind fun n3 =>
 cond (iEq n3 0)
 ((gI .i64 (rdC h (Addr.add a_1 2) 0)).bind fun n4 =>
 some (exitR h0 h (.bool (iLe n4 64))))
 (some (exitR h0 h (.bool false))))
 (some (exitR h0 h (.bool false)))):=by kernel_rfl
def p69 : List (List Nat × List Nat):=[([1,1],[0,1,2])]
section
variable (N : NewF) (n : Nat) (h0 : AH) (c_0 : Addr) (v_1 b_2 : Int) (h : AH)
 noncomputable def c69_0 : Option (Go.Value × AH):=resY Tryz.prog n Tryz.f75 h0 (.code (subC (bodyC Tryz.f75) [1,1]) [1,1]) [] (E [(0,.pointer (some c_0)),(1,.int .i64 v_1),(2,.int .i64 b_2)]) h
 noncomputable def c69_0Y : Option (Go.Value × AH):=yfrom Tryz.prog (runS Tryz.prog n) n Tryz.f75 h0 p69 N (resY Tryz.prog n Tryz.f75 h0) (subC (bodyC Tryz.f75) [1,1]) [1,1] [] (E [(0,.pointer (some c_0)),(1,.int .i64 v_1),(2,.int .i64 b_2)]) h
variable {n} {h0} {c_0 v_1 b_2} {h}
theorem c69_0_ok {r : Go.Value × AH} (hv : c69_0Y hNew n h0 c_0 v_1 b_2 h = some r) : c69_0 n h0 c_0 v_1 b_2 h = some r:=yfrom_ok hv
end
 noncomputable def t69Y (N : NewF) (n : Nat) (c_0 : Addr) (v_1 b_2 : Int) (h : AH) : Option (Go.Value × AH):=yrun Tryz.prog (runS Tryz.prog n) n p69 N (resY Tryz.prog n) 75 [(.pointer (some c_0)),(.int .i64 v_1),(.int .i64 b_2)] h
theorem t69_ok {n : Nat} {c_0 : Addr} {v_1 b_2 : Int} {h : AH} {r : Go.Value × AH} (hv : t69Y hNew n c_0 v_1 b_2 h = some r) : runS Tryz.prog (n + 1) 75 [(.pointer (some c_0)),(.int .i64 v_1),(.int .i64 b_2)] h = some r:=yrun_ok hv
theorem t69 (N : NewF) (n : Nat) (c_0 : Addr) (v_1 b_2 : Int) (h : AH) : t69Y N n c_0 v_1 b_2 h =
 cond (iLt v_1 0)
 (some (exitR h (setLow h h.next) (.bool false)))
 ((gL (rdC (setLow h h.next) (Addr.add c_0 6) 0)).bind fun p0 =>
 cond (iLe (Int.ofNat p0.2.1) v_1)
 (some (exitR h (setLow h h.next) (.bool false)))
 ((gL (rdC (setLow h h.next) (Addr.add c_0 6) 0)).bind fun p1 =>
 (p1.1).bind fun a2 =>
 cond (inB v_1 p1.2.1)
 ((gB (rdC (setLow h h.next) (Addr.add a2 ((Int.toNat v_1) * 1)) 0)).bind fun b3 =>
 cond b3
 (some (exitR h (setLow h h.next) (.bool false)))
 (c69_0 n h c_0 v_1 b_2 (setLow h h.next)))
 (none))):=by kernel_rfl
theorem c69_0_eq (N : NewF) (n  : Nat) (h0 : AH) (c_0 : Addr) (v_1 b_2 : Int) (h : AH) : c69_0Y N n  h0 c_0 v_1 b_2 h =
 (gL (rdC h (Addr.add c_0 6) 0)).bind fun p0 =>
 (gL (rdC h (Addr.add c_0 7) 0)).bind fun p1 =>
 (p0.1).bind fun a2 =>
 cond (inB v_1 p0.2.1)
 ((stL h (Addr.add a2 ((Int.toNat v_1) * 1)) [(.bool true)]).bind fun x3 =>
 (p1.1).bind fun a4 =>
 cond (inB v_1 p1.2.1)
 ((stL x3 (Addr.add a4 ((Int.toNat v_1) * 1)) [(.int .i64 (iAdd .i64 b_2 1))]).bind fun x5 =>
 some (exitR h0 x5 (.bool true)))
 (none))
 (none):=by kernel_rfl
def p70 : List (List Nat × List Nat):=[([1,1,1,0,0,1],[0,6]),([1,1,1,1,1,0,0,1],[0,13])]
section
variable (N : NewF) (n : Nat) (h0 : AH) (op_0 : Int) (t_6 : Bool) (h : AH)
 noncomputable def c70_0 : Option (Go.Value × AH):=resY Tryz.prog n Tryz.f76 h0 (.code (subC (bodyC Tryz.f76) [1,0,0,1,1,1]) [1,1,1,0,0,1]) [.block 0,.seq (subC (bodyC Tryz.f76) [1,1]) [1,1]] (E [(0,.int .i64 op_0),(6,.bool t_6)]) h
 noncomputable def c70_0Y : Option (Go.Value × AH):=yfrom Tryz.prog (runS Tryz.prog n) n Tryz.f76 h0 p70 N (resY Tryz.prog n Tryz.f76 h0) (subC (bodyC Tryz.f76) [1,0,0,1,1,1]) [1,1,1,0,0,1] [.block 0,.seq (subC (bodyC Tryz.f76) [1,1]) [1,1]] (E [(0,.int .i64 op_0),(6,.bool t_6)]) h
variable {n} {h0} {op_0 t_6} {h}
theorem c70_0_ok {r : Go.Value × AH} (hv : c70_0Y hNew n h0 op_0 t_6 h = some r) : c70_0 n h0 op_0 t_6 h = some r:=yfrom_ok hv
end
section
variable (N : NewF) (n : Nat) (h0 : AH) (op_0 : Int) (t_13 : Bool) (h : AH)
 noncomputable def c70_1 : Option (Go.Value × AH):=resY Tryz.prog n Tryz.f76 h0 (.code (subC (bodyC Tryz.f76) [1,0,0,1,1,1,1,1]) [1,1,1,1,1,0,0,1]) [.block 0,.seq (subC (bodyC Tryz.f76) [1,1]) [1,1]] (E [(0,.int .i64 op_0),(13,.bool t_13)]) h
 noncomputable def c70_1Y : Option (Go.Value × AH):=yfrom Tryz.prog (runS Tryz.prog n) n Tryz.f76 h0 p70 N (resY Tryz.prog n Tryz.f76 h0) (subC (bodyC Tryz.f76) [1,0,0,1,1,1,1,1]) [1,1,1,1,1,0,0,1] [.block 0,.seq (subC (bodyC Tryz.f76) [1,1]) [1,1]] (E [(0,.int .i64 op_0),(13,.bool t_13)]) h
variable {n} {h0} {op_0 t_13} {h}
theorem c70_1_ok {r : Go.Value × AH} (hv : c70_1Y hNew n h0 op_0 t_13 h = some r) : c70_1 n h0 op_0 t_13 h = some r:=yfrom_ok hv
end
 noncomputable def t70Y (N : NewF) (n : Nat) (op_0 : Int) (h : AH) : Option (Go.Value × AH):=yrun Tryz.prog (runS Tryz.prog n) n p70 N (resY Tryz.prog n) 76 [(.int .i64 op_0)] h
theorem t70_ok {n : Nat} {op_0 : Int} {h : AH} {r : Go.Value × AH} (hv : t70Y hNew n op_0 h = some r) : runS Tryz.prog (n + 1) 76 [(.int .i64 op_0)] h = some r:=yrun_ok hv
theorem t70 (N : NewF) (n : Nat) (op_0 : Int) (h : AH) : t70Y N n op_0 h =
 cond (iEq op_0 1)
 (some (exitR h (setLow h h.next) (.int .i64 0)))
 ((runS Tryz.prog n 110 [(.int .i64 op_0)] (setLow h h.next)).bind fun p0 =>
 (gB (some p0.1)).bind fun b1 =>
 cond b1
 (c70_0 n h op_0 true p0.2)
 (cond (iEq op_0 25)
 (c70_0 n h op_0 true p0.2)
 (c70_0 n h op_0 (iEq op_0 28) p0.2))):=by kernel_rfl
theorem c70_0_eq (N : NewF) (n  : Nat) (h0 : AH) (op_0 : Int) (t_6 : Bool) (h : AH) : c70_0Y N n  h0 op_0 t_6 h =
 cond t_6
 (some (exitR h0 h (.int .i64 2)))
 (cond (iEq op_0 21)
 (c70_1 n h0 op_0 true h)
 (c70_1 n h0 op_0 (iEq op_0 26) h)):=by kernel_rfl
theorem c70_1_eq (N : NewF) (n  : Nat) (h0 : AH) (op_0 : Int) (t_13 : Bool) (h : AH) : c70_1Y N n  h0 op_0 t_13 h =
 cond t_13
 (some (exitR h0 h (.int .i64 3)))
 (cond (iEq op_0 22)
 (some (exitR h0 h (.int .i64 1)))
 (cond (iEq op_0 23)
 (some (exitR h0 h (.int .i64 1)))
 (cond (iEq op_0 24)
 (some (exitR h0 h (.int .i64 1)))
 (cond (iEq op_0 27)
 (some (exitR h0 h (.int .i64 1)))
 (some (exitR h0 h (.int .i64 (-1)))))))):=by kernel_rfl
def p71 : List (List Nat × List Nat):=[([0,1,0,1],[0,2,9,10,11])]
section
variable (N : NewF) (n m0 : Nat) (h0 : AH) (c_0 : Addr) (b_2 : Int) (t_9 : Option Addr) (t_9n t_9c : Nat) (t_10 t_11 : Int) (h : AH)
 noncomputable def c71_0 : Option (Go.Value × AH):=resY Tryz.prog n Tryz.f77 h0 (.head (subC (bodyC Tryz.f77) [1,0,1,0,0]) [0,1,0,1] m0) [.block 0,.seq (subC (bodyC Tryz.f77) [1,1]) [1,1]] (E [(0,.pointer (some c_0)),(2,.int .i64 b_2),(9,.slice t_9 t_9n t_9c),(10,.int .i64 t_10),(11,.int .i64 t_11)]) h
 noncomputable def c71_0Y : Option (Go.Value × AH):=yhead Tryz.prog (runS Tryz.prog n) n Tryz.f77 h0 p71 N (resY Tryz.prog n Tryz.f77 h0) (subC (bodyC Tryz.f77) [1,0,1,0,0]) [0,1,0,1] m0 [.block 0,.seq (subC (bodyC Tryz.f77) [1,1]) [1,1]] (E [(0,.pointer (some c_0)),(2,.int .i64 b_2),(9,.slice t_9 t_9n t_9c),(10,.int .i64 t_10),(11,.int .i64 t_11)]) h
variable {n m0} {h0} {c_0 b_2 t_9 t_9n t_9c t_10 t_11} {h}
theorem c71_0_ok {r : Go.Value × AH} (hv : c71_0Y hNew n m0 h0 c_0 b_2 t_9 t_9n t_9c t_10 t_11 h = some r) : c71_0 n (m0 + 1) h0 c_0 b_2 t_9 t_9n t_9c t_10 t_11 h = some r:=yhead_ok hv
end
 noncomputable def t71Y (N : NewF) (n : Nat) (c_0 : Addr) (l_1 : Option Addr) (l_1n l_1c : Nat) (b_2 : Int) (h : AH) : Option (Go.Value × AH):=yrun Tryz.prog (runS Tryz.prog n) n p71 N (resY Tryz.prog n) 77 [(.pointer (some c_0)),(.slice l_1 l_1n l_1c),(.int .i64 b_2)] h
theorem t71_ok {n : Nat} {c_0 : Addr} {l_1 : Option Addr} {l_1n l_1c : Nat} {b_2 : Int} {h : AH} {r : Go.Value × AH} (hv : t71Y hNew n c_0 l_1 l_1n l_1c b_2 h = some r) : runS Tryz.prog (n + 1) 77 [(.pointer (some c_0)),(.slice l_1 l_1n l_1c),(.int .i64 b_2)] h = some r:=yrun_ok hv
theorem t71 (N : NewF) (n : Nat) (c_0 : Addr) (l_1 : Option Addr) (l_1n l_1c : Nat) (b_2 : Int) (h : AH) : t71Y N n c_0 l_1 l_1n l_1c b_2 h =
 c71_0 n n h c_0 b_2 l_1 l_1n l_1c (Int.ofNat l_1n) 0 (setLow h h.next):=by kernel_rfl
theorem c71_0_eq (N : NewF) (n m0 : Nat) (h0 : AH) (c_0 : Addr) (b_2 : Int) (t_9 : Option Addr) (t_9n t_9c : Nat) (t_10 t_11 : Int) (h : AH) : c71_0Y N n m0 h0 c_0 b_2 t_9 t_9n t_9c t_10 t_11 h =
 cond (iLt t_11 t_10)
 ((t_9).bind fun a0 =>
 cond (inB t_11 t_9n)
 ((gI .i64 (rdC h (Addr.add a0 ((Int.toNat t_11) * 1)) 0)).bind fun n1 =>
 cond (iLt n1 0)
 (some (exitR h0 h (.bool false)))
 ((gL (rdC h (Addr.add c_0 7) 0)).bind fun p2 =>
 cond (iLe (Int.ofNat p2.2.1) n1)
 (some (exitR h0 h (.bool false)))
 ((gL (rdC h (Addr.add c_0 7) 0)).bind fun p3 =>
 (p3.1).bind fun a4 =>
 cond (inB n1 p3.2.1)
 ((gI .i64 (rdC h (Addr.add a4 ((Int.toNat n1) * 1)) 0)).bind fun n5 =>
 cond (iNe n5 (iAdd .i64 b_2 1))
 (some (exitR h0 h (.bool false)))
 (c71_0 n m0 h0 c_0 b_2 t_9 t_9n t_9c t_10 (iAdd .i64 t_11 1) h))
 (none))))
 (none))
 (some (exitR h0 h (.bool true))):=by kernel_rfl
def p72 : List (List Nat × List Nat):=[([1,1,1],[0,3,5]),([1,0,1,0,1,1,1,1],[0,3,5]),([1,1,1,1,1],[0,3,5,7]),([0,1,0,1,1,1,1,1,1],[0,3,5,7,8,59,60,61]),([1,1,1,1,1,0,1,0,1,1,1,1,1,1,1],[3,5,7,8,78,95]),([1,1,1,1,1,1,1,1],[3,7,8])]
section
variable (N : NewF) (n : Nat) (h0 : AH) (c_0 in_3 : Addr) (m_5 : Int) (h : AH)
 noncomputable def c72_0 : Option (Go.Value × AH):=resY Tryz.prog n Tryz.f78 h0 (.code (subC (bodyC Tryz.f78) [1,1,1]) [1,1,1]) [] (E [(0,.pointer (some c_0)),(3,.pointer (some in_3)),(5,.int .i64 m_5)]) h
 noncomputable def c72_0Y : Option (Go.Value × AH):=yfrom Tryz.prog (runS Tryz.prog n) n Tryz.f78 h0 p72 N (resY Tryz.prog n Tryz.f78 h0) (subC (bodyC Tryz.f78) [1,1,1]) [1,1,1] [] (E [(0,.pointer (some c_0)),(3,.pointer (some in_3)),(5,.int .i64 m_5)]) h
variable {n} {h0} {c_0 in_3 m_5} {h}
theorem c72_0_ok {r : Go.Value × AH} (hv : c72_0Y hNew n h0 c_0 in_3 m_5 h = some r) : c72_0 n h0 c_0 in_3 m_5 h = some r:=yfrom_ok hv
end
section
variable (N : NewF) (n : Nat) (h0 : AH) (c_0 in_3 : Addr) (m_5 : Int) (h : AH)
 noncomputable def c72_1 : Option (Go.Value × AH):=resY Tryz.prog n Tryz.f78 h0 (.code (subC (bodyC Tryz.f78) [1,1,1,1,0,1,0,1]) [1,0,1,0,1,1,1,1]) [.seq (subC (bodyC Tryz.f78) [1,1,1,1,1]) [1,1,1,1,1]] (E [(0,.pointer (some c_0)),(3,.pointer (some in_3)),(5,.int .i64 m_5)]) h
 noncomputable def c72_1Y : Option (Go.Value × AH):=yfrom Tryz.prog (runS Tryz.prog n) n Tryz.f78 h0 p72 N (resY Tryz.prog n Tryz.f78 h0) (subC (bodyC Tryz.f78) [1,1,1,1,0,1,0,1]) [1,0,1,0,1,1,1,1] [.seq (subC (bodyC Tryz.f78) [1,1,1,1,1]) [1,1,1,1,1]] (E [(0,.pointer (some c_0)),(3,.pointer (some in_3)),(5,.int .i64 m_5)]) h
variable {n} {h0} {c_0 in_3 m_5} {h}
theorem c72_1_ok {r : Go.Value × AH} (hv : c72_1Y hNew n h0 c_0 in_3 m_5 h = some r) : c72_1 n h0 c_0 in_3 m_5 h = some r:=yfrom_ok hv
end
section
variable (N : NewF) (n : Nat) (h0 : AH) (c_0 in_3 : Addr) (m_5 w_7 : Int) (h : AH)
 noncomputable def c72_2 : Option (Go.Value × AH):=resY Tryz.prog n Tryz.f78 h0 (.code (subC (bodyC Tryz.f78) [1,1,1,1,1]) [1,1,1,1,1]) [] (E [(0,.pointer (some c_0)),(3,.pointer (some in_3)),(5,.int .i64 m_5),(7,.int .i64 w_7)]) h
 noncomputable def c72_2Y : Option (Go.Value × AH):=yfrom Tryz.prog (runS Tryz.prog n) n Tryz.f78 h0 p72 N (resY Tryz.prog n Tryz.f78 h0) (subC (bodyC Tryz.f78) [1,1,1,1,1]) [1,1,1,1,1] [] (E [(0,.pointer (some c_0)),(3,.pointer (some in_3)),(5,.int .i64 m_5),(7,.int .i64 w_7)]) h
variable {n} {h0} {c_0 in_3 m_5 w_7} {h}
theorem c72_2_ok {r : Go.Value × AH} (hv : c72_2Y hNew n h0 c_0 in_3 m_5 w_7 h = some r) : c72_2 n h0 c_0 in_3 m_5 w_7 h = some r:=yfrom_ok hv
end
section
variable (N : NewF) (n m0 : Nat) (h0 : AH) (c_0 in_3 : Addr) (m_5 w_7 : Int) (a_8 : Addr) (t_59 : Option Addr) (t_59n t_59c : Nat) (t_60 t_61 : Int) (h : AH)
 noncomputable def c72_3 : Option (Go.Value × AH):=resY Tryz.prog n Tryz.f78 h0 (.head (subC (bodyC Tryz.f78) [1,1,1,1,1,1,0,1,0,0]) [0,1,0,1,1,1,1,1,1] m0) [.block 0,.seq (subC (bodyC Tryz.f78) [1,1,1,1,1,1,1]) [1,1,1,1,1,1,1]] (E [(0,.pointer (some c_0)),(3,.pointer (some in_3)),(5,.int .i64 m_5),(7,.int .i64 w_7),(8,.pointer (some a_8)),(59,.slice t_59 t_59n t_59c),(60,.int .i64 t_60),(61,.int .i64 t_61)]) h
 noncomputable def c72_3Y : Option (Go.Value × AH):=yhead Tryz.prog (runS Tryz.prog n) n Tryz.f78 h0 p72 N (resY Tryz.prog n Tryz.f78 h0) (subC (bodyC Tryz.f78) [1,1,1,1,1,1,0,1,0,0]) [0,1,0,1,1,1,1,1,1] m0 [.block 0,.seq (subC (bodyC Tryz.f78) [1,1,1,1,1,1,1]) [1,1,1,1,1,1,1]] (E [(0,.pointer (some c_0)),(3,.pointer (some in_3)),(5,.int .i64 m_5),(7,.int .i64 w_7),(8,.pointer (some a_8)),(59,.slice t_59 t_59n t_59c),(60,.int .i64 t_60),(61,.int .i64 t_61)]) h
variable {n m0} {h0} {c_0 in_3 m_5 w_7 a_8 t_59 t_59n t_59c t_60 t_61} {h}
theorem c72_3_ok {r : Go.Value × AH} (hv : c72_3Y hNew n m0 h0 c_0 in_3 m_5 w_7 a_8 t_59 t_59n t_59c t_60 t_61 h = some r) : c72_3 n (m0 + 1) h0 c_0 in_3 m_5 w_7 a_8 t_59 t_59n t_59c t_60 t_61 h = some r:=yhead_ok hv
end
section
variable (N : NewF) (n : Nat) (h0 : AH) (in_3 : Addr) (m_5 w_7 : Int) (a_8 : Addr) (t_78 : Int) (t_95 : Bool) (h : AH)
 noncomputable def c72_4 : Option (Go.Value × AH):=resY Tryz.prog n Tryz.f78 h0 (.code (subC (bodyC Tryz.f78) [1,1,1,1,1,1,1,0,1,0,1,1,1,1,1]) [1,1,1,1,1,0,1,0,1,1,1,1,1,1,1]) [.block 2,.seq (subC (bodyC Tryz.f78) [1,1,1,1,1,1,1,1]) [1,1,1,1,1,1,1,1]] (E [(3,.pointer (some in_3)),(5,.int .i64 m_5),(7,.int .i64 w_7),(8,.pointer (some a_8)),(78,.int .i64 t_78),(95,.bool t_95)]) h
 noncomputable def c72_4Y : Option (Go.Value × AH):=yfrom Tryz.prog (runS Tryz.prog n) n Tryz.f78 h0 p72 N (resY Tryz.prog n Tryz.f78 h0) (subC (bodyC Tryz.f78) [1,1,1,1,1,1,1,0,1,0,1,1,1,1,1]) [1,1,1,1,1,0,1,0,1,1,1,1,1,1,1] [.block 2,.seq (subC (bodyC Tryz.f78) [1,1,1,1,1,1,1,1]) [1,1,1,1,1,1,1,1]] (E [(3,.pointer (some in_3)),(5,.int .i64 m_5),(7,.int .i64 w_7),(8,.pointer (some a_8)),(78,.int .i64 t_78),(95,.bool t_95)]) h
variable {n} {h0} {in_3 m_5 w_7 a_8 t_78 t_95} {h}
theorem c72_4_ok {r : Go.Value × AH} (hv : c72_4Y hNew n h0 in_3 m_5 w_7 a_8 t_78 t_95 h = some r) : c72_4 n h0 in_3 m_5 w_7 a_8 t_78 t_95 h = some r:=yfrom_ok hv
end
section
variable (N : NewF) (n : Nat) (h0 : AH) (in_3 : Addr) (w_7 : Int) (a_8 : Addr) (h : AH)
 noncomputable def c72_5 : Option (Go.Value × AH):=resY Tryz.prog n Tryz.f78 h0 (.code (subC (bodyC Tryz.f78) [1,1,1,1,1,1,1,1]) [1,1,1,1,1,1,1,1]) [] (E [(3,.pointer (some in_3)),(7,.int .i64 w_7),(8,.pointer (some a_8))]) h
 noncomputable def c72_5Y : Option (Go.Value × AH):=yfrom Tryz.prog (runS Tryz.prog n) n Tryz.f78 h0 p72 N (resY Tryz.prog n Tryz.f78 h0) (subC (bodyC Tryz.f78) [1,1,1,1,1,1,1,1]) [1,1,1,1,1,1,1,1] [] (E [(3,.pointer (some in_3)),(7,.int .i64 w_7),(8,.pointer (some a_8))]) h
variable {n} {h0} {in_3 w_7 a_8} {h}
theorem c72_5_ok {r : Go.Value × AH} (hv : c72_5Y hNew n h0 in_3 w_7 a_8 h = some r) : c72_5 n h0 in_3 w_7 a_8 h = some r:=yfrom_ok hv
end
 noncomputable def t72Y (N : NewF) (n : Nat) (c_0 : Addr) (in_1a in_1b : Int) (in_1c : Option Addr) (in_1cn in_1cc : Nat) (in_1d in_1e : Int) (h : AH) : Option (Go.Value × AH):=yrun Tryz.prog (runS Tryz.prog n) n p72 N (resY Tryz.prog n) 78 [(.pointer (some c_0)),(.agg #[(.int .i64 in_1a),(.int .i64 in_1b),(.slice in_1c in_1cn in_1cc),(.int .u64 in_1d),(.int .i64 in_1e)])] h
theorem t72_ok {n : Nat} {c_0 : Addr} {in_1a in_1b : Int} {in_1c : Option Addr} {in_1cn in_1cc : Nat} {in_1d in_1e : Int} {h : AH} {r : Go.Value × AH} (hv : t72Y hNew n c_0 in_1a in_1b in_1c in_1cn in_1cc in_1d in_1e h = some r) : runS Tryz.prog (n + 1) 78 [(.pointer (some c_0)),(.agg #[(.int .i64 in_1a),(.int .i64 in_1b),(.slice in_1c in_1cn in_1cc),(.int .u64 in_1d),(.int .i64 in_1e)])] h = some r:=yrun_ok hv
theorem t72 (N : NewF) (n : Nat) (c_0 : Addr) (in_1a in_1b : Int) (in_1c : Option Addr) (in_1cn in_1cc : Nat) (in_1d in_1e : Int) (h : AH) : t72Y N n c_0 in_1a in_1b in_1c in_1cn in_1cc in_1d in_1e h =
 (N (setLow h h.next) [(.int .i64 in_1a),(.int .i64 in_1b),(.slice in_1c in_1cn in_1cc),(.int .u64 in_1d),(.int .i64 in_1e)] 0).bind fun p0 =>
 (gI .i64 (rdC p0.2 ⟨p0.1,0,none⟩ 0)).bind fun n1 =>
 (gI .i64 (rdC p0.2 ⟨p0.1,0,none⟩ 1)).bind fun n2 =>
 (gL (rdC p0.2 ⟨p0.1,0,none⟩ 2)).bind fun p3 =>
 (gI .u64 (rdC p0.2 ⟨p0.1,0,none⟩ 3)).bind fun n4 =>
 (gI .i64 (rdC p0.2 ⟨p0.1,0,none⟩ 4)).bind fun n5 =>
 (runS Tryz.prog n 111 [(.pointer (some c_0)),(.agg #[(.int .i64 n1),(.int .i64 n2),(.slice p3.1 p3.2.1 p3.2.2),(.int .u64 n4),(.int .i64 n5)])] p0.2).bind fun p6 =>
 cond (tupIs 2 p6.1)
 ((gI .i64 (tupC 0 p6.1)).bind fun n7 =>
 (gB (tupC 1 p6.1)).bind fun b8 =>
 cond (Bool.not b8)
 (some (exitR h p6.2 (.bool false)))
 ((gI .u64 (rdC p6.2 (Addr.add ⟨p0.1,0,none⟩ 3) 0)).bind fun n9 =>
 cond (iNe n9 0)
 ((gI .i64 (rdC p6.2 (Addr.add ⟨p0.1,0,none⟩ 0) 0)).bind fun n10 =>
 cond (iNe n10 1)
 (some (exitR h p6.2 (.bool false)))
 (c72_0 n h c_0 ⟨p0.1,0,none⟩ n7 p6.2))
 (c72_0 n h c_0 ⟨p0.1,0,none⟩ n7 p6.2)))
 (none):=by kernel_rfl
theorem c72_0_eq (N : NewF) (n  : Nat) (h0 : AH) (c_0 in_3 : Addr) (m_5 : Int) (h : AH) : c72_0Y N n  h0 c_0 in_3 m_5 h =
 (gI .i64 (rdC h (Addr.add in_3 0) 0)).bind fun n0 =>
 (runS Tryz.prog n 79 [(.int .i64 n0)] h).bind fun p1 =>
 (gB (some p1.1)).bind fun b2 =>
 cond b2
 ((gI .i64 (rdC p1.2 (Addr.add in_3 1) 0)).bind fun n3 =>
 cond (iLt n3 0)
 (some (exitR h0 p1.2 (.bool false)))
 ((gI .i64 (rdC p1.2 (Addr.add in_3 1) 0)).bind fun n4 =>
 (gL (rdC p1.2 (Addr.add (Addr.add c_0 0) 1) 0)).bind fun p5 =>
 cond (iLe (Int.ofNat p5.2.1) n4)
 (some (exitR h0 p1.2 (.bool false)))
 (c72_1 n h0 c_0 in_3 m_5 p1.2)))
 ((gI .i64 (rdC p1.2 (Addr.add in_3 1) 0)).bind fun n6 =>
 cond (iNe n6 (-1))
 (some (exitR h0 p1.2 (.bool false)))
 (c72_2 n h0 c_0 in_3 m_5 0 p1.2)):=by kernel_rfl
theorem c72_1_eq (N : NewF) (n  : Nat) (h0 : AH) (c_0 in_3 : Addr) (m_5 : Int) (h : AH) : c72_1Y N n  h0 c_0 in_3 m_5 h =
 (gL (rdC h (Addr.add (Addr.add c_0 0) 1) 0)).bind fun p0 =>
 (gI .i64 (rdC h (Addr.add in_3 1) 0)).bind fun n1 =>
 (p0.1).bind fun a2 =>
 cond (inB n1 p0.2.1)
 ((gI .i64 (rdC h (Addr.add a2 ((Int.toNat n1) * 1)) 0)).bind fun n3 =>
 c72_2 n h0 c_0 in_3 m_5 n3 h)
 (none):=by kernel_rfl
theorem c72_2_eq (N : NewF) (n  : Nat) (h0 : AH) (c_0 in_3 : Addr) (m_5 w_7 : Int) (h : AH) : c72_2Y N n  h0 c_0 in_3 m_5 w_7 h =
 (N h [(.int .i64 0),(.int .i64 0),(.int .i64 0)] 0).bind fun p0 =>
 (gL (rdC p0.2 (Addr.add in_3 2) 0)).bind fun p1 =>
 c72_3 n n h0 c_0 in_3 m_5 w_7 ⟨p0.1,0,none⟩ p1.1 p1.2.1 p1.2.2 (Int.ofNat p1.2.1) 0 p0.2:=by kernel_rfl
theorem c72_3_eq (N : NewF) (n m0 : Nat) (h0 : AH) (c_0 in_3 : Addr) (m_5 w_7 : Int) (a_8 : Addr) (t_59 : Option Addr) (t_59n t_59c : Nat) (t_60 t_61 : Int) (h : AH) : c72_3Y N n m0 h0 c_0 in_3 m_5 w_7 a_8 t_59 t_59n t_59c t_60 t_61 h =
 cond (iLt t_61 t_60)
 ((t_59).bind fun a0 =>
 cond (inB t_61 t_59n)
 ((gI .i64 (rdC h (Addr.add a0 ((Int.toNat t_61) * 1)) 0)).bind fun n1 =>
 (gL (rdC h (Addr.add (Addr.add c_0 0) 1) 0)).bind fun p2 =>
 (p2.1).bind fun a3 =>
 cond (inB n1 p2.2.1)
 ((gI .i64 (rdC h (Addr.add a3 ((Int.toNat n1) * 1)) 0)).bind fun n4 =>
 cond (inB t_61 3)
 ((stL h (Addr.add a_8 ((Int.toNat t_61) * 1)) [(.int .i64 n4)]).bind fun x5 =>
 c72_3 n m0 h0 c_0 in_3 m_5 w_7 a_8 t_59 t_59n t_59c t_60 (iAdd .i64 t_61 1) x5)
 (none))
 (none))
 (none))
 ((gI .i64 (rdC h (Addr.add in_3 0) 0)).bind fun n6 =>
 cond (iEq n6 1)
 ((gI .u64 (rdC h (Addr.add in_3 3) 0)).bind fun n7 =>
 (runS Tryz.prog n 83 [(.int .i64 w_7),(.int .u64 n7)] (setLow h h.next)).bind fun p8 =>
 (gI .u64 (some p8.1)).bind fun n9 =>
 cond (Nat.beq p8.2.low h.next)
 ((gI .u64 (rdC (setLow p8.2 h.low) (Addr.add in_3 3) 0)).bind fun n10 =>
 some (exitR h0 (setLow p8.2 h.low) (.bool (iEq n9 n10))))
 (none))
 (cond (iEq n6 21)
 ((gI .i64 (rdC h a_8 0)).bind fun n11 =>
 (gI .i64 (rdC h a_8 1)).bind fun n12 =>
 (gI .i64 (rdC h a_8 2)).bind fun n13 =>
 cond (iEq n11 1)
 (cond (iEq n12 w_7)
 (cond (iEq n13 w_7)
 (some (exitR h0 h (.bool true)))
 (some (exitR h0 h (.bool false))))
 (some (exitR h0 h (.bool false))))
 (some (exitR h0 h (.bool false))))
 (cond (iEq n6 22)
 (c72_4 n h0 in_3 m_5 w_7 a_8 n6 true h)
 (c72_4 n h0 in_3 m_5 w_7 a_8 n6 (iEq n6 23) h)))):=by kernel_rfl
theorem c72_4_eq (N : NewF) (n  : Nat) (h0 : AH) (in_3 : Addr) (m_5 w_7 : Int) (a_8 : Addr) (t_78 : Int) (t_95 : Bool) (h : AH) : c72_4Y N n  h0 in_3 m_5 w_7 a_8 t_78 t_95 h =
 cond t_95
 ((gI .i64 (rdC h (Addr.add a_8 0) 0)).bind fun n0 =>
 some (exitR h0 h (.bool (iLt n0 w_7))))
 (cond (iEq t_78 24)
 ((gI .i64 (rdC h (Addr.add a_8 0) 0)).bind fun n1 =>
 some (exitR h0 h (.bool (iLt w_7 n1))))
 (cond (iEq t_78 25)
 (cond (iEq m_5 w_7)
 ((gI .i64 (rdC h (Addr.add a_8 1) 0)).bind fun n2 =>
 some (exitR h0 h (.bool (iEq n2 1))))
 (some (exitR h0 h (.bool false))))
 (cond (iEq t_78 26)
 ((gI .i64 (rdC h (Addr.add a_8 1) 0)).bind fun n3 =>
 cond (iEq m_5 n3)
 ((gI .i64 (rdC h (Addr.add a_8 2) 0)).bind fun n4 =>
 some (exitR h0 h (.bool (iEq n4 1))))
 (some (exitR h0 h (.bool false))))
 (cond (iEq t_78 27)
 (cond (iEq m_5 w_7)
 ((gI .i64 (rdC h (Addr.add a_8 0) 0)).bind fun n5 =>
 some (exitR h0 h (.bool (iEq n5 1))))
 (some (exitR h0 h (.bool false))))
 (cond (iEq t_78 28)
 ((gI .i64 (rdC h (Addr.add a_8 0) 0)).bind fun n6 =>
 cond (iEq m_5 n6)
 ((gI .i64 (rdC h (Addr.add a_8 1) 0)).bind fun n7 =>
 some (exitR h0 h (.bool (iEq n7 1))))
 (some (exitR h0 h (.bool false))))
 (c72_5 n h0 in_3 w_7 a_8 h)))))):=by kernel_rfl
theorem c72_5_eq (N : NewF) (n  : Nat) (h0 : AH) (in_3 : Addr) (w_7 : Int) (a_8 : Addr) (h : AH) : c72_5Y N n  h0 in_3 w_7 a_8 h =
 (gI .i64 (rdC h (Addr.add in_3 0) 0)).bind fun n0 =>
 (runS Tryz.prog n 112 [(.int .i64 n0)] h).bind fun p1 =>
 (gB (some p1.1)).bind fun b2 =>
 cond b2
 ((gI .i64 (rdC p1.2 (Addr.add a_8 0) 0)).bind fun n3 =>
 (gI .i64 (rdC p1.2 (Addr.add a_8 1) 0)).bind fun n4 =>
 cond (iEq n3 n4)
 (some (exitR h0 p1.2 (.bool (iEq w_7 1))))
 (some (exitR h0 p1.2 (.bool false))))
 ((gI .i64 (rdC p1.2 (Addr.add a_8 0) 0)).bind fun n5 =>
 cond (iEq n5 w_7)
 ((gI .i64 (rdC p1.2 (Addr.add a_8 1) 0)).bind fun n6 =>
 some (exitR h0 p1.2 (.bool (iEq n6 w_7))))
 (some (exitR h0 p1.2 (.bool false)))):=by kernel_rfl
def p73 : List (List Nat × List Nat):=[]
 noncomputable def t73Y (N : NewF) (n : Nat) (op_0 : Int) (h : AH) : Option (Go.Value × AH):=yrun Tryz.prog (runS Tryz.prog n) n p73 N (resY Tryz.prog n) 79 [(.int .i64 op_0)] h
theorem t73_ok {n : Nat} {op_0 : Int} {h : AH} {r : Go.Value × AH} (hv : t73Y hNew n op_0 h = some r) : runS Tryz.prog (n + 1) 79 [(.int .i64 op_0)] h = some r:=yrun_ok hv
theorem t73 (N : NewF) (n : Nat) (op_0 : Int) (h : AH) : t73Y N n op_0 h =
 cond (iNe op_0 26)
 (some (exitR h (setLow h h.next) (.bool (iNe op_0 28))))
 (some (exitR h (setLow h h.next) (.bool false))):=by kernel_rfl
def p74 : List (List Nat × List Nat):=[([0,1,0,1],[2,3,4,10,11,12])]
section
variable (N : NewF) (n m0 : Nat) (h0 : AH) (b_2 : Int) (c_3 t_4 : Addr) (t_10 : Option Addr) (t_10n t_10c : Nat) (t_11 t_12 : Int) (h : AH)
 noncomputable def c74_0 : Option (Go.Value × AH):=resY Tryz.prog n Tryz.f80 h0 (.head (subC (bodyC Tryz.f80) [1,0,1,0,0]) [0,1,0,1] m0) [.block 0,.seq (subC (bodyC Tryz.f80) [1,1]) [1,1]] (E [(2,.int .i64 b_2),(3,.pointer (some c_3)),(4,.pointer (some t_4)),(10,.slice t_10 t_10n t_10c),(11,.int .i64 t_11),(12,.int .i64 t_12)]) h
 noncomputable def c74_0Y : Option (Go.Value × AH):=yhead Tryz.prog (runS Tryz.prog n) n Tryz.f80 h0 p74 N (resY Tryz.prog n Tryz.f80 h0) (subC (bodyC Tryz.f80) [1,0,1,0,0]) [0,1,0,1] m0 [.block 0,.seq (subC (bodyC Tryz.f80) [1,1]) [1,1]] (E [(2,.int .i64 b_2),(3,.pointer (some c_3)),(4,.pointer (some t_4)),(10,.slice t_10 t_10n t_10c),(11,.int .i64 t_11),(12,.int .i64 t_12)]) h
variable {n m0} {h0} {b_2 c_3 t_4 t_10 t_10n t_10c t_11 t_12} {h}
theorem c74_0_ok {r : Go.Value × AH} (hv : c74_0Y hNew n m0 h0 b_2 c_3 t_4 t_10 t_10n t_10c t_11 t_12 h = some r) : c74_0 n (m0 + 1) h0 b_2 c_3 t_4 t_10 t_10n t_10c t_11 t_12 h = some r:=yhead_ok hv
end
 noncomputable def t74Y (N : NewF) (n : Nat) (c_0 : Addr) (t_1a t_1b : Int) (t_1c : Option Addr) (t_1cn t_1cc : Nat) (t_1d : Option Addr) (t_1dn t_1dc : Nat) (b_2 : Int) (h : AH) : Option (Go.Value × AH):=yrun Tryz.prog (runS Tryz.prog n) n p74 N (resY Tryz.prog n) 80 [(.pointer (some c_0)),(.agg #[(.int .i64 t_1a),(.int .i64 t_1b),(.slice t_1c t_1cn t_1cc),(.slice t_1d t_1dn t_1dc)]),(.int .i64 b_2)] h
theorem t74_ok {n : Nat} {c_0 : Addr} {t_1a t_1b : Int} {t_1c : Option Addr} {t_1cn t_1cc : Nat} {t_1d : Option Addr} {t_1dn t_1dc : Nat} {b_2 : Int} {h : AH} {r : Go.Value × AH} (hv : t74Y hNew n c_0 t_1a t_1b t_1c t_1cn t_1cc t_1d t_1dn t_1dc b_2 h = some r) : runS Tryz.prog (n + 1) 80 [(.pointer (some c_0)),(.agg #[(.int .i64 t_1a),(.int .i64 t_1b),(.slice t_1c t_1cn t_1cc),(.slice t_1d t_1dn t_1dc)]),(.int .i64 b_2)] h = some r:=yrun_ok hv
theorem t74 (N : NewF) (n : Nat) (c_0 : Addr) (t_1a t_1b : Int) (t_1c : Option Addr) (t_1cn t_1cc : Nat) (t_1d : Option Addr) (t_1dn t_1dc : Nat) (b_2 : Int) (h : AH) : t74Y N n c_0 t_1a t_1b t_1c t_1cn t_1cc t_1d t_1dn t_1dc b_2 h =
 (N (setLow h h.next) [(.pointer (some c_0))] 0).bind fun p0 =>
 (N p0.2 [(.int .i64 t_1a),(.int .i64 t_1b),(.slice t_1c t_1cn t_1cc),(.slice t_1d t_1dn t_1dc)] 0).bind fun p1 =>
 (gL (rdC p1.2 (Addr.add ⟨p1.1,0,none⟩ 2) 0)).bind fun p2 =>
 c74_0 n n h b_2 ⟨p0.1,0,none⟩ ⟨p1.1,0,none⟩ p2.1 p2.2.1 p2.2.2 (Int.ofNat p2.2.1) 0 p1.2:=by kernel_rfl
theorem c74_0_eq (N : NewF) (n m0 : Nat) (h0 : AH) (b_2 : Int) (c_3 t_4 : Addr) (t_10 : Option Addr) (t_10n t_10c : Nat) (t_11 t_12 : Int) (h : AH) : c74_0Y N n m0 h0 b_2 c_3 t_4 t_10 t_10n t_10c t_11 t_12 h =
 cond (iLt t_12 t_11)
 ((t_10).bind fun a0 =>
 cond (inB t_12 t_10n)
 ((gI .i64 (rdC h (Addr.add a0 ((Int.toNat t_12) * 2)) 0)).bind fun n1 =>
 (gL (rdC h (Addr.add a0 ((Int.toNat t_12) * 2)) 1)).bind fun p2 =>
 (N h [(.int .i64 0),(.slice none 0 0)] 0).bind fun p3 =>
 (stL p3.2 ⟨p3.1,0,none⟩ [(.int .i64 n1),(.slice p2.1 p2.2.1 p2.2.2)]).bind fun x4 =>
 (gP (rdC x4 c_3 0)).bind fun x5 =>
 (gI .i64 (rdC x4 ⟨p3.1,0,none⟩ 0)).bind fun n6 =>
 (gL (rdC x4 ⟨p3.1,0,none⟩ 1)).bind fun p7 =>
 (runS Tryz.prog n 113 [(.pointer x5),(.agg #[(.int .i64 n6),(.slice p7.1 p7.2.1 p7.2.2)]),(.int .i64 b_2)] x4).bind fun p8 =>
 (gB (some p8.1)).bind fun b9 =>
 cond (Bool.not b9)
 (some (exitR h0 p8.2 (.bool false)))
 (c74_0 n m0 h0 b_2 c_3 t_4 t_10 t_10n t_10c t_11 (iAdd .i64 t_12 1) p8.2))
 (none))
 ((gI .i64 (rdC h (Addr.add t_4 0) 0)).bind fun n10 =>
 cond (iEq n10 1)
 ((gL (rdC h (Addr.add t_4 2) 0)).bind fun p11 =>
 cond (iEq (Int.ofNat p11.2.1) 1)
 ((gI .i64 (rdC h (Addr.add t_4 1) 0)).bind fun n12 =>
 cond (iEq n12 (-1))
 ((gL (rdC h (Addr.add t_4 3) 0)).bind fun p13 =>
 some (exitR h0 h (.bool (iEq (Int.ofNat p13.2.1) 0))))
 (some (exitR h0 h (.bool false))))
 (some (exitR h0 h (.bool false))))
 (cond (iEq n10 2)
 ((gL (rdC h (Addr.add t_4 2) 0)).bind fun p14 =>
 cond (iEq (Int.ofNat p14.2.1) 2)
 ((gL (rdC h (Addr.add t_4 3) 0)).bind fun p15 =>
 cond (iEq (Int.ofNat p15.2.1) 0)
 ((gP (rdC h c_3 0)).bind fun x16 =>
 (gI .i64 (rdC h (Addr.add t_4 1) 0)).bind fun n17 =>
 (N h [(.int .i64 n17)] 1).bind fun p18 =>
 (runS Tryz.prog n 77 [(.pointer x16),(.slice (some ⟨p18.1,0,none⟩) 1 1),(.int .i64 b_2)] (setLow p18.2 p18.2.next)).bind fun p19 =>
 (gB (some p19.1)).bind fun b20 =>
 cond (Nat.beq p19.2.low p18.2.next)
 (cond b20
 ((gP (rdC (setLow p19.2 p18.2.low) c_3 0)).bind fun x21 =>
 (x21).bind fun a22 =>
 (gL (rdC (setLow p19.2 p18.2.low) (Addr.add (Addr.add a22 0) 1) 0)).bind fun p23 =>
 (gI .i64 (rdC (setLow p19.2 p18.2.low) (Addr.add t_4 1) 0)).bind fun n24 =>
 (p23.1).bind fun a25 =>
 cond (inB n24 p23.2.1)
 ((gI .i64 (rdC (setLow p19.2 p18.2.low) (Addr.add a25 ((Int.toNat n24) * 1)) 0)).bind fun n26 =>
 some (exitR h0 (setLow p19.2 p18.2.low) (.bool (iEq n26 1))))
 (none))
 (some (exitR h0 (setLow p19.2 p18.2.low) (.bool false))))
 (none))
 (some (exitR h0 h (.bool false))))
 (some (exitR h0 h (.bool false))))
 (cond (iEq n10 3)
 ((gL (rdC h (Addr.add t_4 2) 0)).bind fun p27 =>
 cond (iEq (Int.ofNat p27.2.1) 0)
 ((gI .i64 (rdC h (Addr.add t_4 1) 0)).bind fun n28 =>
 cond (iEq n28 (-1))
 ((gP (rdC h c_3 0)).bind fun x29 =>
 (gL (rdC h (Addr.add t_4 3) 0)).bind fun p30 =>
 (runS Tryz.prog n 77 [(.pointer x29),(.slice p30.1 p30.2.1 p30.2.2),(.int .i64 b_2)] (setLow h h.next)).bind fun p31 =>
 (gB (some p31.1)).bind fun b32 =>
 cond (Nat.beq p31.2.low h.next)
 (cond b32
 ((gL (rdC (setLow p31.2 h.low) (Addr.add t_4 3) 0)).bind fun p33 =>
 (gP (rdC (setLow p31.2 h.low) c_3 0)).bind fun x34 =>
 (x34).bind fun a35 =>
 (gL (rdC (setLow p31.2 h.low) (Addr.add (Addr.add a35 0) 4) 0)).bind fun p36 =>
 (runS Tryz.prog n 114 [(.slice p33.1 p33.2.1 p33.2.2),(.slice p36.1 p36.2.1 p36.2.2),(Value.func (Fn.func 115) (List.toArray []) (List.toArray [(.pointer (some c_3))]))] (setLow p31.2 h.low)).bind fun p37 =>
 (gB (some p37.1)).bind fun b38 =>
 some (exitR h0 p37.2 (.bool b38)))
 (some (exitR h0 (setLow p31.2 h.low) (.bool false))))
 (none))
 (some (exitR h0 h (.bool false))))
 (some (exitR h0 h (.bool false))))
 (some (exitR h0 h (.bool false)))))):=by kernel_rfl
def p90 : List (List Nat × List Nat):=[]
 noncomputable def t90Y (N : NewF) (n : Nat) (op_0 : Int) (h : AH) : Option (Go.Value × AH):=yrun Tryz.prog (runS Tryz.prog n) n p90 N (resY Tryz.prog n) 110 [(.int .i64 op_0)] h
theorem t90_ok {n : Nat} {op_0 : Int} {h : AH} {r : Go.Value × AH} (hv : t90Y hNew n op_0 h = some r) : runS Tryz.prog (n + 1) 110 [(.int .i64 op_0)] h = some r:=yrun_ok hv
theorem t90 (N : NewF) (n : Nat) (op_0 : Int) (h : AH) : t90Y N n op_0 h =
 cond (iLe 2 op_0)
 (some (exitR h (setLow h h.next) (.bool (iLe op_0 20))))
 (some (exitR h (setLow h h.next) (.bool false))):=by kernel_rfl
def p91 : List (List Nat × List Nat):=[([1,0,1,0,1],[0,3,7,8]),([1,0,1,0,1,0,1],[0,3]),([1,1,1,0,1,0,1],[0,3,35]),([1,0,1,1,1,0,1,0,1],[0,3])]
section
variable (N : NewF) (n : Nat) (h0 : AH) (c_0 in_3 : Addr) (t_7 : Int) (t_8 : Bool) (h : AH)
 noncomputable def c91_0 : Option (Go.Value × AH):=resY Tryz.prog n Tryz.f111 h0 (.code (subC (bodyC Tryz.f111) [1,0,1,0,1]) [1,0,1,0,1]) [.block 0,.seq (subC (bodyC Tryz.f111) [1,1]) [1,1]] (E [(0,.pointer (some c_0)),(3,.pointer (some in_3)),(7,.int .i64 t_7),(8,.bool t_8)]) h
 noncomputable def c91_0Y : Option (Go.Value × AH):=yfrom Tryz.prog (runS Tryz.prog n) n Tryz.f111 h0 p91 N (resY Tryz.prog n Tryz.f111 h0) (subC (bodyC Tryz.f111) [1,0,1,0,1]) [1,0,1,0,1] [.block 0,.seq (subC (bodyC Tryz.f111) [1,1]) [1,1]] (E [(0,.pointer (some c_0)),(3,.pointer (some in_3)),(7,.int .i64 t_7),(8,.bool t_8)]) h
variable {n} {h0} {c_0 in_3 t_7 t_8} {h}
theorem c91_0_ok {r : Go.Value × AH} (hv : c91_0Y hNew n h0 c_0 in_3 t_7 t_8 h = some r) : c91_0 n h0 c_0 in_3 t_7 t_8 h = some r:=yfrom_ok hv
end
section
variable (N : NewF) (n : Nat) (h0 : AH) (c_0 in_3 : Addr) (h : AH)
 noncomputable def c91_1 : Option (Go.Value × AH):=resY Tryz.prog n Tryz.f111 h0 (.code (subC (bodyC Tryz.f111) [1,0,1,0,1,0,1]) [1,0,1,0,1,0,1]) [.block 0,.seq (subC (bodyC Tryz.f111) [1,1]) [1,1]] (E [(0,.pointer (some c_0)),(3,.pointer (some in_3))]) h
 noncomputable def c91_1Y : Option (Go.Value × AH):=yfrom Tryz.prog (runS Tryz.prog n) n Tryz.f111 h0 p91 N (resY Tryz.prog n Tryz.f111 h0) (subC (bodyC Tryz.f111) [1,0,1,0,1,0,1]) [1,0,1,0,1,0,1] [.block 0,.seq (subC (bodyC Tryz.f111) [1,1]) [1,1]] (E [(0,.pointer (some c_0)),(3,.pointer (some in_3))]) h
variable {n} {h0} {c_0 in_3} {h}
theorem c91_1_ok {r : Go.Value × AH} (hv : c91_1Y hNew n h0 c_0 in_3 h = some r) : c91_1 n h0 c_0 in_3 h = some r:=yfrom_ok hv
end
section
variable (N : NewF) (n : Nat) (h0 : AH) (c_0 in_3 : Addr) (t_35 : Bool) (h : AH)
 noncomputable def c91_2 : Option (Go.Value × AH):=resY Tryz.prog n Tryz.f111 h0 (.code (subC (bodyC Tryz.f111) [1,0,1,0,1,1,1]) [1,1,1,0,1,0,1]) [.block 0,.seq (subC (bodyC Tryz.f111) [1,1]) [1,1]] (E [(0,.pointer (some c_0)),(3,.pointer (some in_3)),(35,.bool t_35)]) h
 noncomputable def c91_2Y : Option (Go.Value × AH):=yfrom Tryz.prog (runS Tryz.prog n) n Tryz.f111 h0 p91 N (resY Tryz.prog n Tryz.f111 h0) (subC (bodyC Tryz.f111) [1,0,1,0,1,1,1]) [1,1,1,0,1,0,1] [.block 0,.seq (subC (bodyC Tryz.f111) [1,1]) [1,1]] (E [(0,.pointer (some c_0)),(3,.pointer (some in_3)),(35,.bool t_35)]) h
variable {n} {h0} {c_0 in_3 t_35} {h}
theorem c91_2_ok {r : Go.Value × AH} (hv : c91_2Y hNew n h0 c_0 in_3 t_35 h = some r) : c91_2 n h0 c_0 in_3 t_35 h = some r:=yfrom_ok hv
end
section
variable (N : NewF) (n : Nat) (h0 : AH) (c_0 in_3 : Addr) (h : AH)
 noncomputable def c91_3 : Option (Go.Value × AH):=resY Tryz.prog n Tryz.f111 h0 (.code (subC (bodyC Tryz.f111) [1,0,1,0,1,1,1,0,1]) [1,0,1,1,1,0,1,0,1]) [.block 0,.seq (subC (bodyC Tryz.f111) [1,1]) [1,1]] (E [(0,.pointer (some c_0)),(3,.pointer (some in_3))]) h
 noncomputable def c91_3Y : Option (Go.Value × AH):=yfrom Tryz.prog (runS Tryz.prog n) n Tryz.f111 h0 p91 N (resY Tryz.prog n Tryz.f111 h0) (subC (bodyC Tryz.f111) [1,0,1,0,1,1,1,0,1]) [1,0,1,1,1,0,1,0,1] [.block 0,.seq (subC (bodyC Tryz.f111) [1,1]) [1,1]] (E [(0,.pointer (some c_0)),(3,.pointer (some in_3))]) h
variable {n} {h0} {c_0 in_3} {h}
theorem c91_3_ok {r : Go.Value × AH} (hv : c91_3Y hNew n h0 c_0 in_3 h = some r) : c91_3 n h0 c_0 in_3 h = some r:=yfrom_ok hv
end
 noncomputable def t91Y (N : NewF) (n : Nat) (c_0 : Addr) (in_1a in_1b : Int) (in_1c : Option Addr) (in_1cn in_1cc : Nat) (in_1d in_1e : Int) (h : AH) : Option (Go.Value × AH):=yrun Tryz.prog (runS Tryz.prog n) n p91 N (resY Tryz.prog n) 111 [(.pointer (some c_0)),(.agg #[(.int .i64 in_1a),(.int .i64 in_1b),(.slice in_1c in_1cn in_1cc),(.int .u64 in_1d),(.int .i64 in_1e)])] h
theorem t91_ok {n : Nat} {c_0 : Addr} {in_1a in_1b : Int} {in_1c : Option Addr} {in_1cn in_1cc : Nat} {in_1d in_1e : Int} {h : AH} {r : Go.Value × AH} (hv : t91Y hNew n c_0 in_1a in_1b in_1c in_1cn in_1cc in_1d in_1e h = some r) : runS Tryz.prog (n + 1) 111 [(.pointer (some c_0)),(.agg #[(.int .i64 in_1a),(.int .i64 in_1b),(.slice in_1c in_1cn in_1cc),(.int .u64 in_1d),(.int .i64 in_1e)])] h = some r:=yrun_ok hv
theorem t91 (N : NewF) (n : Nat) (c_0 : Addr) (in_1a in_1b : Int) (in_1c : Option Addr) (in_1cn in_1cc : Nat) (in_1d in_1e : Int) (h : AH) : t91Y N n c_0 in_1a in_1b in_1c in_1cn in_1cc in_1d in_1e h =
 (N (setLow h h.next) [(.int .i64 in_1a),(.int .i64 in_1b),(.slice in_1c in_1cn in_1cc),(.int .u64 in_1d),(.int .i64 in_1e)] 0).bind fun p0 =>
 (gI .i64 (rdC p0.2 (Addr.add ⟨p0.1,0,none⟩ 0) 0)).bind fun n1 =>
 cond (iEq n1 25)
 (c91_0 n h c_0 ⟨p0.1,0,none⟩ n1 true p0.2)
 (c91_0 n h c_0 ⟨p0.1,0,none⟩ n1 (iEq n1 26) p0.2):=by kernel_rfl
theorem c91_0_eq (N : NewF) (n  : Nat) (h0 : AH) (c_0 in_3 : Addr) (t_7 : Int) (t_8 : Bool) (h : AH) : c91_0Y N n  h0 c_0 in_3 t_7 t_8 h =
 cond t_8
 ((gI .i64 (rdC h (Addr.add in_3 4) 0)).bind fun n0 =>
 cond (iLt n0 0)
 (some (exitR h0 h (.tuple #[(.int .i64 0),(.bool false)])))
 ((gI .i64 (rdC h (Addr.add in_3 4) 0)).bind fun n1 =>
 (gL (rdC h (Addr.add (Addr.add c_0 0) 2) 0)).bind fun p2 =>
 cond (iLe (Int.ofNat p2.2.1) n1)
 (some (exitR h0 h (.tuple #[(.int .i64 0),(.bool false)])))
 (c91_1 n h0 c_0 in_3 h)))
 (cond (iEq t_7 27)
 (c91_2 n h0 c_0 in_3 true h)
 (c91_2 n h0 c_0 in_3 (iEq t_7 28) h)):=by kernel_rfl
theorem c91_1_eq (N : NewF) (n  : Nat) (h0 : AH) (c_0 in_3 : Addr) (h : AH) : c91_1Y N n  h0 c_0 in_3 h =
 (gL (rdC h (Addr.add (Addr.add c_0 0) 2) 0)).bind fun p0 =>
 (gI .i64 (rdC h (Addr.add in_3 4) 0)).bind fun n1 =>
 (p0.1).bind fun a2 =>
 cond (inB n1 p0.2.1)
 ((gI .i64 (rdC h (Addr.add (Addr.add a2 ((Int.toNat n1) * 5)) 1) 0)).bind fun n3 =>
 some (exitR h0 h (.tuple #[(.int .i64 n3),(.bool true)])))
 (none):=by kernel_rfl
theorem c91_2_eq (N : NewF) (n  : Nat) (h0 : AH) (c_0 in_3 : Addr) (t_35 : Bool) (h : AH) : c91_2Y N n  h0 c_0 in_3 t_35 h =
 cond t_35
 ((gI .i64 (rdC h (Addr.add in_3 4) 0)).bind fun n0 =>
 cond (iLt n0 0)
 (some (exitR h0 h (.tuple #[(.int .i64 0),(.bool false)])))
 ((gI .i64 (rdC h (Addr.add in_3 4) 0)).bind fun n1 =>
 (gL (rdC h (Addr.add (Addr.add c_0 0) 3) 0)).bind fun p2 =>
 cond (iLe (Int.ofNat p2.2.1) n1)
 (some (exitR h0 h (.tuple #[(.int .i64 0),(.bool false)])))
 ((gL (rdC h (Addr.add (Addr.add c_0 0) 3) 0)).bind fun p3 =>
 (gI .i64 (rdC h (Addr.add in_3 4) 0)).bind fun n4 =>
 (p3.1).bind fun a5 =>
 cond (inB n4 p3.2.1)
 ((gB (rdC h (Addr.add (Addr.add a5 ((Int.toNat n4) * 3)) 2) 0)).bind fun b6 =>
 (gI .i64 (rdC h (Addr.add in_3 0) 0)).bind fun n7 =>
 cond (Bool.not (BEq.beq b6 (iEq n7 28)))
 (some (exitR h0 h (.tuple #[(.int .i64 0),(.bool false)])))
 (c91_3 n h0 c_0 in_3 h))
 (none))))
 ((gI .i64 (rdC h (Addr.add in_3 4) 0)).bind fun n8 =>
 some (exitR h0 h (.tuple #[(.int .i64 0),(.bool (iEq n8 0))]))):=by kernel_rfl
theorem c91_3_eq (N : NewF) (n  : Nat) (h0 : AH) (c_0 in_3 : Addr) (h : AH) : c91_3Y N n  h0 c_0 in_3 h =
 (gL (rdC h (Addr.add (Addr.add c_0 0) 3) 0)).bind fun p0 =>
 (gI .i64 (rdC h (Addr.add in_3 4) 0)).bind fun n1 =>
 (p0.1).bind fun a2 =>
 cond (inB n1 p0.2.1)
 ((gI .i64 (rdC h (Addr.add (Addr.add a2 ((Int.toNat n1) * 3)) 1) 0)).bind fun n3 =>
 some (exitR h0 h (.tuple #[(.int .i64 n3),(.bool true)])))
 (none):=by kernel_rfl
def p92 : List (List Nat × List Nat):=[]
 noncomputable def t92Y (N : NewF) (n : Nat) (w_0 x_1 : Int) (h : AH) : Option (Go.Value × AH):=yrun Tryz.prog (runS Tryz.prog n) n p92 N (resY Tryz.prog n) 83 [(.int .i64 w_0),(.int .u64 x_1)] h
theorem t92_ok {n : Nat} {w_0 x_1 : Int} {h : AH} {r : Go.Value × AH} (hv : t92Y hNew n w_0 x_1 h = some r) : runS Tryz.prog (n + 1) 83 [(.int .i64 w_0),(.int .u64 x_1)] h = some r:=yrun_ok hv
theorem t92 (N : NewF) (n : Nat) (w_0 x_1 : Int) (h : AH) : t92Y N n w_0 x_1 h =
 (runS Tryz.prog n 118 [(.int .i64 w_0)] (setLow h h.next)).bind fun p0 =>
 (gI .u64 (some p0.1)).bind fun n1 =>
 some (exitR h p0.2 (.int .u64 (iAnd .u64 x_1 n1))):=by kernel_rfl
def p93 : List (List Nat × List Nat):=[]
 noncomputable def t93Y (N : NewF) (n : Nat) (op_0 : Int) (h : AH) : Option (Go.Value × AH):=yrun Tryz.prog (runS Tryz.prog n) n p93 N (resY Tryz.prog n) 112 [(.int .i64 op_0)] h
theorem t93_ok {n : Nat} {op_0 : Int} {h : AH} {r : Go.Value × AH} (hv : t93Y hNew n op_0 h = some r) : runS Tryz.prog (n + 1) 112 [(.int .i64 op_0)] h = some r:=yrun_ok hv
theorem t93 (N : NewF) (n : Nat) (op_0 : Int) (h : AH) : t93Y N n op_0 h =
 cond (iLe 15 op_0)
 (some (exitR h (setLow h h.next) (.bool (iLe op_0 20))))
 (some (exitR h (setLow h h.next) (.bool false))):=by kernel_rfl
def p94 : List (List Nat × List Nat):=[([1,1],[3,4])]
section
variable (N : NewF) (n : Nat) (h0 : AH) (c_3 e_4 : Addr) (h : AH)
 noncomputable def c94_0 : Option (Go.Value × AH):=resY Tryz.prog n Tryz.f113 h0 (.code (subC (bodyC Tryz.f113) [1,1]) [1,1]) [] (E [(3,.pointer (some c_3)),(4,.pointer (some e_4))]) h
 noncomputable def c94_0Y : Option (Go.Value × AH):=yfrom Tryz.prog (runS Tryz.prog n) n Tryz.f113 h0 p94 N (resY Tryz.prog n Tryz.f113 h0) (subC (bodyC Tryz.f113) [1,1]) [1,1] [] (E [(3,.pointer (some c_3)),(4,.pointer (some e_4))]) h
variable {n} {h0} {c_3 e_4} {h}
theorem c94_0_ok {r : Go.Value × AH} (hv : c94_0Y hNew n h0 c_3 e_4 h = some r) : c94_0 n h0 c_3 e_4 h = some r:=yfrom_ok hv
end
 noncomputable def t94Y (N : NewF) (n : Nat) (c_0 : Addr) (e_1a : Int) (e_1b : Option Addr) (e_1bn e_1bc : Nat) (b_2 : Int) (h : AH) : Option (Go.Value × AH):=yrun Tryz.prog (runS Tryz.prog n) n p94 N (resY Tryz.prog n) 113 [(.pointer (some c_0)),(.agg #[(.int .i64 e_1a),(.slice e_1b e_1bn e_1bc)]),(.int .i64 b_2)] h
theorem t94_ok {n : Nat} {c_0 : Addr} {e_1a : Int} {e_1b : Option Addr} {e_1bn e_1bc : Nat} {b_2 : Int} {h : AH} {r : Go.Value × AH} (hv : t94Y hNew n c_0 e_1a e_1b e_1bn e_1bc b_2 h = some r) : runS Tryz.prog (n + 1) 113 [(.pointer (some c_0)),(.agg #[(.int .i64 e_1a),(.slice e_1b e_1bn e_1bc)]),(.int .i64 b_2)] h = some r:=yrun_ok hv
theorem t94 (N : NewF) (n : Nat) (c_0 : Addr) (e_1a : Int) (e_1b : Option Addr) (e_1bn e_1bc : Nat) (b_2 : Int) (h : AH) : t94Y N n c_0 e_1a e_1b e_1bn e_1bc b_2 h =
 (N (setLow h h.next) [(.pointer (some c_0))] 0).bind fun p0 =>
 (N p0.2 [(.int .i64 e_1a),(.slice e_1b e_1bn e_1bc)] 0).bind fun p1 =>
 (gI .i64 (rdC p1.2 (Addr.add ⟨p1.1,0,none⟩ 0) 0)).bind fun n2 =>
 cond (iLt n2 1)
 (some (exitR h p1.2 (.bool false)))
 ((gI .i64 (rdC p1.2 (Addr.add ⟨p1.1,0,none⟩ 0) 0)).bind fun n3 =>
 (gP (rdC p1.2 ⟨p0.1,0,none⟩ 0)).bind fun x4 =>
 (x4).bind fun a5 =>
 (gL (rdC p1.2 (Addr.add (Addr.add a5 0) 5) 0)).bind fun p6 =>
 cond (iLe (Int.ofNat p6.2.1) n3)
 (some (exitR h p1.2 (.bool false)))
 ((gP (rdC p1.2 ⟨p0.1,0,none⟩ 0)).bind fun x7 =>
 (gL (rdC p1.2 (Addr.add ⟨p1.1,0,none⟩ 1) 0)).bind fun p8 =>
 (runS Tryz.prog n 77 [(.pointer x7),(.slice p8.1 p8.2.1 p8.2.2),(.int .i64 b_2)] p1.2).bind fun p9 =>
 (gB (some p9.1)).bind fun b10 =>
 cond (Bool.not b10)
 (some (exitR h p9.2 (.bool false)))
 (c94_0 n h ⟨p0.1,0,none⟩ ⟨p1.1,0,none⟩ p9.2))):=by kernel_rfl
theorem c94_0_eq (N : NewF) (n  : Nat) (h0 : AH) (c_3 e_4 : Addr) (h : AH) : c94_0Y N n  h0 c_3 e_4 h =
 (gL (rdC h (Addr.add e_4 1) 0)).bind fun p0 =>
 (gP (rdC h c_3 0)).bind fun x1 =>
 (x1).bind fun a2 =>
 (gL (rdC h (Addr.add (Addr.add a2 0) 5) 0)).bind fun p3 =>
 (gI .i64 (rdC h (Addr.add e_4 0) 0)).bind fun n4 =>
 (p3.1).bind fun a5 =>
 cond (inB n4 p3.2.1)
 ((gL (rdC h (Addr.add (Addr.add a5 ((Int.toNat n4) * 9)) 0) 0)).bind fun p6 =>
 (runS Tryz.prog n 114 [(.slice p0.1 p0.2.1 p0.2.2),(.slice p6.1 p6.2.1 p6.2.2),(Value.func (Fn.func 148) (List.toArray []) (List.toArray [(.pointer (some c_3))]))] h).bind fun p7 =>
 (gB (some p7.1)).bind fun b8 =>
 some (exitR h0 p7.2 (.bool b8)))
 (none):=by kernel_rfl
def p96 : List (List Nat × List Nat):=[]
 noncomputable def t96Y (N : NewF) (n : Nat) (v_0 w_1 : Int) (cap0 : Addr) (h : AH) : Option (Go.Value × AH):=yrun Tryz.prog (runS Tryz.prog n) n p96 N (resY Tryz.prog n) 115 [(.int .i64 v_0),(.int .i64 w_1),(.pointer (some cap0))] h
theorem t96_ok {n : Nat} {v_0 w_1 : Int} {cap0 : Addr} {h : AH} {r : Go.Value × AH} (hv : t96Y hNew n v_0 w_1 cap0 h = some r) : runS Tryz.prog (n + 1) 115 [(.int .i64 v_0),(.int .i64 w_1),(.pointer (some cap0))] h = some r:=yrun_ok hv
theorem t96 (N : NewF) (n : Nat) (v_0 w_1 : Int) (cap0 : Addr) (h : AH) : t96Y N n v_0 w_1 cap0 h =
 (gP (rdC (setLow h h.next) cap0 0)).bind fun x0 =>
 (x0).bind fun a1 =>
 (gL (rdC (setLow h h.next) (Addr.add (Addr.add a1 0) 1) 0)).bind fun p2 =>
 (p2.1).bind fun a3 =>
 cond (inB v_0 p2.2.1)
 ((gI .i64 (rdC (setLow h h.next) (Addr.add a3 ((Int.toNat v_0) * 1)) 0)).bind fun n4 =>
 some (exitR h (setLow h h.next) (.bool (iEq n4 w_1))))
 (none):=by kernel_rfl
def p108 : List (List Nat × List Nat):=[]
 noncomputable def t108Y (N : NewF) (n : Nat) (w_0 : Int) (h : AH) : Option (Go.Value × AH):=yrun Tryz.prog (runS Tryz.prog n) n p108 N (resY Tryz.prog n) 118 [(.int .i64 w_0)] h
theorem t108_ok {n : Nat} {w_0 : Int} {h : AH} {r : Go.Value × AH} (hv : t108Y hNew n w_0 h = some r) : runS Tryz.prog (n + 1) 118 [(.int .i64 w_0)] h = some r:=yrun_ok hv
theorem t108 (N : NewF) (n : Nat) (w_0 : Int) (h : AH) : t108Y N n w_0 h =
 (runS Tryz.prog n 149 [(.int .i64 w_0)] (setLow h h.next)).bind fun p0 =>
 (gI .i64 (some p0.1)).bind fun n1 =>
 cond (iEq n1 0)
 (some (exitR h p0.2 (.int .u64 0)))
 (cond (iLt (iSub .i64 64 n1) 0)
 (none)
 (some (exitR h p0.2 (.int .u64 (iShr .u64 18446744073709551615 (iSub .i64 64 n1)))))):=by kernel_rfl
def p109 : List (List Nat × List Nat):=[]
 noncomputable def t109Y (N : NewF) (n : Nat) (v_0 p_1 : Int) (cap0 : Addr) (h : AH) : Option (Go.Value × AH):=yrun Tryz.prog (runS Tryz.prog n) n p109 N (resY Tryz.prog n) 148 [(.int .i64 v_0),(.int .i64 p_1),(.pointer (some cap0))] h
theorem t109_ok {n : Nat} {v_0 p_1 : Int} {cap0 : Addr} {h : AH} {r : Go.Value × AH} (hv : t109Y hNew n v_0 p_1 cap0 h = some r) : runS Tryz.prog (n + 1) 148 [(.int .i64 v_0),(.int .i64 p_1),(.pointer (some cap0))] h = some r:=yrun_ok hv
theorem t109 (N : NewF) (n : Nat) (v_0 p_1 : Int) (cap0 : Addr) (h : AH) : t109Y N n v_0 p_1 cap0 h =
 cond (iLe 0 p_1)
 ((gP (rdC (setLow h h.next) cap0 0)).bind fun x0 =>
 (x0).bind fun a1 =>
 (gL (rdC (setLow h h.next) (Addr.add (Addr.add a1 0) 1) 0)).bind fun p2 =>
 cond (iLt p_1 (Int.ofNat p2.2.1))
 ((gP (rdC (setLow h h.next) cap0 0)).bind fun x3 =>
 (x3).bind fun a4 =>
 (gL (rdC (setLow h h.next) (Addr.add (Addr.add a4 0) 1) 0)).bind fun p5 =>
 (p5.1).bind fun a6 =>
 cond (inB v_0 p5.2.1)
 ((gI .i64 (rdC (setLow h h.next) (Addr.add a6 ((Int.toNat v_0) * 1)) 0)).bind fun n7 =>
 (gP (rdC (setLow h h.next) cap0 0)).bind fun x8 =>
 (x8).bind fun a9 =>
 (gL (rdC (setLow h h.next) (Addr.add (Addr.add a9 0) 1) 0)).bind fun p10 =>
 (p10.1).bind fun a11 =>
 cond (inB p_1 p10.2.1)
 ((gI .i64 (rdC (setLow h h.next) (Addr.add a11 ((Int.toNat p_1) * 1)) 0)).bind fun n12 =>
 some (exitR h (setLow h h.next) (.bool (iEq n7 n12))))
 (none))
 (none))
 (some (exitR h (setLow h h.next) (.bool false))))
 (some (exitR h (setLow h h.next) (.bool false))):=by kernel_rfl
def p127 : List (List Nat × List Nat):=[]
 noncomputable def t127Y (N : NewF) (n : Nat) (w_0 : Int) (h : AH) : Option (Go.Value × AH):=yrun Tryz.prog (runS Tryz.prog n) n p127 N (resY Tryz.prog n) 149 [(.int .i64 w_0)] h
theorem t127_ok {n : Nat} {w_0 : Int} {h : AH} {r : Go.Value × AH} (hv : t127Y hNew n w_0 h = some r) : runS Tryz.prog (n + 1) 149 [(.int .i64 w_0)] h = some r:=yrun_ok hv
theorem t127 (N : NewF) (n : Nat) (w_0 : Int) (h : AH) : t127Y N n w_0 h =
 some (exitR h (setLow h h.next) (.int .i64 (iMin (iMax w_0 0) 64))):=by kernel_rfl
def p36 : List (List Nat × List Nat):=[]
 noncomputable def t36Y (N : NewF) (n : Nat) (s : Option Addr) (sn sc : Nat) (h : AH) : Option (Go.Value × AH):=yrun Tryz.prog (runS Tryz.prog n) n p36 N (resY Tryz.prog n) 47 [(.slice s sn sc),(.func (.func 45) #[] #[])] h
theorem t36_ok {n : Nat} {s : Option Addr} {sn sc : Nat} {h : AH} {r : Go.Value × AH} (hv : t36Y hNew n s sn sc h = some r) : runS Tryz.prog (n + 1) 47 [(.slice s sn sc),(.func (.func 45) #[] #[])] h = some r:=yrun_ok hv
theorem t36 (N : NewF) (n : Nat) (s : Option Addr) (sn sc : Nat) (h : AH) : t36Y N n s sn sc h =
 (runS Tryz.prog n 74 [(.slice s sn sc),(Value.func (Fn.func 45) (List.toArray []) (List.toArray []))] (setLow h h.next)).bind fun p0 =>
 (gI .i64 (some p0.1)).bind fun n1 =>
 some (exitR h p0.2 (.bool (iLe 0 n1))):=by kernel_rfl
def p68 : List (List Nat × List Nat):=[([0,1,0,1],[0,1,7,8])]
section
variable (N : NewF) (n m0 : Nat) (h0 : AH) (s_0 : Option Addr) (s_0n s_0c : Nat) (t_7 t_8 : Int) (h : AH)
 noncomputable def c68_0 : Option (Go.Value × AH):=resY Tryz.prog n Tryz.f74 h0 (.head (subC (bodyC Tryz.f74) [1,0,1,0,0]) [0,1,0,1] m0) [.block 0,.seq (subC (bodyC Tryz.f74) [1,1]) [1,1]] (E [(0,.slice s_0 s_0n s_0c),(1,.func (.func 45) #[] #[]),(7,.int .i64 t_7),(8,.int .i64 t_8)]) h
 noncomputable def c68_0Y : Option (Go.Value × AH):=yhead Tryz.prog (runS Tryz.prog n) n Tryz.f74 h0 p68 N (resY Tryz.prog n Tryz.f74 h0) (subC (bodyC Tryz.f74) [1,0,1,0,0]) [0,1,0,1] m0 [.block 0,.seq (subC (bodyC Tryz.f74) [1,1]) [1,1]] (E [(0,.slice s_0 s_0n s_0c),(1,.func (.func 45) #[] #[]),(7,.int .i64 t_7),(8,.int .i64 t_8)]) h
variable {n m0} {h0} {s_0 s_0n s_0c t_7 t_8} {h}
theorem c68_0_ok {r : Go.Value × AH} (hv : c68_0Y hNew n m0 h0 s_0 s_0n s_0c t_7 t_8 h = some r) : c68_0 n (m0 + 1) h0 s_0 s_0n s_0c t_7 t_8 h = some r:=yhead_ok hv
end
 noncomputable def t68Y (N : NewF) (n : Nat) (s : Option Addr) (sn sc : Nat) (h : AH) : Option (Go.Value × AH):=yrun Tryz.prog (runS Tryz.prog n) n p68 N (resY Tryz.prog n) 74 [(.slice s sn sc),(.func (.func 45) #[] #[])] h
theorem t68_ok {n : Nat} {s : Option Addr} {sn sc : Nat} {h : AH} {r : Go.Value × AH} (hv : t68Y hNew n s sn sc h = some r) : runS Tryz.prog (n + 1) 74 [(.slice s sn sc),(.func (.func 45) #[] #[])] h = some r:=yrun_ok hv
theorem t68 (N : NewF) (n : Nat) (s : Option Addr) (sn sc : Nat) (h : AH) : t68Y N n s sn sc h =
 c68_0 n n h s sn sc (Int.ofNat sn) 0 (setLow h h.next):=by kernel_rfl
theorem c68_0_eq (N : NewF) (n m0 : Nat) (h0 : AH) (s_0 : Option Addr) (s_0n s_0c : Nat) (t_7 t_8 : Int) (h : AH) : c68_0Y N n m0 h0 s_0 s_0n s_0c t_7 t_8 h =
 cond (iLt t_8 t_7)
 ((s_0).bind fun a0 =>
 cond (inB t_8 s_0n)
 ((gI .i64 (rdC h (Addr.add a0 ((Int.toNat t_8) * 1)) 0)).bind fun n1 =>
 (runS Tryz.prog n 45 [(.int .i64 n1)] h).bind fun p2 =>
 (gB (some p2.1)).bind fun b3 =>
 cond b3
 (some (exitR h0 p2.2 (.int .i64 t_8)))
 (c68_0 n m0 h0 s_0 s_0n s_0c t_7 (iAdd .i64 t_8 1) p2.2))
 (none))
 (some (exitR h0 h (.int .i64 (-1)))):=by kernel_rfl
def p95 : List (List Nat × List Nat):=[([0,1,0,1,1],[1,2,15,16,17])]
section
variable (N : NewF) (n m0 : Nat) (h0 : AH) (s2_1 : Option Addr) (s2_1n s2_1c : Nat) (eq_2a : Addr) (t_15 : Option Addr) (t_15n t_15c : Nat) (t_16 t_17 : Int) (h : AH)
 noncomputable def c95_0 : Option (Go.Value × AH):=resY Tryz.prog n Tryz.f114 h0 (.head (subC (bodyC Tryz.f114) [1,1,0,1,0,0]) [0,1,0,1,1] m0) [.block 0,.seq (subC (bodyC Tryz.f114) [1,1,1]) [1,1,1]] (E [(1,.slice s2_1 s2_1n s2_1c),(2,.func (.func 115) #[] #[(.pointer (some eq_2a))]),(15,.slice t_15 t_15n t_15c),(16,.int .i64 t_16),(17,.int .i64 t_17)]) h
 noncomputable def c95_0Y : Option (Go.Value × AH):=yhead Tryz.prog (runS Tryz.prog n) n Tryz.f114 h0 p95 N (resY Tryz.prog n Tryz.f114 h0) (subC (bodyC Tryz.f114) [1,1,0,1,0,0]) [0,1,0,1,1] m0 [.block 0,.seq (subC (bodyC Tryz.f114) [1,1,1]) [1,1,1]] (E [(1,.slice s2_1 s2_1n s2_1c),(2,.func (.func 115) #[] #[(.pointer (some eq_2a))]),(15,.slice t_15 t_15n t_15c),(16,.int .i64 t_16),(17,.int .i64 t_17)]) h
variable {n m0} {h0} {s2_1 s2_1n s2_1c eq_2a t_15 t_15n t_15c t_16 t_17} {h}
theorem c95_0_ok {r : Go.Value × AH} (hv : c95_0Y hNew n m0 h0 s2_1 s2_1n s2_1c eq_2a t_15 t_15n t_15c t_16 t_17 h = some r) : c95_0 n (m0 + 1) h0 s2_1 s2_1n s2_1c eq_2a t_15 t_15n t_15c t_16 t_17 h = some r:=yhead_ok hv
end
 noncomputable def t95Y (N : NewF) (n : Nat) (s : Option Addr) (sn sc : Nat) (t : Option Addr) (tn tc : Nat) (c : Addr) (h : AH) : Option (Go.Value × AH):=yrun Tryz.prog (runS Tryz.prog n) n p95 N (resY Tryz.prog n) 114 [(.slice s sn sc),(.slice t tn tc),(.func (.func 115) #[] #[.pointer (some c)])] h
theorem t95_ok {n : Nat} {s : Option Addr} {sn sc : Nat} {t : Option Addr} {tn tc : Nat} {c : Addr} {h : AH} {r : Go.Value × AH} (hv : t95Y hNew n s sn sc t tn tc c h = some r) : runS Tryz.prog (n + 1) 114 [(.slice s sn sc),(.slice t tn tc),(.func (.func 115) #[] #[.pointer (some c)])] h = some r:=yrun_ok hv
theorem t95 (N : NewF) (n : Nat) (s : Option Addr) (sn sc : Nat) (t : Option Addr) (tn tc : Nat) (c : Addr) (h : AH) : t95Y N n s sn sc t tn tc c h =
 cond (iNe (Int.ofNat sn) (Int.ofNat tn))
 (some (exitR h (setLow h h.next) (.bool false)))
 (c95_0 n n h t tn tc c s sn sc (Int.ofNat sn) 0 (setLow h h.next)):=by kernel_rfl
theorem c95_0_eq (N : NewF) (n m0 : Nat) (h0 : AH) (s2_1 : Option Addr) (s2_1n s2_1c : Nat) (eq_2a : Addr) (t_15 : Option Addr) (t_15n t_15c : Nat) (t_16 t_17 : Int) (h : AH) : c95_0Y N n m0 h0 s2_1 s2_1n s2_1c eq_2a t_15 t_15n t_15c t_16 t_17 h =
 cond (iLt t_17 t_16)
 ((t_15).bind fun a0 =>
 cond (inB t_17 t_15n)
 ((gI .i64 (rdC h (Addr.add a0 ((Int.toNat t_17) * 1)) 0)).bind fun n1 =>
 (s2_1).bind fun a2 =>
 cond (inB t_17 s2_1n)
 ((gI .i64 (rdC h (Addr.add a2 ((Int.toNat t_17) * 1)) 0)).bind fun n3 =>
 (runS Tryz.prog n 115 [(.int .i64 n1),(.int .i64 n3),(.pointer (some eq_2a))] h).bind fun p4 =>
 (gB (some p4.1)).bind fun b5 =>
 cond (Bool.not b5)
 (some (exitR h0 p4.2 (.bool false)))
 (c95_0 n m0 h0 s2_1 s2_1n s2_1c eq_2a t_15 t_15n t_15c t_16 (iAdd .i64 t_17 1) p4.2))
 (none))
 (none))
 (some (exitR h0 h (.bool true))):=by kernel_rfl
def p66 : List (List Nat × List Nat):=[]
 noncomputable def t66Y (N : NewF) (n : Nat) (name_0 : ByteArray) (cap0 : Addr) (h : AH) : Option (Go.Value × AH):=yrun Tryz.prog (runS Tryz.prog n) n p66 N (resY Tryz.prog n) 72 [(.string name_0),(.pointer (some cap0))] h
theorem t66_ok {n : Nat} {name_0 : ByteArray} {cap0 : Addr} {h : AH} {r : Go.Value × AH} (hv : t66Y hNew n name_0 cap0 h = some r) : runS Tryz.prog (n + 1) 72 [(.string name_0),(.pointer (some cap0))] h = some r:=yrun_ok hv
theorem t66 (N : NewF) (n : Nat) (name_0 : ByteArray) (cap0 : Addr) (h : AH) : t66Y N n name_0 cap0 h =
 (rdC (setLow h h.next) cap0 0).bind fun v0 =>
 (lookV Tryz.prog 143 v0 (.string name_0) false (setLow h h.next)).bind fun v1 =>
 (vBool v1).bind fun b2 =>
 (rdC (setLow h h.next) cap0 0).bind fun v3 =>
 (mupV Tryz.prog 143 v3 (.string name_0) (.bool true) (setLow h h.next)).bind fun x4 =>
 cond (Bool.not b2)
 ((runS Tryz.prog n 43 [(.string name_0)] x4).bind fun p5 =>
 (gB (some p5.1)).bind fun b6 =>
 some (exitR h p5.2 (.bool b6)))
 (some (exitR h x4 (.bool false))):=by kernel_rfl
end Go.Proofs.YtpadjdokjppopaaGreatDoor.Kb
namespace Go.Proofs.YtpadjdokjppopaaGreatDoor.Kb2
open Go Go.Proofs Go.Proofs.YtpadjdokjppopaaGreatDoor Go.Proofs.YtpadjdokjppopaaGreatDoor.X
set_option maxRecDepth 100000
set_option linter.unusedVariables false
def p95 : List (List Nat × List Nat):=[([0,1,0,1,1],[1,2,15,16,17])]
section
variable (N : NewF) (n m0 : Nat) (h0 : AH) (s2_1 : Option Addr) (s2_1n s2_1c : Nat) (eq_2a : Addr) (t_15 : Option Addr) (t_15n t_15c : Nat) (t_16 t_17 : Int) (h : AH)
 noncomputable def c95_0 : Option (Go.Value × AH):=resY Tryz.prog n Tryz.f114 h0 (.head (subC (bodyC Tryz.f114) [1,1,0,1,0,0]) [0,1,0,1,1] m0) [.block 0,.seq (subC (bodyC Tryz.f114) [1,1,1]) [1,1,1]] (E [(1,.slice s2_1 s2_1n s2_1c),(2,.func (.func 148) #[] #[(.pointer (some eq_2a))]),(15,.slice t_15 t_15n t_15c),(16,.int .i64 t_16),(17,.int .i64 t_17)]) h
 noncomputable def c95_0Y : Option (Go.Value × AH):=yhead Tryz.prog (runS Tryz.prog n) n Tryz.f114 h0 p95 N (resY Tryz.prog n Tryz.f114 h0) (subC (bodyC Tryz.f114) [1,1,0,1,0,0]) [0,1,0,1,1] m0 [.block 0,.seq (subC (bodyC Tryz.f114) [1,1,1]) [1,1,1]] (E [(1,.slice s2_1 s2_1n s2_1c),(2,.func (.func 148) #[] #[(.pointer (some eq_2a))]),(15,.slice t_15 t_15n t_15c),(16,.int .i64 t_16),(17,.int .i64 t_17)]) h
variable {n m0} {h0} {s2_1 s2_1n s2_1c eq_2a t_15 t_15n t_15c t_16 t_17} {h}
theorem c95_0_ok {r : Go.Value × AH} (hv : c95_0Y hNew n m0 h0 s2_1 s2_1n s2_1c eq_2a t_15 t_15n t_15c t_16 t_17 h = some r) : c95_0 n (m0 + 1) h0 s2_1 s2_1n s2_1c eq_2a t_15 t_15n t_15c t_16 t_17 h = some r:=yhead_ok hv
end
 noncomputable def t95Y (N : NewF) (n : Nat) (s : Option Addr) (sn sc : Nat) (t : Option Addr) (tn tc : Nat) (c : Addr) (h : AH) : Option (Go.Value × AH):=yrun Tryz.prog (runS Tryz.prog n) n p95 N (resY Tryz.prog n) 114 [(.slice s sn sc),(.slice t tn tc),(.func (.func 148) #[] #[.pointer (some c)])] h
theorem t95_ok {n : Nat} {s : Option Addr} {sn sc : Nat} {t : Option Addr} {tn tc : Nat} {c : Addr} {h : AH} {r : Go.Value × AH} (hv : t95Y hNew n s sn sc t tn tc c h = some r) : runS Tryz.prog (n + 1) 114 [(.slice s sn sc),(.slice t tn tc),(.func (.func 148) #[] #[.pointer (some c)])] h = some r:=yrun_ok hv
theorem t95 (N : NewF) (n : Nat) (s : Option Addr) (sn sc : Nat) (t : Option Addr) (tn tc : Nat) (c : Addr) (h : AH) : t95Y N n s sn sc t tn tc c h =
 cond (iNe (Int.ofNat sn) (Int.ofNat tn))
 (some (exitR h (setLow h h.next) (.bool false)))
 (c95_0 n n h t tn tc c s sn sc (Int.ofNat sn) 0 (setLow h h.next)):=by kernel_rfl
theorem c95_0_eq (N : NewF) (n m0 : Nat) (h0 : AH) (s2_1 : Option Addr) (s2_1n s2_1c : Nat) (eq_2a : Addr) (t_15 : Option Addr) (t_15n t_15c : Nat) (t_16 t_17 : Int) (h : AH) : c95_0Y N n m0 h0 s2_1 s2_1n s2_1c eq_2a t_15 t_15n t_15c t_16 t_17 h =
 cond (iLt t_17 t_16)
 ((t_15).bind fun a0 =>
 cond (inB t_17 t_15n)
 ((gI .i64 (rdC h (Addr.add a0 ((Int.toNat t_17) * 1)) 0)).bind fun n1 =>
 (s2_1).bind fun a2 =>
 cond (inB t_17 s2_1n)
 ((gI .i64 (rdC h (Addr.add a2 ((Int.toNat t_17) * 1)) 0)).bind fun n3 =>
 (runS Tryz.prog n 148 [(.int .i64 n1),(.int .i64 n3),(.pointer (some eq_2a))] h).bind fun p4 =>
 (gB (some p4.1)).bind fun b5 =>
 cond (Bool.not b5)
 (some (exitR h0 p4.2 (.bool false)))
 (c95_0 n m0 h0 s2_1 s2_1n s2_1c eq_2a t_15 t_15n t_15c t_16 (iAdd .i64 t_17 1) p4.2))
 (none))
 (none))
 (some (exitR h0 h (.bool true))):=by kernel_rfl
end Go.Proofs.YtpadjdokjppopaaGreatDoor.Kb2
