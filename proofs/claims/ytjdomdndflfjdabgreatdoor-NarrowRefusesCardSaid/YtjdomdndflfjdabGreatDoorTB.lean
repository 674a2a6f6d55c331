/- Joined texts: TB. -/
import Derived.KernelRfl
import Derived.Test.YtjdomdndflfjdabGreatDoorYA
import Derived.Test.YtjdomdndflfjdabGreatDoorProg
namespace Go.Proofs.YtjdomdndflfjdabGreatDoor.Kb
open Go Go.Proofs Go.Proofs.YtjdomdndflfjdabGreatDoor Go.Proofs.YtjdomdndflfjdabGreatDoor.X
set_option maxRecDepth 100000
set_option linter.unusedVariables false
def p11 : List (List Nat × List Nat):=[([1,1],[1]),([1,1,1,1],[1]),([0,1,0,1,1,1,1,1],[4,62,63,64])]
 noncomputable def AW (n : Nat) (h0 : AH) (f_1 : Addr) (h : AH) : Option (Go.Value × AH):=aO Tryz.prog n Tryz.f22 h0 (.code (aB (av Tryz.f22) [1,1]) [1,1]) [] (E [(1,.pointer (some f_1))]) h
 noncomputable def AX (n : Nat) (h0 : AH) (f_1 : Addr) (h : AH) : Option (Go.Value × AH):=aO Tryz.prog n Tryz.f22 h0 (.code (aB (av Tryz.f22) [1,1,1,1]) [1,1,1,1]) [] (E [(1,.pointer (some f_1))]) h
 noncomputable def xh (n m0 : Nat) (h0 : AH) (c_4 : Addr) (t_62 : Option Addr) (t_62n t_62c : Nat) (t_63 t_64 : Int) (h : AH) : Option (Go.Value × AH):=aO Tryz.prog n Tryz.f22 h0 (.head (aB (av Tryz.f22) [1,1,1,1,1,0,1,0,0]) [0,1,0,1,1,1,1,1] m0) [.block 0,.seq (aB (av Tryz.f22) [1,1,1,1,1,1]) [1,1,1,1,1,1]] (E [(4,.pointer (some c_4)),(62,.slice t_62 t_62n t_62c),(63,.int .i64 t_63),(64,.int .i64 t_64)]) h
theorem FX {n : Nat} {f_0a : ByteArray} {f_0b : Option Addr} {f_0bn f_0bc : Nat} {f_0c : Option Addr} {f_0cn f_0cc : Nat} {f_0d : Option Addr} {f_0dn f_0dc : Nat} {f_0e : Option Addr} {f_0en f_0ec : Nat} {f_0f : Option Addr} {f_0fn f_0fc : Nat} {h : AH} {r : Go.Value × AH} (hv :
( ((aF (setLow h h.next) [(.string f_0a),(.slice f_0b f_0bn f_0bc),(.slice f_0c f_0cn f_0cc),(.slice f_0d f_0dn f_0dc),(.slice f_0e f_0en f_0ec),(.slice f_0f f_0fn f_0fc)] 0)).bind fun p0 =>
 ((gS (rdC p0.2 (Addr.add ⟨p0.1,0,none⟩ 0) 0))).bind fun x1 =>
 ((az Tryz.prog n 50 [(.string x1)] p0.2)).bind fun p2 =>
 ((gB (some p2.1))).bind fun b3 =>
 cond (Bool.not b3)
 (some (ai h p2.2 (.bool false)))
 (((gS (rdC p2.2 ⟨p0.1,0,none⟩ 0))).bind fun x4 =>
 ((gL (rdC p2.2 ⟨p0.1,0,none⟩ 1))).bind fun p5 =>
 ((gL (rdC p2.2 ⟨p0.1,0,none⟩ 2))).bind fun p6 =>
 ((gL (rdC p2.2 ⟨p0.1,0,none⟩ 3))).bind fun p7 =>
 ((gL (rdC p2.2 ⟨p0.1,0,none⟩ 4))).bind fun p8 =>
 ((gL (rdC p2.2 ⟨p0.1,0,none⟩ 5))).bind fun p9 =>
 ((az Tryz.prog n 51 [(.agg #[(.string x4),(.slice p5.1 p5.2.1 p5.2.2),(.slice p6.1 p6.2.1 p6.2.2),(.slice p7.1 p7.2.1 p7.2.2),(.slice p8.1 p8.2.1 p8.2.2),(.slice p9.1 p9.2.1 p9.2.2)])] p2.2)).bind fun p10 =>
 ((gB (some p10.1))).bind fun b11 =>
 cond (Bool.not b11)
 (some (ai h p10.2 (.bool false)))
 (((gL (rdC p10.2 (Addr.add ⟨p0.1,0,none⟩ 1) 0))).bind fun p12 =>
 cond (bZ 65536 (Int.ofNat p12.2.1))
 (some (ai h p10.2 (.bool false)))
 (((gL (rdC p10.2 (Addr.add ⟨p0.1,0,none⟩ 4) 0))).bind fun p13 =>
 cond (bZ 64 (Int.ofNat p13.2.1))
 (some (ai h p10.2 (.bool false)))
 (((gL (rdC p10.2 (Addr.add ⟨p0.1,0,none⟩ 5) 0))).bind fun p14 =>
 cond (bZ (Int.ofNat p14.2.1) 1)
 (some (ai h p10.2 (.bool false)))
 (((gL (rdC p10.2 (Addr.add ⟨p0.1,0,none⟩ 5) 0))).bind fun p15 =>
 cond (bZ 1024 (Int.ofNat p15.2.1))
 (some (ai h p10.2 (.bool false)))
 (AW n h ⟨p0.1,0,none⟩ p10.2))))))) = some r) : az Tryz.prog (n + 1) 22 [(.agg #[(.string f_0a),(.slice f_0b f_0bn f_0bc),(.slice f_0c f_0cn f_0cc),(.slice f_0d f_0dn f_0dc),(.slice f_0e f_0en f_0ec),(.slice f_0f f_0fn f_0fc)])] h = some r:=eO (plan:=p11) (by kernel_rfl) hv
theorem AY {n : Nat} {h0 : AH} {f_1 : Addr} {h : AH} {r : Go.Value × AH} (hv :
( ((gL (rdC h (Addr.add f_1 1) 0))).bind fun p0 =>
 ((az Tryz.prog n 54 [(.slice p0.1 p0.2.1 p0.2.2),(Value.func (Fn.func 52) (List.toArray []) (List.toArray []))] h)).bind fun p1 =>
 ((gB (some p1.1))).bind fun b2 =>
 cond b2
 (some (ai h0 p1.2 (.bool false)))
 (((gL (rdC p1.2 (Addr.add f_1 4) 0))).bind fun p3 =>
 ((az Tryz.prog n 54 [(.slice p3.1 p3.2.1 p3.2.2),(Value.func (Fn.func 52) (List.toArray []) (List.toArray []))] p1.2)).bind fun p4 =>
 ((gB (some p4.1))).bind fun b5 =>
 cond b5
 (some (ai h0 p4.2 (.bool false)))
 (AX n h0 f_1 p4.2))) = some r) : AW n h0 f_1 h = some r:=fO (plan:=p11) (by kernel_rfl) hv
theorem AZ {n : Nat} {h0 : AH} {f_1 : Addr} {h : AH} {r : Go.Value × AH} (hv :
( ((gS (rdC h f_1 0))).bind fun x0 =>
 ((gL (rdC h f_1 1))).bind fun p1 =>
 ((gL (rdC h f_1 2))).bind fun p2 =>
 ((gL (rdC h f_1 3))).bind fun p3 =>
 ((gL (rdC h f_1 4))).bind fun p4 =>
 ((gL (rdC h f_1 5))).bind fun p5 =>
 ((gL (rdC h (Addr.add f_1 1) 0))).bind fun p6 =>
 cond (Bool.and (bS 0 (Int.ofNat p6.2.1)) (Bool.and (bS (Int.ofNat p6.2.1) (Int.ofNat p6.2.1)) (Bool.and (bS (HMul.hMul (Int.ofNat p6.2.1) 1) 140737488355328) (bZ (Int.ofNat p6.2.1) 9223372036854775808))))
 (((aF h (ei [(.bool false)] (Int.toNat (Int.ofNat p6.2.1))) 1)).bind fun p7 =>
 ((gL (rdC p7.2 (Addr.add f_1 1) 0))).bind fun p8 =>
 cond (Bool.and (bS 0 (Int.ofNat p8.2.1)) (Bool.and (bS (Int.ofNat p8.2.1) (Int.ofNat p8.2.1)) (Bool.and (bS (HMul.hMul (Int.ofNat p8.2.1) 8) 140737488355328) (bZ (Int.ofNat p8.2.1) 9223372036854775808))))
 (((aF p7.2 (ei [(.int .i64 0)] (Int.toNat (Int.ofNat p8.2.1))) 1)).bind fun p9 =>
 ((aF p9.2 [(.string x0),(.slice p1.1 p1.2.1 p1.2.2),(.slice p2.1 p2.2.1 p2.2.2),(.slice p3.1 p3.2.1 p3.2.2),(.slice p4.1 p4.2.1 p4.2.2),(.slice p5.1 p5.2.1 p5.2.2),(.slice (some ⟨p7.1,0,none⟩) (Int.toNat (Int.ofNat p6.2.1)) (Int.toNat (Int.ofNat p6.2.1))),(.slice (some ⟨p9.1,0,none⟩) (Int.toNat (Int.ofNat p8.2.1)) (Int.toNat (Int.ofNat p8.2.1)))] 0)).bind fun p10 =>
 ((gL (rdC p10.2 (Addr.add f_1 5) 0))).bind fun p11 =>
 xh n n h0 ⟨p10.1,0,none⟩ p11.1 p11.2.1 p11.2.2 (Int.ofNat p11.2.1) 0 p10.2)
 (none))
 (none)) = some r) : AX n h0 f_1 h = some r:=fO (plan:=p11) (by kernel_rfl) hv
theorem tF {n m0 : Nat} {h0 : AH} {c_4 : Addr} {t_62 : Option Addr} {t_62n t_62c : Nat} {t_63 t_64 : Int} {h : AH} {r : Go.Value × AH} (hv :
( cond (bZ t_64 t_63)
 ((t_62).bind fun a0 =>
 cond (bM t_64 t_62n)
 (((gL (rdC h (Addr.add a0 ((Int.toNat t_64) * 9)) 0))).bind fun p1 =>
 ((gL (rdC h (Addr.add a0 ((Int.toNat t_64) * 9)) 1))).bind fun p2 =>
 ((gI .i64 (rdC h (Addr.add a0 ((Int.toNat t_64) * 9)) 2))).bind fun n3 =>
 ((gI .i64 (rdC h (Addr.add a0 ((Int.toNat t_64) * 9)) 3))).bind fun n4 =>
 ((gL (rdC h (Addr.add a0 ((Int.toNat t_64) * 9)) 4))).bind fun p5 =>
 ((gL (rdC h (Addr.add a0 ((Int.toNat t_64) * 9)) 5))).bind fun p6 =>
 ((gI .i64 (rdC h (Addr.add a0 ((Int.toNat t_64) * 9)) 6))).bind fun n7 =>
 ((gI .i64 (rdC h (Addr.add a0 ((Int.toNat t_64) * 9)) 7))).bind fun n8 =>
 ((gI .i64 (rdC h (Addr.add a0 ((Int.toNat t_64) * 9)) 8))).bind fun n9 =>
 ((aF h [(.slice none 0 0),(.slice none 0 0),(.int .i64 0),(.int .i64 0),(.slice none 0 0),(.slice none 0 0),(.int .i64 0),(.int .i64 0),(.int .i64 0)] 0)).bind fun p10 =>
 ((di p10.2 ⟨p10.1,0,none⟩ [(.slice p1.1 p1.2.1 p1.2.2),(.slice p2.1 p2.2.1 p2.2.2),(.int .i64 n3),(.int .i64 n4),(.slice p5.1 p5.2.1 p5.2.2),(.slice p6.1 p6.2.1 p6.2.2),(.int .i64 n7),(.int .i64 n8),(.int .i64 n9)])).bind fun x11 =>
 ((gL (rdC x11 ⟨p10.1,0,none⟩ 0))).bind fun p12 =>
 ((gL (rdC x11 ⟨p10.1,0,none⟩ 1))).bind fun p13 =>
 ((gI .i64 (rdC x11 ⟨p10.1,0,none⟩ 2))).bind fun n14 =>
 ((gI .i64 (rdC x11 ⟨p10.1,0,none⟩ 3))).bind fun n15 =>
 ((gL (rdC x11 ⟨p10.1,0,none⟩ 4))).bind fun p16 =>
 ((gL (rdC x11 ⟨p10.1,0,none⟩ 5))).bind fun p17 =>
 ((gI .i64 (rdC x11 ⟨p10.1,0,none⟩ 6))).bind fun n18 =>
 ((gI .i64 (rdC x11 ⟨p10.1,0,none⟩ 7))).bind fun n19 =>
 ((gI .i64 (rdC x11 ⟨p10.1,0,none⟩ 8))).bind fun n20 =>
 ((az Tryz.prog n 55 [(.pointer (some c_4)),(.agg #[(.slice p12.1 p12.2.1 p12.2.2),(.slice p13.1 p13.2.1 p13.2.2),(.int .i64 n14),(.int .i64 n15),(.slice p16.1 p16.2.1 p16.2.2),(.slice p17.1 p17.2.1 p17.2.2),(.int .i64 n18),(.int .i64 n19),(.int .i64 n20)]),(.int .i64 t_64)] x11)).bind fun gQ =>
 ((gB (some gQ.1))).bind fun b22 =>
 cond (Bool.not b22)
 (some (ai h0 gQ.2 (.bool false)))
 (xh n m0 h0 c_4 t_62 t_62n t_62c t_63 (aT .i64 t_64 1) gQ.2))
 (none))
 (some (ai h0 h (.bool true)))) = some r) : xh n (m0 + 1) h0 c_4 t_62 t_62n t_62c t_63 t_64 h = some r:=gV (plan:=p11) (by kernel_rfl) hv
def p32 : List (List Nat × List Nat):=[([1,1],[0]),([0,1,0,1,1],[14,15,16]),([1,1,0,0,1,1,0,0,1,0,1,1],[3,4,5,14,15,16])]
 noncomputable def EG (n : Nat) (h0 : AH) (s_0 : ByteArray) (h : AH) : Option (Go.Value × AH):=aO Tryz.prog n Tryz.f50 h0 (.code (aB (av Tryz.f50) [1,1]) [1,1]) [] (E [(0,.string s_0)]) h
 noncomputable def tG (n m0 : Nat) (h0 : AH) (t_14 : Option Addr) (t_14n t_14c : Nat) (t_15 t_16 : Int) (h : AH) : Option (Go.Value × AH):=aO Tryz.prog n Tryz.f50 h0 (.head (aB (av Tryz.f50) [1,1,0,1,0,0]) [0,1,0,1,1] m0) [.block 0,.seq (aB (av Tryz.f50) [1,1,1]) [1,1,1]] (E [(14,.slice t_14 t_14n t_14c),(15,.int .i64 t_15),(16,.int .i64 t_16)]) h
 noncomputable def lV (n m0 : Nat) (h0 : AH) (i_3 c_4 : Int) (letter_5 : Bool) (t_14 : Option Addr) (t_14n t_14c : Nat) (t_15 t_16 : Int) (h : AH) : Option (Go.Value × AH):=aO Tryz.prog n Tryz.f50 h0 (.code (aB (av Tryz.f50) [1,1,0,1,0,0,1,1,0,0,1,1]) [1,1,0,0,1,1,0,0,1,0,1,1]) [.block 1,.seq (aB (av Tryz.f50) [1,1,0,1,0,0,1,1,1]) [1,1,1,0,0,1,0,1,1],.loop (aB (av Tryz.f50) [1,1,0,1,0,0]) [0,1,0,1,1] m0,.block 0,.seq (aB (av Tryz.f50) [1,1,1]) [1,1,1]] (E [(3,.int .i64 i_3),(4,.int .u8 c_4),(5,.bool letter_5),(14,.slice t_14 t_14n t_14c),(15,.int .i64 t_15),(16,.int .i64 t_16)]) h
theorem FY {n : Nat} {s_0 : ByteArray} {h : AH} {r : Go.Value × AH} (hv :
( cond (BEq.beq (ByteArray.toList s_0) [])
 (some (ai h (setLow h h.next) (.bool false)))
 (cond (bZ 64 (Int.ofNat (ByteArray.size s_0)))
 (some (ai h (setLow h h.next) (.bool false)))
 (EG n h s_0 (setLow h h.next)))) = some r) : az Tryz.prog (n + 1) 50 [(.string s_0)] h = some r:=eO (plan:=p32) (by kernel_rfl) hv
theorem Ba {n : Nat} {h0 : AH} {s_0 : ByteArray} {h : AH} {r : Go.Value × AH} (hv :
( tG n n h0 (some ⟨h.next,0,none⟩) (ByteArray.size s_0) 9223372036854775808 (Int.ofNat (ByteArray.size s_0)) 0 (AH.new h (cV s_0) 1).2) = some r) : EG n h0 s_0 h = some r:=fO (plan:=p32) (by kernel_rfl) hv
theorem tH {n m0 : Nat} {h0 : AH} {t_14 : Option Addr} {t_14n t_14c : Nat} {t_15 t_16 : Int} {h : AH} {r : Go.Value × AH} (hv :
( cond (bZ t_16 t_15)
 ((t_14).bind fun a0 =>
 cond (bM t_16 t_14n)
 (((gI .u8 (rdC h (Addr.add a0 ((Int.toNat t_16) * 1)) 0))).bind fun n1 =>
 cond (aX n1 95)
 (lV n m0 h0 t_16 n1 true t_14 t_14n t_14c t_15 t_16 h)
 (cond (bS 97 n1)
 (cond (bS n1 122)
 (lV n m0 h0 t_16 n1 true t_14 t_14n t_14c t_15 t_16 h)
 (cond (bS 65 n1)
 (lV n m0 h0 t_16 n1 (bS n1 90) t_14 t_14n t_14c t_15 t_16 h)
 (lV n m0 h0 t_16 n1 false t_14 t_14n t_14c t_15 t_16 h)))
 (cond (bS 65 n1)
 (lV n m0 h0 t_16 n1 (bS n1 90) t_14 t_14n t_14c t_15 t_16 h)
 (lV n m0 h0 t_16 n1 false t_14 t_14n t_14c t_15 t_16 h))))
 (none))
 (some (ai h0 h (.bool true)))) = some r) : tG n (m0 + 1) h0 t_14 t_14n t_14c t_15 t_16 h = some r:=gV (plan:=p32) (by kernel_rfl) hv
theorem Bb {n m0 : Nat} {h0 : AH} {i_3 c_4 : Int} {letter_5 : Bool} {t_14 : Option Addr} {t_14n t_14c : Nat} {t_15 t_16 : Int} {h : AH} {r : Go.Value × AH} (hv :
( cond (Bool.not letter_5)
 (cond (aX i_3 0)
 (some (ai h0 h (.bool false)))
 (cond (bZ c_4 48)
 (some (ai h0 h (.bool false)))
 (cond (bZ 57 c_4)
 (some (ai h0 h (.bool false)))
 (tG n m0 h0 t_14 t_14n t_14c t_15 (aT .i64 t_16 1) h))))
 (tG n m0 h0 t_14 t_14n t_14c t_15 (aT .i64 t_16 1) h)) = some r) : lV n m0 h0 i_3 c_4 letter_5 t_14 t_14n t_14c t_15 t_16 h = some r:=fO (plan:=p32) (by kernel_rfl) hv
def p33 : List (List Nat × List Nat):=[([0,1,0,1,1,1],[1,4,12,13,14]),([0,1,0,1,1,1,1],[1,4,46,47,48])]
 noncomputable def xi (n m0 : Nat) (h0 : AH) (f_1 fresh_4a : Addr) (t_12 : Option Addr) (t_12n t_12c : Nat) (t_13 t_14 : Int) (h : AH) : Option (Go.Value × AH):=aO Tryz.prog n Tryz.f51 h0 (.head (aB (av Tryz.f51) [1,1,1,0,1,0,0]) [0,1,0,1,1,1] m0) [.block 0,.seq (aB (av Tryz.f51) [1,1,1,1]) [1,1,1,1]] (E [(1,.pointer (some f_1)),(4,.func (.func 82) #[] #[(.pointer (some fresh_4a))]),(12,.slice t_12 t_12n t_12c),(13,.int .i64 t_13),(14,.int .i64 t_14)]) h
 noncomputable def xj (n m0 : Nat) (h0 : AH) (f_1 fresh_4a : Addr) (t_46 : Option Addr) (t_46n t_46c : Nat) (t_47 t_48 : Int) (h : AH) : Option (Go.Value × AH):=aO Tryz.prog n Tryz.f51 h0 (.head (aB (av Tryz.f51) [1,1,1,1,0,1,0,0]) [0,1,0,1,1,1,1] m0) [.block 2,.seq (aB (av Tryz.f51) [1,1,1,1,1]) [1,1,1,1,1]] (E [(1,.pointer (some f_1)),(4,.func (.func 82) #[] #[(.pointer (some fresh_4a))]),(46,.slice t_46 t_46n t_46c),(47,.int .i64 t_47),(48,.int .i64 t_48)]) h
theorem F7 {n : Nat} {f_0a : ByteArray} {f_0b : Option Addr} {f_0bn f_0bc : Nat} {f_0c : Option Addr} {f_0cn f_0cc : Nat} {f_0d : Option Addr} {f_0dn f_0dc : Nat} {f_0e : Option Addr} {f_0en f_0ec : Nat} {f_0f : Option Addr} {f_0fn f_0fc : Nat} {h : AH} {r : Go.Value × AH} (hv :
( ((aF (setLow h h.next) [(.string f_0a),(.slice f_0b f_0bn f_0bc),(.slice f_0c f_0cn f_0cc),(.slice f_0d f_0dn f_0dc),(.slice f_0e f_0en f_0ec),(.slice f_0f f_0fn f_0fc)] 0)).bind fun p0 =>
 ((aF (AH.newMap p0.2) [(Value.map none)] 0)).bind fun p1 =>
 ((di p1.2 ⟨p1.1,0,none⟩ [(Value.map (some p0.2.next))])).bind fun x2 =>
 ((gL (rdC x2 (Addr.add ⟨p0.1,0,none⟩ 2) 0))).bind fun p3 =>
 xi n n h ⟨p0.1,0,none⟩ ⟨p1.1,0,none⟩ p3.1 p3.2.1 p3.2.2 (Int.ofNat p3.2.1) 0 x2) = some r) : az Tryz.prog (n + 1) 51 [(.agg #[(.string f_0a),(.slice f_0b f_0bn f_0bc),(.slice f_0c f_0cn f_0cc),(.slice f_0d f_0dn f_0dc),(.slice f_0e f_0en f_0ec),(.slice f_0f f_0fn f_0fc)])] h = some r:=eO (plan:=p33) (by kernel_rfl) hv
theorem tI {n m0 : Nat} {h0 : AH} {f_1 fresh_4a : Addr} {t_12 : Option Addr} {t_12n t_12c : Nat} {t_13 t_14 : Int} {h : AH} {r : Go.Value × AH} (hv :
( cond (bZ t_14 t_13)
 ((t_12).bind fun a0 =>
 cond (bM t_14 t_12n)
 (((gS (rdC h (Addr.add a0 ((Int.toNat t_14) * 5)) 0))).bind fun x1 =>
 ((gI .i64 (rdC h (Addr.add a0 ((Int.toNat t_14) * 5)) 1))).bind fun n2 =>
 ((gI .i64 (rdC h (Addr.add a0 ((Int.toNat t_14) * 5)) 2))).bind fun n3 =>
 ((gI .i64 (rdC h (Addr.add a0 ((Int.toNat t_14) * 5)) 3))).bind fun n4 =>
 ((gI .i64 (rdC h (Addr.add a0 ((Int.toNat t_14) * 5)) 4))).bind fun n5 =>
 ((aF h [(.string (ByteArray.mk (List.toArray []))),(.int .i64 0),(.int .i64 0),(.int .i64 0),(.int .i64 0)] 0)).bind fun p6 =>
 ((di p6.2 ⟨p6.1,0,none⟩ [(.string x1),(.int .i64 n2),(.int .i64 n3),(.int .i64 n4),(.int .i64 n5)])).bind fun x7 =>
 ((gS (rdC x7 (Addr.add ⟨p6.1,0,none⟩ 0) 0))).bind fun x8 =>
 ((az Tryz.prog n 82 [(.string x8),(.pointer (some fresh_4a))] x7)).bind fun p9 =>
 ((gB (some p9.1))).bind fun b10 =>
 cond (Bool.not b10)
 (some (ai h0 p9.2 (.bool false)))
 (((gI .i64 (rdC p9.2 (Addr.add ⟨p6.1,0,none⟩ 1) 0))).bind fun n11 =>
 ((az Tryz.prog n 53 [(.int .i64 n11)] p9.2)).bind fun p12 =>
 ((gB (some p12.1))).bind fun b13 =>
 cond (Bool.not b13)
 (some (ai h0 p12.2 (.bool false)))
 (((gI .i64 (rdC p12.2 (Addr.add ⟨p6.1,0,none⟩ 2) 0))).bind fun n14 =>
 cond (bZ n14 1)
 (some (ai h0 p12.2 (.bool false)))
 (((gI .i64 (rdC p12.2 (Addr.add ⟨p6.1,0,none⟩ 2) 0))).bind fun n15 =>
 cond (bZ 4096 n15)
 (some (ai h0 p12.2 (.bool false)))
 (((gS (rdC p12.2 ⟨p6.1,0,none⟩ 0))).bind fun x16 =>
 ((gI .i64 (rdC p12.2 ⟨p6.1,0,none⟩ 1))).bind fun n17 =>
 ((gI .i64 (rdC p12.2 ⟨p6.1,0,none⟩ 2))).bind fun n18 =>
 ((gI .i64 (rdC p12.2 ⟨p6.1,0,none⟩ 3))).bind fun n19 =>
 ((gI .i64 (rdC p12.2 ⟨p6.1,0,none⟩ 4))).bind fun n20 =>
 ((az Tryz.prog n 83 [(.agg #[(.string x16),(.int .i64 n17),(.int .i64 n18),(.int .i64 n19),(.int .i64 n20)])] p12.2)).bind fun gQ =>
 ((gB (some gQ.1))).bind fun b22 =>
 cond (Bool.not b22)
 (some (ai h0 gQ.2 (.bool false)))
 (xi n m0 h0 f_1 fresh_4a t_12 t_12n t_12c t_13 (aT .i64 t_14 1) gQ.2))))))
 (none))
 (((gL (rdC h (Addr.add f_1 3) 0))).bind fun lu =>
 xj n n h0 f_1 fresh_4a lu.1 lu.2.1 lu.2.2 (Int.ofNat lu.2.1) 0 h)) = some r) : xi n (m0 + 1) h0 f_1 fresh_4a t_12 t_12n t_12c t_13 t_14 h = some r:=gV (plan:=p33) (by kernel_rfl) hv
theorem tJ {n m0 : Nat} {h0 : AH} {f_1 fresh_4a : Addr} {t_46 : Option Addr} {t_46n t_46c : Nat} {t_47 t_48 : Int} {h : AH} {r : Go.Value × AH} (hv :
( cond (bZ t_48 t_47)
 ((t_46).bind fun a0 =>
 cond (bM t_48 t_46n)
 (((gS (rdC h (Addr.add a0 ((Int.toNat t_48) * 3)) 0))).bind fun x1 =>
 ((gI .i64 (rdC h (Addr.add a0 ((Int.toNat t_48) * 3)) 1))).bind fun n2 =>
 ((gB (rdC h (Addr.add a0 ((Int.toNat t_48) * 3)) 2))).bind fun b3 =>
 ((aF h [(.string (ByteArray.mk (List.toArray []))),(.int .i64 0),(.bool false)] 0)).bind fun p4 =>
 ((di p4.2 ⟨p4.1,0,none⟩ [(.string x1),(.int .i64 n2),(.bool b3)])).bind fun x5 =>
 ((gS (rdC x5 (Addr.add ⟨p4.1,0,none⟩ 0) 0))).bind fun x6 =>
 ((az Tryz.prog n 82 [(.string x6),(.pointer (some fresh_4a))] x5)).bind fun p7 =>
 ((gB (some p7.1))).bind fun b8 =>
 cond (Bool.not b8)
 (some (ai h0 p7.2 (.bool false)))
 (((gI .i64 (rdC p7.2 (Addr.add ⟨p4.1,0,none⟩ 1) 0))).bind fun n9 =>
 ((az Tryz.prog n 53 [(.int .i64 n9)] p7.2)).bind fun p10 =>
 ((gB (some p10.1))).bind fun b11 =>
 cond (Bool.not b11)
 (some (ai h0 p10.2 (.bool false)))
 (xj n m0 h0 f_1 fresh_4a t_46 t_46n t_46c t_47 (aT .i64 t_48 1) p10.2)))
 (none))
 (((gL (rdC h (Addr.add f_1 2) 0))).bind fun p12 =>
 cond (bS (Int.ofNat p12.2.1) 64)
 (((gL (rdC h (Addr.add f_1 3) 0))).bind fun p13 =>
 some (ai h0 h (.bool (bS (Int.ofNat p13.2.1) 64))))
 (some (ai h0 h (.bool false))))) = some r) : xj n (m0 + 1) h0 f_1 fresh_4a t_46 t_46n t_46c t_47 t_48 h = some r:=gV (plan:=p33) (by kernel_rfl) hv
def rE : List (List Nat × List Nat):=[]
theorem F9 {n : Nat} {w_0 : Int} {h : AH} {r : Go.Value × AH} (hv :
( ((az Tryz.prog n 53 [(.int .i64 w_0)] (setLow h h.next))).bind fun p0 =>
 ((gB (some p0.1))).bind fun b1 =>
 some (ai h p0.2 (.bool (Bool.not b1)))) = some r) : az Tryz.prog (n + 1) 52 [(.int .i64 w_0)] h = some r:=eO (plan:=rE) (by kernel_rfl) hv
def i5 : List (List Nat × List Nat):=[]
theorem Ga {n : Nat} {w_0 : Int} {h : AH} {r : Go.Value × AH} (hv :
( cond (bS 1 w_0)
 (some (ai h (setLow h h.next) (.bool (bS w_0 64))))
 (some (ai h (setLow h h.next) (.bool false)))) = some r) : az Tryz.prog (n + 1) 53 [(.int .i64 w_0)] h = some r:=eO (plan:=i5) (by kernel_rfl) hv
def qZ : List (List Nat × List Nat):=[([1,1],[0,2,4]),([0,1,0,1,1],[0,2,4,46,47,48]),([0,1,0,1,1,1],[0,2,4,59,60,61])]
 noncomputable def Bc (n : Nat) (h0 : AH) (c_0 : Addr) (b_2 : Int) (x_4 : Addr) (h : AH) : Option (Go.Value × AH):=aO Tryz.prog n Tryz.f55 h0 (.code (aB (av Tryz.f55) [1,1]) [1,1]) [] (E [(0,.pointer (some c_0)),(2,.int .i64 b_2),(4,.pointer (some x_4))]) h
 noncomputable def xk (n m0 : Nat) (h0 : AH) (c_0 : Addr) (b_2 : Int) (x_4 : Addr) (t_46 : Option Addr) (t_46n t_46c : Nat) (t_47 t_48 : Int) (h : AH) : Option (Go.Value × AH):=aO Tryz.prog n Tryz.f55 h0 (.head (aB (av Tryz.f55) [1,1,0,1,0,0]) [0,1,0,1,1] m0) [.block 0,.seq (aB (av Tryz.f55) [1,1,1]) [1,1,1]] (E [(0,.pointer (some c_0)),(2,.int .i64 b_2),(4,.pointer (some x_4)),(46,.slice t_46 t_46n t_46c),(47,.int .i64 t_47),(48,.int .i64 t_48)]) h
 noncomputable def tK (n m0 : Nat) (h0 : AH) (c_0 : Addr) (b_2 : Int) (x_4 : Addr) (t_59 : Option Addr) (t_59n t_59c : Nat) (t_60 t_61 : Int) (h : AH) : Option (Go.Value × AH):=aO Tryz.prog n Tryz.f55 h0 (.head (aB (av Tryz.f55) [1,1,1,0,1,0,0]) [0,1,0,1,1,1] m0) [.block 2,.seq (aB (av Tryz.f55) [1,1,1,1]) [1,1,1,1]] (E [(0,.pointer (some c_0)),(2,.int .i64 b_2),(4,.pointer (some x_4)),(59,.slice t_59 t_59n t_59c),(60,.int .i64 t_60),(61,.int .i64 t_61)]) h
theorem Gb {n : Nat} {c_0 : Addr} {x_1a : Option Addr} {x_1an x_1ac : Nat} {x_1b : Option Addr} {x_1bn x_1bc : Nat} {x_1c x_1d : Int} {x_1e : Option Addr} {x_1en x_1ec : Nat} {x_1f : Option Addr} {x_1fn x_1fc : Nat} {x_1g x_1h x_1i b_2 : Int} {h : AH} {r : Go.Value × AH} (hv :
( ((aF (setLow h h.next) [(.slice x_1a x_1an x_1ac),(.slice x_1b x_1bn x_1bc),(.int .i64 x_1c),(.int .i64 x_1d),(.slice x_1e x_1en x_1ec),(.slice x_1f x_1fn x_1fc),(.int .i64 x_1g),(.int .i64 x_1h),(.int .i64 x_1i)] 0)).bind fun p0 =>
 ((gL (rdC p0.2 (Addr.add ⟨p0.1,0,none⟩ 1) 0))).bind fun p1 =>
 cond (bZ 4096 (Int.ofNat p1.2.1))
 (some (ai h p0.2 (.bool false)))
 (((gI .i64 (rdC p0.2 (Addr.add ⟨p0.1,0,none⟩ 6) 0))).bind fun n2 =>
 cond (bZ n2 0)
 (some (ai h p0.2 (.bool false)))
 (((gI .i64 (rdC p0.2 (Addr.add ⟨p0.1,0,none⟩ 6) 0))).bind fun n3 =>
 cond (bZ 256 n3)
 (some (ai h p0.2 (.bool false)))
 (((gI .i64 (rdC p0.2 (Addr.add ⟨p0.1,0,none⟩ 7) 0))).bind fun n4 =>
 cond (bZ n4 0)
 (some (ai h p0.2 (.bool false)))
 (((gI .i64 (rdC p0.2 (Addr.add ⟨p0.1,0,none⟩ 7) 0))).bind fun n5 =>
 cond (bZ 64 n5)
 (some (ai h p0.2 (.bool false)))
 (((gI .i64 (rdC p0.2 (Addr.add ⟨p0.1,0,none⟩ 8) 0))).bind fun n6 =>
 cond (bZ n6 0)
 (some (ai h p0.2 (.bool false)))
 (((gI .i64 (rdC p0.2 (Addr.add ⟨p0.1,0,none⟩ 8) 0))).bind fun n7 =>
 cond (bZ 2147483647 n7)
 (some (ai h p0.2 (.bool false)))
 (Bc n h c_0 b_2 ⟨p0.1,0,none⟩ p0.2)))))))) = some r) : az Tryz.prog (n + 1) 55 [(.pointer (some c_0)),(.agg #[(.slice x_1a x_1an x_1ac),(.slice x_1b x_1bn x_1bc),(.int .i64 x_1c),(.int .i64 x_1d),(.slice x_1e x_1en x_1ec),(.slice x_1f x_1fn x_1fc),(.int .i64 x_1g),(.int .i64 x_1h),(.int .i64 x_1i)]),(.int .i64 b_2)] h = some r:=eO (plan:=qZ) (by kernel_rfl) hv
theorem Bd {n : Nat} {h0 : AH} {c_0 : Addr} {b_2 : Int} {x_4 : Addr} {h : AH} {r : Go.Value × AH} (hv :
( ((gL (rdC h (Addr.add x_4 0) 0))).bind fun p0 =>
 xk n n h0 c_0 b_2 x_4 p0.1 p0.2.1 p0.2.2 (Int.ofNat p0.2.1) 0 h) = some r) : Bc n h0 c_0 b_2 x_4 h = some r:=fO (plan:=qZ) (by kernel_rfl) hv
theorem tL {n m0 : Nat} {h0 : AH} {c_0 : Addr} {b_2 : Int} {x_4 : Addr} {t_46 : Option Addr} {t_46n t_46c : Nat} {t_47 t_48 : Int} {h : AH} {r : Go.Value × AH} (hv :
( cond (bZ t_48 t_47)
 ((t_46).bind fun a0 =>
 cond (bM t_48 t_46n)
 (((gI .i64 (rdC h (Addr.add a0 ((Int.toNat t_48) * 1)) 0))).bind fun n1 =>
 ((az Tryz.prog n 85 [(.pointer (some c_0)),(.int .i64 n1),(.int .i64 b_2)] h)).bind fun p2 =>
 ((gB (some p2.1))).bind fun b3 =>
 cond (Bool.not b3)
 (some (ai h0 p2.2 (.bool false)))
 (xk n m0 h0 c_0 b_2 x_4 t_46 t_46n t_46c t_47 (aT .i64 t_48 1) p2.2))
 (none))
 (((gL (rdC h (Addr.add x_4 1) 0))).bind fun p4 =>
 tK n n h0 c_0 b_2 x_4 p4.1 p4.2.1 p4.2.2 (Int.ofNat p4.2.1) 0 h)) = some r) : xk n (m0 + 1) h0 c_0 b_2 x_4 t_46 t_46n t_46c t_47 t_48 h = some r:=gV (plan:=qZ) (by kernel_rfl) hv
theorem tM {n m0 : Nat} {h0 : AH} {c_0 : Addr} {b_2 : Int} {x_4 : Addr} {t_59 : Option Addr} {t_59n t_59c : Nat} {t_60 t_61 : Int} {h : AH} {r : Go.Value × AH} (hv :
( cond (bZ t_61 t_60)
 ((t_59).bind fun a0 =>
 cond (bM t_61 t_59n)
 (((gI .i64 (rdC h (Addr.add a0 ((Int.toNat t_61) * 5)) 0))).bind fun n1 =>
 ((gI .i64 (rdC h (Addr.add a0 ((Int.toNat t_61) * 5)) 1))).bind fun n2 =>
 ((gL (rdC h (Addr.add a0 ((Int.toNat t_61) * 5)) 2))).bind fun p3 =>
 ((gI .u64 (rdC h (Addr.add a0 ((Int.toNat t_61) * 5)) 3))).bind fun n4 =>
 ((gI .i64 (rdC h (Addr.add a0 ((Int.toNat t_61) * 5)) 4))).bind fun n5 =>
 ((aF h [(.int .i64 0),(.int .i64 0),(.slice none 0 0),(.int .u64 0),(.int .i64 0)] 0)).bind fun p6 =>
 ((di p6.2 ⟨p6.1,0,none⟩ [(.int .i64 n1),(.int .i64 n2),(.slice p3.1 p3.2.1 p3.2.2),(.int .u64 n4),(.int .i64 n5)])).bind fun x7 =>
 ((gI .i64 (rdC x7 (Addr.add ⟨p6.1,0,none⟩ 0) 0))).bind fun n8 =>
 ((az Tryz.prog n 86 [(.int .i64 n8)] (setLow x7 x7.next))).bind fun p9 =>
 ((gI .i64 (some p9.1))).bind fun n10 =>
 cond (Nat.beq p9.2.low x7.next)
 (((gL (rdC (setLow p9.2 x7.low) (Addr.add ⟨p6.1,0,none⟩ 2) 0))).bind fun p11 =>
 cond (gz n10 (Int.ofNat p11.2.1))
 (some (ai h0 (setLow p9.2 x7.low) (.bool false)))
 (((gL (rdC (setLow p9.2 x7.low) (Addr.add ⟨p6.1,0,none⟩ 2) 0))).bind fun p12 =>
 ((az Tryz.prog n 87 [(.pointer (some c_0)),(.slice p12.1 p12.2.1 p12.2.2),(.int .i64 b_2)] (setLow (setLow p9.2 x7.low) (setLow p9.2 x7.low).next))).bind fun p13 =>
 ((gB (some p13.1))).bind fun b14 =>
 cond (Nat.beq p13.2.low (setLow p9.2 x7.low).next)
 (cond (Bool.not b14)
 (some (ai h0 (setLow p13.2 (setLow p9.2 x7.low).low) (.bool false)))
 (((gI .i64 (rdC (setLow p13.2 (setLow p9.2 x7.low).low) ⟨p6.1,0,none⟩ 0))).bind fun n15 =>
 ((gI .i64 (rdC (setLow p13.2 (setLow p9.2 x7.low).low) ⟨p6.1,0,none⟩ 1))).bind fun n16 =>
 ((gL (rdC (setLow p13.2 (setLow p9.2 x7.low).low) ⟨p6.1,0,none⟩ 2))).bind fun p17 =>
 ((gI .u64 (rdC (setLow p13.2 (setLow p9.2 x7.low).low) ⟨p6.1,0,none⟩ 3))).bind fun n18 =>
 ((gI .i64 (rdC (setLow p13.2 (setLow p9.2 x7.low).low) ⟨p6.1,0,none⟩ 4))).bind fun n19 =>
 ((az Tryz.prog n 88 [(.pointer (some c_0)),(.agg #[(.int .i64 n15),(.int .i64 n16),(.slice p17.1 p17.2.1 p17.2.2),(.int .u64 n18),(.int .i64 n19)])] (setLow (setLow p13.2 (setLow p9.2 x7.low).low) (setLow p13.2 (setLow p9.2 x7.low).low).next))).bind fun jB =>
 ((gB (some jB.1))).bind fun b21 =>
 cond (Nat.beq jB.2.low (setLow p13.2 (setLow p9.2 x7.low).low).next)
 (cond (Bool.not b21)
 (some (ai h0 (setLow jB.2 (setLow p13.2 (setLow p9.2 x7.low).low).low) (.bool false)))
 (((gI .i64 (rdC (setLow jB.2 (setLow p13.2 (setLow p9.2 x7.low).low).low) (Addr.add ⟨p6.1,0,none⟩ 0) 0))).bind fun n22 =>
 ((az Tryz.prog n 89 [(.int .i64 n22)] (setLow (setLow jB.2 (setLow p13.2 (setLow p9.2 x7.low).low).low) (setLow jB.2 (setLow p13.2 (setLow p9.2 x7.low).low).low).next))).bind fun lu =>
 ((gB (some lu.1))).bind fun b24 =>
 cond (Nat.beq lu.2.low (setLow jB.2 (setLow p13.2 (setLow p9.2 x7.low).low).low).next)
 (cond b24
 (((gI .i64 (rdC (setLow lu.2 (setLow jB.2 (setLow p13.2 (setLow p9.2 x7.low).low).low).low) (Addr.add ⟨p6.1,0,none⟩ 1) 0))).bind fun n25 =>
 ((az Tryz.prog n 85 [(.pointer (some c_0)),(.int .i64 n25),(.int .i64 b_2)] (setLow lu.2 (setLow jB.2 (setLow p13.2 (setLow p9.2 x7.low).low).low).low))).bind fun p26 =>
 ((gB (some p26.1))).bind fun b27 =>
 cond (Bool.not b27)
 (some (ai h0 p26.2 (.bool false)))
 (tK n m0 h0 c_0 b_2 x_4 t_59 t_59n t_59c t_60 (aT .i64 t_61 1) p26.2))
 (tK n m0 h0 c_0 b_2 x_4 t_59 t_59n t_59c t_60 (aT .i64 t_61 1) (setLow lu.2 (setLow jB.2 (setLow p13.2 (setLow p9.2 x7.low).low).low).low)))
 (none)))
 (none)))
 (none)))
 (none))
 (none))
 (((gI .i64 (rdC h (Addr.add x_4 2) 0))).bind fun n28 =>
 ((gI .i64 (rdC h (Addr.add x_4 2) 1))).bind fun n29 =>
 ((gL (rdC h (Addr.add x_4 2) 2))).bind fun p30 =>
 ((gL (rdC h (Addr.add x_4 2) 3))).bind fun p31 =>
 ((az Tryz.prog n 90 [(.pointer (some c_0)),(.agg #[(.int .i64 n28),(.int .i64 n29),(.slice p30.1 p30.2.1 p30.2.2),(.slice p31.1 p31.2.1 p31.2.2)]),(.int .i64 b_2)] h)).bind fun p32 =>
 ((gB (some p32.1))).bind fun b33 =>
 some (ai h0 p32.2 (.bool b33)))) = some r) : tK n (m0 + 1) h0 c_0 b_2 x_4 t_59 t_59n t_59c t_60 t_61 h = some r:=gV (plan:=qZ) (by kernel_rfl) hv
def DS : List (List Nat × List Nat):=[([1,1,1,0,1,0,1],[1,4,10])]
 noncomputable def xl (n : Nat) (h0 : AH) (a_1 : Addr) (t_4 : Int) (t_10 : Bool) (h : AH) : Option (Go.Value × AH):=aO Tryz.prog n Tryz.f83 h0 (.code (aB (av Tryz.f83) [1,0,1,0,1,1,1]) [1,1,1,0,1,0,1]) [.block 0,.seq (aB (av Tryz.f83) [1,1]) [1,1]] (E [(1,.pointer (some a_1)),(4,.int .i64 t_4),(10,.bool t_10)]) h
theorem Gc {n : Nat} {a_0a : ByteArray} {a_0b a_0c a_0d a_0e : Int} {h : AH} {r : Go.Value × AH} (hv :
( ((aF (setLow h h.next) [(.string a_0a),(.int .i64 a_0b),(.int .i64 a_0c),(.int .i64 a_0d),(.int .i64 a_0e)] 0)).bind fun p0 =>
 ((gI .i64 (rdC p0.2 (Addr.add ⟨p0.1,0,none⟩ 3) 0))).bind fun n1 =>
 cond (aX n1 0)
 (((gI .i64 (rdC p0.2 (Addr.add ⟨p0.1,0,none⟩ 4) 0))).bind fun n2 =>
 some (ai h p0.2 (.bool (aX n2 0))))
 (cond (aX n1 1)
 (xl n h ⟨p0.1,0,none⟩ n1 true p0.2)
 (xl n h ⟨p0.1,0,none⟩ n1 (aX n1 2) p0.2))) = some r) : az Tryz.prog (n + 1) 83 [(.agg #[(.string a_0a),(.int .i64 a_0b),(.int .i64 a_0c),(.int .i64 a_0d),(.int .i64 a_0e)])] h = some r:=eO (plan:=DS) (by kernel_rfl) hv
theorem Be {n : Nat} {h0 : AH} {a_1 : Addr} {t_4 : Int} {t_10 : Bool} {h : AH} {r : Go.Value × AH} (hv :
( cond t_10
 (((gI .i64 (rdC h (Addr.add a_1 4) 0))).bind fun n0 =>
 cond (bS 1 n0)
 (((gI .i64 (rdC h (Addr.add a_1 4) 0))).bind fun n1 =>
 ((gI .i64 (rdC h (Addr.add a_1 2) 0))).bind fun n2 =>
 some (ai h0 h (.bool (bS n1 (fM n2 64)))))
 (some (ai h0 h (.bool false))))
 (cond (aX t_4 3)
 (((gI .i64 (rdC h (Addr.add a_1 4) 0))).bind fun n3 =>
 cond (aX n3 0)
 (((gI .i64 (rdC h (Addr.add a_1 2) 0))).bind fun n4 =>
 some (ai h0 h (.bool (bS n4 64))))
 (some (ai h0 h (.bool false))))
 (some (ai h0 h (.bool false))))) = some r) : xl n h0 a_1 t_4 t_10 h = some r:=fO (plan:=DS) (by kernel_rfl) hv
def DT : List (List Nat × List Nat):=[([1,1],[0,1,2])]
 noncomputable def EH (n : Nat) (h0 : AH) (c_0 : Addr) (v_1 b_2 : Int) (h : AH) : Option (Go.Value × AH):=aO Tryz.prog n Tryz.f85 h0 (.code (aB (av Tryz.f85) [1,1]) [1,1]) [] (E [(0,.pointer (some c_0)),(1,.int .i64 v_1),(2,.int .i64 b_2)]) h
 noncomputable def Gd (N : jS) (n : Nat) (c_0 : Addr) (v_1 b_2 : Int) (h : AH) : Option (Go.Value × AH):=oQ Tryz.prog (az Tryz.prog n) n DT N (aO Tryz.prog n) 85 [(.pointer (some c_0)),(.int .i64 v_1),(.int .i64 b_2)] h
theorem Ge {n : Nat} {c_0 : Addr} {v_1 b_2 : Int} {h : AH} {r : Go.Value × AH} (hv : Gd aF n c_0 v_1 b_2 h = some r) : az Tryz.prog (n + 1) 85 [(.pointer (some c_0)),(.int .i64 v_1),(.int .i64 b_2)] h = some r:=qY hv
theorem Lu (N : jS) (n : Nat) (c_0 : Addr) (v_1 b_2 : Int) (h : AH) : Gd N n c_0 v_1 b_2 h =
 cond (bZ v_1 0)
 (some (ai h (setLow h h.next) (.bool false)))
 ((gL (rdC (setLow h h.next) (Addr.add c_0 6) 0)).bind fun p0 =>
 cond (bS (Int.ofNat p0.2.1) v_1)
 (some (ai h (setLow h h.next) (.bool false)))
 ((gL (rdC (setLow h h.next) (Addr.add c_0 6) 0)).bind fun p1 =>
 (p1.1).bind fun a2 =>
 cond (bM v_1 p1.2.1)
 ((gB (rdC (setLow h h.next) (Addr.add a2 ((Int.toNat v_1) * 1)) 0)).bind fun b3 =>
 cond b3
 (some (ai h (setLow h h.next) (.bool false)))
 (EH n h c_0 v_1 b_2 (setLow h h.next)))
 (none))):=by kernel_rfl
theorem Bf {n : Nat} {h0 : AH} {c_0 : Addr} {v_1 b_2 : Int} {h : AH} {r : Go.Value × AH} (hv :
( ((gL (rdC h (Addr.add c_0 6) 0))).bind fun p0 =>
 ((gL (rdC h (Addr.add c_0 7) 0))).bind fun p1 =>
 (p0.1).bind fun a2 =>
 cond (bM v_1 p0.2.1)
 (((di h (Addr.add a2 ((Int.toNat v_1) * 1)) [(.bool true)])).bind fun x3 =>
 (p1.1).bind fun a4 =>
 cond (bM v_1 p1.2.1)
 (((di x3 (Addr.add a4 ((Int.toNat v_1) * 1)) [(.int .i64 (aT .i64 b_2 1))])).bind fun x5 =>
 some (ai h0 x5 (.bool true)))
 (none))
 (none)) = some r) : EH n h0 c_0 v_1 b_2 h = some r:=fO (plan:=DT) (by kernel_rfl) hv
def CP : List (List Nat × List Nat):=[([1,1,1,0,0,1],[0,6]),([1,1,1,1,1,0,0,1],[0,13])]
 noncomputable def tN (n : Nat) (h0 : AH) (op_0 : Int) (t_6 : Bool) (h : AH) : Option (Go.Value × AH):=aO Tryz.prog n Tryz.f86 h0 (.code (aB (av Tryz.f86) [1,0,0,1,1,1]) [1,1,1,0,0,1]) [.block 0,.seq (aB (av Tryz.f86) [1,1]) [1,1]] (E [(0,.int .i64 op_0),(6,.bool t_6)]) h
 noncomputable def xm (n : Nat) (h0 : AH) (op_0 : Int) (t_13 : Bool) (h : AH) : Option (Go.Value × AH):=aO Tryz.prog n Tryz.f86 h0 (.code (aB (av Tryz.f86) [1,0,0,1,1,1,1,1]) [1,1,1,1,1,0,0,1]) [.block 0,.seq (aB (av Tryz.f86) [1,1]) [1,1]] (E [(0,.int .i64 op_0),(13,.bool t_13)]) h
theorem Gf {n : Nat} {op_0 : Int} {h : AH} {r : Go.Value × AH} (hv :
( cond (aX op_0 1)
 (some (ai h (setLow h h.next) (.int .i64 0)))
 (((az Tryz.prog n 113 [(.int .i64 op_0)] (setLow h h.next))).bind fun p0 =>
 ((gB (some p0.1))).bind fun b1 =>
 cond b1
 (tN n h op_0 true p0.2)
 (cond (aX op_0 25)
 (tN n h op_0 true p0.2)
 (tN n h op_0 (aX op_0 28) p0.2)))) = some r) : az Tryz.prog (n + 1) 86 [(.int .i64 op_0)] h = some r:=eO (plan:=CP) (by kernel_rfl) hv
theorem Bg {n : Nat} {h0 : AH} {op_0 : Int} {t_6 : Bool} {h : AH} {r : Go.Value × AH} (hv :
( cond t_6
 (some (ai h0 h (.int .i64 2)))
 (cond (aX op_0 21)
 (xm n h0 op_0 true h)
 (xm n h0 op_0 (aX op_0 26) h))) = some r) : tN n h0 op_0 t_6 h = some r:=fO (plan:=CP) (by kernel_rfl) hv
theorem Bh {n : Nat} {h0 : AH} {op_0 : Int} {t_13 : Bool} {h : AH} {r : Go.Value × AH} (hv :
( cond t_13
 (some (ai h0 h (.int .i64 3)))
 (cond (aX op_0 22)
 (some (ai h0 h (.int .i64 1)))
 (cond (aX op_0 23)
 (some (ai h0 h (.int .i64 1)))
 (cond (aX op_0 24)
 (some (ai h0 h (.int .i64 1)))
 (cond (aX op_0 27)
 (some (ai h0 h (.int .i64 1)))
 (some (ai h0 h (.int .i64 (-1))))))))) = some r) : xm n h0 op_0 t_13 h = some r:=fO (plan:=CP) (by kernel_rfl) hv
def Hx : List (List Nat × List Nat):=[([0,1,0,1],[0,2,9,10,11])]
section
variable (N : jS) (n m0 : Nat) (h0 : AH) (c_0 : Addr) (b_2 : Int) (t_9 : Option Addr) (t_9n t_9c : Nat) (t_10 t_11 : Int) (h : AH)
 noncomputable def xn : Option (Go.Value × AH):=aO Tryz.prog n Tryz.f87 h0 (.head (aB (av Tryz.f87) [1,0,1,0,0]) [0,1,0,1] m0) [.block 0,.seq (aB (av Tryz.f87) [1,1]) [1,1]] (E [(0,.pointer (some c_0)),(2,.int .i64 b_2),(9,.slice t_9 t_9n t_9c),(10,.int .i64 t_10),(11,.int .i64 t_11)]) h
 noncomputable def vE : Option (Go.Value × AH):=iZ Tryz.prog (az Tryz.prog n) n Tryz.f87 h0 Hx N (aO Tryz.prog n Tryz.f87 h0) (aB (av Tryz.f87) [1,0,1,0,0]) [0,1,0,1] m0 [.block 0,.seq (aB (av Tryz.f87) [1,1]) [1,1]] (E [(0,.pointer (some c_0)),(2,.int .i64 b_2),(9,.slice t_9 t_9n t_9c),(10,.int .i64 t_10),(11,.int .i64 t_11)]) h
variable {n m0} {h0} {c_0 b_2 t_9 t_9n t_9c t_10 t_11} {h}
theorem tO {r : Go.Value × AH} (hv : vE aF n m0 h0 c_0 b_2 t_9 t_9n t_9c t_10 t_11 h = some r) : xn n (m0 + 1) h0 c_0 b_2 t_9 t_9n t_9c t_10 t_11 h = some r:=i4 hv
end
theorem Gg {n : Nat} {c_0 : Addr} {l_1 : Option Addr} {l_1n l_1c : Nat} {b_2 : Int} {h : AH} {r : Go.Value × AH} (hv :
( xn n n h c_0 b_2 l_1 l_1n l_1c (Int.ofNat l_1n) 0 (setLow h h.next)) = some r) : az Tryz.prog (n + 1) 87 [(.pointer (some c_0)),(.slice l_1 l_1n l_1c),(.int .i64 b_2)] h = some r:=eO (plan:=Hx) (by kernel_rfl) hv
theorem tP (N : jS) (n m0 : Nat) (h0 : AH) (c_0 : Addr) (b_2 : Int) (t_9 : Option Addr) (t_9n t_9c : Nat) (t_10 t_11 : Int) (h : AH) : vE N n m0 h0 c_0 b_2 t_9 t_9n t_9c t_10 t_11 h =
 cond (bZ t_11 t_10)
 ((t_9).bind fun a0 =>
 cond (bM t_11 t_9n)
 ((gI .i64 (rdC h (Addr.add a0 ((Int.toNat t_11) * 1)) 0)).bind fun n1 =>
 cond (bZ n1 0)
 (some (ai h0 h (.bool false)))
 ((gL (rdC h (Addr.add c_0 7) 0)).bind fun p2 =>
 cond (bS (Int.ofNat p2.2.1) n1)
 (some (ai h0 h (.bool false)))
 ((gL (rdC h (Addr.add c_0 7) 0)).bind fun p3 =>
 (p3.1).bind fun a4 =>
 cond (bM n1 p3.2.1)
 ((gI .i64 (rdC h (Addr.add a4 ((Int.toNat n1) * 1)) 0)).bind fun n5 =>
 cond (gz n5 (aT .i64 b_2 1))
 (some (ai h0 h (.bool false)))
 (xn n m0 h0 c_0 b_2 t_9 t_9n t_9c t_10 (aT .i64 t_11 1) h))
 (none))))
 (none))
 (some (ai h0 h (.bool true))):=by kernel_rfl
def Gh : List (List Nat × List Nat):=[([1,1,1],[0,3,5]),([1,0,1,0,1,1,1,1],[0,3,5]),([1,1,1,1,1],[0,3,5,7]),([0,1,0,1,1,1,1,1,1],[0,3,5,7,8,59,60,61]),([1,1,1,1,1,0,1,0,1,1,1,1,1,1,1],[3,5,7,8,78,95]),([1,1,1,1,1,1,1,1],[3,7,8])]
 noncomputable def xp (n : Nat) (h0 : AH) (c_0 in_3 : Addr) (m_5 : Int) (h : AH) : Option (Go.Value × AH):=aO Tryz.prog n Tryz.f88 h0 (.code (aB (av Tryz.f88) [1,1,1]) [1,1,1]) [] (E [(0,.pointer (some c_0)),(3,.pointer (some in_3)),(5,.int .i64 m_5)]) h
 noncomputable def Bi (n : Nat) (h0 : AH) (c_0 in_3 : Addr) (m_5 : Int) (h : AH) : Option (Go.Value × AH):=aO Tryz.prog n Tryz.f88 h0 (.code (aB (av Tryz.f88) [1,1,1,1,0,1,0,1]) [1,0,1,0,1,1,1,1]) [.seq (aB (av Tryz.f88) [1,1,1,1,1]) [1,1,1,1,1]] (E [(0,.pointer (some c_0)),(3,.pointer (some in_3)),(5,.int .i64 m_5)]) h
 noncomputable def xq (n : Nat) (h0 : AH) (c_0 in_3 : Addr) (m_5 w_7 : Int) (h : AH) : Option (Go.Value × AH):=aO Tryz.prog n Tryz.f88 h0 (.code (aB (av Tryz.f88) [1,1,1,1,1]) [1,1,1,1,1]) [] (E [(0,.pointer (some c_0)),(3,.pointer (some in_3)),(5,.int .i64 m_5),(7,.int .i64 w_7)]) h
 noncomputable def xr (n m0 : Nat) (h0 : AH) (c_0 in_3 : Addr) (m_5 w_7 : Int) (a_8 : Addr) (t_59 : Option Addr) (t_59n t_59c : Nat) (t_60 t_61 : Int) (h : AH) : Option (Go.Value × AH):=aO Tryz.prog n Tryz.f88 h0 (.head (aB (av Tryz.f88) [1,1,1,1,1,1,0,1,0,0]) [0,1,0,1,1,1,1,1,1] m0) [.block 0,.seq (aB (av Tryz.f88) [1,1,1,1,1,1,1]) [1,1,1,1,1,1,1]] (E [(0,.pointer (some c_0)),(3,.pointer (some in_3)),(5,.int .i64 m_5),(7,.int .i64 w_7),(8,.pointer (some a_8)),(59,.slice t_59 t_59n t_59c),(60,.int .i64 t_60),(61,.int .i64 t_61)]) h
 noncomputable def xt (n : Nat) (h0 : AH) (in_3 : Addr) (m_5 w_7 : Int) (a_8 : Addr) (t_78 : Int) (t_95 : Bool) (h : AH) : Option (Go.Value × AH):=aO Tryz.prog n Tryz.f88 h0 (.code (aB (av Tryz.f88) [1,1,1,1,1,1,1,0,1,0,1,1,1,1,1]) [1,1,1,1,1,0,1,0,1,1,1,1,1,1,1]) [.block 2,.seq (aB (av Tryz.f88) [1,1,1,1,1,1,1,1]) [1,1,1,1,1,1,1,1]] (E [(3,.pointer (some in_3)),(5,.int .i64 m_5),(7,.int .i64 w_7),(8,.pointer (some a_8)),(78,.int .i64 t_78),(95,.bool t_95)]) h
 noncomputable def Bj (n : Nat) (h0 : AH) (in_3 : Addr) (w_7 : Int) (a_8 : Addr) (h : AH) : Option (Go.Value × AH):=aO Tryz.prog n Tryz.f88 h0 (.code (aB (av Tryz.f88) [1,1,1,1,1,1,1,1]) [1,1,1,1,1,1,1,1]) [] (E [(3,.pointer (some in_3)),(7,.int .i64 w_7),(8,.pointer (some a_8))]) h
theorem Gi {n : Nat} {c_0 : Addr} {in_1a in_1b : Int} {in_1c : Option Addr} {in_1cn in_1cc : Nat} {in_1d in_1e : Int} {h : AH} {r : Go.Value × AH} (hv :
( ((aF (setLow h h.next) [(.int .i64 in_1a),(.int .i64 in_1b),(.slice in_1c in_1cn in_1cc),(.int .u64 in_1d),(.int .i64 in_1e)] 0)).bind fun p0 =>
 ((gI .i64 (rdC p0.2 ⟨p0.1,0,none⟩ 0))).bind fun n1 =>
 ((gI .i64 (rdC p0.2 ⟨p0.1,0,none⟩ 1))).bind fun n2 =>
 ((gL (rdC p0.2 ⟨p0.1,0,none⟩ 2))).bind fun p3 =>
 ((gI .u64 (rdC p0.2 ⟨p0.1,0,none⟩ 3))).bind fun n4 =>
 ((gI .i64 (rdC p0.2 ⟨p0.1,0,none⟩ 4))).bind fun n5 =>
 ((az Tryz.prog n 114 [(.pointer (some c_0)),(.agg #[(.int .i64 n1),(.int .i64 n2),(.slice p3.1 p3.2.1 p3.2.2),(.int .u64 n4),(.int .i64 n5)])] p0.2)).bind fun p6 =>
 cond (nO 2 p6.1)
 (((gI .i64 (mi 0 p6.1))).bind fun n7 =>
 ((gB (mi 1 p6.1))).bind fun b8 =>
 cond (Bool.not b8)
 (some (ai h p6.2 (.bool false)))
 (((gI .u64 (rdC p6.2 (Addr.add ⟨p0.1,0,none⟩ 3) 0))).bind fun n9 =>
 cond (gz n9 0)
 (((gI .i64 (rdC p6.2 (Addr.add ⟨p0.1,0,none⟩ 0) 0))).bind fun n10 =>
 cond (gz n10 1)
 (some (ai h p6.2 (.bool false)))
 (xp n h c_0 ⟨p0.1,0,none⟩ n7 p6.2))
 (xp n h c_0 ⟨p0.1,0,none⟩ n7 p6.2)))
 (none)) = some r) : az Tryz.prog (n + 1) 88 [(.pointer (some c_0)),(.agg #[(.int .i64 in_1a),(.int .i64 in_1b),(.slice in_1c in_1cn in_1cc),(.int .u64 in_1d),(.int .i64 in_1e)])] h = some r:=eO (plan:=Gh) (by kernel_rfl) hv
theorem Bk {n : Nat} {h0 : AH} {c_0 in_3 : Addr} {m_5 : Int} {h : AH} {r : Go.Value × AH} (hv :
( ((gI .i64 (rdC h (Addr.add in_3 0) 0))).bind fun n0 =>
 ((az Tryz.prog n 89 [(.int .i64 n0)] h)).bind fun p1 =>
 ((gB (some p1.1))).bind fun b2 =>
 cond b2
 (((gI .i64 (rdC p1.2 (Addr.add in_3 1) 0))).bind fun n3 =>
 cond (bZ n3 0)
 (some (ai h0 p1.2 (.bool false)))
 (((gI .i64 (rdC p1.2 (Addr.add in_3 1) 0))).bind fun n4 =>
 ((gL (rdC p1.2 (Addr.add (Addr.add c_0 0) 1) 0))).bind fun p5 =>
 cond (bS (Int.ofNat p5.2.1) n4)
 (some (ai h0 p1.2 (.bool false)))
 (Bi n h0 c_0 in_3 m_5 p1.2)))
 (((gI .i64 (rdC p1.2 (Addr.add in_3 1) 0))).bind fun n6 =>
 cond (gz n6 (-1))
 (some (ai h0 p1.2 (.bool false)))
 (xq n h0 c_0 in_3 m_5 0 p1.2))) = some r) : xp n h0 c_0 in_3 m_5 h = some r:=fO (plan:=Gh) (by kernel_rfl) hv
theorem Bl {n : Nat} {h0 : AH} {c_0 in_3 : Addr} {m_5 : Int} {h : AH} {r : Go.Value × AH} (hv :
( ((gL (rdC h (Addr.add (Addr.add c_0 0) 1) 0))).bind fun p0 =>
 ((gI .i64 (rdC h (Addr.add in_3 1) 0))).bind fun n1 =>
 (p0.1).bind fun a2 =>
 cond (bM n1 p0.2.1)
 (((gI .i64 (rdC h (Addr.add a2 ((Int.toNat n1) * 1)) 0))).bind fun n3 =>
 xq n h0 c_0 in_3 m_5 n3 h)
 (none)) = some r) : Bi n h0 c_0 in_3 m_5 h = some r:=fO (plan:=Gh) (by kernel_rfl) hv
theorem Bm {n : Nat} {h0 : AH} {c_0 in_3 : Addr} {m_5 w_7 : Int} {h : AH} {r : Go.Value × AH} (hv :
( ((aF h [(.int .i64 0),(.int .i64 0),(.int .i64 0)] 0)).bind fun p0 =>
 ((gL (rdC p0.2 (Addr.add in_3 2) 0))).bind fun p1 =>
 xr n n h0 c_0 in_3 m_5 w_7 ⟨p0.1,0,none⟩ p1.1 p1.2.1 p1.2.2 (Int.ofNat p1.2.1) 0 p0.2) = some r) : xq n h0 c_0 in_3 m_5 w_7 h = some r:=fO (plan:=Gh) (by kernel_rfl) hv
theorem tQ {n m0 : Nat} {h0 : AH} {c_0 in_3 : Addr} {m_5 w_7 : Int} {a_8 : Addr} {t_59 : Option Addr} {t_59n t_59c : Nat} {t_60 t_61 : Int} {h : AH} {r : Go.Value × AH} (hv :
( cond (bZ t_61 t_60)
 ((t_59).bind fun a0 =>
 cond (bM t_61 t_59n)
 (((gI .i64 (rdC h (Addr.add a0 ((Int.toNat t_61) * 1)) 0))).bind fun n1 =>
 ((gL (rdC h (Addr.add (Addr.add c_0 0) 1) 0))).bind fun p2 =>
 (p2.1).bind fun a3 =>
 cond (bM n1 p2.2.1)
 (((gI .i64 (rdC h (Addr.add a3 ((Int.toNat n1) * 1)) 0))).bind fun n4 =>
 cond (bM t_61 3)
 (((di h (Addr.add a_8 ((Int.toNat t_61) * 1)) [(.int .i64 n4)])).bind fun x5 =>
 xr n m0 h0 c_0 in_3 m_5 w_7 a_8 t_59 t_59n t_59c t_60 (aT .i64 t_61 1) x5)
 (none))
 (none))
 (none))
 (((gI .i64 (rdC h (Addr.add in_3 0) 0))).bind fun n6 =>
 cond (aX n6 1)
 (((gI .u64 (rdC h (Addr.add in_3 3) 0))).bind fun n7 =>
 ((az Tryz.prog n 93 [(.int .i64 w_7),(.int .u64 n7)] (setLow h h.next))).bind fun p8 =>
 ((gI .u64 (some p8.1))).bind fun n9 =>
 cond (Nat.beq p8.2.low h.next)
 (((gI .u64 (rdC (setLow p8.2 h.low) (Addr.add in_3 3) 0))).bind fun n10 =>
 some (ai h0 (setLow p8.2 h.low) (.bool (aX n9 n10))))
 (none))
 (cond (aX n6 21)
 (((gI .i64 (rdC h a_8 0))).bind fun n11 =>
 ((gI .i64 (rdC h a_8 1))).bind fun n12 =>
 ((gI .i64 (rdC h a_8 2))).bind fun n13 =>
 cond (aX n11 1)
 (cond (aX n12 w_7)
 (cond (aX n13 w_7)
 (some (ai h0 h (.bool true)))
 (some (ai h0 h (.bool false))))
 (some (ai h0 h (.bool false))))
 (some (ai h0 h (.bool false))))
 (cond (aX n6 22)
 (xt n h0 in_3 m_5 w_7 a_8 n6 true h)
 (xt n h0 in_3 m_5 w_7 a_8 n6 (aX n6 23) h))))) = some r) : xr n (m0 + 1) h0 c_0 in_3 m_5 w_7 a_8 t_59 t_59n t_59c t_60 t_61 h = some r:=gV (plan:=Gh) (by kernel_rfl) hv
theorem Bn {n : Nat} {h0 : AH} {in_3 : Addr} {m_5 w_7 : Int} {a_8 : Addr} {t_78 : Int} {t_95 : Bool} {h : AH} {r : Go.Value × AH} (hv :
( cond t_95
 (((gI .i64 (rdC h (Addr.add a_8 0) 0))).bind fun n0 =>
 some (ai h0 h (.bool (bZ n0 w_7))))
 (cond (aX t_78 24)
 (((gI .i64 (rdC h (Addr.add a_8 0) 0))).bind fun n1 =>
 some (ai h0 h (.bool (bZ w_7 n1))))
 (cond (aX t_78 25)
 (cond (aX m_5 w_7)
 (((gI .i64 (rdC h (Addr.add a_8 1) 0))).bind fun n2 =>
 some (ai h0 h (.bool (aX n2 1))))
 (some (ai h0 h (.bool false))))
 (cond (aX t_78 26)
 (((gI .i64 (rdC h (Addr.add a_8 1) 0))).bind fun n3 =>
 cond (aX m_5 n3)
 (((gI .i64 (rdC h (Addr.add a_8 2) 0))).bind fun n4 =>
 some (ai h0 h (.bool (aX n4 1))))
 (some (ai h0 h (.bool false))))
 (cond (aX t_78 27)
 (cond (aX m_5 w_7)
 (((gI .i64 (rdC h (Addr.add a_8 0) 0))).bind fun n5 =>
 some (ai h0 h (.bool (aX n5 1))))
 (some (ai h0 h (.bool false))))
 (cond (aX t_78 28)
 (((gI .i64 (rdC h (Addr.add a_8 0) 0))).bind fun n6 =>
 cond (aX m_5 n6)
 (((gI .i64 (rdC h (Addr.add a_8 1) 0))).bind fun n7 =>
 some (ai h0 h (.bool (aX n7 1))))
 (some (ai h0 h (.bool false))))
 (Bj n h0 in_3 w_7 a_8 h))))))) = some r) : xt n h0 in_3 m_5 w_7 a_8 t_78 t_95 h = some r:=fO (plan:=Gh) (by kernel_rfl) hv
theorem Bo {n : Nat} {h0 : AH} {in_3 : Addr} {w_7 : Int} {a_8 : Addr} {h : AH} {r : Go.Value × AH} (hv :
( ((gI .i64 (rdC h (Addr.add in_3 0) 0))).bind fun n0 =>
 ((az Tryz.prog n 115 [(.int .i64 n0)] h)).bind fun p1 =>
 ((gB (some p1.1))).bind fun b2 =>
 cond b2
 (((gI .i64 (rdC p1.2 (Addr.add a_8 0) 0))).bind fun n3 =>
 ((gI .i64 (rdC p1.2 (Addr.add a_8 1) 0))).bind fun n4 =>
 cond (aX n3 n4)
 (some (ai h0 p1.2 (.bool (aX w_7 1))))
 (some (ai h0 p1.2 (.bool false))))
 (((gI .i64 (rdC p1.2 (Addr.add a_8 0) 0))).bind fun n5 =>
 cond (aX n5 w_7)
 (((gI .i64 (rdC p1.2 (Addr.add a_8 1) 0))).bind fun n6 =>
 some (ai h0 p1.2 (.bool (aX n6 w_7))))
 (some (ai h0 p1.2 (.bool false))))) = some r) : Bj n h0 in_3 w_7 a_8 h = some r:=fO (plan:=Gh) (by kernel_rfl) hv
def IU : List (List Nat × List Nat):=[]
theorem Gj {n : Nat} {op_0 : Int} {h : AH} {r : Go.Value × AH} (hv :
( cond (gz op_0 26)
 (some (ai h (setLow h h.next) (.bool (gz op_0 28))))
 (some (ai h (setLow h h.next) (.bool false)))) = some r) : az Tryz.prog (n + 1) 89 [(.int .i64 op_0)] h = some r:=eO (plan:=IU) (by kernel_rfl) hv
def Kz : List (List Nat × List Nat):=[([0,1,0,1],[2,3,4,10,11,12])]
 noncomputable def xu (n m0 : Nat) (h0 : AH) (b_2 : Int) (c_3 t_4 : Addr) (t_10 : Option Addr) (t_10n t_10c : Nat) (t_11 t_12 : Int) (h : AH) : Option (Go.Value × AH):=aO Tryz.prog n Tryz.f90 h0 (.head (aB (av Tryz.f90) [1,0,1,0,0]) [0,1,0,1] m0) [.block 0,.seq (aB (av Tryz.f90) [1,1]) [1,1]] (E [(2,.int .i64 b_2),(3,.pointer (some c_3)),(4,.pointer (some t_4)),(10,.slice t_10 t_10n t_10c),(11,.int .i64 t_11),(12,.int .i64 t_12)]) h
theorem Gk {n : Nat} {c_0 : Addr} {t_1a t_1b : Int} {t_1c : Option Addr} {t_1cn t_1cc : Nat} {t_1d : Option Addr} {t_1dn t_1dc : Nat} {b_2 : Int} {h : AH} {r : Go.Value × AH} (hv :
( ((aF (setLow h h.next) [(.pointer (some c_0))] 0)).bind fun p0 =>
 ((aF p0.2 [(.int .i64 t_1a),(.int .i64 t_1b),(.slice t_1c t_1cn t_1cc),(.slice t_1d t_1dn t_1dc)] 0)).bind fun p1 =>
 ((gL (rdC p1.2 (Addr.add ⟨p1.1,0,none⟩ 2) 0))).bind fun p2 =>
 xu n n h b_2 ⟨p0.1,0,none⟩ ⟨p1.1,0,none⟩ p2.1 p2.2.1 p2.2.2 (Int.ofNat p2.2.1) 0 p1.2) = some r) : az Tryz.prog (n + 1) 90 [(.pointer (some c_0)),(.agg #[(.int .i64 t_1a),(.int .i64 t_1b),(.slice t_1c t_1cn t_1cc),(.slice t_1d t_1dn t_1dc)]),(.int .i64 b_2)] h = some r:=eO (plan:=Kz) (by kernel_rfl) hv
theorem tR {n m0 : Nat} {h0 : AH} {b_2 : Int} {c_3 t_4 : Addr} {t_10 : Option Addr} {t_10n t_10c : Nat} {t_11 t_12 : Int} {h : AH} {r : Go.Value × AH} (hv :
( cond (bZ t_12 t_11)
 ((t_10).bind fun a0 =>
 cond (bM t_12 t_10n)
 (((gI .i64 (rdC h (Addr.add a0 ((Int.toNat t_12) * 2)) 0))).bind fun n1 =>
 ((gL (rdC h (Addr.add a0 ((Int.toNat t_12) * 2)) 1))).bind fun p2 =>
 ((aF h [(.int .i64 0),(.slice none 0 0)] 0)).bind fun p3 =>
 ((di p3.2 ⟨p3.1,0,none⟩ [(.int .i64 n1),(.slice p2.1 p2.2.1 p2.2.2)])).bind fun x4 =>
 ((gP (rdC x4 c_3 0))).bind fun x5 =>
 ((gI .i64 (rdC x4 ⟨p3.1,0,none⟩ 0))).bind fun n6 =>
 ((gL (rdC x4 ⟨p3.1,0,none⟩ 1))).bind fun p7 =>
 ((az Tryz.prog n 116 [(.pointer x5),(.agg #[(.int .i64 n6),(.slice p7.1 p7.2.1 p7.2.2)]),(.int .i64 b_2)] x4)).bind fun p8 =>
 ((gB (some p8.1))).bind fun b9 =>
 cond (Bool.not b9)
 (some (ai h0 p8.2 (.bool false)))
 (xu n m0 h0 b_2 c_3 t_4 t_10 t_10n t_10c t_11 (aT .i64 t_12 1) p8.2))
 (none))
 (((gI .i64 (rdC h (Addr.add t_4 0) 0))).bind fun n10 =>
 cond (aX n10 1)
 (((gL (rdC h (Addr.add t_4 2) 0))).bind fun p11 =>
 cond (aX (Int.ofNat p11.2.1) 1)
 (((gI .i64 (rdC h (Addr.add t_4 1) 0))).bind fun n12 =>
 cond (aX n12 (-1))
 (((gL (rdC h (Addr.add t_4 3) 0))).bind fun p13 =>
 some (ai h0 h (.bool (aX (Int.ofNat p13.2.1) 0))))
 (some (ai h0 h (.bool false))))
 (some (ai h0 h (.bool false))))
 (cond (aX n10 2)
 (((gL (rdC h (Addr.add t_4 2) 0))).bind fun p14 =>
 cond (aX (Int.ofNat p14.2.1) 2)
 (((gL (rdC h (Addr.add t_4 3) 0))).bind fun p15 =>
 cond (aX (Int.ofNat p15.2.1) 0)
 (((gP (rdC h c_3 0))).bind fun x16 =>
 ((gI .i64 (rdC h (Addr.add t_4 1) 0))).bind fun n17 =>
 ((aF h [(.int .i64 n17)] 1)).bind fun p18 =>
 ((az Tryz.prog n 87 [(.pointer x16),(.slice (some ⟨p18.1,0,none⟩) 1 1),(.int .i64 b_2)] (setLow p18.2 p18.2.next))).bind fun gh =>
 ((gB (some gh.1))).bind fun b20 =>
 cond (Nat.beq gh.2.low p18.2.next)
 (cond b20
 (((gP (rdC (setLow gh.2 p18.2.low) c_3 0))).bind fun x21 =>
 (x21).bind fun a22 =>
 ((gL (rdC (setLow gh.2 p18.2.low) (Addr.add (Addr.add a22 0) 1) 0))).bind fun lu =>
 ((gI .i64 (rdC (setLow gh.2 p18.2.low) (Addr.add t_4 1) 0))).bind fun n24 =>
 (lu.1).bind fun a25 =>
 cond (bM n24 lu.2.1)
 (((gI .i64 (rdC (setLow gh.2 p18.2.low) (Addr.add a25 ((Int.toNat n24) * 1)) 0))).bind fun n26 =>
 some (ai h0 (setLow gh.2 p18.2.low) (.bool (aX n26 1))))
 (none))
 (some (ai h0 (setLow gh.2 p18.2.low) (.bool false))))
 (none))
 (some (ai h0 h (.bool false))))
 (some (ai h0 h (.bool false))))
 (cond (aX n10 3)
 (((gL (rdC h (Addr.add t_4 2) 0))).bind fun p27 =>
 cond (aX (Int.ofNat p27.2.1) 0)
 (((gI .i64 (rdC h (Addr.add t_4 1) 0))).bind fun n28 =>
 cond (aX n28 (-1))
 (((gP (rdC h c_3 0))).bind fun x29 =>
 ((gL (rdC h (Addr.add t_4 3) 0))).bind fun p30 =>
 ((az Tryz.prog n 87 [(.pointer x29),(.slice p30.1 p30.2.1 p30.2.2),(.int .i64 b_2)] (setLow h h.next))).bind fun p31 =>
 ((gB (some p31.1))).bind fun b32 =>
 cond (Nat.beq p31.2.low h.next)
 (cond b32
 (((gL (rdC (setLow p31.2 h.low) (Addr.add t_4 3) 0))).bind fun p33 =>
 ((gP (rdC (setLow p31.2 h.low) c_3 0))).bind fun x34 =>
 (x34).bind fun a35 =>
 ((gL (rdC (setLow p31.2 h.low) (Addr.add (Addr.add a35 0) 4) 0))).bind fun p36 =>
 ((az Tryz.prog n 117 [(.slice p33.1 p33.2.1 p33.2.2),(.slice p36.1 p36.2.1 p36.2.2),(Value.func (Fn.func 118) (List.toArray []) (List.toArray [(.pointer (some c_3))]))] (setLow p31.2 h.low))).bind fun qZ =>
 ((gB (some qZ.1))).bind fun b38 =>
 some (ai h0 qZ.2 (.bool b38)))
 (some (ai h0 (setLow p31.2 h.low) (.bool false))))
 (none))
 (some (ai h0 h (.bool false))))
 (some (ai h0 h (.bool false))))
 (some (ai h0 h (.bool false))))))) = some r) : xu n (m0 + 1) h0 b_2 c_3 t_4 t_10 t_10n t_10c t_11 t_12 h = some r:=gV (plan:=Kz) (by kernel_rfl) hv
def Lv : List (List Nat × List Nat):=[]
theorem Gl {n : Nat} {op_0 : Int} {h : AH} {r : Go.Value × AH} (hv :
( cond (bS 2 op_0)
 (some (ai h (setLow h h.next) (.bool (bS op_0 20))))
 (some (ai h (setLow h h.next) (.bool false)))) = some r) : az Tryz.prog (n + 1) 113 [(.int .i64 op_0)] h = some r:=eO (plan:=Lv) (by kernel_rfl) hv
def EI : List (List Nat × List Nat):=[([1,0,1,0,1],[0,3,7,8]),([1,0,1,0,1,0,1],[0,3]),([1,1,1,0,1,0,1],[0,3,35]),([1,0,1,1,1,0,1,0,1],[0,3])]
 noncomputable def xv (n : Nat) (h0 : AH) (c_0 in_3 : Addr) (t_7 : Int) (t_8 : Bool) (h : AH) : Option (Go.Value × AH):=aO Tryz.prog n Tryz.f114 h0 (.code (aB (av Tryz.f114) [1,0,1,0,1]) [1,0,1,0,1]) [.block 0,.seq (aB (av Tryz.f114) [1,1]) [1,1]] (E [(0,.pointer (some c_0)),(3,.pointer (some in_3)),(7,.int .i64 t_7),(8,.bool t_8)]) h
 noncomputable def Bp (n : Nat) (h0 : AH) (c_0 in_3 : Addr) (h : AH) : Option (Go.Value × AH):=aO Tryz.prog n Tryz.f114 h0 (.code (aB (av Tryz.f114) [1,0,1,0,1,0,1]) [1,0,1,0,1,0,1]) [.block 0,.seq (aB (av Tryz.f114) [1,1]) [1,1]] (E [(0,.pointer (some c_0)),(3,.pointer (some in_3))]) h
 noncomputable def xw (n : Nat) (h0 : AH) (c_0 in_3 : Addr) (t_35 : Bool) (h : AH) : Option (Go.Value × AH):=aO Tryz.prog n Tryz.f114 h0 (.code (aB (av Tryz.f114) [1,0,1,0,1,1,1]) [1,1,1,0,1,0,1]) [.block 0,.seq (aB (av Tryz.f114) [1,1]) [1,1]] (E [(0,.pointer (some c_0)),(3,.pointer (some in_3)),(35,.bool t_35)]) h
 noncomputable def Bq (n : Nat) (h0 : AH) (c_0 in_3 : Addr) (h : AH) : Option (Go.Value × AH):=aO Tryz.prog n Tryz.f114 h0 (.code (aB (av Tryz.f114) [1,0,1,0,1,1,1,0,1]) [1,0,1,1,1,0,1,0,1]) [.block 0,.seq (aB (av Tryz.f114) [1,1]) [1,1]] (E [(0,.pointer (some c_0)),(3,.pointer (some in_3))]) h
theorem Gm {n : Nat} {c_0 : Addr} {in_1a in_1b : Int} {in_1c : Option Addr} {in_1cn in_1cc : Nat} {in_1d in_1e : Int} {h : AH} {r : Go.Value × AH} (hv :
( ((aF (setLow h h.next) [(.int .i64 in_1a),(.int .i64 in_1b),(.slice in_1c in_1cn in_1cc),(.int .u64 in_1d),(.int .i64 in_1e)] 0)).bind fun p0 =>
 ((gI .i64 (rdC p0.2 (Addr.add ⟨p0.1,0,none⟩ 0) 0))).bind fun n1 =>
 cond (aX n1 25)
 (xv n h c_0 ⟨p0.1,0,none⟩ n1 true p0.2)
 (xv n h c_0 ⟨p0.1,0,none⟩ n1 (aX n1 26) p0.2)) = some r) : az Tryz.prog (n + 1) 114 [(.pointer (some c_0)),(.agg #[(.int .i64 in_1a),(.int .i64 in_1b),(.slice in_1c in_1cn in_1cc),(.int .u64 in_1d),(.int .i64 in_1e)])] h = some r:=eO (plan:=EI) (by kernel_rfl) hv
theorem Br {n : Nat} {h0 : AH} {c_0 in_3 : Addr} {t_7 : Int} {t_8 : Bool} {h : AH} {r : Go.Value × AH} (hv :
( cond t_8
 (((gI .i64 (rdC h (Addr.add in_3 4) 0))).bind fun n0 =>
 cond (bZ n0 0)
 (some (ai h0 h (.tuple #[(.int .i64 0),(.bool false)])))
 (((gI .i64 (rdC h (Addr.add in_3 4) 0))).bind fun n1 =>
 ((gL (rdC h (Addr.add (Addr.add c_0 0) 2) 0))).bind fun p2 =>
 cond (bS (Int.ofNat p2.2.1) n1)
 (some (ai h0 h (.tuple #[(.int .i64 0),(.bool false)])))
 (Bp n h0 c_0 in_3 h)))
 (cond (aX t_7 27)
 (xw n h0 c_0 in_3 true h)
 (xw n h0 c_0 in_3 (aX t_7 28) h))) = some r) : xv n h0 c_0 in_3 t_7 t_8 h = some r:=fO (plan:=EI) (by kernel_rfl) hv
theorem Bs {n : Nat} {h0 : AH} {c_0 in_3 : Addr} {h : AH} {r : Go.Value × AH} (hv :
( ((gL (rdC h (Addr.add (Addr.add c_0 0) 2) 0))).bind fun p0 =>
 ((gI .i64 (rdC h (Addr.add in_3 4) 0))).bind fun n1 =>
 (p0.1).bind fun a2 =>
 cond (bM n1 p0.2.1)
 (((gI .i64 (rdC h (Addr.add (Addr.add a2 ((Int.toNat n1) * 5)) 1) 0))).bind fun n3 =>
 some (ai h0 h (.tuple #[(.int .i64 n3),(.bool true)])))
 (none)) = some r) : Bp n h0 c_0 in_3 h = some r:=fO (plan:=EI) (by kernel_rfl) hv
theorem Bu {n : Nat} {h0 : AH} {c_0 in_3 : Addr} {t_35 : Bool} {h : AH} {r : Go.Value × AH} (hv :
( cond t_35
 (((gI .i64 (rdC h (Addr.add in_3 4) 0))).bind fun n0 =>
 cond (bZ n0 0)
 (some (ai h0 h (.tuple #[(.int .i64 0),(.bool false)])))
 (((gI .i64 (rdC h (Addr.add in_3 4) 0))).bind fun n1 =>
 ((gL (rdC h (Addr.add (Addr.add c_0 0) 3) 0))).bind fun p2 =>
 cond (bS (Int.ofNat p2.2.1) n1)
 (some (ai h0 h (.tuple #[(.int .i64 0),(.bool false)])))
 (((gL (rdC h (Addr.add (Addr.add c_0 0) 3) 0))).bind fun p3 =>
 ((gI .i64 (rdC h (Addr.add in_3 4) 0))).bind fun n4 =>
 (p3.1).bind fun a5 =>
 cond (bM n4 p3.2.1)
 (((gB (rdC h (Addr.add (Addr.add a5 ((Int.toNat n4) * 3)) 2) 0))).bind fun b6 =>
 ((gI .i64 (rdC h (Addr.add in_3 0) 0))).bind fun n7 =>
 cond (Bool.not (BEq.beq b6 (aX n7 28)))
 (some (ai h0 h (.tuple #[(.int .i64 0),(.bool false)])))
 (Bq n h0 c_0 in_3 h))
 (none))))
 (((gI .i64 (rdC h (Addr.add in_3 4) 0))).bind fun n8 =>
 some (ai h0 h (.tuple #[(.int .i64 0),(.bool (aX n8 0))])))) = some r) : xw n h0 c_0 in_3 t_35 h = some r:=fO (plan:=EI) (by kernel_rfl) hv
theorem Bv {n : Nat} {h0 : AH} {c_0 in_3 : Addr} {h : AH} {r : Go.Value × AH} (hv :
( ((gL (rdC h (Addr.add (Addr.add c_0 0) 3) 0))).bind fun p0 =>
 ((gI .i64 (rdC h (Addr.add in_3 4) 0))).bind fun n1 =>
 (p0.1).bind fun a2 =>
 cond (bM n1 p0.2.1)
 (((gI .i64 (rdC h (Addr.add (Addr.add a2 ((Int.toNat n1) * 3)) 1) 0))).bind fun n3 =>
 some (ai h0 h (.tuple #[(.int .i64 n3),(.bool true)])))
 (none)) = some r) : Bq n h0 c_0 in_3 h = some r:=fO (plan:=EI) (by kernel_rfl) hv
def Lx : List (List Nat × List Nat):=[]
theorem Gn {n : Nat} {w_0 x_1 : Int} {h : AH} {r : Go.Value × AH} (hv :
( ((az Tryz.prog n 121 [(.int .i64 w_0)] (setLow h h.next))).bind fun p0 =>
 ((gI .u64 (some p0.1))).bind fun n1 =>
 some (ai h p0.2 (.int .u64 (qI .u64 x_1 n1)))) = some r) : az Tryz.prog (n + 1) 93 [(.int .i64 w_0),(.int .u64 x_1)] h = some r:=eO (plan:=Lx) (by kernel_rfl) hv
def Ly : List (List Nat × List Nat):=[]
theorem Gp {n : Nat} {op_0 : Int} {h : AH} {r : Go.Value × AH} (hv :
( cond (bS 15 op_0)
 (some (ai h (setLow h h.next) (.bool (bS op_0 20))))
 (some (ai h (setLow h h.next) (.bool false)))) = some r) : az Tryz.prog (n + 1) 115 [(.int .i64 op_0)] h = some r:=eO (plan:=Ly) (by kernel_rfl) hv
def KA : List (List Nat × List Nat):=[([1,1],[3,4])]
 noncomputable def Bw (n : Nat) (h0 : AH) (c_3 e_4 : Addr) (h : AH) : Option (Go.Value × AH):=aO Tryz.prog n Tryz.f116 h0 (.code (aB (av Tryz.f116) [1,1]) [1,1]) [] (E [(3,.pointer (some c_3)),(4,.pointer (some e_4))]) h
theorem Gq {n : Nat} {c_0 : Addr} {e_1a : Int} {e_1b : Option Addr} {e_1bn e_1bc : Nat} {b_2 : Int} {h : AH} {r : Go.Value × AH} (hv :
( ((aF (setLow h h.next) [(.pointer (some c_0))] 0)).bind fun p0 =>
 ((aF p0.2 [(.int .i64 e_1a),(.slice e_1b e_1bn e_1bc)] 0)).bind fun p1 =>
 ((gI .i64 (rdC p1.2 (Addr.add ⟨p1.1,0,none⟩ 0) 0))).bind fun n2 =>
 cond (bZ n2 1)
 (some (ai h p1.2 (.bool false)))
 (((gI .i64 (rdC p1.2 (Addr.add ⟨p1.1,0,none⟩ 0) 0))).bind fun n3 =>
 ((gP (rdC p1.2 ⟨p0.1,0,none⟩ 0))).bind fun x4 =>
 (x4).bind fun a5 =>
 ((gL (rdC p1.2 (Addr.add (Addr.add a5 0) 5) 0))).bind fun p6 =>
 cond (bS (Int.ofNat p6.2.1) n3)
 (some (ai h p1.2 (.bool false)))
 (((gP (rdC p1.2 ⟨p0.1,0,none⟩ 0))).bind fun x7 =>
 ((gL (rdC p1.2 (Addr.add ⟨p1.1,0,none⟩ 1) 0))).bind fun p8 =>
 ((az Tryz.prog n 87 [(.pointer x7),(.slice p8.1 p8.2.1 p8.2.2),(.int .i64 b_2)] p1.2)).bind fun p9 =>
 ((gB (some p9.1))).bind fun b10 =>
 cond (Bool.not b10)
 (some (ai h p9.2 (.bool false)))
 (Bw n h ⟨p0.1,0,none⟩ ⟨p1.1,0,none⟩ p9.2)))) = some r) : az Tryz.prog (n + 1) 116 [(.pointer (some c_0)),(.agg #[(.int .i64 e_1a),(.slice e_1b e_1bn e_1bc)]),(.int .i64 b_2)] h = some r:=eO (plan:=KA) (by kernel_rfl) hv
theorem By {n : Nat} {h0 : AH} {c_3 e_4 : Addr} {h : AH} {r : Go.Value × AH} (hv :
( ((gL (rdC h (Addr.add e_4 1) 0))).bind fun p0 =>
 ((gP (rdC h c_3 0))).bind fun x1 =>
 (x1).bind fun a2 =>
 ((gL (rdC h (Addr.add (Addr.add a2 0) 5) 0))).bind fun p3 =>
 ((gI .i64 (rdC h (Addr.add e_4 0) 0))).bind fun n4 =>
 (p3.1).bind fun a5 =>
 cond (bM n4 p3.2.1)
 (((gL (rdC h (Addr.add (Addr.add a5 ((Int.toNat n4) * 9)) 0) 0))).bind fun p6 =>
 ((az Tryz.prog n 117 [(.slice p0.1 p0.2.1 p0.2.2),(.slice p6.1 p6.2.1 p6.2.2),(Value.func (Fn.func 135) (List.toArray []) (List.toArray [(.pointer (some c_3))]))] h)).bind fun p7 =>
 ((gB (some p7.1))).bind fun b8 =>
 some (ai h0 p7.2 (.bool b8)))
 (none)) = some r) : Bw n h0 c_3 e_4 h = some r:=fO (plan:=KA) (by kernel_rfl) hv
def Lz : List (List Nat × List Nat):=[]
theorem Gt {n : Nat} {v_0 w_1 : Int} {cap0 : Addr} {h : AH} {r : Go.Value × AH} (hv :
( ((gP (rdC (setLow h h.next) cap0 0))).bind fun x0 =>
 (x0).bind fun a1 =>
 ((gL (rdC (setLow h h.next) (Addr.add (Addr.add a1 0) 1) 0))).bind fun p2 =>
 (p2.1).bind fun a3 =>
 cond (bM v_0 p2.2.1)
 (((gI .i64 (rdC (setLow h h.next) (Addr.add a3 ((Int.toNat v_0) * 1)) 0))).bind fun n4 =>
 some (ai h (setLow h h.next) (.bool (aX n4 w_1))))
 (none)) = some r) : az Tryz.prog (n + 1) 118 [(.int .i64 v_0),(.int .i64 w_1),(.pointer (some cap0))] h = some r:=eO (plan:=Lz) (by kernel_rfl) hv
def Bz : List (List Nat × List Nat):=[]
theorem DU {n : Nat} {w_0 : Int} {h : AH} {r : Go.Value × AH} (hv :
( ((az Tryz.prog n 136 [(.int .i64 w_0)] (setLow h h.next))).bind fun p0 =>
 ((gI .i64 (some p0.1))).bind fun n1 =>
 cond (aX n1 0)
 (some (ai h p0.2 (.int .u64 0)))
 (cond (bZ (fC .i64 64 n1) 0)
 (none)
 (some (ai h p0.2 (.int .u64 (HF .u64 18446744073709551615 (fC .i64 64 n1))))))) = some r) : az Tryz.prog (n + 1) 121 [(.int .i64 w_0)] h = some r:=eO (plan:=Bz) (by kernel_rfl) hv
def Jk : List (List Nat × List Nat):=[]
theorem DV {n : Nat} {v_0 p_1 : Int} {cap0 : Addr} {h : AH} {r : Go.Value × AH} (hv :
( cond (bS 0 p_1)
 (((gP (rdC (setLow h h.next) cap0 0))).bind fun x0 =>
 (x0).bind fun a1 =>
 ((gL (rdC (setLow h h.next) (Addr.add (Addr.add a1 0) 1) 0))).bind fun p2 =>
 cond (bZ p_1 (Int.ofNat p2.2.1))
 (((gP (rdC (setLow h h.next) cap0 0))).bind fun x3 =>
 (x3).bind fun a4 =>
 ((gL (rdC (setLow h h.next) (Addr.add (Addr.add a4 0) 1) 0))).bind fun p5 =>
 (p5.1).bind fun a6 =>
 cond (bM v_0 p5.2.1)
 (((gI .i64 (rdC (setLow h h.next) (Addr.add a6 ((Int.toNat v_0) * 1)) 0))).bind fun n7 =>
 ((gP (rdC (setLow h h.next) cap0 0))).bind fun x8 =>
 (x8).bind fun a9 =>
 ((gL (rdC (setLow h h.next) (Addr.add (Addr.add a9 0) 1) 0))).bind fun p10 =>
 (p10.1).bind fun a11 =>
 cond (bM p_1 p10.2.1)
 (((gI .i64 (rdC (setLow h h.next) (Addr.add a11 ((Int.toNat p_1) * 1)) 0))).bind fun n12 =>
 some (ai h (setLow h h.next) (.bool (aX n7 n12))))
 (none))
 (none))
 (some (ai h (setLow h h.next) (.bool false))))
 (some (ai h (setLow h h.next) (.bool false)))) = some r) : az Tryz.prog (n + 1) 135 [(.int .i64 v_0),(.int .i64 p_1),(.pointer (some cap0))] h = some r:=eO (plan:=Jk) (by kernel_rfl) hv
def Jl : List (List Nat × List Nat):=[]
theorem DW {n : Nat} {w_0 : Int} {h : AH} {r : Go.Value × AH} (hv :
( some (ai h (setLow h h.next) (.int .i64 (fM (ge w_0 0) 64)))) = some r) : az Tryz.prog (n + 1) 136 [(.int .i64 w_0)] h = some r:=eO (plan:=Jl) (by kernel_rfl) hv
def p36 : List (List Nat × List Nat):=[]
theorem Gu {n : Nat} {s : Option Addr} {sn sc : Nat} {h : AH} {r : Go.Value × AH} (hv :
( ((az Tryz.prog n 84 [(.slice s sn sc),(Value.func (Fn.func 52) (List.toArray []) (List.toArray []))] (setLow h h.next))).bind fun p0 =>
 ((gI .i64 (some p0.1))).bind fun n1 =>
 some (ai h p0.2 (.bool (bS 0 n1)))) = some r) : az Tryz.prog (n + 1) 54 [(.slice s sn sc),(.func (.func 52) #[] #[])] h = some r:=eO (plan:=p36) (by kernel_rfl) hv
def Hy : List (List Nat × List Nat):=[([0,1,0,1],[0,1,7,8])]
 noncomputable def xy (n m0 : Nat) (h0 : AH) (s_0 : Option Addr) (s_0n s_0c : Nat) (t_7 t_8 : Int) (h : AH) : Option (Go.Value × AH):=aO Tryz.prog n Tryz.f84 h0 (.head (aB (av Tryz.f84) [1,0,1,0,0]) [0,1,0,1] m0) [.block 0,.seq (aB (av Tryz.f84) [1,1]) [1,1]] (E [(0,.slice s_0 s_0n s_0c),(1,.func (.func 52) #[] #[]),(7,.int .i64 t_7),(8,.int .i64 t_8)]) h
theorem Gv {n : Nat} {s : Option Addr} {sn sc : Nat} {h : AH} {r : Go.Value × AH} (hv :
( xy n n h s sn sc (Int.ofNat sn) 0 (setLow h h.next)) = some r) : az Tryz.prog (n + 1) 84 [(.slice s sn sc),(.func (.func 52) #[] #[])] h = some r:=eO (plan:=Hy) (by kernel_rfl) hv
theorem tS {n m0 : Nat} {h0 : AH} {s_0 : Option Addr} {s_0n s_0c : Nat} {t_7 t_8 : Int} {h : AH} {r : Go.Value × AH} (hv :
( cond (bZ t_8 t_7)
 ((s_0).bind fun a0 =>
 cond (bM t_8 s_0n)
 (((gI .i64 (rdC h (Addr.add a0 ((Int.toNat t_8) * 1)) 0))).bind fun n1 =>
 ((az Tryz.prog n 52 [(.int .i64 n1)] h)).bind fun p2 =>
 ((gB (some p2.1))).bind fun b3 =>
 cond b3
 (some (ai h0 p2.2 (.int .i64 t_8)))
 (xy n m0 h0 s_0 s_0n s_0c t_7 (aT .i64 t_8 1) p2.2))
 (none))
 (some (ai h0 h (.int .i64 (-1))))) = some r) : xy n (m0 + 1) h0 s_0 s_0n s_0c t_7 t_8 h = some r:=gV (plan:=Hy) (by kernel_rfl) hv
def CQ : List (List Nat × List Nat):=[([0,1,0,1,1],[1,2,15,16,17])]
 noncomputable def c95_0 (n m0 : Nat) (h0 : AH) (s2_1 : Option Addr) (s2_1n s2_1c : Nat) (eq_2a : Addr) (t_15 : Option Addr) (t_15n t_15c : Nat) (t_16 t_17 : Int) (h : AH) : Option (Go.Value × AH):=aO Tryz.prog n Tryz.f117 h0 (.head (aB (av Tryz.f117) [1,1,0,1,0,0]) [0,1,0,1,1] m0) [.block 0,.seq (aB (av Tryz.f117) [1,1,1]) [1,1,1]] (E [(1,.slice s2_1 s2_1n s2_1c),(2,.func (.func 118) #[] #[(.pointer (some eq_2a))]),(15,.slice t_15 t_15n t_15c),(16,.int .i64 t_16),(17,.int .i64 t_17)]) h
theorem t95_ok {n : Nat} {s : Option Addr} {sn sc : Nat} {t : Option Addr} {tn tc : Nat} {c : Addr} {h : AH} {r : Go.Value × AH} (hv :
( cond (gz (Int.ofNat sn) (Int.ofNat tn))
 (some (ai h (setLow h h.next) (.bool false)))
 (c95_0 n n h t tn tc c s sn sc (Int.ofNat sn) 0 (setLow h h.next))) = some r) : az Tryz.prog (n + 1) 117 [(.slice s sn sc),(.slice t tn tc),(.func (.func 118) #[] #[.pointer (some c)])] h = some r:=eO (plan:=CQ) (by kernel_rfl) hv
theorem c95_0_ok {n m0 : Nat} {h0 : AH} {s2_1 : Option Addr} {s2_1n s2_1c : Nat} {eq_2a : Addr} {t_15 : Option Addr} {t_15n t_15c : Nat} {t_16 t_17 : Int} {h : AH} {r : Go.Value × AH} (hv :
( cond (bZ t_17 t_16)
 ((t_15).bind fun a0 =>
 cond (bM t_17 t_15n)
 (((gI .i64 (rdC h (Addr.add a0 ((Int.toNat t_17) * 1)) 0))).bind fun n1 =>
 (s2_1).bind fun a2 =>
 cond (bM t_17 s2_1n)
 (((gI .i64 (rdC h (Addr.add a2 ((Int.toNat t_17) * 1)) 0))).bind fun n3 =>
 ((az Tryz.prog n 118 [(.int .i64 n1),(.int .i64 n3),(.pointer (some eq_2a))] h)).bind fun p4 =>
 ((gB (some p4.1))).bind fun b5 =>
 cond (Bool.not b5)
 (some (ai h0 p4.2 (.bool false)))
 (c95_0 n m0 h0 s2_1 s2_1n s2_1c eq_2a t_15 t_15n t_15c t_16 (aT .i64 t_17 1) p4.2))
 (none))
 (none))
 (some (ai h0 h (.bool true)))) = some r) : c95_0 n (m0 + 1) h0 s2_1 s2_1n s2_1c eq_2a t_15 t_15n t_15c t_16 t_17 h = some r:=gV (plan:=CQ) (by kernel_rfl) hv
def HP : List (List Nat × List Nat):=[]
 noncomputable def Gw (N : jS) (n : Nat) (name_0 : ByteArray) (cap0 : Addr) (h : AH) : Option (Go.Value × AH):=oQ Tryz.prog (az Tryz.prog n) n HP N (aO Tryz.prog n) 82 [(.string name_0),(.pointer (some cap0))] h
theorem Gx {n : Nat} {name_0 : ByteArray} {cap0 : Addr} {h : AH} {r : Go.Value × AH} (hv : Gw aF n name_0 cap0 h = some r) : az Tryz.prog (n + 1) 82 [(.string name_0),(.pointer (some cap0))] h = some r:=qY hv
theorem LA (N : jS) (n : Nat) (name_0 : ByteArray) (cap0 : Addr) (h : AH) : Gw N n name_0 cap0 h =
 (rdC (setLow h h.next) cap0 0).bind fun v0 =>
 (sG Tryz.prog 151 v0 (.string name_0) false (setLow h h.next)).bind fun v1 =>
 (sE v1).bind fun b2 =>
 (rdC (setLow h h.next) cap0 0).bind fun v3 =>
 (Aa Tryz.prog 151 v3 (.string name_0) (.bool true) (setLow h h.next)).bind fun x4 =>
 cond (Bool.not b2)
 ((az Tryz.prog n 50 [(.string name_0)] x4).bind fun p5 =>
 (gB (some p5.1)).bind fun b6 =>
 some (ai h p5.2 (.bool b6)))
 (some (ai h x4 (.bool false))):=by kernel_rfl
end Go.Proofs.YtjdomdndflfjdabGreatDoor.Kb
namespace Go.Proofs.YtjdomdndflfjdabGreatDoor.Kb2
open Go Go.Proofs Go.Proofs.YtjdomdndflfjdabGreatDoor Go.Proofs.YtjdomdndflfjdabGreatDoor.X
set_option maxRecDepth 100000
set_option linter.unusedVariables false
def CQ : List (List Nat × List Nat):=[([0,1,0,1,1],[1,2,15,16,17])]
 noncomputable def c95_0 (n m0 : Nat) (h0 : AH) (s2_1 : Option Addr) (s2_1n s2_1c : Nat) (eq_2a : Addr) (t_15 : Option Addr) (t_15n t_15c : Nat) (t_16 t_17 : Int) (h : AH) : Option (Go.Value × AH):=aO Tryz.prog n Tryz.f117 h0 (.head (aB (av Tryz.f117) [1,1,0,1,0,0]) [0,1,0,1,1] m0) [.block 0,.seq (aB (av Tryz.f117) [1,1,1]) [1,1,1]] (E [(1,.slice s2_1 s2_1n s2_1c),(2,.func (.func 135) #[] #[(.pointer (some eq_2a))]),(15,.slice t_15 t_15n t_15c),(16,.int .i64 t_16),(17,.int .i64 t_17)]) h
theorem t95_ok {n : Nat} {s : Option Addr} {sn sc : Nat} {t : Option Addr} {tn tc : Nat} {c : Addr} {h : AH} {r : Go.Value × AH} (hv :
( cond (gz (Int.ofNat sn) (Int.ofNat tn))
 (some (ai h (setLow h h.next) (.bool false)))
 (c95_0 n n h t tn tc c s sn sc (Int.ofNat sn) 0 (setLow h h.next))) = some r) : az Tryz.prog (n + 1) 117 [(.slice s sn sc),(.slice t tn tc),(.func (.func 135) #[] #[.pointer (some c)])] h = some r:=eO (plan:=CQ) (by kernel_rfl) hv
theorem c95_0_ok {n m0 : Nat} {h0 : AH} {s2_1 : Option Addr} {s2_1n s2_1c : Nat} {eq_2a : Addr} {t_15 : Option Addr} {t_15n t_15c : Nat} {t_16 t_17 : Int} {h : AH} {r : Go.Value × AH} (hv :
( cond (bZ t_17 t_16)
 ((t_15).bind fun a0 =>
 cond (bM t_17 t_15n)
 (((gI .i64 (rdC h (Addr.add a0 ((Int.toNat t_17) * 1)) 0))).bind fun n1 =>
 (s2_1).bind fun a2 =>
 cond (bM t_17 s2_1n)
 (((gI .i64 (rdC h (Addr.add a2 ((Int.toNat t_17) * 1)) 0))).bind fun n3 =>
 ((az Tryz.prog n 135 [(.int .i64 n1),(.int .i64 n3),(.pointer (some eq_2a))] h)).bind fun p4 =>
 ((gB (some p4.1))).bind fun b5 =>
 cond (Bool.not b5)
 (some (ai h0 p4.2 (.bool false)))
 (c95_0 n m0 h0 s2_1 s2_1n s2_1c eq_2a t_15 t_15n t_15c t_16 (aT .i64 t_17 1) p4.2))
 (none))
 (none))
 (some (ai h0 h (.bool true)))) = some r) : c95_0 n (m0 + 1) h0 s2_1 s2_1n s2_1c eq_2a t_15 t_15n t_15c t_16 t_17 h = some r:=gV (plan:=CQ) (by kernel_rfl) hv
end Go.Proofs.YtjdomdndflfjdabGreatDoor.Kb2
