/- Joined texts: TB. -/
import Derived.KernelRfl
import Derived.Test.YtjdomdndflfjdaaGreatDoorYA
import Derived.Test.YtjdomdndflfjdaaGreatDoorProg
namespace Go.Proofs.YtjdomdndflfjdaaGreatDoor.Kb
open Go Go.Proofs Go.Proofs.YtjdomdndflfjdaaGreatDoor Go.Proofs.YtjdomdndflfjdaaGreatDoor.X
set_option maxRecDepth 100000
set_option linter.unusedVariables false
def p11 : List (List Nat × List Nat):=[([1,1],[1]),([1,1,1,1],[1]),([0,1,0,1,1,1,1,1],[4,62,63,64])]
section
variable (N : aB) (n : Nat) (h0 : AH) (f_1 : Addr) (h : AH)
 noncomputable def BF : Option (Go.Value × AH):=aC Tryz.prog n Tryz.f22 h0 (.code (av (ae Tryz.f22) [1,1]) [1,1]) [] (E [(1,.pointer (some f_1))]) h
 noncomputable def BH : Option (Go.Value × AH):=bw Tryz.prog (au Tryz.prog n) n Tryz.f22 h0 p11 N (aC Tryz.prog n Tryz.f22 h0) (av (ae Tryz.f22) [1,1]) [1,1] [] (E [(1,.pointer (some f_1))]) h
variable {n} {h0} {f_1} {h}
theorem BI {r : Go.Value × AH} (hv : BH aD n h0 f_1 h = some r) : BF n h0 f_1 h = some r:=aN hv
end
section
variable (N : aB) (n : Nat) (h0 : AH) (f_1 : Addr) (h : AH)
 noncomputable def BJ : Option (Go.Value × AH):=aC Tryz.prog n Tryz.f22 h0 (.code (av (ae Tryz.f22) [1,1,1,1]) [1,1,1,1]) [] (E [(1,.pointer (some f_1))]) h
 noncomputable def BM : Option (Go.Value × AH):=bw Tryz.prog (au Tryz.prog n) n Tryz.f22 h0 p11 N (aC Tryz.prog n Tryz.f22 h0) (av (ae Tryz.f22) [1,1,1,1]) [1,1,1,1] [] (E [(1,.pointer (some f_1))]) h
variable {n} {h0} {f_1} {h}
theorem BN {r : Go.Value × AH} (hv : BM aD n h0 f_1 h = some r) : BJ n h0 f_1 h = some r:=aN hv
end
section
variable (N : aB) (n m0 : Nat) (h0 : AH) (c_4 : Addr) (t_62 : Option Addr) (t_62n t_62c : Nat) (t_63 t_64 : Int) (h : AH)
 noncomputable def wP : Option (Go.Value × AH):=aC Tryz.prog n Tryz.f22 h0 (.head (av (ae Tryz.f22) [1,1,1,1,1,0,1,0,0]) [0,1,0,1,1,1,1,1] m0) [.block 0,.seq (av (ae Tryz.f22) [1,1,1,1,1,1]) [1,1,1,1,1,1]] (E [(4,.pointer (some c_4)),(62,.slice t_62 t_62n t_62c),(63,.int .i64 t_63),(64,.int .i64 t_64)]) h
 noncomputable def BP : Option (Go.Value × AH):=bH Tryz.prog (au Tryz.prog n) n Tryz.f22 h0 p11 N (aC Tryz.prog n Tryz.f22 h0) (av (ae Tryz.f22) [1,1,1,1,1,0,1,0,0]) [0,1,0,1,1,1,1,1] m0 [.block 0,.seq (av (ae Tryz.f22) [1,1,1,1,1,1]) [1,1,1,1,1,1]] (E [(4,.pointer (some c_4)),(62,.slice t_62 t_62n t_62c),(63,.int .i64 t_63),(64,.int .i64 t_64)]) h
variable {n m0} {h0} {c_4 t_62 t_62n t_62c t_63 t_64} {h}
theorem sJ {r : Go.Value × AH} (hv : BP aD n m0 h0 c_4 t_62 t_62n t_62c t_63 t_64 h = some r) : wP n (m0 + 1) h0 c_4 t_62 t_62n t_62c t_63 t_64 h = some r:=aO hv
end
 noncomputable def Ks (N : aB) (n : Nat) (f_0a : ByteArray) (f_0b : Option Addr) (f_0bn f_0bc : Nat) (f_0c : Option Addr) (f_0cn f_0cc : Nat) (f_0d : Option Addr) (f_0dn f_0dc : Nat) (f_0e : Option Addr) (f_0en f_0ec : Nat) (f_0f : Option Addr) (f_0fn f_0fc : Nat) (h : AH) : Option (Go.Value × AH):=bQ Tryz.prog (au Tryz.prog n) n p11 N (aC Tryz.prog n) 22 [(.agg #[(.string f_0a),(.slice f_0b f_0bn f_0bc),(.slice f_0c f_0cn f_0cc),(.slice f_0d f_0dn f_0dc),(.slice f_0e f_0en f_0ec),(.slice f_0f f_0fn f_0fc)])] h
theorem Iq {n : Nat} {f_0a : ByteArray} {f_0b : Option Addr} {f_0bn f_0bc : Nat} {f_0c : Option Addr} {f_0cn f_0cc : Nat} {f_0d : Option Addr} {f_0dn f_0dc : Nat} {f_0e : Option Addr} {f_0en f_0ec : Nat} {f_0f : Option Addr} {f_0fn f_0fc : Nat} {h : AH} {r : Go.Value × AH} (hv : Ks aD n f_0a f_0b f_0bn f_0bc f_0c f_0cn f_0cc f_0d f_0dn f_0dc f_0e f_0en f_0ec f_0f f_0fn f_0fc h = some r) : au Tryz.prog (n + 1) 22 [(.agg #[(.string f_0a),(.slice f_0b f_0bn f_0bc),(.slice f_0c f_0cn f_0cc),(.slice f_0d f_0dn f_0dc),(.slice f_0e f_0en f_0ec),(.slice f_0f f_0fn f_0fc)])] h = some r:=aL hv
theorem NL (N : aB) (n : Nat) (f_0a : ByteArray) (f_0b : Option Addr) (f_0bn f_0bc : Nat) (f_0c : Option Addr) (f_0cn f_0cc : Nat) (f_0d : Option Addr) (f_0dn f_0dc : Nat) (f_0e : Option Addr) (f_0en f_0ec : Nat) (f_0f : Option Addr) (f_0fn f_0fc : Nat) (h : AH) : Ks N n f_0a f_0b f_0bn f_0bc f_0c f_0cn f_0cc f_0d f_0dn f_0dc f_0e f_0en f_0ec f_0f f_0fn f_0fc h =
 (N (setLow h h.next) [(.string f_0a),(.slice f_0b f_0bn f_0bc),(.slice f_0c f_0cn f_0cc),(.slice f_0d f_0dn f_0dc),(.slice f_0e f_0en f_0ec),(.slice f_0f f_0fn f_0fc)] 0).bind fun p0 =>
 (gS (rdC p0.2 (Addr.add ⟨p0.1,0,none⟩ 0) 0)).bind fun x1 =>
 (au Tryz.prog n 44 [(.string x1)] p0.2).bind fun p2 =>
 (gB (some p2.1)).bind fun b3 =>
 cond (Bool.not b3)
 (some (aj h p2.2 (.bool false)))
 ((gS (rdC p2.2 ⟨p0.1,0,none⟩ 0)).bind fun x4 =>
 (gL (rdC p2.2 ⟨p0.1,0,none⟩ 1)).bind fun p5 =>
 (gL (rdC p2.2 ⟨p0.1,0,none⟩ 2)).bind fun p6 =>
 (gL (rdC p2.2 ⟨p0.1,0,none⟩ 3)).bind fun p7 =>
 (gL (rdC p2.2 ⟨p0.1,0,none⟩ 4)).bind fun p8 =>
 (gL (rdC p2.2 ⟨p0.1,0,none⟩ 5)).bind fun p9 =>
 (au Tryz.prog n 45 [(.agg #[(.string x4),(.slice p5.1 p5.2.1 p5.2.2),(.slice p6.1 p6.2.1 p6.2.2),(.slice p7.1 p7.2.1 p7.2.2),(.slice p8.1 p8.2.1 p8.2.2),(.slice p9.1 p9.2.1 p9.2.2)])] p2.2).bind fun p10 =>
 (gB (some p10.1)).bind fun b11 =>
 cond (Bool.not b11)
 (some (aj h p10.2 (.bool false)))
 ((gL (rdC p10.2 (Addr.add ⟨p0.1,0,none⟩ 1) 0)).bind fun p12 =>
 cond (cj 65536 (Int.ofNat p12.2.1))
 (some (aj h p10.2 (.bool false)))
 ((gL (rdC p10.2 (Addr.add ⟨p0.1,0,none⟩ 4) 0)).bind fun p13 =>
 cond (cj 64 (Int.ofNat p13.2.1))
 (some (aj h p10.2 (.bool false)))
 ((gL (rdC p10.2 (Addr.add ⟨p0.1,0,none⟩ 5) 0)).bind fun p14 =>
 cond (cj (Int.ofNat p14.2.1) 1)
 (some (aj h p10.2 (.bool false)))
 ((gL (rdC p10.2 (Addr.add ⟨p0.1,0,none⟩ 5) 0)).bind fun p15 =>
 cond (cj 1024 (Int.ofNat p15.2.1))
 (some (aj h p10.2 (.bool false)))
 (BF n h ⟨p0.1,0,none⟩ p10.2)))))):=by kernel_rfl
theorem BQ (N : aB) (n  : Nat) (h0 : AH) (f_1 : Addr) (h : AH) : BH N n  h0 f_1 h =
 (gL (rdC h (Addr.add f_1 1) 0)).bind fun p0 =>
 (au Tryz.prog n 48 [(.slice p0.1 p0.2.1 p0.2.2),(Value.func (Fn.func 46) (List.toArray []) (List.toArray []))] h).bind fun p1 =>
 (gB (some p1.1)).bind fun b2 =>
 cond b2
 (some (aj h0 p1.2 (.bool false)))
 ((gL (rdC p1.2 (Addr.add f_1 4) 0)).bind fun p3 =>
 (au Tryz.prog n 48 [(.slice p3.1 p3.2.1 p3.2.2),(Value.func (Fn.func 46) (List.toArray []) (List.toArray []))] p1.2).bind fun p4 =>
 (gB (some p4.1)).bind fun b5 =>
 cond b5
 (some (aj h0 p4.2 (.bool false)))
 (BJ n h0 f_1 p4.2)):=by kernel_rfl
theorem BT (N : aB) (n  : Nat) (h0 : AH) (f_1 : Addr) (h : AH) : BM N n  h0 f_1 h =
 (gS (rdC h f_1 0)).bind fun x0 =>
 (gL (rdC h f_1 1)).bind fun p1 =>
 (gL (rdC h f_1 2)).bind fun p2 =>
 (gL (rdC h f_1 3)).bind fun p3 =>
 (gL (rdC h f_1 4)).bind fun p4 =>
 (gL (rdC h f_1 5)).bind fun p5 =>
 (gL (rdC h (Addr.add f_1 1) 0)).bind fun p6 =>
 cond (Bool.and (bV 0 (Int.ofNat p6.2.1)) (Bool.and (bV (Int.ofNat p6.2.1) (Int.ofNat p6.2.1)) (Bool.and (bV (HMul.hMul (Int.ofNat p6.2.1) 1) 140737488355328) (cj (Int.ofNat p6.2.1) 9223372036854775808))))
 ((N h (ei [(.bool false)] (Int.toNat (Int.ofNat p6.2.1))) 1).bind fun p7 =>
 (gL (rdC p7.2 (Addr.add f_1 1) 0)).bind fun p8 =>
 cond (Bool.and (bV 0 (Int.ofNat p8.2.1)) (Bool.and (bV (Int.ofNat p8.2.1) (Int.ofNat p8.2.1)) (Bool.and (bV (HMul.hMul (Int.ofNat p8.2.1) 8) 140737488355328) (cj (Int.ofNat p8.2.1) 9223372036854775808))))
 ((N p7.2 (ei [(.int .i64 0)] (Int.toNat (Int.ofNat p8.2.1))) 1).bind fun p9 =>
 (N p9.2 [(.string x0),(.slice p1.1 p1.2.1 p1.2.2),(.slice p2.1 p2.2.1 p2.2.2),(.slice p3.1 p3.2.1 p3.2.2),(.slice p4.1 p4.2.1 p4.2.2),(.slice p5.1 p5.2.1 p5.2.2),(.slice (some ⟨p7.1,0,none⟩) (Int.toNat (Int.ofNat p6.2.1)) (Int.toNat (Int.ofNat p6.2.1))),(.slice (some ⟨p9.1,0,none⟩) (Int.toNat (Int.ofNat p8.2.1)) (Int.toNat (Int.ofNat p8.2.1)))] 0).bind fun p10 =>
 (gL (rdC p10.2 (Addr.add f_1 5) 0)).bind fun p11 =>
 wP n n h0 ⟨p10.1,0,none⟩ p11.1 p11.2.1 p11.2.2 (Int.ofNat p11.2.1) 0 p10.2)
 (none))
 (none):=by kernel_rfl
theorem sK (N : aB) (n m0 : Nat) (h0 : AH) (c_4 : Addr) (t_62 : Option Addr) (t_62n t_62c : Nat) (t_63 t_64 : Int) (h : AH) : BP N n m0 h0 c_4 t_62 t_62n t_62c t_63 t_64 h =
 cond (cj t_64 t_63)
 ((t_62).bind fun a0 =>
 cond (bO t_64 t_62n)
 ((gL (rdC h (Addr.add a0 ((Int.toNat t_64) * 9)) 0)).bind fun p1 =>
 (gL (rdC h (Addr.add a0 ((Int.toNat t_64) * 9)) 1)).bind fun p2 =>
 (gI .i64 (rdC h (Addr.add a0 ((Int.toNat t_64) * 9)) 2)).bind fun n3 =>
 (gI .i64 (rdC h (Addr.add a0 ((Int.toNat t_64) * 9)) 3)).bind fun n4 =>
 (gL (rdC h (Addr.add a0 ((Int.toNat t_64) * 9)) 4)).bind fun p5 =>
 (gL (rdC h (Addr.add a0 ((Int.toNat t_64) * 9)) 5)).bind fun p6 =>
 (gI .i64 (rdC h (Addr.add a0 ((Int.toNat t_64) * 9)) 6)).bind fun n7 =>
 (gI .i64 (rdC h (Addr.add a0 ((Int.toNat t_64) * 9)) 7)).bind fun n8 =>
 (gI .i64 (rdC h (Addr.add a0 ((Int.toNat t_64) * 9)) 8)).bind fun n9 =>
 (N h [(.slice none 0 0),(.slice none 0 0),(.int .i64 0),(.int .i64 0),(.slice none 0 0),(.slice none 0 0),(.int .i64 0),(.int .i64 0),(.int .i64 0)] 0).bind fun p10 =>
 (di p10.2 ⟨p10.1,0,none⟩ [(.slice p1.1 p1.2.1 p1.2.2),(.slice p2.1 p2.2.1 p2.2.2),(.int .i64 n3),(.int .i64 n4),(.slice p5.1 p5.2.1 p5.2.2),(.slice p6.1 p6.2.1 p6.2.2),(.int .i64 n7),(.int .i64 n8),(.int .i64 n9)]).bind fun x11 =>
 (gL (rdC x11 ⟨p10.1,0,none⟩ 0)).bind fun p12 =>
 (gL (rdC x11 ⟨p10.1,0,none⟩ 1)).bind fun p13 =>
 (gI .i64 (rdC x11 ⟨p10.1,0,none⟩ 2)).bind fun n14 =>
 (gI .i64 (rdC x11 ⟨p10.1,0,none⟩ 3)).bind fun n15 =>
 (gL (rdC x11 ⟨p10.1,0,none⟩ 4)).bind fun p16 =>
 (gL (rdC x11 ⟨p10.1,0,none⟩ 5)).bind fun p17 =>
 (gI .i64 (rdC x11 ⟨p10.1,0,none⟩ 6)).bind fun n18 =>
 (gI .i64 (rdC x11 ⟨p10.1,0,none⟩ 7)).bind fun n19 =>
 (gI .i64 (rdC x11 ⟨p10.1,0,none⟩ 8)).bind fun n20 =>
 (au Tryz.prog n 49 [(.pointer (some c_4)),(.agg #[(.slice p12.1 p12.2.1 p12.2.2),(.slice p13.1 p13.2.1 p13.2.2),(.int .i64 n14),(.int .i64 n15),(.slice p16.1 p16.2.1 p16.2.2),(.slice p17.1 p17.2.1 p17.2.2),(.int .i64 n18),(.int .i64 n19),(.int .i64 n20)]),(.int .i64 t_64)] x11).bind fun gK =>
 (gB (some gK.1)).bind fun b22 =>
 cond (Bool.not b22)
 (some (aj h0 gK.2 (.bool false)))
 (wP n m0 h0 c_4 t_62 t_62n t_62c t_63 (aU .i64 t_64 1) gK.2))
 (none))
 (some (aj h0 h (.bool true))):=by kernel_rfl
def p32 : List (List Nat × List Nat):=[([1,1],[0]),([0,1,0,1,1],[14,15,16]),([1,1,0,0,1,1,0,0,1,0,1,1],[3,4,5,14,15,16])]
section
variable (N : aB) (n : Nat) (h0 : AH) (s_0 : ByteArray) (h : AH)
 noncomputable def Hc : Option (Go.Value × AH):=aC Tryz.prog n Tryz.f44 h0 (.code (av (ae Tryz.f44) [1,1]) [1,1]) [] (E [(0,.string s_0)]) h
 noncomputable def BU : Option (Go.Value × AH):=bw Tryz.prog (au Tryz.prog n) n Tryz.f44 h0 p32 N (aC Tryz.prog n Tryz.f44 h0) (av (ae Tryz.f44) [1,1]) [1,1] [] (E [(0,.string s_0)]) h
variable {n} {h0} {s_0} {h}
theorem BV {r : Go.Value × AH} (hv : BU aD n h0 s_0 h = some r) : Hc n h0 s_0 h = some r:=aN hv
end
section
variable (N : aB) (n m0 : Nat) (h0 : AH) (t_14 : Option Addr) (t_14n t_14c : Nat) (t_15 t_16 : Int) (h : AH)
 noncomputable def sL : Option (Go.Value × AH):=aC Tryz.prog n Tryz.f44 h0 (.head (av (ae Tryz.f44) [1,1,0,1,0,0]) [0,1,0,1,1] m0) [.block 0,.seq (av (ae Tryz.f44) [1,1,1]) [1,1,1]] (E [(14,.slice t_14 t_14n t_14c),(15,.int .i64 t_15),(16,.int .i64 t_16)]) h
 noncomputable def BW : Option (Go.Value × AH):=bH Tryz.prog (au Tryz.prog n) n Tryz.f44 h0 p32 N (aC Tryz.prog n Tryz.f44 h0) (av (ae Tryz.f44) [1,1,0,1,0,0]) [0,1,0,1,1] m0 [.block 0,.seq (av (ae Tryz.f44) [1,1,1]) [1,1,1]] (E [(14,.slice t_14 t_14n t_14c),(15,.int .i64 t_15),(16,.int .i64 t_16)]) h
variable {n m0} {h0} {t_14 t_14n t_14c t_15 t_16} {h}
theorem sM {r : Go.Value × AH} (hv : BW aD n m0 h0 t_14 t_14n t_14c t_15 t_16 h = some r) : sL n (m0 + 1) h0 t_14 t_14n t_14c t_15 t_16 h = some r:=aO hv
end
section
variable (N : aB) (n m0 : Nat) (h0 : AH) (i_3 c_4 : Int) (letter_5 : Bool) (t_14 : Option Addr) (t_14n t_14c : Nat) (t_15 t_16 : Int) (h : AH)
 noncomputable def lB : Option (Go.Value × AH):=aC Tryz.prog n Tryz.f44 h0 (.code (av (ae Tryz.f44) [1,1,0,1,0,0,1,1,0,0,1,1]) [1,1,0,0,1,1,0,0,1,0,1,1]) [.block 1,.seq (av (ae Tryz.f44) [1,1,0,1,0,0,1,1,1]) [1,1,1,0,0,1,0,1,1],.loop (av (ae Tryz.f44) [1,1,0,1,0,0]) [0,1,0,1,1] m0,.block 0,.seq (av (ae Tryz.f44) [1,1,1]) [1,1,1]] (E [(3,.int .i64 i_3),(4,.int .u8 c_4),(5,.bool letter_5),(14,.slice t_14 t_14n t_14c),(15,.int .i64 t_15),(16,.int .i64 t_16)]) h
 noncomputable def BX : Option (Go.Value × AH):=bw Tryz.prog (au Tryz.prog n) n Tryz.f44 h0 p32 N (aC Tryz.prog n Tryz.f44 h0) (av (ae Tryz.f44) [1,1,0,1,0,0,1,1,0,0,1,1]) [1,1,0,0,1,1,0,0,1,0,1,1] [.block 1,.seq (av (ae Tryz.f44) [1,1,0,1,0,0,1,1,1]) [1,1,1,0,0,1,0,1,1],.loop (av (ae Tryz.f44) [1,1,0,1,0,0]) [0,1,0,1,1] m0,.block 0,.seq (av (ae Tryz.f44) [1,1,1]) [1,1,1]] (E [(3,.int .i64 i_3),(4,.int .u8 c_4),(5,.bool letter_5),(14,.slice t_14 t_14n t_14c),(15,.int .i64 t_15),(16,.int .i64 t_16)]) h
variable {n m0} {h0} {i_3 c_4 letter_5 t_14 t_14n t_14c t_15 t_16} {h}
theorem BY {r : Go.Value × AH} (hv : BX aD n m0 h0 i_3 c_4 letter_5 t_14 t_14n t_14c t_15 t_16 h = some r) : lB n m0 h0 i_3 c_4 letter_5 t_14 t_14n t_14c t_15 t_16 h = some r:=aN hv
end
 noncomputable def Kt (N : aB) (n : Nat) (s_0 : ByteArray) (h : AH) : Option (Go.Value × AH):=bQ Tryz.prog (au Tryz.prog n) n p32 N (aC Tryz.prog n) 44 [(.string s_0)] h
theorem Ir {n : Nat} {s_0 : ByteArray} {h : AH} {r : Go.Value × AH} (hv : Kt aD n s_0 h = some r) : au Tryz.prog (n + 1) 44 [(.string s_0)] h = some r:=aL hv
theorem NM (N : aB) (n : Nat) (s_0 : ByteArray) (h : AH) : Kt N n s_0 h =
 cond (BEq.beq (ByteArray.toList s_0) [])
 (some (aj h (setLow h h.next) (.bool false)))
 (cond (cj 64 (Int.ofNat (ByteArray.size s_0)))
 (some (aj h (setLow h h.next) (.bool false)))
 (Hc n h s_0 (setLow h h.next))):=by kernel_rfl
theorem BZ (N : aB) (n  : Nat) (h0 : AH) (s_0 : ByteArray) (h : AH) : BU N n  h0 s_0 h =
 sL n n h0 (some ⟨h.next,0,none⟩) (ByteArray.size s_0) 9223372036854775808 (Int.ofNat (ByteArray.size s_0)) 0 (AH.new h (cV s_0) 1).2:=by kernel_rfl
theorem sN (N : aB) (n m0 : Nat) (h0 : AH) (t_14 : Option Addr) (t_14n t_14c : Nat) (t_15 t_16 : Int) (h : AH) : BW N n m0 h0 t_14 t_14n t_14c t_15 t_16 h =
 cond (cj t_16 t_15)
 ((t_14).bind fun a0 =>
 cond (bO t_16 t_14n)
 ((gI .u8 (rdC h (Addr.add a0 ((Int.toNat t_16) * 1)) 0)).bind fun n1 =>
 cond (aY n1 95)
 (lB n m0 h0 t_16 n1 true t_14 t_14n t_14c t_15 t_16 h)
 (cond (bV 97 n1)
 (cond (bV n1 122)
 (lB n m0 h0 t_16 n1 true t_14 t_14n t_14c t_15 t_16 h)
 (cond (bV 65 n1)
 (lB n m0 h0 t_16 n1 (bV n1 90) t_14 t_14n t_14c t_15 t_16 h)
 (lB n m0 h0 t_16 n1 false t_14 t_14n t_14c t_15 t_16 h)))
 (cond (bV 65 n1)
 (lB n m0 h0 t_16 n1 (bV n1 90) t_14 t_14n t_14c t_15 t_16 h)
 (lB n m0 h0 t_16 n1 false t_14 t_14n t_14c t_15 t_16 h))))
 (none))
 (some (aj h0 h (.bool true))):=by kernel_rfl
theorem B0 (N : aB) (n m0 : Nat) (h0 : AH) (i_3 c_4 : Int) (letter_5 : Bool) (t_14 : Option Addr) (t_14n t_14c : Nat) (t_15 t_16 : Int) (h : AH) : BX N n m0 h0 i_3 c_4 letter_5 t_14 t_14n t_14c t_15 t_16 h =
 cond (Bool.not letter_5)
 (cond (aY i_3 0)
 (some (aj h0 h (.bool false)))
 (cond (cj c_4 48)
 (some (aj h0 h (.bool false)))
 (cond (cj 57 c_4)
 (some (aj h0 h (.bool false)))
 (sL n m0 h0 t_14 t_14n t_14c t_15 (aU .i64 t_16 1) h))))
 (sL n m0 h0 t_14 t_14n t_14c t_15 (aU .i64 t_16 1) h):=by kernel_rfl
def p33 : List (List Nat × List Nat):=[([0,1,0,1,1,1],[1,4,12,13,14]),([0,1,0,1,1,1,1],[1,4,46,47,48])]
section
variable (N : aB) (n m0 : Nat) (h0 : AH) (f_1 fresh_4a : Addr) (t_12 : Option Addr) (t_12n t_12c : Nat) (t_13 t_14 : Int) (h : AH)
 noncomputable def wQ : Option (Go.Value × AH):=aC Tryz.prog n Tryz.f45 h0 (.head (av (ae Tryz.f45) [1,1,1,0,1,0,0]) [0,1,0,1,1,1] m0) [.block 0,.seq (av (ae Tryz.f45) [1,1,1,1]) [1,1,1,1]] (E [(1,.pointer (some f_1)),(4,.func (.func 63) #[] #[(.pointer (some fresh_4a))]),(12,.slice t_12 t_12n t_12c),(13,.int .i64 t_13),(14,.int .i64 t_14)]) h
 noncomputable def B5 : Option (Go.Value × AH):=bH Tryz.prog (au Tryz.prog n) n Tryz.f45 h0 p33 N (aC Tryz.prog n Tryz.f45 h0) (av (ae Tryz.f45) [1,1,1,0,1,0,0]) [0,1,0,1,1,1] m0 [.block 0,.seq (av (ae Tryz.f45) [1,1,1,1]) [1,1,1,1]] (E [(1,.pointer (some f_1)),(4,.func (.func 63) #[] #[(.pointer (some fresh_4a))]),(12,.slice t_12 t_12n t_12c),(13,.int .i64 t_13),(14,.int .i64 t_14)]) h
variable {n m0} {h0} {f_1 fresh_4a t_12 t_12n t_12c t_13 t_14} {h}
theorem sO {r : Go.Value × AH} (hv : B5 aD n m0 h0 f_1 fresh_4a t_12 t_12n t_12c t_13 t_14 h = some r) : wQ n (m0 + 1) h0 f_1 fresh_4a t_12 t_12n t_12c t_13 t_14 h = some r:=aO hv
end
section
variable (N : aB) (n m0 : Nat) (h0 : AH) (f_1 fresh_4a : Addr) (t_46 : Option Addr) (t_46n t_46c : Nat) (t_47 t_48 : Int) (h : AH)
 noncomputable def wR : Option (Go.Value × AH):=aC Tryz.prog n Tryz.f45 h0 (.head (av (ae Tryz.f45) [1,1,1,1,0,1,0,0]) [0,1,0,1,1,1,1] m0) [.block 2,.seq (av (ae Tryz.f45) [1,1,1,1,1]) [1,1,1,1,1]] (E [(1,.pointer (some f_1)),(4,.func (.func 63) #[] #[(.pointer (some fresh_4a))]),(46,.slice t_46 t_46n t_46c),(47,.int .i64 t_47),(48,.int .i64 t_48)]) h
 noncomputable def B9 : Option (Go.Value × AH):=bH Tryz.prog (au Tryz.prog n) n Tryz.f45 h0 p33 N (aC Tryz.prog n Tryz.f45 h0) (av (ae Tryz.f45) [1,1,1,1,0,1,0,0]) [0,1,0,1,1,1,1] m0 [.block 2,.seq (av (ae Tryz.f45) [1,1,1,1,1]) [1,1,1,1,1]] (E [(1,.pointer (some f_1)),(4,.func (.func 63) #[] #[(.pointer (some fresh_4a))]),(46,.slice t_46 t_46n t_46c),(47,.int .i64 t_47),(48,.int .i64 t_48)]) h
variable {n m0} {h0} {f_1 fresh_4a t_46 t_46n t_46c t_47 t_48} {h}
theorem sP {r : Go.Value × AH} (hv : B9 aD n m0 h0 f_1 fresh_4a t_46 t_46n t_46c t_47 t_48 h = some r) : wR n (m0 + 1) h0 f_1 fresh_4a t_46 t_46n t_46c t_47 t_48 h = some r:=aO hv
end
 noncomputable def Ku (N : aB) (n : Nat) (f_0a : ByteArray) (f_0b : Option Addr) (f_0bn f_0bc : Nat) (f_0c : Option Addr) (f_0cn f_0cc : Nat) (f_0d : Option Addr) (f_0dn f_0dc : Nat) (f_0e : Option Addr) (f_0en f_0ec : Nat) (f_0f : Option Addr) (f_0fn f_0fc : Nat) (h : AH) : Option (Go.Value × AH):=bQ Tryz.prog (au Tryz.prog n) n p33 N (aC Tryz.prog n) 45 [(.agg #[(.string f_0a),(.slice f_0b f_0bn f_0bc),(.slice f_0c f_0cn f_0cc),(.slice f_0d f_0dn f_0dc),(.slice f_0e f_0en f_0ec),(.slice f_0f f_0fn f_0fc)])] h
theorem Is {n : Nat} {f_0a : ByteArray} {f_0b : Option Addr} {f_0bn f_0bc : Nat} {f_0c : Option Addr} {f_0cn f_0cc : Nat} {f_0d : Option Addr} {f_0dn f_0dc : Nat} {f_0e : Option Addr} {f_0en f_0ec : Nat} {f_0f : Option Addr} {f_0fn f_0fc : Nat} {h : AH} {r : Go.Value × AH} (hv : Ku aD n f_0a f_0b f_0bn f_0bc f_0c f_0cn f_0cc f_0d f_0dn f_0dc f_0e f_0en f_0ec f_0f f_0fn f_0fc h = some r) : au Tryz.prog (n + 1) 45 [(.agg #[(.string f_0a),(.slice f_0b f_0bn f_0bc),(.slice f_0c f_0cn f_0cc),(.slice f_0d f_0dn f_0dc),(.slice f_0e f_0en f_0ec),(.slice f_0f f_0fn f_0fc)])] h = some r:=aL hv
theorem NN (N : aB) (n : Nat) (f_0a : ByteArray) (f_0b : Option Addr) (f_0bn f_0bc : Nat) (f_0c : Option Addr) (f_0cn f_0cc : Nat) (f_0d : Option Addr) (f_0dn f_0dc : Nat) (f_0e : Option Addr) (f_0en f_0ec : Nat) (f_0f : Option Addr) (f_0fn f_0fc : Nat) (h : AH) : Ku N n f_0a f_0b f_0bn f_0bc f_0c f_0cn f_0cc f_0d f_0dn f_0dc f_0e f_0en f_0ec f_0f f_0fn f_0fc h =
 (N (setLow h h.next) [(.string f_0a),(.slice f_0b f_0bn f_0bc),(.slice f_0c f_0cn f_0cc),(.slice f_0d f_0dn f_0dc),(.slice f_0e f_0en f_0ec),(.slice f_0f f_0fn f_0fc)] 0).bind fun p0 =>
 (N (AH.newMap p0.2) [(Value.map none)] 0).bind fun p1 =>
 (di p1.2 ⟨p1.1,0,none⟩ [(Value.map (some p0.2.next))]).bind fun x2 =>
 (gL (rdC x2 (Addr.add ⟨p0.1,0,none⟩ 2) 0)).bind fun p3 =>
 wQ n n h ⟨p0.1,0,none⟩ ⟨p1.1,0,none⟩ p3.1 p3.2.1 p3.2.2 (Int.ofNat p3.2.1) 0 x2:=by kernel_rfl
theorem sQ (N : aB) (n m0 : Nat) (h0 : AH) (f_1 fresh_4a : Addr) (t_12 : Option Addr) (t_12n t_12c : Nat) (t_13 t_14 : Int) (h : AH) : B5 N n m0 h0 f_1 fresh_4a t_12 t_12n t_12c t_13 t_14 h =
 cond (cj t_14 t_13)
 ((t_12).bind fun a0 =>
 cond (bO t_14 t_12n)
 ((gS (rdC h (Addr.add a0 ((Int.toNat t_14) * 5)) 0)).bind fun x1 =>
 (gI .i64 (rdC h (Addr.add a0 ((Int.toNat t_14) * 5)) 1)).bind fun n2 =>
 (gI .i64 (rdC h (Addr.add a0 ((Int.toNat t_14) * 5)) 2)).bind fun n3 =>
 (gI .i64 (rdC h (Addr.add a0 ((Int.toNat t_14) * 5)) 3)).bind fun n4 =>
 (gI .i64 (rdC h (Addr.add a0 ((Int.toNat t_14) * 5)) 4)).bind fun n5 =>
 (N h [(.string (ByteArray.mk (List.toArray []))),(.int .i64 0),(.int .i64 0),(.int .i64 0),(.int .i64 0)] 0).bind fun p6 =>
 (di p6.2 ⟨p6.1,0,none⟩ [(.string x1),(.int .i64 n2),(.int .i64 n3),(.int .i64 n4),(.int .i64 n5)]).bind fun x7 =>
 (gS (rdC x7 (Addr.add ⟨p6.1,0,none⟩ 0) 0)).bind fun x8 =>
 (au Tryz.prog n 63 [(.string x8),(.pointer (some fresh_4a))] x7).bind fun p9 =>
 (gB (some p9.1)).bind fun b10 =>
 cond (Bool.not b10)
 (some (aj h0 p9.2 (.bool false)))
 ((gI .i64 (rdC p9.2 (Addr.add ⟨p6.1,0,none⟩ 1) 0)).bind fun n11 =>
 (au Tryz.prog n 47 [(.int .i64 n11)] p9.2).bind fun p12 =>
 (gB (some p12.1)).bind fun b13 =>
 cond (Bool.not b13)
 (some (aj h0 p12.2 (.bool false)))
 ((gI .i64 (rdC p12.2 (Addr.add ⟨p6.1,0,none⟩ 2) 0)).bind fun n14 =>
 cond (cj n14 1)
 (some (aj h0 p12.2 (.bool false)))
 ((gI .i64 (rdC p12.2 (Addr.add ⟨p6.1,0,none⟩ 2) 0)).bind fun n15 =>
 cond (cj 4096 n15)
 (some (aj h0 p12.2 (.bool false)))
 ((gS (rdC p12.2 ⟨p6.1,0,none⟩ 0)).bind fun x16 =>
 (gI .i64 (rdC p12.2 ⟨p6.1,0,none⟩ 1)).bind fun n17 =>
 (gI .i64 (rdC p12.2 ⟨p6.1,0,none⟩ 2)).bind fun n18 =>
 (gI .i64 (rdC p12.2 ⟨p6.1,0,none⟩ 3)).bind fun n19 =>
 (gI .i64 (rdC p12.2 ⟨p6.1,0,none⟩ 4)).bind fun n20 =>
 (au Tryz.prog n 64 [(.agg #[(.string x16),(.int .i64 n17),(.int .i64 n18),(.int .i64 n19),(.int .i64 n20)])] p12.2).bind fun gK =>
 (gB (some gK.1)).bind fun b22 =>
 cond (Bool.not b22)
 (some (aj h0 gK.2 (.bool false)))
 (wQ n m0 h0 f_1 fresh_4a t_12 t_12n t_12c t_13 (aU .i64 t_14 1) gK.2))))))
 (none))
 ((gL (rdC h (Addr.add f_1 3) 0)).bind fun kS =>
 wR n n h0 f_1 fresh_4a kS.1 kS.2.1 kS.2.2 (Int.ofNat kS.2.1) 0 h):=by kernel_rfl
theorem sR (N : aB) (n m0 : Nat) (h0 : AH) (f_1 fresh_4a : Addr) (t_46 : Option Addr) (t_46n t_46c : Nat) (t_47 t_48 : Int) (h : AH) : B9 N n m0 h0 f_1 fresh_4a t_46 t_46n t_46c t_47 t_48 h =
 cond (cj t_48 t_47)
 ((t_46).bind fun a0 =>
 cond (bO t_48 t_46n)
 ((gS (rdC h (Addr.add a0 ((Int.toNat t_48) * 3)) 0)).bind fun x1 =>
 (gI .i64 (rdC h (Addr.add a0 ((Int.toNat t_48) * 3)) 1)).bind fun n2 =>
 (gB (rdC h (Addr.add a0 ((Int.toNat t_48) * 3)) 2)).bind fun b3 =>
 (N h [(.string (ByteArray.mk (List.toArray []))),(.int .i64 0),(.bool false)] 0).bind fun p4 =>
 (di p4.2 ⟨p4.1,0,none⟩ [(.string x1),(.int .i64 n2),(.bool b3)]).bind fun x5 =>
 (gS (rdC x5 (Addr.add ⟨p4.1,0,none⟩ 0) 0)).bind fun x6 =>
 (au Tryz.prog n 63 [(.string x6),(.pointer (some fresh_4a))] x5).bind fun p7 =>
 (gB (some p7.1)).bind fun b8 =>
 cond (Bool.not b8)
 (some (aj h0 p7.2 (.bool false)))
 ((gI .i64 (rdC p7.2 (Addr.add ⟨p4.1,0,none⟩ 1) 0)).bind fun n9 =>
 (au Tryz.prog n 47 [(.int .i64 n9)] p7.2).bind fun p10 =>
 (gB (some p10.1)).bind fun b11 =>
 cond (Bool.not b11)
 (some (aj h0 p10.2 (.bool false)))
 (wR n m0 h0 f_1 fresh_4a t_46 t_46n t_46c t_47 (aU .i64 t_48 1) p10.2)))
 (none))
 ((gL (rdC h (Addr.add f_1 2) 0)).bind fun p12 =>
 cond (bV (Int.ofNat p12.2.1) 64)
 ((gL (rdC h (Addr.add f_1 3) 0)).bind fun p13 =>
 some (aj h0 h (.bool (bV (Int.ofNat p13.2.1) 64))))
 (some (aj h0 h (.bool false)))):=by kernel_rfl
def t8 : List (List Nat × List Nat):=[]
 noncomputable def Kw (N : aB) (n : Nat) (w_0 : Int) (h : AH) : Option (Go.Value × AH):=bQ Tryz.prog (au Tryz.prog n) n t8 N (aC Tryz.prog n) 46 [(.int .i64 w_0)] h
theorem It {n : Nat} {w_0 : Int} {h : AH} {r : Go.Value × AH} (hv : Kw aD n w_0 h = some r) : au Tryz.prog (n + 1) 46 [(.int .i64 w_0)] h = some r:=aL hv
theorem NO (N : aB) (n : Nat) (w_0 : Int) (h : AH) : Kw N n w_0 h =
 (au Tryz.prog n 47 [(.int .i64 w_0)] (setLow h h.next)).bind fun p0 =>
 (gB (some p0.1)).bind fun b1 =>
 some (aj h p0.2 (.bool (Bool.not b1))):=by kernel_rfl
def FQ : List (List Nat × List Nat):=[]
 noncomputable def Kx (N : aB) (n : Nat) (w_0 : Int) (h : AH) : Option (Go.Value × AH):=bQ Tryz.prog (au Tryz.prog n) n FQ N (aC Tryz.prog n) 47 [(.int .i64 w_0)] h
theorem Iu {n : Nat} {w_0 : Int} {h : AH} {r : Go.Value × AH} (hv : Kx aD n w_0 h = some r) : au Tryz.prog (n + 1) 47 [(.int .i64 w_0)] h = some r:=aL hv
theorem NP (N : aB) (n : Nat) (w_0 : Int) (h : AH) : Kx N n w_0 h =
 cond (bV 1 w_0)
 (some (aj h (setLow h h.next) (.bool (bV w_0 64))))
 (some (aj h (setLow h h.next) (.bool false))):=by kernel_rfl
def nI : List (List Nat × List Nat):=[([1,1],[0,2,4]),([0,1,0,1,1],[0,2,4,46,47,48]),([0,1,0,1,1,1],[0,2,4,59,60,61])]
section
variable (N : aB) (n : Nat) (h0 : AH) (c_0 : Addr) (b_2 : Int) (x_4 : Addr) (h : AH)
 noncomputable def Ca : Option (Go.Value × AH):=aC Tryz.prog n Tryz.f49 h0 (.code (av (ae Tryz.f49) [1,1]) [1,1]) [] (E [(0,.pointer (some c_0)),(2,.int .i64 b_2),(4,.pointer (some x_4))]) h
 noncomputable def Cb : Option (Go.Value × AH):=bw Tryz.prog (au Tryz.prog n) n Tryz.f49 h0 nI N (aC Tryz.prog n Tryz.f49 h0) (av (ae Tryz.f49) [1,1]) [1,1] [] (E [(0,.pointer (some c_0)),(2,.int .i64 b_2),(4,.pointer (some x_4))]) h
variable {n} {h0} {c_0 b_2 x_4} {h}
theorem Cc {r : Go.Value × AH} (hv : Cb aD n h0 c_0 b_2 x_4 h = some r) : Ca n h0 c_0 b_2 x_4 h = some r:=aN hv
end
section
variable (N : aB) (n m0 : Nat) (h0 : AH) (c_0 : Addr) (b_2 : Int) (x_4 : Addr) (t_46 : Option Addr) (t_46n t_46c : Nat) (t_47 t_48 : Int) (h : AH)
 noncomputable def wS : Option (Go.Value × AH):=aC Tryz.prog n Tryz.f49 h0 (.head (av (ae Tryz.f49) [1,1,0,1,0,0]) [0,1,0,1,1] m0) [.block 0,.seq (av (ae Tryz.f49) [1,1,1]) [1,1,1]] (E [(0,.pointer (some c_0)),(2,.int .i64 b_2),(4,.pointer (some x_4)),(46,.slice t_46 t_46n t_46c),(47,.int .i64 t_47),(48,.int .i64 t_48)]) h
 noncomputable def Cd : Option (Go.Value × AH):=bH Tryz.prog (au Tryz.prog n) n Tryz.f49 h0 nI N (aC Tryz.prog n Tryz.f49 h0) (av (ae Tryz.f49) [1,1,0,1,0,0]) [0,1,0,1,1] m0 [.block 0,.seq (av (ae Tryz.f49) [1,1,1]) [1,1,1]] (E [(0,.pointer (some c_0)),(2,.int .i64 b_2),(4,.pointer (some x_4)),(46,.slice t_46 t_46n t_46c),(47,.int .i64 t_47),(48,.int .i64 t_48)]) h
variable {n m0} {h0} {c_0 b_2 x_4 t_46 t_46n t_46c t_47 t_48} {h}
theorem sS {r : Go.Value × AH} (hv : Cd aD n m0 h0 c_0 b_2 x_4 t_46 t_46n t_46c t_47 t_48 h = some r) : wS n (m0 + 1) h0 c_0 b_2 x_4 t_46 t_46n t_46c t_47 t_48 h = some r:=aO hv
end
section
variable (N : aB) (n m0 : Nat) (h0 : AH) (c_0 : Addr) (b_2 : Int) (x_4 : Addr) (t_59 : Option Addr) (t_59n t_59c : Nat) (t_60 t_61 : Int) (h : AH)
 noncomputable def sU : Option (Go.Value × AH):=aC Tryz.prog n Tryz.f49 h0 (.head (av (ae Tryz.f49) [1,1,1,0,1,0,0]) [0,1,0,1,1,1] m0) [.block 2,.seq (av (ae Tryz.f49) [1,1,1,1]) [1,1,1,1]] (E [(0,.pointer (some c_0)),(2,.int .i64 b_2),(4,.pointer (some x_4)),(59,.slice t_59 t_59n t_59c),(60,.int .i64 t_60),(61,.int .i64 t_61)]) h
 noncomputable def Ce : Option (Go.Value × AH):=bH Tryz.prog (au Tryz.prog n) n Tryz.f49 h0 nI N (aC Tryz.prog n Tryz.f49 h0) (av (ae Tryz.f49) [1,1,1,0,1,0,0]) [0,1,0,1,1,1] m0 [.block 2,.seq (av (ae Tryz.f49) [1,1,1,1]) [1,1,1,1]] (E [(0,.pointer (some c_0)),(2,.int .i64 b_2),(4,.pointer (some x_4)),(59,.slice t_59 t_59n t_59c),(60,.int .i64 t_60),(61,.int .i64 t_61)]) h
variable {n m0} {h0} {c_0 b_2 x_4 t_59 t_59n t_59c t_60 t_61} {h}
theorem sV {r : Go.Value × AH} (hv : Ce aD n m0 h0 c_0 b_2 x_4 t_59 t_59n t_59c t_60 t_61 h = some r) : sU n (m0 + 1) h0 c_0 b_2 x_4 t_59 t_59n t_59c t_60 t_61 h = some r:=aO hv
end
 noncomputable def Ky (N : aB) (n : Nat) (c_0 : Addr) (x_1a : Option Addr) (x_1an x_1ac : Nat) (x_1b : Option Addr) (x_1bn x_1bc : Nat) (x_1c x_1d : Int) (x_1e : Option Addr) (x_1en x_1ec : Nat) (x_1f : Option Addr) (x_1fn x_1fc : Nat) (x_1g x_1h x_1i b_2 : Int) (h : AH) : Option (Go.Value × AH):=bQ Tryz.prog (au Tryz.prog n) n nI N (aC Tryz.prog n) 49 [(.pointer (some c_0)),(.agg #[(.slice x_1a x_1an x_1ac),(.slice x_1b x_1bn x_1bc),(.int .i64 x_1c),(.int .i64 x_1d),(.slice x_1e x_1en x_1ec),(.slice x_1f x_1fn x_1fc),(.int .i64 x_1g),(.int .i64 x_1h),(.int .i64 x_1i)]),(.int .i64 b_2)] h
theorem Iv {n : Nat} {c_0 : Addr} {x_1a : Option Addr} {x_1an x_1ac : Nat} {x_1b : Option Addr} {x_1bn x_1bc : Nat} {x_1c x_1d : Int} {x_1e : Option Addr} {x_1en x_1ec : Nat} {x_1f : Option Addr} {x_1fn x_1fc : Nat} {x_1g x_1h x_1i b_2 : Int} {h : AH} {r : Go.Value × AH} (hv : Ky aD n c_0 x_1a x_1an x_1ac x_1b x_1bn x_1bc x_1c x_1d x_1e x_1en x_1ec x_1f x_1fn x_1fc x_1g x_1h x_1i b_2 h = some r) : au Tryz.prog (n + 1) 49 [(.pointer (some c_0)),(.agg #[(.slice x_1a x_1an x_1ac),(.slice x_1b x_1bn x_1bc),(.int .i64 x_1c),(.int .i64 x_1d),(.slice x_1e x_1en x_1ec),(.slice x_1f x_1fn x_1fc),(.int .i64 x_1g),(.int .i64 x_1h),(.int .i64 x_1i)]),(.int .i64 b_2)] h = some r:=aL hv
theorem NQ (N : aB) (n : Nat) (c_0 : Addr) (x_1a : Option Addr) (x_1an x_1ac : Nat) (x_1b : Option Addr) (x_1bn x_1bc : Nat) (x_1c x_1d : Int) (x_1e : Option Addr) (x_1en x_1ec : Nat) (x_1f : Option Addr) (x_1fn x_1fc : Nat) (x_1g x_1h x_1i b_2 : Int) (h : AH) : Ky N n c_0 x_1a x_1an x_1ac x_1b x_1bn x_1bc x_1c x_1d x_1e x_1en x_1ec x_1f x_1fn x_1fc x_1g x_1h x_1i b_2 h =
 (N (setLow h h.next) [(.slice x_1a x_1an x_1ac),(.slice x_1b x_1bn x_1bc),(.int .i64 x_1c),(.int .i64 x_1d),(.slice x_1e x_1en x_1ec),(.slice x_1f x_1fn x_1fc),(.int .i64 x_1g),(.int .i64 x_1h),(.int .i64 x_1i)] 0).bind fun p0 =>
 (gL (rdC p0.2 (Addr.add ⟨p0.1,0,none⟩ 1) 0)).bind fun p1 =>
 cond (cj 4096 (Int.ofNat p1.2.1))
 (some (aj h p0.2 (.bool false)))
 ((gI .i64 (rdC p0.2 (Addr.add ⟨p0.1,0,none⟩ 6) 0)).bind fun n2 =>
 cond (cj n2 0)
 (some (aj h p0.2 (.bool false)))
 ((gI .i64 (rdC p0.2 (Addr.add ⟨p0.1,0,none⟩ 6) 0)).bind fun n3 =>
 cond (cj 256 n3)
 (some (aj h p0.2 (.bool false)))
 ((gI .i64 (rdC p0.2 (Addr.add ⟨p0.1,0,none⟩ 7) 0)).bind fun n4 =>
 cond (cj n4 0)
 (some (aj h p0.2 (.bool false)))
 ((gI .i64 (rdC p0.2 (Addr.add ⟨p0.1,0,none⟩ 7) 0)).bind fun n5 =>
 cond (cj 64 n5)
 (some (aj h p0.2 (.bool false)))
 ((gI .i64 (rdC p0.2 (Addr.add ⟨p0.1,0,none⟩ 8) 0)).bind fun n6 =>
 cond (cj n6 0)
 (some (aj h p0.2 (.bool false)))
 ((gI .i64 (rdC p0.2 (Addr.add ⟨p0.1,0,none⟩ 8) 0)).bind fun n7 =>
 cond (cj 2147483647 n7)
 (some (aj h p0.2 (.bool false)))
 (Ca n h c_0 b_2 ⟨p0.1,0,none⟩ p0.2))))))):=by kernel_rfl
theorem Cf (N : aB) (n  : Nat) (h0 : AH) (c_0 : Addr) (b_2 : Int) (x_4 : Addr) (h : AH) : Cb N n  h0 c_0 b_2 x_4 h =
 (gL (rdC h (Addr.add x_4 0) 0)).bind fun p0 =>
 wS n n h0 c_0 b_2 x_4 p0.1 p0.2.1 p0.2.2 (Int.ofNat p0.2.1) 0 h:=by kernel_rfl
theorem sW (N : aB) (n m0 : Nat) (h0 : AH) (c_0 : Addr) (b_2 : Int) (x_4 : Addr) (t_46 : Option Addr) (t_46n t_46c : Nat) (t_47 t_48 : Int) (h : AH) : Cd N n m0 h0 c_0 b_2 x_4 t_46 t_46n t_46c t_47 t_48 h =
 cond (cj t_48 t_47)
 ((t_46).bind fun a0 =>
 cond (bO t_48 t_46n)
 ((gI .i64 (rdC h (Addr.add a0 ((Int.toNat t_48) * 1)) 0)).bind fun n1 =>
 (au Tryz.prog n 66 [(.pointer (some c_0)),(.int .i64 n1),(.int .i64 b_2)] h).bind fun p2 =>
 (gB (some p2.1)).bind fun b3 =>
 cond (Bool.not b3)
 (some (aj h0 p2.2 (.bool false)))
 (wS n m0 h0 c_0 b_2 x_4 t_46 t_46n t_46c t_47 (aU .i64 t_48 1) p2.2))
 (none))
 ((gL (rdC h (Addr.add x_4 1) 0)).bind fun p4 =>
 sU n n h0 c_0 b_2 x_4 p4.1 p4.2.1 p4.2.2 (Int.ofNat p4.2.1) 0 h):=by kernel_rfl
theorem sX (N : aB) (n m0 : Nat) (h0 : AH) (c_0 : Addr) (b_2 : Int) (x_4 : Addr) (t_59 : Option Addr) (t_59n t_59c : Nat) (t_60 t_61 : Int) (h : AH) : Ce N n m0 h0 c_0 b_2 x_4 t_59 t_59n t_59c t_60 t_61 h =
 cond (cj t_61 t_60)
 ((t_59).bind fun a0 =>
 cond (bO t_61 t_59n)
 ((gI .i64 (rdC h (Addr.add a0 ((Int.toNat t_61) * 5)) 0)).bind fun n1 =>
 (gI .i64 (rdC h (Addr.add a0 ((Int.toNat t_61) * 5)) 1)).bind fun n2 =>
 (gL (rdC h (Addr.add a0 ((Int.toNat t_61) * 5)) 2)).bind fun p3 =>
 (gI .u64 (rdC h (Addr.add a0 ((Int.toNat t_61) * 5)) 3)).bind fun n4 =>
 (gI .i64 (rdC h (Addr.add a0 ((Int.toNat t_61) * 5)) 4)).bind fun n5 =>
 (N h [(.int .i64 0),(.int .i64 0),(.slice none 0 0),(.int .u64 0),(.int .i64 0)] 0).bind fun p6 =>
 (di p6.2 ⟨p6.1,0,none⟩ [(.int .i64 n1),(.int .i64 n2),(.slice p3.1 p3.2.1 p3.2.2),(.int .u64 n4),(.int .i64 n5)]).bind fun x7 =>
 (gI .i64 (rdC x7 (Addr.add ⟨p6.1,0,none⟩ 0) 0)).bind fun n8 =>
 (au Tryz.prog n 67 [(.int .i64 n8)] (setLow x7 x7.next)).bind fun p9 =>
 (gI .i64 (some p9.1)).bind fun n10 =>
 cond (Nat.beq p9.2.low x7.next)
 ((gL (rdC (setLow p9.2 x7.low) (Addr.add ⟨p6.1,0,none⟩ 2) 0)).bind fun p11 =>
 cond (gv n10 (Int.ofNat p11.2.1))
 (some (aj h0 (setLow p9.2 x7.low) (.bool false)))
 ((gL (rdC (setLow p9.2 x7.low) (Addr.add ⟨p6.1,0,none⟩ 2) 0)).bind fun p12 =>
 (au Tryz.prog n 68 [(.pointer (some c_0)),(.slice p12.1 p12.2.1 p12.2.2),(.int .i64 b_2)] (setLow (setLow p9.2 x7.low) (setLow p9.2 x7.low).next)).bind fun p13 =>
 (gB (some p13.1)).bind fun b14 =>
 cond (Nat.beq p13.2.low (setLow p9.2 x7.low).next)
 (cond (Bool.not b14)
 (some (aj h0 (setLow p13.2 (setLow p9.2 x7.low).low) (.bool false)))
 ((gI .i64 (rdC (setLow p13.2 (setLow p9.2 x7.low).low) ⟨p6.1,0,none⟩ 0)).bind fun n15 =>
 (gI .i64 (rdC (setLow p13.2 (setLow p9.2 x7.low).low) ⟨p6.1,0,none⟩ 1)).bind fun n16 =>
 (gL (rdC (setLow p13.2 (setLow p9.2 x7.low).low) ⟨p6.1,0,none⟩ 2)).bind fun p17 =>
 (gI .u64 (rdC (setLow p13.2 (setLow p9.2 x7.low).low) ⟨p6.1,0,none⟩ 3)).bind fun n18 =>
 (gI .i64 (rdC (setLow p13.2 (setLow p9.2 x7.low).low) ⟨p6.1,0,none⟩ 4)).bind fun n19 =>
 (au Tryz.prog n 69 [(.pointer (some c_0)),(.agg #[(.int .i64 n15),(.int .i64 n16),(.slice p17.1 p17.2.1 p17.2.2),(.int .u64 n18),(.int .i64 n19)])] (setLow (setLow p13.2 (setLow p9.2 x7.low).low) (setLow p13.2 (setLow p9.2 x7.low).low).next)).bind fun kn =>
 (gB (some kn.1)).bind fun b21 =>
 cond (Nat.beq kn.2.low (setLow p13.2 (setLow p9.2 x7.low).low).next)
 (cond (Bool.not b21)
 (some (aj h0 (setLow kn.2 (setLow p13.2 (setLow p9.2 x7.low).low).low) (.bool false)))
 ((gI .i64 (rdC (setLow kn.2 (setLow p13.2 (setLow p9.2 x7.low).low).low) (Addr.add ⟨p6.1,0,none⟩ 0) 0)).bind fun n22 =>
 (au Tryz.prog n 70 [(.int .i64 n22)] (setLow (setLow kn.2 (setLow p13.2 (setLow p9.2 x7.low).low).low) (setLow kn.2 (setLow p13.2 (setLow p9.2 x7.low).low).low).next)).bind fun kS =>
 (gB (some kS.1)).bind fun b24 =>
 cond (Nat.beq kS.2.low (setLow kn.2 (setLow p13.2 (setLow p9.2 x7.low).low).low).next)
 (cond b24
 ((gI .i64 (rdC (setLow kS.2 (setLow kn.2 (setLow p13.2 (setLow p9.2 x7.low).low).low).low) (Addr.add ⟨p6.1,0,none⟩ 1) 0)).bind fun n25 =>
 (au Tryz.prog n 66 [(.pointer (some c_0)),(.int .i64 n25),(.int .i64 b_2)] (setLow kS.2 (setLow kn.2 (setLow p13.2 (setLow p9.2 x7.low).low).low).low)).bind fun p26 =>
 (gB (some p26.1)).bind fun b27 =>
 cond (Bool.not b27)
 (some (aj h0 p26.2 (.bool false)))
 (sU n m0 h0 c_0 b_2 x_4 t_59 t_59n t_59c t_60 (aU .i64 t_61 1) p26.2))
 (sU n m0 h0 c_0 b_2 x_4 t_59 t_59n t_59c t_60 (aU .i64 t_61 1) (setLow kS.2 (setLow kn.2 (setLow p13.2 (setLow p9.2 x7.low).low).low).low)))
 (none)))
 (none)))
 (none)))
 (none))
 (none))
 ((gI .i64 (rdC h (Addr.add x_4 2) 0)).bind fun n28 =>
 (gI .i64 (rdC h (Addr.add x_4 2) 1)).bind fun n29 =>
 (gL (rdC h (Addr.add x_4 2) 2)).bind fun p30 =>
 (gL (rdC h (Addr.add x_4 2) 3)).bind fun p31 =>
 (au Tryz.prog n 71 [(.pointer (some c_0)),(.agg #[(.int .i64 n28),(.int .i64 n29),(.slice p30.1 p30.2.1 p30.2.2),(.slice p31.1 p31.2.1 p31.2.2)]),(.int .i64 b_2)] h).bind fun p32 =>
 (gB (some p32.1)).bind fun b33 =>
 some (aj h0 p32.2 (.bool b33))):=by kernel_rfl
def FT : List (List Nat × List Nat):=[([1,1,1,0,1,0,1],[1,4,10])]
section
variable (N : aB) (n : Nat) (h0 : AH) (a_1 : Addr) (t_4 : Int) (t_10 : Bool) (h : AH)
 noncomputable def wT : Option (Go.Value × AH):=aC Tryz.prog n Tryz.f64 h0 (.code (av (ae Tryz.f64) [1,0,1,0,1,1,1]) [1,1,1,0,1,0,1]) [.block 0,.seq (av (ae Tryz.f64) [1,1]) [1,1]] (E [(1,.pointer (some a_1)),(4,.int .i64 t_4),(10,.bool t_10)]) h
 noncomputable def Cg : Option (Go.Value × AH):=bw Tryz.prog (au Tryz.prog n) n Tryz.f64 h0 FT N (aC Tryz.prog n Tryz.f64 h0) (av (ae Tryz.f64) [1,0,1,0,1,1,1]) [1,1,1,0,1,0,1] [.block 0,.seq (av (ae Tryz.f64) [1,1]) [1,1]] (E [(1,.pointer (some a_1)),(4,.int .i64 t_4),(10,.bool t_10)]) h
variable {n} {h0} {a_1 t_4 t_10} {h}
theorem Ci {r : Go.Value × AH} (hv : Cg aD n h0 a_1 t_4 t_10 h = some r) : wT n h0 a_1 t_4 t_10 h = some r:=aN hv
end
 noncomputable def Kz (N : aB) (n : Nat) (a_0a : ByteArray) (a_0b a_0c a_0d a_0e : Int) (h : AH) : Option (Go.Value × AH):=bQ Tryz.prog (au Tryz.prog n) n FT N (aC Tryz.prog n) 64 [(.agg #[(.string a_0a),(.int .i64 a_0b),(.int .i64 a_0c),(.int .i64 a_0d),(.int .i64 a_0e)])] h
theorem Iw {n : Nat} {a_0a : ByteArray} {a_0b a_0c a_0d a_0e : Int} {h : AH} {r : Go.Value × AH} (hv : Kz aD n a_0a a_0b a_0c a_0d a_0e h = some r) : au Tryz.prog (n + 1) 64 [(.agg #[(.string a_0a),(.int .i64 a_0b),(.int .i64 a_0c),(.int .i64 a_0d),(.int .i64 a_0e)])] h = some r:=aL hv
theorem NR (N : aB) (n : Nat) (a_0a : ByteArray) (a_0b a_0c a_0d a_0e : Int) (h : AH) : Kz N n a_0a a_0b a_0c a_0d a_0e h =
 (N (setLow h h.next) [(.string a_0a),(.int .i64 a_0b),(.int .i64 a_0c),(.int .i64 a_0d),(.int .i64 a_0e)] 0).bind fun p0 =>
 (gI .i64 (rdC p0.2 (Addr.add ⟨p0.1,0,none⟩ 3) 0)).bind fun n1 =>
 cond (aY n1 0)
 ((gI .i64 (rdC p0.2 (Addr.add ⟨p0.1,0,none⟩ 4) 0)).bind fun n2 =>
 some (aj h p0.2 (.bool (aY n2 0))))
 (cond (aY n1 1)
 (wT n h ⟨p0.1,0,none⟩ n1 true p0.2)
 (wT n h ⟨p0.1,0,none⟩ n1 (aY n1 2) p0.2)):=by kernel_rfl
theorem Cj (N : aB) (n  : Nat) (h0 : AH) (a_1 : Addr) (t_4 : Int) (t_10 : Bool) (h : AH) : Cg N n  h0 a_1 t_4 t_10 h =
 cond t_10
 ((gI .i64 (rdC h (Addr.add a_1 4) 0)).bind fun n0 =>
 cond (bV 1 n0)
 ((gI .i64 (rdC h (Addr.add a_1 4) 0)).bind fun n1 =>
 (gI .i64 (rdC h (Addr.add a_1 2) 0)).bind fun n2 =>
 some (aj h0 h (.bool (bV n1 (fJ n2 64)))))
 (some (aj h0 h (.bool false))))
 (cond (aY t_4 3)
 ((gI .i64 (rdC h (Addr.add a_1 4) 0)).bind fun n3 =>
 cond (aY n3 0)
 ((gI .i64 (rdC h (Addr.add a_1 2) 0)).bind fun n4 =>
 some (aj h0 h (.bool (bV n4 64))))
 (some (aj h0 h (.bool false))))
 (some (aj h0 h (.bool false)))):=by kernel_rfl
def KA : List (List Nat × List Nat):=[([1,1],[0,1,2])]
section
variable (N : aB) (n : Nat) (h0 : AH) (c_0 : Addr) (v_1 b_2 : Int) (h : AH)
 noncomputable def Hd : Option (Go.Value × AH):=aC Tryz.prog n Tryz.f66 h0 (.code (av (ae Tryz.f66) [1,1]) [1,1]) [] (E [(0,.pointer (some c_0)),(1,.int .i64 v_1),(2,.int .i64 b_2)]) h
 noncomputable def Ck : Option (Go.Value × AH):=bw Tryz.prog (au Tryz.prog n) n Tryz.f66 h0 KA N (aC Tryz.prog n Tryz.f66 h0) (av (ae Tryz.f66) [1,1]) [1,1] [] (E [(0,.pointer (some c_0)),(1,.int .i64 v_1),(2,.int .i64 b_2)]) h
variable {n} {h0} {c_0 v_1 b_2} {h}
theorem Cl {r : Go.Value × AH} (hv : Ck aD n h0 c_0 v_1 b_2 h = some r) : Hd n h0 c_0 v_1 b_2 h = some r:=aN hv
end
 noncomputable def Iy (N : aB) (n : Nat) (c_0 : Addr) (v_1 b_2 : Int) (h : AH) : Option (Go.Value × AH):=bQ Tryz.prog (au Tryz.prog n) n KA N (aC Tryz.prog n) 66 [(.pointer (some c_0)),(.int .i64 v_1),(.int .i64 b_2)] h
theorem Iz {n : Nat} {c_0 : Addr} {v_1 b_2 : Int} {h : AH} {r : Go.Value × AH} (hv : Iy aD n c_0 v_1 b_2 h = some r) : au Tryz.prog (n + 1) 66 [(.pointer (some c_0)),(.int .i64 v_1),(.int .i64 b_2)] h = some r:=aL hv
theorem NS (N : aB) (n : Nat) (c_0 : Addr) (v_1 b_2 : Int) (h : AH) : Iy N n c_0 v_1 b_2 h =
 cond (cj v_1 0)
 (some (aj h (setLow h h.next) (.bool false)))
 ((gL (rdC (setLow h h.next) (Addr.add c_0 6) 0)).bind fun p0 =>
 cond (bV (Int.ofNat p0.2.1) v_1)
 (some (aj h (setLow h h.next) (.bool false)))
 ((gL (rdC (setLow h h.next) (Addr.add c_0 6) 0)).bind fun p1 =>
 (p1.1).bind fun a2 =>
 cond (bO v_1 p1.2.1)
 ((gB (rdC (setLow h h.next) (Addr.add a2 ((Int.toNat v_1) * 1)) 0)).bind fun b3 =>
 cond b3
 (some (aj h (setLow h h.next) (.bool false)))
 (Hd n h c_0 v_1 b_2 (setLow h h.next)))
 (none))):=by kernel_rfl
theorem Cm (N : aB) (n  : Nat) (h0 : AH) (c_0 : Addr) (v_1 b_2 : Int) (h : AH) : Ck N n  h0 c_0 v_1 b_2 h =
 (gL (rdC h (Addr.add c_0 6) 0)).bind fun p0 =>
 (gL (rdC h (Addr.add c_0 7) 0)).bind fun p1 =>
 (p0.1).bind fun a2 =>
 cond (bO v_1 p0.2.1)
 ((di h (Addr.add a2 ((Int.toNat v_1) * 1)) [(.bool true)]).bind fun x3 =>
 (p1.1).bind fun a4 =>
 cond (bO v_1 p1.2.1)
 ((di x3 (Addr.add a4 ((Int.toNat v_1) * 1)) [(.int .i64 (aU .i64 b_2 1))]).bind fun x5 =>
 some (aj h0 x5 (.bool true)))
 (none))
 (none):=by kernel_rfl
def JM : List (List Nat × List Nat):=[([1,1,1,0,0,1],[0,6]),([1,1,1,1,1,0,0,1],[0,13])]
section
variable (N : aB) (n : Nat) (h0 : AH) (op_0 : Int) (t_6 : Bool) (h : AH)
 noncomputable def sY : Option (Go.Value × AH):=aC Tryz.prog n Tryz.f67 h0 (.code (av (ae Tryz.f67) [1,0,0,1,1,1]) [1,1,1,0,0,1]) [.block 0,.seq (av (ae Tryz.f67) [1,1]) [1,1]] (E [(0,.int .i64 op_0),(6,.bool t_6)]) h
 noncomputable def Cn : Option (Go.Value × AH):=bw Tryz.prog (au Tryz.prog n) n Tryz.f67 h0 JM N (aC Tryz.prog n Tryz.f67 h0) (av (ae Tryz.f67) [1,0,0,1,1,1]) [1,1,1,0,0,1] [.block 0,.seq (av (ae Tryz.f67) [1,1]) [1,1]] (E [(0,.int .i64 op_0),(6,.bool t_6)]) h
variable {n} {h0} {op_0 t_6} {h}
theorem Co {r : Go.Value × AH} (hv : Cn aD n h0 op_0 t_6 h = some r) : sY n h0 op_0 t_6 h = some r:=aN hv
end
section
variable (N : aB) (n : Nat) (h0 : AH) (op_0 : Int) (t_13 : Bool) (h : AH)
 noncomputable def wU : Option (Go.Value × AH):=aC Tryz.prog n Tryz.f67 h0 (.code (av (ae Tryz.f67) [1,0,0,1,1,1,1,1]) [1,1,1,1,1,0,0,1]) [.block 0,.seq (av (ae Tryz.f67) [1,1]) [1,1]] (E [(0,.int .i64 op_0),(13,.bool t_13)]) h
 noncomputable def Cp : Option (Go.Value × AH):=bw Tryz.prog (au Tryz.prog n) n Tryz.f67 h0 JM N (aC Tryz.prog n Tryz.f67 h0) (av (ae Tryz.f67) [1,0,0,1,1,1,1,1]) [1,1,1,1,1,0,0,1] [.block 0,.seq (av (ae Tryz.f67) [1,1]) [1,1]] (E [(0,.int .i64 op_0),(13,.bool t_13)]) h
variable {n} {h0} {op_0 t_13} {h}
theorem Cq {r : Go.Value × AH} (hv : Cp aD n h0 op_0 t_13 h = some r) : wU n h0 op_0 t_13 h = some r:=aN hv
end
 noncomputable def KB (N : aB) (n : Nat) (op_0 : Int) (h : AH) : Option (Go.Value × AH):=bQ Tryz.prog (au Tryz.prog n) n JM N (aC Tryz.prog n) 67 [(.int .i64 op_0)] h
theorem IA {n : Nat} {op_0 : Int} {h : AH} {r : Go.Value × AH} (hv : KB aD n op_0 h = some r) : au Tryz.prog (n + 1) 67 [(.int .i64 op_0)] h = some r:=aL hv
theorem NT (N : aB) (n : Nat) (op_0 : Int) (h : AH) : KB N n op_0 h =
 cond (aY op_0 1)
 (some (aj h (setLow h h.next) (.int .i64 0)))
 ((au Tryz.prog n 88 [(.int .i64 op_0)] (setLow h h.next)).bind fun p0 =>
 (gB (some p0.1)).bind fun b1 =>
 cond b1
 (sY n h op_0 true p0.2)
 (cond (aY op_0 25)
 (sY n h op_0 true p0.2)
 (sY n h op_0 (aY op_0 28) p0.2))):=by kernel_rfl
theorem Cr (N : aB) (n  : Nat) (h0 : AH) (op_0 : Int) (t_6 : Bool) (h : AH) : Cn N n  h0 op_0 t_6 h =
 cond t_6
 (some (aj h0 h (.int .i64 2)))
 (cond (aY op_0 21)
 (wU n h0 op_0 true h)
 (wU n h0 op_0 (aY op_0 26) h)):=by kernel_rfl
theorem Cs (N : aB) (n  : Nat) (h0 : AH) (op_0 : Int) (t_13 : Bool) (h : AH) : Cp N n  h0 op_0 t_13 h =
 cond t_13
 (some (aj h0 h (.int .i64 3)))
 (cond (aY op_0 22)
 (some (aj h0 h (.int .i64 1)))
 (cond (aY op_0 23)
 (some (aj h0 h (.int .i64 1)))
 (cond (aY op_0 24)
 (some (aj h0 h (.int .i64 1)))
 (cond (aY op_0 27)
 (some (aj h0 h (.int .i64 1)))
 (some (aj h0 h (.int .i64 (-1)))))))):=by kernel_rfl
def M8 : List (List Nat × List Nat):=[([0,1,0,1],[0,2,9,10,11])]
section
variable (N : aB) (n m0 : Nat) (h0 : AH) (c_0 : Addr) (b_2 : Int) (t_9 : Option Addr) (t_9n t_9c : Nat) (t_10 t_11 : Int) (h : AH)
 noncomputable def wV : Option (Go.Value × AH):=aC Tryz.prog n Tryz.f68 h0 (.head (av (ae Tryz.f68) [1,0,1,0,0]) [0,1,0,1] m0) [.block 0,.seq (av (ae Tryz.f68) [1,1]) [1,1]] (E [(0,.pointer (some c_0)),(2,.int .i64 b_2),(9,.slice t_9 t_9n t_9c),(10,.int .i64 t_10),(11,.int .i64 t_11)]) h
 noncomputable def vg : Option (Go.Value × AH):=bH Tryz.prog (au Tryz.prog n) n Tryz.f68 h0 M8 N (aC Tryz.prog n Tryz.f68 h0) (av (ae Tryz.f68) [1,0,1,0,0]) [0,1,0,1] m0 [.block 0,.seq (av (ae Tryz.f68) [1,1]) [1,1]] (E [(0,.pointer (some c_0)),(2,.int .i64 b_2),(9,.slice t_9 t_9n t_9c),(10,.int .i64 t_10),(11,.int .i64 t_11)]) h
variable {n m0} {h0} {c_0 b_2 t_9 t_9n t_9c t_10 t_11} {h}
theorem sZ {r : Go.Value × AH} (hv : vg aD n m0 h0 c_0 b_2 t_9 t_9n t_9c t_10 t_11 h = some r) : wV n (m0 + 1) h0 c_0 b_2 t_9 t_9n t_9c t_10 t_11 h = some r:=aO hv
end
 noncomputable def KC (N : aB) (n : Nat) (c_0 : Addr) (l_1 : Option Addr) (l_1n l_1c : Nat) (b_2 : Int) (h : AH) : Option (Go.Value × AH):=bQ Tryz.prog (au Tryz.prog n) n M8 N (aC Tryz.prog n) 68 [(.pointer (some c_0)),(.slice l_1 l_1n l_1c),(.int .i64 b_2)] h
theorem IB {n : Nat} {c_0 : Addr} {l_1 : Option Addr} {l_1n l_1c : Nat} {b_2 : Int} {h : AH} {r : Go.Value × AH} (hv : KC aD n c_0 l_1 l_1n l_1c b_2 h = some r) : au Tryz.prog (n + 1) 68 [(.pointer (some c_0)),(.slice l_1 l_1n l_1c),(.int .i64 b_2)] h = some r:=aL hv
theorem NU (N : aB) (n : Nat) (c_0 : Addr) (l_1 : Option Addr) (l_1n l_1c : Nat) (b_2 : Int) (h : AH) : KC N n c_0 l_1 l_1n l_1c b_2 h =
 wV n n h c_0 b_2 l_1 l_1n l_1c (Int.ofNat l_1n) 0 (setLow h h.next):=by kernel_rfl
theorem s8 (N : aB) (n m0 : Nat) (h0 : AH) (c_0 : Addr) (b_2 : Int) (t_9 : Option Addr) (t_9n t_9c : Nat) (t_10 t_11 : Int) (h : AH) : vg N n m0 h0 c_0 b_2 t_9 t_9n t_9c t_10 t_11 h =
 cond (cj t_11 t_10)
 ((t_9).bind fun a0 =>
 cond (bO t_11 t_9n)
 ((gI .i64 (rdC h (Addr.add a0 ((Int.toNat t_11) * 1)) 0)).bind fun n1 =>
 cond (cj n1 0)
 (some (aj h0 h (.bool false)))
 ((gL (rdC h (Addr.add c_0 7) 0)).bind fun p2 =>
 cond (bV (Int.ofNat p2.2.1) n1)
 (some (aj h0 h (.bool false)))
 ((gL (rdC h (Addr.add c_0 7) 0)).bind fun p3 =>
 (p3.1).bind fun a4 =>
 cond (bO n1 p3.2.1)
 ((gI .i64 (rdC h (Addr.add a4 ((Int.toNat n1) * 1)) 0)).bind fun n5 =>
 cond (gv n5 (aU .i64 b_2 1))
 (some (aj h0 h (.bool false)))
 (wV n m0 h0 c_0 b_2 t_9 t_9n t_9c t_10 (aU .i64 t_11 1) h))
 (none))))
 (none))
 (some (aj h0 h (.bool true))):=by kernel_rfl
def IC : List (List Nat × List Nat):=[([1,1,1],[0,3,5]),([1,0,1,0,1,1,1,1],[0,3,5]),([1,1,1,1,1],[0,3,5,7]),([0,1,0,1,1,1,1,1,1],[0,3,5,7,8,59,60,61]),([1,1,1,1,1,0,1,0,1,1,1,1,1,1,1],[3,5,7,8,78,95]),([1,1,1,1,1,1,1,1],[3,7,8])]
section
variable (N : aB) (n : Nat) (h0 : AH) (c_0 in_3 : Addr) (m_5 : Int) (h : AH)
 noncomputable def wW : Option (Go.Value × AH):=aC Tryz.prog n Tryz.f69 h0 (.code (av (ae Tryz.f69) [1,1,1]) [1,1,1]) [] (E [(0,.pointer (some c_0)),(3,.pointer (some in_3)),(5,.int .i64 m_5)]) h
 noncomputable def Ct : Option (Go.Value × AH):=bw Tryz.prog (au Tryz.prog n) n Tryz.f69 h0 IC N (aC Tryz.prog n Tryz.f69 h0) (av (ae Tryz.f69) [1,1,1]) [1,1,1] [] (E [(0,.pointer (some c_0)),(3,.pointer (some in_3)),(5,.int .i64 m_5)]) h
variable {n} {h0} {c_0 in_3 m_5} {h}
theorem Cu {r : Go.Value × AH} (hv : Ct aD n h0 c_0 in_3 m_5 h = some r) : wW n h0 c_0 in_3 m_5 h = some r:=aN hv
end
section
variable (N : aB) (n : Nat) (h0 : AH) (c_0 in_3 : Addr) (m_5 : Int) (h : AH)
 noncomputable def Cv : Option (Go.Value × AH):=aC Tryz.prog n Tryz.f69 h0 (.code (av (ae Tryz.f69) [1,1,1,1,0,1,0,1]) [1,0,1,0,1,1,1,1]) [.seq (av (ae Tryz.f69) [1,1,1,1,1]) [1,1,1,1,1]] (E [(0,.pointer (some c_0)),(3,.pointer (some in_3)),(5,.int .i64 m_5)]) h
 noncomputable def Cw : Option (Go.Value × AH):=bw Tryz.prog (au Tryz.prog n) n Tryz.f69 h0 IC N (aC Tryz.prog n Tryz.f69 h0) (av (ae Tryz.f69) [1,1,1,1,0,1,0,1]) [1,0,1,0,1,1,1,1] [.seq (av (ae Tryz.f69) [1,1,1,1,1]) [1,1,1,1,1]] (E [(0,.pointer (some c_0)),(3,.pointer (some in_3)),(5,.int .i64 m_5)]) h
variable {n} {h0} {c_0 in_3 m_5} {h}
theorem Cy {r : Go.Value × AH} (hv : Cw aD n h0 c_0 in_3 m_5 h = some r) : Cv n h0 c_0 in_3 m_5 h = some r:=aN hv
end
section
variable (N : aB) (n : Nat) (h0 : AH) (c_0 in_3 : Addr) (m_5 w_7 : Int) (h : AH)
 noncomputable def wX : Option (Go.Value × AH):=aC Tryz.prog n Tryz.f69 h0 (.code (av (ae Tryz.f69) [1,1,1,1,1]) [1,1,1,1,1]) [] (E [(0,.pointer (some c_0)),(3,.pointer (some in_3)),(5,.int .i64 m_5),(7,.int .i64 w_7)]) h
 noncomputable def Cz : Option (Go.Value × AH):=bw Tryz.prog (au Tryz.prog n) n Tryz.f69 h0 IC N (aC Tryz.prog n Tryz.f69 h0) (av (ae Tryz.f69) [1,1,1,1,1]) [1,1,1,1,1] [] (E [(0,.pointer (some c_0)),(3,.pointer (some in_3)),(5,.int .i64 m_5),(7,.int .i64 w_7)]) h
variable {n} {h0} {c_0 in_3 m_5 w_7} {h}
theorem CA {r : Go.Value × AH} (hv : Cz aD n h0 c_0 in_3 m_5 w_7 h = some r) : wX n h0 c_0 in_3 m_5 w_7 h = some r:=aN hv
end
section
variable (N : aB) (n m0 : Nat) (h0 : AH) (c_0 in_3 : Addr) (m_5 w_7 : Int) (a_8 : Addr) (t_59 : Option Addr) (t_59n t_59c : Nat) (t_60 t_61 : Int) (h : AH)
 noncomputable def wY : Option (Go.Value × AH):=aC Tryz.prog n Tryz.f69 h0 (.head (av (ae Tryz.f69) [1,1,1,1,1,1,0,1,0,0]) [0,1,0,1,1,1,1,1,1] m0) [.block 0,.seq (av (ae Tryz.f69) [1,1,1,1,1,1,1]) [1,1,1,1,1,1,1]] (E [(0,.pointer (some c_0)),(3,.pointer (some in_3)),(5,.int .i64 m_5),(7,.int .i64 w_7),(8,.pointer (some a_8)),(59,.slice t_59 t_59n t_59c),(60,.int .i64 t_60),(61,.int .i64 t_61)]) h
 noncomputable def CB : Option (Go.Value × AH):=bH Tryz.prog (au Tryz.prog n) n Tryz.f69 h0 IC N (aC Tryz.prog n Tryz.f69 h0) (av (ae Tryz.f69) [1,1,1,1,1,1,0,1,0,0]) [0,1,0,1,1,1,1,1,1] m0 [.block 0,.seq (av (ae Tryz.f69) [1,1,1,1,1,1,1]) [1,1,1,1,1,1,1]] (E [(0,.pointer (some c_0)),(3,.pointer (some in_3)),(5,.int .i64 m_5),(7,.int .i64 w_7),(8,.pointer (some a_8)),(59,.slice t_59 t_59n t_59c),(60,.int .i64 t_60),(61,.int .i64 t_61)]) h
variable {n m0} {h0} {c_0 in_3 m_5 w_7 a_8 t_59 t_59n t_59c t_60 t_61} {h}
theorem s9 {r : Go.Value × AH} (hv : CB aD n m0 h0 c_0 in_3 m_5 w_7 a_8 t_59 t_59n t_59c t_60 t_61 h = some r) : wY n (m0 + 1) h0 c_0 in_3 m_5 w_7 a_8 t_59 t_59n t_59c t_60 t_61 h = some r:=aO hv
end
section
variable (N : aB) (n : Nat) (h0 : AH) (in_3 : Addr) (m_5 w_7 : Int) (a_8 : Addr) (t_78 : Int) (t_95 : Bool) (h : AH)
 noncomputable def wZ : Option (Go.Value × AH):=aC Tryz.prog n Tryz.f69 h0 (.code (av (ae Tryz.f69) [1,1,1,1,1,1,1,0,1,0,1,1,1,1,1]) [1,1,1,1,1,0,1,0,1,1,1,1,1,1,1]) [.block 2,.seq (av (ae Tryz.f69) [1,1,1,1,1,1,1,1]) [1,1,1,1,1,1,1,1]] (E [(3,.pointer (some in_3)),(5,.int .i64 m_5),(7,.int .i64 w_7),(8,.pointer (some a_8)),(78,.int .i64 t_78),(95,.bool t_95)]) h
 noncomputable def CC : Option (Go.Value × AH):=bw Tryz.prog (au Tryz.prog n) n Tryz.f69 h0 IC N (aC Tryz.prog n Tryz.f69 h0) (av (ae Tryz.f69) [1,1,1,1,1,1,1,0,1,0,1,1,1,1,1]) [1,1,1,1,1,0,1,0,1,1,1,1,1,1,1] [.block 2,.seq (av (ae Tryz.f69) [1,1,1,1,1,1,1,1]) [1,1,1,1,1,1,1,1]] (E [(3,.pointer (some in_3)),(5,.int .i64 m_5),(7,.int .i64 w_7),(8,.pointer (some a_8)),(78,.int .i64 t_78),(95,.bool t_95)]) h
variable {n} {h0} {in_3 m_5 w_7 a_8 t_78 t_95} {h}
theorem CD {r : Go.Value × AH} (hv : CC aD n h0 in_3 m_5 w_7 a_8 t_78 t_95 h = some r) : wZ n h0 in_3 m_5 w_7 a_8 t_78 t_95 h = some r:=aN hv
end
section
variable (N : aB) (n : Nat) (h0 : AH) (in_3 : Addr) (w_7 : Int) (a_8 : Addr) (h : AH)
 noncomputable def CE : Option (Go.Value × AH):=aC Tryz.prog n Tryz.f69 h0 (.code (av (ae Tryz.f69) [1,1,1,1,1,1,1,1]) [1,1,1,1,1,1,1,1]) [] (E [(3,.pointer (some in_3)),(7,.int .i64 w_7),(8,.pointer (some a_8))]) h
 noncomputable def CG : Option (Go.Value × AH):=bw Tryz.prog (au Tryz.prog n) n Tryz.f69 h0 IC N (aC Tryz.prog n Tryz.f69 h0) (av (ae Tryz.f69) [1,1,1,1,1,1,1,1]) [1,1,1,1,1,1,1,1] [] (E [(3,.pointer (some in_3)),(7,.int .i64 w_7),(8,.pointer (some a_8))]) h
variable {n} {h0} {in_3 w_7 a_8} {h}
theorem CH {r : Go.Value × AH} (hv : CG aD n h0 in_3 w_7 a_8 h = some r) : CE n h0 in_3 w_7 a_8 h = some r:=aN hv
end
 noncomputable def KD (N : aB) (n : Nat) (c_0 : Addr) (in_1a in_1b : Int) (in_1c : Option Addr) (in_1cn in_1cc : Nat) (in_1d in_1e : Int) (h : AH) : Option (Go.Value × AH):=bQ Tryz.prog (au Tryz.prog n) n IC N (aC Tryz.prog n) 69 [(.pointer (some c_0)),(.agg #[(.int .i64 in_1a),(.int .i64 in_1b),(.slice in_1c in_1cn in_1cc),(.int .u64 in_1d),(.int .i64 in_1e)])] h
theorem ID {n : Nat} {c_0 : Addr} {in_1a in_1b : Int} {in_1c : Option Addr} {in_1cn in_1cc : Nat} {in_1d in_1e : Int} {h : AH} {r : Go.Value × AH} (hv : KD aD n c_0 in_1a in_1b in_1c in_1cn in_1cc in_1d in_1e h = some r) : au Tryz.prog (n + 1) 69 [(.pointer (some c_0)),(.agg #[(.int .i64 in_1a),(.int .i64 in_1b),(.slice in_1c in_1cn in_1cc),(.int .u64 in_1d),(.int .i64 in_1e)])] h = some r:=aL hv
theorem NV (N : aB) (n : Nat) (c_0 : Addr) (in_1a in_1b : Int) (in_1c : Option Addr) (in_1cn in_1cc : Nat) (in_1d in_1e : Int) (h : AH) : KD N n c_0 in_1a in_1b in_1c in_1cn in_1cc in_1d in_1e h =
 (N (setLow h h.next) [(.int .i64 in_1a),(.int .i64 in_1b),(.slice in_1c in_1cn in_1cc),(.int .u64 in_1d),(.int .i64 in_1e)] 0).bind fun p0 =>
 (gI .i64 (rdC p0.2 ⟨p0.1,0,none⟩ 0)).bind fun n1 =>
 (gI .i64 (rdC p0.2 ⟨p0.1,0,none⟩ 1)).bind fun n2 =>
 (gL (rdC p0.2 ⟨p0.1,0,none⟩ 2)).bind fun p3 =>
 (gI .u64 (rdC p0.2 ⟨p0.1,0,none⟩ 3)).bind fun n4 =>
 (gI .i64 (rdC p0.2 ⟨p0.1,0,none⟩ 4)).bind fun n5 =>
 (au Tryz.prog n 89 [(.pointer (some c_0)),(.agg #[(.int .i64 n1),(.int .i64 n2),(.slice p3.1 p3.2.1 p3.2.2),(.int .u64 n4),(.int .i64 n5)])] p0.2).bind fun p6 =>
 cond (ng 2 p6.1)
 ((gI .i64 (lL 0 p6.1)).bind fun n7 =>
 (gB (lL 1 p6.1)).bind fun b8 =>
 cond (Bool.not b8)
 (some (aj h p6.2 (.bool false)))
 ((gI .u64 (rdC p6.2 (Addr.add ⟨p0.1,0,none⟩ 3) 0)).bind fun n9 =>
 cond (gv n9 0)
 ((gI .i64 (rdC p6.2 (Addr.add ⟨p0.1,0,none⟩ 0) 0)).bind fun n10 =>
 cond (gv n10 1)
 (some (aj h p6.2 (.bool false)))
 (wW n h c_0 ⟨p0.1,0,none⟩ n7 p6.2))
 (wW n h c_0 ⟨p0.1,0,none⟩ n7 p6.2)))
 (none):=by kernel_rfl
theorem CI (N : aB) (n  : Nat) (h0 : AH) (c_0 in_3 : Addr) (m_5 : Int) (h : AH) : Ct N n  h0 c_0 in_3 m_5 h =
 (gI .i64 (rdC h (Addr.add in_3 0) 0)).bind fun n0 =>
 (au Tryz.prog n 70 [(.int .i64 n0)] h).bind fun p1 =>
 (gB (some p1.1)).bind fun b2 =>
 cond b2
 ((gI .i64 (rdC p1.2 (Addr.add in_3 1) 0)).bind fun n3 =>
 cond (cj n3 0)
 (some (aj h0 p1.2 (.bool false)))
 ((gI .i64 (rdC p1.2 (Addr.add in_3 1) 0)).bind fun n4 =>
 (gL (rdC p1.2 (Addr.add (Addr.add c_0 0) 1) 0)).bind fun p5 =>
 cond (bV (Int.ofNat p5.2.1) n4)
 (some (aj h0 p1.2 (.bool false)))
 (Cv n h0 c_0 in_3 m_5 p1.2)))
 ((gI .i64 (rdC p1.2 (Addr.add in_3 1) 0)).bind fun n6 =>
 cond (gv n6 (-1))
 (some (aj h0 p1.2 (.bool false)))
 (wX n h0 c_0 in_3 m_5 0 p1.2)):=by kernel_rfl
theorem CJ (N : aB) (n  : Nat) (h0 : AH) (c_0 in_3 : Addr) (m_5 : Int) (h : AH) : Cw N n  h0 c_0 in_3 m_5 h =
 (gL (rdC h (Addr.add (Addr.add c_0 0) 1) 0)).bind fun p0 =>
 (gI .i64 (rdC h (Addr.add in_3 1) 0)).bind fun n1 =>
 (p0.1).bind fun a2 =>
 cond (bO n1 p0.2.1)
 ((gI .i64 (rdC h (Addr.add a2 ((Int.toNat n1) * 1)) 0)).bind fun n3 =>
 wX n h0 c_0 in_3 m_5 n3 h)
 (none):=by kernel_rfl
theorem CK (N : aB) (n  : Nat) (h0 : AH) (c_0 in_3 : Addr) (m_5 w_7 : Int) (h : AH) : Cz N n  h0 c_0 in_3 m_5 w_7 h =
 (N h [(.int .i64 0),(.int .i64 0),(.int .i64 0)] 0).bind fun p0 =>
 (gL (rdC p0.2 (Addr.add in_3 2) 0)).bind fun p1 =>
 wY n n h0 c_0 in_3 m_5 w_7 ⟨p0.1,0,none⟩ p1.1 p1.2.1 p1.2.2 (Int.ofNat p1.2.1) 0 p0.2:=by kernel_rfl
theorem te (N : aB) (n m0 : Nat) (h0 : AH) (c_0 in_3 : Addr) (m_5 w_7 : Int) (a_8 : Addr) (t_59 : Option Addr) (t_59n t_59c : Nat) (t_60 t_61 : Int) (h : AH) : CB N n m0 h0 c_0 in_3 m_5 w_7 a_8 t_59 t_59n t_59c t_60 t_61 h =
 cond (cj t_61 t_60)
 ((t_59).bind fun a0 =>
 cond (bO t_61 t_59n)
 ((gI .i64 (rdC h (Addr.add a0 ((Int.toNat t_61) * 1)) 0)).bind fun n1 =>
 (gL (rdC h (Addr.add (Addr.add c_0 0) 1) 0)).bind fun p2 =>
 (p2.1).bind fun a3 =>
 cond (bO n1 p2.2.1)
 ((gI .i64 (rdC h (Addr.add a3 ((Int.toNat n1) * 1)) 0)).bind fun n4 =>
 cond (bO t_61 3)
 ((di h (Addr.add a_8 ((Int.toNat t_61) * 1)) [(.int .i64 n4)]).bind fun x5 =>
 wY n m0 h0 c_0 in_3 m_5 w_7 a_8 t_59 t_59n t_59c t_60 (aU .i64 t_61 1) x5)
 (none))
 (none))
 (none))
 ((gI .i64 (rdC h (Addr.add in_3 0) 0)).bind fun n6 =>
 cond (aY n6 1)
 ((gI .u64 (rdC h (Addr.add in_3 3) 0)).bind fun n7 =>
 (au Tryz.prog n 90 [(.int .i64 w_7),(.int .u64 n7)] (setLow h h.next)).bind fun p8 =>
 (gI .u64 (some p8.1)).bind fun n9 =>
 cond (Nat.beq p8.2.low h.next)
 ((gI .u64 (rdC (setLow p8.2 h.low) (Addr.add in_3 3) 0)).bind fun n10 =>
 some (aj h0 (setLow p8.2 h.low) (.bool (aY n9 n10))))
 (none))
 (cond (aY n6 21)
 ((gI .i64 (rdC h a_8 0)).bind fun n11 =>
 (gI .i64 (rdC h a_8 1)).bind fun n12 =>
 (gI .i64 (rdC h a_8 2)).bind fun n13 =>
 cond (aY n11 1)
 (cond (aY n12 w_7)
 (cond (aY n13 w_7)
 (some (aj h0 h (.bool true)))
 (some (aj h0 h (.bool false))))
 (some (aj h0 h (.bool false))))
 (some (aj h0 h (.bool false))))
 (cond (aY n6 22)
 (wZ n h0 in_3 m_5 w_7 a_8 n6 true h)
 (wZ n h0 in_3 m_5 w_7 a_8 n6 (aY n6 23) h)))):=by kernel_rfl
theorem CL (N : aB) (n  : Nat) (h0 : AH) (in_3 : Addr) (m_5 w_7 : Int) (a_8 : Addr) (t_78 : Int) (t_95 : Bool) (h : AH) : CC N n  h0 in_3 m_5 w_7 a_8 t_78 t_95 h =
 cond t_95
 ((gI .i64 (rdC h (Addr.add a_8 0) 0)).bind fun n0 =>
 some (aj h0 h (.bool (cj n0 w_7))))
 (cond (aY t_78 24)
 ((gI .i64 (rdC h (Addr.add a_8 0) 0)).bind fun n1 =>
 some (aj h0 h (.bool (cj w_7 n1))))
 (cond (aY t_78 25)
 (cond (aY m_5 w_7)
 ((gI .i64 (rdC h (Addr.add a_8 1) 0)).bind fun n2 =>
 some (aj h0 h (.bool (aY n2 1))))
 (some (aj h0 h (.bool false))))
 (cond (aY t_78 26)
 ((gI .i64 (rdC h (Addr.add a_8 1) 0)).bind fun n3 =>
 cond (aY m_5 n3)
 ((gI .i64 (rdC h (Addr.add a_8 2) 0)).bind fun n4 =>
 some (aj h0 h (.bool (aY n4 1))))
 (some (aj h0 h (.bool false))))
 (cond (aY t_78 27)
 (cond (aY m_5 w_7)
 ((gI .i64 (rdC h (Addr.add a_8 0) 0)).bind fun n5 =>
 some (aj h0 h (.bool (aY n5 1))))
 (some (aj h0 h (.bool false))))
 (cond (aY t_78 28)
 ((gI .i64 (rdC h (Addr.add a_8 0) 0)).bind fun n6 =>
 cond (aY m_5 n6)
 ((gI .i64 (rdC h (Addr.add a_8 1) 0)).bind fun n7 =>
 some (aj h0 h (.bool (aY n7 1))))
 (some (aj h0 h (.bool false))))
 (CE n h0 in_3 w_7 a_8 h)))))):=by kernel_rfl
theorem CM (N : aB) (n  : Nat) (h0 : AH) (in_3 : Addr) (w_7 : Int) (a_8 : Addr) (h : AH) : CG N n  h0 in_3 w_7 a_8 h =
 (gI .i64 (rdC h (Addr.add in_3 0) 0)).bind fun n0 =>
 (au Tryz.prog n 91 [(.int .i64 n0)] h).bind fun p1 =>
 (gB (some p1.1)).bind fun b2 =>
 cond b2
 ((gI .i64 (rdC p1.2 (Addr.add a_8 0) 0)).bind fun n3 =>
 (gI .i64 (rdC p1.2 (Addr.add a_8 1) 0)).bind fun n4 =>
 cond (aY n3 n4)
 (some (aj h0 p1.2 (.bool (aY w_7 1))))
 (some (aj h0 p1.2 (.bool false))))
 ((gI .i64 (rdC p1.2 (Addr.add a_8 0) 0)).bind fun n5 =>
 cond (aY n5 w_7)
 ((gI .i64 (rdC p1.2 (Addr.add a_8 1) 0)).bind fun n6 =>
 some (aj h0 p1.2 (.bool (aY n6 w_7))))
 (some (aj h0 p1.2 (.bool false)))):=by kernel_rfl
def LT : List (List Nat × List Nat):=[]
 noncomputable def KE (N : aB) (n : Nat) (op_0 : Int) (h : AH) : Option (Go.Value × AH):=bQ Tryz.prog (au Tryz.prog n) n LT N (aC Tryz.prog n) 70 [(.int .i64 op_0)] h
theorem IE {n : Nat} {op_0 : Int} {h : AH} {r : Go.Value × AH} (hv : KE aD n op_0 h = some r) : au Tryz.prog (n + 1) 70 [(.int .i64 op_0)] h = some r:=aL hv
theorem NW (N : aB) (n : Nat) (op_0 : Int) (h : AH) : KE N n op_0 h =
 cond (gv op_0 26)
 (some (aj h (setLow h h.next) (.bool (gv op_0 28))))
 (some (aj h (setLow h h.next) (.bool false))):=by kernel_rfl
def M9 : List (List Nat × List Nat):=[([0,1,0,1],[2,3,4,10,11,12])]
section
variable (N : aB) (n m0 : Nat) (h0 : AH) (b_2 : Int) (c_3 t_4 : Addr) (t_10 : Option Addr) (t_10n t_10c : Nat) (t_11 t_12 : Int) (h : AH)
 noncomputable def w7 : Option (Go.Value × AH):=aC Tryz.prog n Tryz.f71 h0 (.head (av (ae Tryz.f71) [1,0,1,0,0]) [0,1,0,1] m0) [.block 0,.seq (av (ae Tryz.f71) [1,1]) [1,1]] (E [(2,.int .i64 b_2),(3,.pointer (some c_3)),(4,.pointer (some t_4)),(10,.slice t_10 t_10n t_10c),(11,.int .i64 t_11),(12,.int .i64 t_12)]) h
 noncomputable def CN : Option (Go.Value × AH):=bH Tryz.prog (au Tryz.prog n) n Tryz.f71 h0 M9 N (aC Tryz.prog n Tryz.f71 h0) (av (ae Tryz.f71) [1,0,1,0,0]) [0,1,0,1] m0 [.block 0,.seq (av (ae Tryz.f71) [1,1]) [1,1]] (E [(2,.int .i64 b_2),(3,.pointer (some c_3)),(4,.pointer (some t_4)),(10,.slice t_10 t_10n t_10c),(11,.int .i64 t_11),(12,.int .i64 t_12)]) h
variable {n m0} {h0} {b_2 c_3 t_4 t_10 t_10n t_10c t_11 t_12} {h}
theorem tf {r : Go.Value × AH} (hv : CN aD n m0 h0 b_2 c_3 t_4 t_10 t_10n t_10c t_11 t_12 h = some r) : w7 n (m0 + 1) h0 b_2 c_3 t_4 t_10 t_10n t_10c t_11 t_12 h = some r:=aO hv
end
 noncomputable def KF (N : aB) (n : Nat) (c_0 : Addr) (t_1a t_1b : Int) (t_1c : Option Addr) (t_1cn t_1cc : Nat) (t_1d : Option Addr) (t_1dn t_1dc : Nat) (b_2 : Int) (h : AH) : Option (Go.Value × AH):=bQ Tryz.prog (au Tryz.prog n) n M9 N (aC Tryz.prog n) 71 [(.pointer (some c_0)),(.agg #[(.int .i64 t_1a),(.int .i64 t_1b),(.slice t_1c t_1cn t_1cc),(.slice t_1d t_1dn t_1dc)]),(.int .i64 b_2)] h
theorem IF {n : Nat} {c_0 : Addr} {t_1a t_1b : Int} {t_1c : Option Addr} {t_1cn t_1cc : Nat} {t_1d : Option Addr} {t_1dn t_1dc : Nat} {b_2 : Int} {h : AH} {r : Go.Value × AH} (hv : KF aD n c_0 t_1a t_1b t_1c t_1cn t_1cc t_1d t_1dn t_1dc b_2 h = some r) : au Tryz.prog (n + 1) 71 [(.pointer (some c_0)),(.agg #[(.int .i64 t_1a),(.int .i64 t_1b),(.slice t_1c t_1cn t_1cc),(.slice t_1d t_1dn t_1dc)]),(.int .i64 b_2)] h = some r:=aL hv
theorem NX (N : aB) (n : Nat) (c_0 : Addr) (t_1a t_1b : Int) (t_1c : Option Addr) (t_1cn t_1cc : Nat) (t_1d : Option Addr) (t_1dn t_1dc : Nat) (b_2 : Int) (h : AH) : KF N n c_0 t_1a t_1b t_1c t_1cn t_1cc t_1d t_1dn t_1dc b_2 h =
 (N (setLow h h.next) [(.pointer (some c_0))] 0).bind fun p0 =>
 (N p0.2 [(.int .i64 t_1a),(.int .i64 t_1b),(.slice t_1c t_1cn t_1cc),(.slice t_1d t_1dn t_1dc)] 0).bind fun p1 =>
 (gL (rdC p1.2 (Addr.add ⟨p1.1,0,none⟩ 2) 0)).bind fun p2 =>
 w7 n n h b_2 ⟨p0.1,0,none⟩ ⟨p1.1,0,none⟩ p2.1 p2.2.1 p2.2.2 (Int.ofNat p2.2.1) 0 p1.2:=by kernel_rfl
theorem tg (N : aB) (n m0 : Nat) (h0 : AH) (b_2 : Int) (c_3 t_4 : Addr) (t_10 : Option Addr) (t_10n t_10c : Nat) (t_11 t_12 : Int) (h : AH) : CN N n m0 h0 b_2 c_3 t_4 t_10 t_10n t_10c t_11 t_12 h =
 cond (cj t_12 t_11)
 ((t_10).bind fun a0 =>
 cond (bO t_12 t_10n)
 ((gI .i64 (rdC h (Addr.add a0 ((Int.toNat t_12) * 2)) 0)).bind fun n1 =>
 (gL (rdC h (Addr.add a0 ((Int.toNat t_12) * 2)) 1)).bind fun p2 =>
 (N h [(.int .i64 0),(.slice none 0 0)] 0).bind fun p3 =>
 (di p3.2 ⟨p3.1,0,none⟩ [(.int .i64 n1),(.slice p2.1 p2.2.1 p2.2.2)]).bind fun x4 =>
 (gP (rdC x4 c_3 0)).bind fun x5 =>
 (gI .i64 (rdC x4 ⟨p3.1,0,none⟩ 0)).bind fun n6 =>
 (gL (rdC x4 ⟨p3.1,0,none⟩ 1)).bind fun p7 =>
 (au Tryz.prog n 92 [(.pointer x5),(.agg #[(.int .i64 n6),(.slice p7.1 p7.2.1 p7.2.2)]),(.int .i64 b_2)] x4).bind fun p8 =>
 (gB (some p8.1)).bind fun b9 =>
 cond (Bool.not b9)
 (some (aj h0 p8.2 (.bool false)))
 (w7 n m0 h0 b_2 c_3 t_4 t_10 t_10n t_10c t_11 (aU .i64 t_12 1) p8.2))
 (none))
 ((gI .i64 (rdC h (Addr.add t_4 0) 0)).bind fun n10 =>
 cond (aY n10 1)
 ((gL (rdC h (Addr.add t_4 2) 0)).bind fun p11 =>
 cond (aY (Int.ofNat p11.2.1) 1)
 ((gI .i64 (rdC h (Addr.add t_4 1) 0)).bind fun n12 =>
 cond (aY n12 (-1))
 ((gL (rdC h (Addr.add t_4 3) 0)).bind fun p13 =>
 some (aj h0 h (.bool (aY (Int.ofNat p13.2.1) 0))))
 (some (aj h0 h (.bool false))))
 (some (aj h0 h (.bool false))))
 (cond (aY n10 2)
 ((gL (rdC h (Addr.add t_4 2) 0)).bind fun p14 =>
 cond (aY (Int.ofNat p14.2.1) 2)
 ((gL (rdC h (Addr.add t_4 3) 0)).bind fun p15 =>
 cond (aY (Int.ofNat p15.2.1) 0)
 ((gP (rdC h c_3 0)).bind fun x16 =>
 (gI .i64 (rdC h (Addr.add t_4 1) 0)).bind fun n17 =>
 (N h [(.int .i64 n17)] 1).bind fun p18 =>
 (au Tryz.prog n 68 [(.pointer x16),(.slice (some ⟨p18.1,0,none⟩) 1 1),(.int .i64 b_2)] (setLow p18.2 p18.2.next)).bind fun gc =>
 (gB (some gc.1)).bind fun b20 =>
 cond (Nat.beq gc.2.low p18.2.next)
 (cond b20
 ((gP (rdC (setLow gc.2 p18.2.low) c_3 0)).bind fun x21 =>
 (x21).bind fun a22 =>
 (gL (rdC (setLow gc.2 p18.2.low) (Addr.add (Addr.add a22 0) 1) 0)).bind fun kS =>
 (gI .i64 (rdC (setLow gc.2 p18.2.low) (Addr.add t_4 1) 0)).bind fun n24 =>
 (kS.1).bind fun a25 =>
 cond (bO n24 kS.2.1)
 ((gI .i64 (rdC (setLow gc.2 p18.2.low) (Addr.add a25 ((Int.toNat n24) * 1)) 0)).bind fun n26 =>
 some (aj h0 (setLow gc.2 p18.2.low) (.bool (aY n26 1))))
 (none))
 (some (aj h0 (setLow gc.2 p18.2.low) (.bool false))))
 (none))
 (some (aj h0 h (.bool false))))
 (some (aj h0 h (.bool false))))
 (cond (aY n10 3)
 ((gL (rdC h (Addr.add t_4 2) 0)).bind fun p27 =>
 cond (aY (Int.ofNat p27.2.1) 0)
 ((gI .i64 (rdC h (Addr.add t_4 1) 0)).bind fun n28 =>
 cond (aY n28 (-1))
 ((gP (rdC h c_3 0)).bind fun x29 =>
 (gL (rdC h (Addr.add t_4 3) 0)).bind fun p30 =>
 (au Tryz.prog n 68 [(.pointer x29),(.slice p30.1 p30.2.1 p30.2.2),(.int .i64 b_2)] (setLow h h.next)).bind fun p31 =>
 (gB (some p31.1)).bind fun b32 =>
 cond (Nat.beq p31.2.low h.next)
 (cond b32
 ((gL (rdC (setLow p31.2 h.low) (Addr.add t_4 3) 0)).bind fun p33 =>
 (gP (rdC (setLow p31.2 h.low) c_3 0)).bind fun x34 =>
 (x34).bind fun a35 =>
 (gL (rdC (setLow p31.2 h.low) (Addr.add (Addr.add a35 0) 4) 0)).bind fun p36 =>
 (au Tryz.prog n 93 [(.slice p33.1 p33.2.1 p33.2.2),(.slice p36.1 p36.2.1 p36.2.2),(Value.func (Fn.func 94) (List.toArray []) (List.toArray [(.pointer (some c_3))]))] (setLow p31.2 h.low)).bind fun nI =>
 (gB (some nI.1)).bind fun b38 =>
 some (aj h0 nI.2 (.bool b38)))
 (some (aj h0 (setLow p31.2 h.low) (.bool false))))
 (none))
 (some (aj h0 h (.bool false))))
 (some (aj h0 h (.bool false))))
 (some (aj h0 h (.bool false)))))):=by kernel_rfl
def NY : List (List Nat × List Nat):=[]
 noncomputable def KG (N : aB) (n : Nat) (op_0 : Int) (h : AH) : Option (Go.Value × AH):=bQ Tryz.prog (au Tryz.prog n) n NY N (aC Tryz.prog n) 88 [(.int .i64 op_0)] h
theorem IG {n : Nat} {op_0 : Int} {h : AH} {r : Go.Value × AH} (hv : KG aD n op_0 h = some r) : au Tryz.prog (n + 1) 88 [(.int .i64 op_0)] h = some r:=aL hv
theorem NZ (N : aB) (n : Nat) (op_0 : Int) (h : AH) : KG N n op_0 h =
 cond (bV 2 op_0)
 (some (aj h (setLow h h.next) (.bool (bV op_0 20))))
 (some (aj h (setLow h h.next) (.bool false))):=by kernel_rfl
def He : List (List Nat × List Nat):=[([1,0,1,0,1],[0,3,7,8]),([1,0,1,0,1,0,1],[0,3]),([1,1,1,0,1,0,1],[0,3,35]),([1,0,1,1,1,0,1,0,1],[0,3])]
section
variable (N : aB) (n : Nat) (h0 : AH) (c_0 in_3 : Addr) (t_7 : Int) (t_8 : Bool) (h : AH)
 noncomputable def w8 : Option (Go.Value × AH):=aC Tryz.prog n Tryz.f89 h0 (.code (av (ae Tryz.f89) [1,0,1,0,1]) [1,0,1,0,1]) [.block 0,.seq (av (ae Tryz.f89) [1,1]) [1,1]] (E [(0,.pointer (some c_0)),(3,.pointer (some in_3)),(7,.int .i64 t_7),(8,.bool t_8)]) h
 noncomputable def CO : Option (Go.Value × AH):=bw Tryz.prog (au Tryz.prog n) n Tryz.f89 h0 He N (aC Tryz.prog n Tryz.f89 h0) (av (ae Tryz.f89) [1,0,1,0,1]) [1,0,1,0,1] [.block 0,.seq (av (ae Tryz.f89) [1,1]) [1,1]] (E [(0,.pointer (some c_0)),(3,.pointer (some in_3)),(7,.int .i64 t_7),(8,.bool t_8)]) h
variable {n} {h0} {c_0 in_3 t_7 t_8} {h}
theorem CP {r : Go.Value × AH} (hv : CO aD n h0 c_0 in_3 t_7 t_8 h = some r) : w8 n h0 c_0 in_3 t_7 t_8 h = some r:=aN hv
end
section
variable (N : aB) (n : Nat) (h0 : AH) (c_0 in_3 : Addr) (h : AH)
 noncomputable def CQ : Option (Go.Value × AH):=aC Tryz.prog n Tryz.f89 h0 (.code (av (ae Tryz.f89) [1,0,1,0,1,0,1]) [1,0,1,0,1,0,1]) [.block 0,.seq (av (ae Tryz.f89) [1,1]) [1,1]] (E [(0,.pointer (some c_0)),(3,.pointer (some in_3))]) h
 noncomputable def CR : Option (Go.Value × AH):=bw Tryz.prog (au Tryz.prog n) n Tryz.f89 h0 He N (aC Tryz.prog n Tryz.f89 h0) (av (ae Tryz.f89) [1,0,1,0,1,0,1]) [1,0,1,0,1,0,1] [.block 0,.seq (av (ae Tryz.f89) [1,1]) [1,1]] (E [(0,.pointer (some c_0)),(3,.pointer (some in_3))]) h
variable {n} {h0} {c_0 in_3} {h}
theorem CT {r : Go.Value × AH} (hv : CR aD n h0 c_0 in_3 h = some r) : CQ n h0 c_0 in_3 h = some r:=aN hv
end
section
variable (N : aB) (n : Nat) (h0 : AH) (c_0 in_3 : Addr) (t_35 : Bool) (h : AH)
 noncomputable def w9 : Option (Go.Value × AH):=aC Tryz.prog n Tryz.f89 h0 (.code (av (ae Tryz.f89) [1,0,1,0,1,1,1]) [1,1,1,0,1,0,1]) [.block 0,.seq (av (ae Tryz.f89) [1,1]) [1,1]] (E [(0,.pointer (some c_0)),(3,.pointer (some in_3)),(35,.bool t_35)]) h
 noncomputable def CU : Option (Go.Value × AH):=bw Tryz.prog (au Tryz.prog n) n Tryz.f89 h0 He N (aC Tryz.prog n Tryz.f89 h0) (av (ae Tryz.f89) [1,0,1,0,1,1,1]) [1,1,1,0,1,0,1] [.block 0,.seq (av (ae Tryz.f89) [1,1]) [1,1]] (E [(0,.pointer (some c_0)),(3,.pointer (some in_3)),(35,.bool t_35)]) h
variable {n} {h0} {c_0 in_3 t_35} {h}
theorem CV {r : Go.Value × AH} (hv : CU aD n h0 c_0 in_3 t_35 h = some r) : w9 n h0 c_0 in_3 t_35 h = some r:=aN hv
end
section
variable (N : aB) (n : Nat) (h0 : AH) (c_0 in_3 : Addr) (h : AH)
 noncomputable def CW : Option (Go.Value × AH):=aC Tryz.prog n Tryz.f89 h0 (.code (av (ae Tryz.f89) [1,0,1,0,1,1,1,0,1]) [1,0,1,1,1,0,1,0,1]) [.block 0,.seq (av (ae Tryz.f89) [1,1]) [1,1]] (E [(0,.pointer (some c_0)),(3,.pointer (some in_3))]) h
 noncomputable def CY : Option (Go.Value × AH):=bw Tryz.prog (au Tryz.prog n) n Tryz.f89 h0 He N (aC Tryz.prog n Tryz.f89 h0) (av (ae Tryz.f89) [1,0,1,0,1,1,1,0,1]) [1,0,1,1,1,0,1,0,1] [.block 0,.seq (av (ae Tryz.f89) [1,1]) [1,1]] (E [(0,.pointer (some c_0)),(3,.pointer (some in_3))]) h
variable {n} {h0} {c_0 in_3} {h}
theorem CZ {r : Go.Value × AH} (hv : CY aD n h0 c_0 in_3 h = some r) : CW n h0 c_0 in_3 h = some r:=aN hv
end
 noncomputable def KH (N : aB) (n : Nat) (c_0 : Addr) (in_1a in_1b : Int) (in_1c : Option Addr) (in_1cn in_1cc : Nat) (in_1d in_1e : Int) (h : AH) : Option (Go.Value × AH):=bQ Tryz.prog (au Tryz.prog n) n He N (aC Tryz.prog n) 89 [(.pointer (some c_0)),(.agg #[(.int .i64 in_1a),(.int .i64 in_1b),(.slice in_1c in_1cn in_1cc),(.int .u64 in_1d),(.int .i64 in_1e)])] h
theorem IH {n : Nat} {c_0 : Addr} {in_1a in_1b : Int} {in_1c : Option Addr} {in_1cn in_1cc : Nat} {in_1d in_1e : Int} {h : AH} {r : Go.Value × AH} (hv : KH aD n c_0 in_1a in_1b in_1c in_1cn in_1cc in_1d in_1e h = some r) : au Tryz.prog (n + 1) 89 [(.pointer (some c_0)),(.agg #[(.int .i64 in_1a),(.int .i64 in_1b),(.slice in_1c in_1cn in_1cc),(.int .u64 in_1d),(.int .i64 in_1e)])] h = some r:=aL hv
theorem N0 (N : aB) (n : Nat) (c_0 : Addr) (in_1a in_1b : Int) (in_1c : Option Addr) (in_1cn in_1cc : Nat) (in_1d in_1e : Int) (h : AH) : KH N n c_0 in_1a in_1b in_1c in_1cn in_1cc in_1d in_1e h =
 (N (setLow h h.next) [(.int .i64 in_1a),(.int .i64 in_1b),(.slice in_1c in_1cn in_1cc),(.int .u64 in_1d),(.int .i64 in_1e)] 0).bind fun p0 =>
 (gI .i64 (rdC p0.2 (Addr.add ⟨p0.1,0,none⟩ 0) 0)).bind fun n1 =>
 cond (aY n1 25)
 (w8 n h c_0 ⟨p0.1,0,none⟩ n1 true p0.2)
 (w8 n h c_0 ⟨p0.1,0,none⟩ n1 (aY n1 26) p0.2):=by kernel_rfl
theorem C6 (N : aB) (n  : Nat) (h0 : AH) (c_0 in_3 : Addr) (t_7 : Int) (t_8 : Bool) (h : AH) : CO N n  h0 c_0 in_3 t_7 t_8 h =
 cond t_8
 ((gI .i64 (rdC h (Addr.add in_3 4) 0)).bind fun n0 =>
 cond (cj n0 0)
 (some (aj h0 h (.tuple #[(.int .i64 0),(.bool false)])))
 ((gI .i64 (rdC h (Addr.add in_3 4) 0)).bind fun n1 =>
 (gL (rdC h (Addr.add (Addr.add c_0 0) 2) 0)).bind fun p2 =>
 cond (bV (Int.ofNat p2.2.1) n1)
 (some (aj h0 h (.tuple #[(.int .i64 0),(.bool false)])))
 (CQ n h0 c_0 in_3 h)))
 (cond (aY t_7 27)
 (w9 n h0 c_0 in_3 true h)
 (w9 n h0 c_0 in_3 (aY t_7 28) h)):=by kernel_rfl
theorem C8 (N : aB) (n  : Nat) (h0 : AH) (c_0 in_3 : Addr) (h : AH) : CR N n  h0 c_0 in_3 h =
 (gL (rdC h (Addr.add (Addr.add c_0 0) 2) 0)).bind fun p0 =>
 (gI .i64 (rdC h (Addr.add in_3 4) 0)).bind fun n1 =>
 (p0.1).bind fun a2 =>
 cond (bO n1 p0.2.1)
 ((gI .i64 (rdC h (Addr.add (Addr.add a2 ((Int.toNat n1) * 5)) 1) 0)).bind fun n3 =>
 some (aj h0 h (.tuple #[(.int .i64 n3),(.bool true)])))
 (none):=by kernel_rfl
theorem C9 (N : aB) (n  : Nat) (h0 : AH) (c_0 in_3 : Addr) (t_35 : Bool) (h : AH) : CU N n  h0 c_0 in_3 t_35 h =
 cond t_35
 ((gI .i64 (rdC h (Addr.add in_3 4) 0)).bind fun n0 =>
 cond (cj n0 0)
 (some (aj h0 h (.tuple #[(.int .i64 0),(.bool false)])))
 ((gI .i64 (rdC h (Addr.add in_3 4) 0)).bind fun n1 =>
 (gL (rdC h (Addr.add (Addr.add c_0 0) 3) 0)).bind fun p2 =>
 cond (bV (Int.ofNat p2.2.1) n1)
 (some (aj h0 h (.tuple #[(.int .i64 0),(.bool false)])))
 ((gL (rdC h (Addr.add (Addr.add c_0 0) 3) 0)).bind fun p3 =>
 (gI .i64 (rdC h (Addr.add in_3 4) 0)).bind fun n4 =>
 (p3.1).bind fun a5 =>
 cond (bO n4 p3.2.1)
 ((gB (rdC h (Addr.add (Addr.add a5 ((Int.toNat n4) * 3)) 2) 0)).bind fun b6 =>
 (gI .i64 (rdC h (Addr.add in_3 0) 0)).bind fun n7 =>
 cond (Bool.not (BEq.beq b6 (aY n7 28)))
 (some (aj h0 h (.tuple #[(.int .i64 0),(.bool false)])))
 (CW n h0 c_0 in_3 h))
 (none))))
 ((gI .i64 (rdC h (Addr.add in_3 4) 0)).bind fun n8 =>
 some (aj h0 h (.tuple #[(.int .i64 0),(.bool (aY n8 0))]))):=by kernel_rfl
theorem Da (N : aB) (n  : Nat) (h0 : AH) (c_0 in_3 : Addr) (h : AH) : CY N n  h0 c_0 in_3 h =
 (gL (rdC h (Addr.add (Addr.add c_0 0) 3) 0)).bind fun p0 =>
 (gI .i64 (rdC h (Addr.add in_3 4) 0)).bind fun n1 =>
 (p0.1).bind fun a2 =>
 cond (bO n1 p0.2.1)
 ((gI .i64 (rdC h (Addr.add (Addr.add a2 ((Int.toNat n1) * 3)) 1) 0)).bind fun n3 =>
 some (aj h0 h (.tuple #[(.int .i64 n3),(.bool true)])))
 (none):=by kernel_rfl
def N3 : List (List Nat × List Nat):=[]
 noncomputable def KI (N : aB) (n : Nat) (w_0 x_1 : Int) (h : AH) : Option (Go.Value × AH):=bQ Tryz.prog (au Tryz.prog n) n N3 N (aC Tryz.prog n) 90 [(.int .i64 w_0),(.int .u64 x_1)] h
theorem II {n : Nat} {w_0 x_1 : Int} {h : AH} {r : Go.Value × AH} (hv : KI aD n w_0 x_1 h = some r) : au Tryz.prog (n + 1) 90 [(.int .i64 w_0),(.int .u64 x_1)] h = some r:=aL hv
theorem N4 (N : aB) (n : Nat) (w_0 x_1 : Int) (h : AH) : KI N n w_0 x_1 h =
 (au Tryz.prog n 105 [(.int .i64 w_0)] (setLow h h.next)).bind fun p0 =>
 (gI .u64 (some p0.1)).bind fun n1 =>
 some (aj h p0.2 (.int .u64 (pU .u64 x_1 n1))):=by kernel_rfl
def N5 : List (List Nat × List Nat):=[]
 noncomputable def KJ (N : aB) (n : Nat) (op_0 : Int) (h : AH) : Option (Go.Value × AH):=bQ Tryz.prog (au Tryz.prog n) n N5 N (aC Tryz.prog n) 91 [(.int .i64 op_0)] h
theorem IJ {n : Nat} {op_0 : Int} {h : AH} {r : Go.Value × AH} (hv : KJ aD n op_0 h = some r) : au Tryz.prog (n + 1) 91 [(.int .i64 op_0)] h = some r:=aL hv
theorem N6 (N : aB) (n : Nat) (op_0 : Int) (h : AH) : KJ N n op_0 h =
 cond (bV 15 op_0)
 (some (aj h (setLow h h.next) (.bool (bV op_0 20))))
 (some (aj h (setLow h h.next) (.bool false))):=by kernel_rfl
def Na : List (List Nat × List Nat):=[([1,1],[3,4])]
section
variable (N : aB) (n : Nat) (h0 : AH) (c_3 e_4 : Addr) (h : AH)
 noncomputable def Db : Option (Go.Value × AH):=aC Tryz.prog n Tryz.f92 h0 (.code (av (ae Tryz.f92) [1,1]) [1,1]) [] (E [(3,.pointer (some c_3)),(4,.pointer (some e_4))]) h
 noncomputable def Dc : Option (Go.Value × AH):=bw Tryz.prog (au Tryz.prog n) n Tryz.f92 h0 Na N (aC Tryz.prog n Tryz.f92 h0) (av (ae Tryz.f92) [1,1]) [1,1] [] (E [(3,.pointer (some c_3)),(4,.pointer (some e_4))]) h
variable {n} {h0} {c_3 e_4} {h}
theorem Dd {r : Go.Value × AH} (hv : Dc aD n h0 c_3 e_4 h = some r) : Db n h0 c_3 e_4 h = some r:=aN hv
end
 noncomputable def KK (N : aB) (n : Nat) (c_0 : Addr) (e_1a : Int) (e_1b : Option Addr) (e_1bn e_1bc : Nat) (b_2 : Int) (h : AH) : Option (Go.Value × AH):=bQ Tryz.prog (au Tryz.prog n) n Na N (aC Tryz.prog n) 92 [(.pointer (some c_0)),(.agg #[(.int .i64 e_1a),(.slice e_1b e_1bn e_1bc)]),(.int .i64 b_2)] h
theorem IK {n : Nat} {c_0 : Addr} {e_1a : Int} {e_1b : Option Addr} {e_1bn e_1bc : Nat} {b_2 : Int} {h : AH} {r : Go.Value × AH} (hv : KK aD n c_0 e_1a e_1b e_1bn e_1bc b_2 h = some r) : au Tryz.prog (n + 1) 92 [(.pointer (some c_0)),(.agg #[(.int .i64 e_1a),(.slice e_1b e_1bn e_1bc)]),(.int .i64 b_2)] h = some r:=aL hv
theorem N7 (N : aB) (n : Nat) (c_0 : Addr) (e_1a : Int) (e_1b : Option Addr) (e_1bn e_1bc : Nat) (b_2 : Int) (h : AH) : KK N n c_0 e_1a e_1b e_1bn e_1bc b_2 h =
 (N (setLow h h.next) [(.pointer (some c_0))] 0).bind fun p0 =>
 (N p0.2 [(.int .i64 e_1a),(.slice e_1b e_1bn e_1bc)] 0).bind fun p1 =>
 (gI .i64 (rdC p1.2 (Addr.add ⟨p1.1,0,none⟩ 0) 0)).bind fun n2 =>
 cond (cj n2 1)
 (some (aj h p1.2 (.bool false)))
 ((gI .i64 (rdC p1.2 (Addr.add ⟨p1.1,0,none⟩ 0) 0)).bind fun n3 =>
 (gP (rdC p1.2 ⟨p0.1,0,none⟩ 0)).bind fun x4 =>
 (x4).bind fun a5 =>
 (gL (rdC p1.2 (Addr.add (Addr.add a5 0) 5) 0)).bind fun p6 =>
 cond (bV (Int.ofNat p6.2.1) n3)
 (some (aj h p1.2 (.bool false)))
 ((gP (rdC p1.2 ⟨p0.1,0,none⟩ 0)).bind fun x7 =>
 (gL (rdC p1.2 (Addr.add ⟨p1.1,0,none⟩ 1) 0)).bind fun p8 =>
 (au Tryz.prog n 68 [(.pointer x7),(.slice p8.1 p8.2.1 p8.2.2),(.int .i64 b_2)] p1.2).bind fun p9 =>
 (gB (some p9.1)).bind fun b10 =>
 cond (Bool.not b10)
 (some (aj h p9.2 (.bool false)))
 (Db n h ⟨p0.1,0,none⟩ ⟨p1.1,0,none⟩ p9.2))):=by kernel_rfl
theorem De (N : aB) (n  : Nat) (h0 : AH) (c_3 e_4 : Addr) (h : AH) : Dc N n  h0 c_3 e_4 h =
 (gL (rdC h (Addr.add e_4 1) 0)).bind fun p0 =>
 (gP (rdC h c_3 0)).bind fun x1 =>
 (x1).bind fun a2 =>
 (gL (rdC h (Addr.add (Addr.add a2 0) 5) 0)).bind fun p3 =>
 (gI .i64 (rdC h (Addr.add e_4 0) 0)).bind fun n4 =>
 (p3.1).bind fun a5 =>
 cond (bO n4 p3.2.1)
 ((gL (rdC h (Addr.add (Addr.add a5 ((Int.toNat n4) * 9)) 0) 0)).bind fun p6 =>
 (au Tryz.prog n 93 [(.slice p0.1 p0.2.1 p0.2.2),(.slice p6.1 p6.2.1 p6.2.2),(Value.func (Fn.func 107) (List.toArray []) (List.toArray [(.pointer (some c_3))]))] h).bind fun p7 =>
 (gB (some p7.1)).bind fun b8 =>
 some (aj h0 p7.2 (.bool b8)))
 (none):=by kernel_rfl
def N8 : List (List Nat × List Nat):=[]
 noncomputable def KL (N : aB) (n : Nat) (v_0 w_1 : Int) (cap0 : Addr) (h : AH) : Option (Go.Value × AH):=bQ Tryz.prog (au Tryz.prog n) n N8 N (aC Tryz.prog n) 94 [(.int .i64 v_0),(.int .i64 w_1),(.pointer (some cap0))] h
theorem IM {n : Nat} {v_0 w_1 : Int} {cap0 : Addr} {h : AH} {r : Go.Value × AH} (hv : KL aD n v_0 w_1 cap0 h = some r) : au Tryz.prog (n + 1) 94 [(.int .i64 v_0),(.int .i64 w_1),(.pointer (some cap0))] h = some r:=aL hv
theorem N9 (N : aB) (n : Nat) (v_0 w_1 : Int) (cap0 : Addr) (h : AH) : KL N n v_0 w_1 cap0 h =
 (gP (rdC (setLow h h.next) cap0 0)).bind fun x0 =>
 (x0).bind fun a1 =>
 (gL (rdC (setLow h h.next) (Addr.add (Addr.add a1 0) 1) 0)).bind fun p2 =>
 (p2.1).bind fun a3 =>
 cond (bO v_0 p2.2.1)
 ((gI .i64 (rdC (setLow h h.next) (Addr.add a3 ((Int.toNat v_0) * 1)) 0)).bind fun n4 =>
 some (aj h (setLow h h.next) (.bool (aY n4 w_1))))
 (none):=by kernel_rfl
def Df : List (List Nat × List Nat):=[]
 noncomputable def Hf (N : aB) (n : Nat) (w_0 : Int) (h : AH) : Option (Go.Value × AH):=bQ Tryz.prog (au Tryz.prog n) n Df N (aC Tryz.prog n) 105 [(.int .i64 w_0)] h
theorem FU {n : Nat} {w_0 : Int} {h : AH} {r : Go.Value × AH} (hv : Hf aD n w_0 h = some r) : au Tryz.prog (n + 1) 105 [(.int .i64 w_0)] h = some r:=aL hv
theorem Mc (N : aB) (n : Nat) (w_0 : Int) (h : AH) : Hf N n w_0 h =
 (au Tryz.prog n 110 [(.int .i64 w_0)] (setLow h h.next)).bind fun p0 =>
 (gI .i64 (some p0.1)).bind fun n1 =>
 cond (aY n1 0)
 (some (aj h p0.2 (.int .u64 0)))
 (cond (cj (fy .i64 64 n1) 0)
 (none)
 (some (aj h p0.2 (.int .u64 (JU .u64 18446744073709551615 (fy .i64 64 n1)))))):=by kernel_rfl
def Md : List (List Nat × List Nat):=[]
 noncomputable def Hg (N : aB) (n : Nat) (v_0 p_1 : Int) (cap0 : Addr) (h : AH) : Option (Go.Value × AH):=bQ Tryz.prog (au Tryz.prog n) n Md N (aC Tryz.prog n) 107 [(.int .i64 v_0),(.int .i64 p_1),(.pointer (some cap0))] h
theorem FV {n : Nat} {v_0 p_1 : Int} {cap0 : Addr} {h : AH} {r : Go.Value × AH} (hv : Hg aD n v_0 p_1 cap0 h = some r) : au Tryz.prog (n + 1) 107 [(.int .i64 v_0),(.int .i64 p_1),(.pointer (some cap0))] h = some r:=aL hv
theorem Me (N : aB) (n : Nat) (v_0 p_1 : Int) (cap0 : Addr) (h : AH) : Hg N n v_0 p_1 cap0 h =
 cond (bV 0 p_1)
 ((gP (rdC (setLow h h.next) cap0 0)).bind fun x0 =>
 (x0).bind fun a1 =>
 (gL (rdC (setLow h h.next) (Addr.add (Addr.add a1 0) 1) 0)).bind fun p2 =>
 cond (cj p_1 (Int.ofNat p2.2.1))
 ((gP (rdC (setLow h h.next) cap0 0)).bind fun x3 =>
 (x3).bind fun a4 =>
 (gL (rdC (setLow h h.next) (Addr.add (Addr.add a4 0) 1) 0)).bind fun p5 =>
 (p5.1).bind fun a6 =>
 cond (bO v_0 p5.2.1)
 ((gI .i64 (rdC (setLow h h.next) (Addr.add a6 ((Int.toNat v_0) * 1)) 0)).bind fun n7 =>
 (gP (rdC (setLow h h.next) cap0 0)).bind fun x8 =>
 (x8).bind fun a9 =>
 (gL (rdC (setLow h h.next) (Addr.add (Addr.add a9 0) 1) 0)).bind fun p10 =>
 (p10.1).bind fun a11 =>
 cond (bO p_1 p10.2.1)
 ((gI .i64 (rdC (setLow h h.next) (Addr.add a11 ((Int.toNat p_1) * 1)) 0)).bind fun n12 =>
 some (aj h (setLow h h.next) (.bool (aY n7 n12))))
 (none))
 (none))
 (some (aj h (setLow h h.next) (.bool false))))
 (some (aj h (setLow h h.next) (.bool false))):=by kernel_rfl
def Mf : List (List Nat × List Nat):=[]
 noncomputable def Hi (N : aB) (n : Nat) (w_0 : Int) (h : AH) : Option (Go.Value × AH):=bQ Tryz.prog (au Tryz.prog n) n Mf N (aC Tryz.prog n) 110 [(.int .i64 w_0)] h
theorem FW {n : Nat} {w_0 : Int} {h : AH} {r : Go.Value × AH} (hv : Hi aD n w_0 h = some r) : au Tryz.prog (n + 1) 110 [(.int .i64 w_0)] h = some r:=aL hv
theorem Mg (N : aB) (n : Nat) (w_0 : Int) (h : AH) : Hi N n w_0 h =
 some (aj h (setLow h h.next) (.int .i64 (fJ (gb w_0 0) 64))):=by kernel_rfl
def p36 : List (List Nat × List Nat):=[]
 noncomputable def KM (N : aB) (n : Nat) (s : Option Addr) (sn sc : Nat) (h : AH) : Option (Go.Value × AH):=bQ Tryz.prog (au Tryz.prog n) n p36 N (aC Tryz.prog n) 48 [(.slice s sn sc),(.func (.func 46) #[] #[])] h
theorem IN {n : Nat} {s : Option Addr} {sn sc : Nat} {h : AH} {r : Go.Value × AH} (hv : KM aD n s sn sc h = some r) : au Tryz.prog (n + 1) 48 [(.slice s sn sc),(.func (.func 46) #[] #[])] h = some r:=aL hv
theorem Ob (N : aB) (n : Nat) (s : Option Addr) (sn sc : Nat) (h : AH) : KM N n s sn sc h =
 (au Tryz.prog n 65 [(.slice s sn sc),(Value.func (Fn.func 46) (List.toArray []) (List.toArray []))] (setLow h h.next)).bind fun p0 =>
 (gI .i64 (some p0.1)).bind fun n1 =>
 some (aj h p0.2 (.bool (bV 0 n1))):=by kernel_rfl
def Nb : List (List Nat × List Nat):=[([0,1,0,1],[0,1,7,8])]
section
variable (N : aB) (n m0 : Nat) (h0 : AH) (s_0 : Option Addr) (s_0n s_0c : Nat) (t_7 t_8 : Int) (h : AH)
 noncomputable def xd : Option (Go.Value × AH):=aC Tryz.prog n Tryz.f65 h0 (.head (av (ae Tryz.f65) [1,0,1,0,0]) [0,1,0,1] m0) [.block 0,.seq (av (ae Tryz.f65) [1,1]) [1,1]] (E [(0,.slice s_0 s_0n s_0c),(1,.func (.func 46) #[] #[]),(7,.int .i64 t_7),(8,.int .i64 t_8)]) h
 noncomputable def Dg : Option (Go.Value × AH):=bH Tryz.prog (au Tryz.prog n) n Tryz.f65 h0 Nb N (aC Tryz.prog n Tryz.f65 h0) (av (ae Tryz.f65) [1,0,1,0,0]) [0,1,0,1] m0 [.block 0,.seq (av (ae Tryz.f65) [1,1]) [1,1]] (E [(0,.slice s_0 s_0n s_0c),(1,.func (.func 46) #[] #[]),(7,.int .i64 t_7),(8,.int .i64 t_8)]) h
variable {n m0} {h0} {s_0 s_0n s_0c t_7 t_8} {h}
theorem th {r : Go.Value × AH} (hv : Dg aD n m0 h0 s_0 s_0n s_0c t_7 t_8 h = some r) : xd n (m0 + 1) h0 s_0 s_0n s_0c t_7 t_8 h = some r:=aO hv
end
 noncomputable def KN (N : aB) (n : Nat) (s : Option Addr) (sn sc : Nat) (h : AH) : Option (Go.Value × AH):=bQ Tryz.prog (au Tryz.prog n) n Nb N (aC Tryz.prog n) 65 [(.slice s sn sc),(.func (.func 46) #[] #[])] h
theorem IO {n : Nat} {s : Option Addr} {sn sc : Nat} {h : AH} {r : Go.Value × AH} (hv : KN aD n s sn sc h = some r) : au Tryz.prog (n + 1) 65 [(.slice s sn sc),(.func (.func 46) #[] #[])] h = some r:=aL hv
theorem Oc (N : aB) (n : Nat) (s : Option Addr) (sn sc : Nat) (h : AH) : KN N n s sn sc h =
 xd n n h s sn sc (Int.ofNat sn) 0 (setLow h h.next):=by kernel_rfl
theorem tj (N : aB) (n m0 : Nat) (h0 : AH) (s_0 : Option Addr) (s_0n s_0c : Nat) (t_7 t_8 : Int) (h : AH) : Dg N n m0 h0 s_0 s_0n s_0c t_7 t_8 h =
 cond (cj t_8 t_7)
 ((s_0).bind fun a0 =>
 cond (bO t_8 s_0n)
 ((gI .i64 (rdC h (Addr.add a0 ((Int.toNat t_8) * 1)) 0)).bind fun n1 =>
 (au Tryz.prog n 46 [(.int .i64 n1)] h).bind fun p2 =>
 (gB (some p2.1)).bind fun b3 =>
 cond b3
 (some (aj h0 p2.2 (.int .i64 t_8)))
 (xd n m0 h0 s_0 s_0n s_0c t_7 (aU .i64 t_8 1) p2.2))
 (none))
 (some (aj h0 h (.int .i64 (-1)))):=by kernel_rfl
def EJ : List (List Nat × List Nat):=[([0,1,0,1,1],[1,2,15,16,17])]
section
variable (N : aB) (n m0 : Nat) (h0 : AH) (s2_1 : Option Addr) (s2_1n s2_1c : Nat) (eq_2a : Addr) (t_15 : Option Addr) (t_15n t_15c : Nat) (t_16 t_17 : Int) (h : AH)
 noncomputable def c95_0 : Option (Go.Value × AH):=aC Tryz.prog n Tryz.f93 h0 (.head (av (ae Tryz.f93) [1,1,0,1,0,0]) [0,1,0,1,1] m0) [.block 0,.seq (av (ae Tryz.f93) [1,1,1]) [1,1,1]] (E [(1,.slice s2_1 s2_1n s2_1c),(2,.func (.func 94) #[] #[(.pointer (some eq_2a))]),(15,.slice t_15 t_15n t_15c),(16,.int .i64 t_16),(17,.int .i64 t_17)]) h
 noncomputable def nJ : Option (Go.Value × AH):=bH Tryz.prog (au Tryz.prog n) n Tryz.f93 h0 EJ N (aC Tryz.prog n Tryz.f93 h0) (av (ae Tryz.f93) [1,1,0,1,0,0]) [0,1,0,1,1] m0 [.block 0,.seq (av (ae Tryz.f93) [1,1,1]) [1,1,1]] (E [(1,.slice s2_1 s2_1n s2_1c),(2,.func (.func 94) #[] #[(.pointer (some eq_2a))]),(15,.slice t_15 t_15n t_15c),(16,.int .i64 t_16),(17,.int .i64 t_17)]) h
variable {n m0} {h0} {s2_1 s2_1n s2_1c eq_2a t_15 t_15n t_15c t_16 t_17} {h}
theorem c95_0_ok {r : Go.Value × AH} (hv : nJ aD n m0 h0 s2_1 s2_1n s2_1c eq_2a t_15 t_15n t_15c t_16 t_17 h = some r) : c95_0 n (m0 + 1) h0 s2_1 s2_1n s2_1c eq_2a t_15 t_15n t_15c t_16 t_17 h = some r:=aO hv
end
 noncomputable def Dh (N : aB) (n : Nat) (s : Option Addr) (sn sc : Nat) (t : Option Addr) (tn tc : Nat) (c : Addr) (h : AH) : Option (Go.Value × AH):=bQ Tryz.prog (au Tryz.prog n) n EJ N (aC Tryz.prog n) 93 [(.slice s sn sc),(.slice t tn tc),(.func (.func 94) #[] #[.pointer (some c)])] h
theorem t95_ok {n : Nat} {s : Option Addr} {sn sc : Nat} {t : Option Addr} {tn tc : Nat} {c : Addr} {h : AH} {r : Go.Value × AH} (hv : Dh aD n s sn sc t tn tc c h = some r) : au Tryz.prog (n + 1) 93 [(.slice s sn sc),(.slice t tn tc),(.func (.func 94) #[] #[.pointer (some c)])] h = some r:=aL hv
theorem t95 (N : aB) (n : Nat) (s : Option Addr) (sn sc : Nat) (t : Option Addr) (tn tc : Nat) (c : Addr) (h : AH) : Dh N n s sn sc t tn tc c h =
 cond (gv (Int.ofNat sn) (Int.ofNat tn))
 (some (aj h (setLow h h.next) (.bool false)))
 (c95_0 n n h t tn tc c s sn sc (Int.ofNat sn) 0 (setLow h h.next)):=by kernel_rfl
theorem c95_0_eq (N : aB) (n m0 : Nat) (h0 : AH) (s2_1 : Option Addr) (s2_1n s2_1c : Nat) (eq_2a : Addr) (t_15 : Option Addr) (t_15n t_15c : Nat) (t_16 t_17 : Int) (h : AH) : nJ N n m0 h0 s2_1 s2_1n s2_1c eq_2a t_15 t_15n t_15c t_16 t_17 h =
 cond (cj t_17 t_16)
 ((t_15).bind fun a0 =>
 cond (bO t_17 t_15n)
 ((gI .i64 (rdC h (Addr.add a0 ((Int.toNat t_17) * 1)) 0)).bind fun n1 =>
 (s2_1).bind fun a2 =>
 cond (bO t_17 s2_1n)
 ((gI .i64 (rdC h (Addr.add a2 ((Int.toNat t_17) * 1)) 0)).bind fun n3 =>
 (au Tryz.prog n 94 [(.int .i64 n1),(.int .i64 n3),(.pointer (some eq_2a))] h).bind fun p4 =>
 (gB (some p4.1)).bind fun b5 =>
 cond (Bool.not b5)
 (some (aj h0 p4.2 (.bool false)))
 (c95_0 n m0 h0 s2_1 s2_1n s2_1c eq_2a t_15 t_15n t_15c t_16 (aU .i64 t_17 1) p4.2))
 (none))
 (none))
 (some (aj h0 h (.bool true))):=by kernel_rfl
def KO : List (List Nat × List Nat):=[]
 noncomputable def IP (N : aB) (n : Nat) (name_0 : ByteArray) (cap0 : Addr) (h : AH) : Option (Go.Value × AH):=bQ Tryz.prog (au Tryz.prog n) n KO N (aC Tryz.prog n) 63 [(.string name_0),(.pointer (some cap0))] h
theorem IQ {n : Nat} {name_0 : ByteArray} {cap0 : Addr} {h : AH} {r : Go.Value × AH} (hv : IP aD n name_0 cap0 h = some r) : au Tryz.prog (n + 1) 63 [(.string name_0),(.pointer (some cap0))] h = some r:=aL hv
theorem Od (N : aB) (n : Nat) (name_0 : ByteArray) (cap0 : Addr) (h : AH) : IP N n name_0 cap0 h =
 (rdC (setLow h h.next) cap0 0).bind fun v0 =>
 (rB Tryz.prog 123 v0 (.string name_0) false (setLow h h.next)).bind fun v1 =>
 (rz v1).bind fun b2 =>
 (rdC (setLow h h.next) cap0 0).bind fun v3 =>
 (zN Tryz.prog 123 v3 (.string name_0) (.bool true) (setLow h h.next)).bind fun x4 =>
 cond (Bool.not b2)
 ((au Tryz.prog n 44 [(.string name_0)] x4).bind fun p5 =>
 (gB (some p5.1)).bind fun b6 =>
 some (aj h p5.2 (.bool b6)))
 (some (aj h x4 (.bool false))):=by kernel_rfl
end Go.Proofs.YtjdomdndflfjdaaGreatDoor.Kb
namespace Go.Proofs.YtjdomdndflfjdaaGreatDoor.Kb2
open Go Go.Proofs Go.Proofs.YtjdomdndflfjdaaGreatDoor Go.Proofs.YtjdomdndflfjdaaGreatDoor.X
set_option maxRecDepth 100000
set_option linter.unusedVariables false
def EJ : List (List Nat × List Nat):=[([0,1,0,1,1],[1,2,15,16,17])]
section
variable (N : aB) (n m0 : Nat) (h0 : AH) (s2_1 : Option Addr) (s2_1n s2_1c : Nat) (eq_2a : Addr) (t_15 : Option Addr) (t_15n t_15c : Nat) (t_16 t_17 : Int) (h : AH)
 noncomputable def c95_0 : Option (Go.Value × AH):=aC Tryz.prog n Tryz.f93 h0 (.head (av (ae Tryz.f93) [1,1,0,1,0,0]) [0,1,0,1,1] m0) [.block 0,.seq (av (ae Tryz.f93) [1,1,1]) [1,1,1]] (E [(1,.slice s2_1 s2_1n s2_1c),(2,.func (.func 107) #[] #[(.pointer (some eq_2a))]),(15,.slice t_15 t_15n t_15c),(16,.int .i64 t_16),(17,.int .i64 t_17)]) h
 noncomputable def nJ : Option (Go.Value × AH):=bH Tryz.prog (au Tryz.prog n) n Tryz.f93 h0 EJ N (aC Tryz.prog n Tryz.f93 h0) (av (ae Tryz.f93) [1,1,0,1,0,0]) [0,1,0,1,1] m0 [.block 0,.seq (av (ae Tryz.f93) [1,1,1]) [1,1,1]] (E [(1,.slice s2_1 s2_1n s2_1c),(2,.func (.func 107) #[] #[(.pointer (some eq_2a))]),(15,.slice t_15 t_15n t_15c),(16,.int .i64 t_16),(17,.int .i64 t_17)]) h
variable {n m0} {h0} {s2_1 s2_1n s2_1c eq_2a t_15 t_15n t_15c t_16 t_17} {h}
theorem c95_0_ok {r : Go.Value × AH} (hv : nJ aD n m0 h0 s2_1 s2_1n s2_1c eq_2a t_15 t_15n t_15c t_16 t_17 h = some r) : c95_0 n (m0 + 1) h0 s2_1 s2_1n s2_1c eq_2a t_15 t_15n t_15c t_16 t_17 h = some r:=aO hv
end
 noncomputable def Dh (N : aB) (n : Nat) (s : Option Addr) (sn sc : Nat) (t : Option Addr) (tn tc : Nat) (c : Addr) (h : AH) : Option (Go.Value × AH):=bQ Tryz.prog (au Tryz.prog n) n EJ N (aC Tryz.prog n) 93 [(.slice s sn sc),(.slice t tn tc),(.func (.func 107) #[] #[.pointer (some c)])] h
theorem t95_ok {n : Nat} {s : Option Addr} {sn sc : Nat} {t : Option Addr} {tn tc : Nat} {c : Addr} {h : AH} {r : Go.Value × AH} (hv : Dh aD n s sn sc t tn tc c h = some r) : au Tryz.prog (n + 1) 93 [(.slice s sn sc),(.slice t tn tc),(.func (.func 107) #[] #[.pointer (some c)])] h = some r:=aL hv
theorem t95 (N : aB) (n : Nat) (s : Option Addr) (sn sc : Nat) (t : Option Addr) (tn tc : Nat) (c : Addr) (h : AH) : Dh N n s sn sc t tn tc c h =
 cond (gv (Int.ofNat sn) (Int.ofNat tn))
 (some (aj h (setLow h h.next) (.bool false)))
 (c95_0 n n h t tn tc c s sn sc (Int.ofNat sn) 0 (setLow h h.next)):=by kernel_rfl
theorem c95_0_eq (N : aB) (n m0 : Nat) (h0 : AH) (s2_1 : Option Addr) (s2_1n s2_1c : Nat) (eq_2a : Addr) (t_15 : Option Addr) (t_15n t_15c : Nat) (t_16 t_17 : Int) (h : AH) : nJ N n m0 h0 s2_1 s2_1n s2_1c eq_2a t_15 t_15n t_15c t_16 t_17 h =
 cond (cj t_17 t_16)
 ((t_15).bind fun a0 =>
 cond (bO t_17 t_15n)
 ((gI .i64 (rdC h (Addr.add a0 ((Int.toNat t_17) * 1)) 0)).bind fun n1 =>
 (s2_1).bind fun a2 =>
 cond (bO t_17 s2_1n)
 ((gI .i64 (rdC h (Addr.add a2 ((Int.toNat t_17) * 1)) 0)).bind fun n3 =>
 (au Tryz.prog n 107 [(.int .i64 n1),(.int .i64 n3),(.pointer (some eq_2a))] h).bind fun p4 =>
 (gB (some p4.1)).bind fun b5 =>
 cond (Bool.not b5)
 (some (aj h0 p4.2 (.bool false)))
 (c95_0 n m0 h0 s2_1 s2_1n s2_1c eq_2a t_15 t_15n t_15c t_16 (aU .i64 t_17 1) p4.2))
 (none))
 (none))
 (some (aj h0 h (.bool true))):=by kernel_rfl
end Go.Proofs.YtjdomdndflfjdaaGreatDoor.Kb2
