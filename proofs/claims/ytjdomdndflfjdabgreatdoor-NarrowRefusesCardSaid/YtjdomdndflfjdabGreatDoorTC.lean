/- Joined texts: TC. -/
import Derived.KernelRfl
import Derived.Test.YtjdomdndflfjdabGreatDoorYA
import Derived.Test.YtjdomdndflfjdabGreatDoorProg
namespace Go.Proofs.YtjdomdndflfjdabGreatDoor.Kb
open Go Go.Proofs Go.Proofs.YtjdomdndflfjdabGreatDoor Go.Proofs.YtjdomdndflfjdabGreatDoor.X
set_option maxRecDepth 100000
set_option linter.unusedVariables false
def p28 : List (List Nat × List Nat):=[([0,1,0,1],[1,3])]
 noncomputable def xz (n m0 : Nat) (h0 : AH) (p_1 : Addr) (i_3 : Int) (h : AH) : Option (Go.Value × AH):=aO Tryz.prog n Tryz.f11 h0 (.head (aB (av Tryz.f11) [1,0,1,0,0]) [0,1,0,1] m0) [.block 0,.seq (aB (av Tryz.f11) [1,1]) [1,1]] (E [(1,.pointer (some p_1)),(3,.int .i64 i_3)]) h
theorem Gy {n : Nat} {p_0a : Option Addr} {p_0an p_0ac : Nat} {p_0b : Option Addr} {p_0bn p_0bc : Nat} {h : AH} {r : Go.Value × AH} (hv :
( ((aF (setLow h h.next) [(.slice p_0a p_0an p_0ac),(.slice p_0b p_0bn p_0bc)] 0)).bind fun p0 =>
 xz n n h ⟨p0.1,0,none⟩ 0 p0.2) = some r) : az Tryz.prog (n + 1) 11 [(.agg #[(.slice p_0a p_0an p_0ac),(.slice p_0b p_0bn p_0bc)])] h = some r:=eO (plan:=p28) (by kernel_rfl) hv
theorem tT {n m0 : Nat} {h0 : AH} {p_1 : Addr} {i_3 : Int} {h : AH} {r : Go.Value × AH} (hv :
( ((gL (rdC h (Addr.add p_1 0) 0))).bind fun p0 =>
 cond (bZ i_3 (Int.ofNat p0.2.1))
 (((gL (rdC h (Addr.add p_1 0) 0))).bind fun p1 =>
 (p1.1).bind fun a2 =>
 cond (bM i_3 p1.2.1)
 (((gL (rdC h (Addr.add (Addr.add a2 ((Int.toNat i_3) * 9)) 0) 0))).bind fun p3 =>
 cond (bZ 4 (Int.ofNat p3.2.1))
 (some (ai h0 h (.bool false)))
 (((gL (rdC h (Addr.add p_1 0) 0))).bind fun p4 =>
 (p4.1).bind fun a5 =>
 cond (bM i_3 p4.2.1)
 (((gL (rdC h (Addr.add (Addr.add a5 ((Int.toNat i_3) * 9)) 1) 0))).bind fun p6 =>
 cond (bZ 12 (Int.ofNat p6.2.1))
 (some (ai h0 h (.bool false)))
 (xz n m0 h0 p_1 (aT .i64 i_3 1) h))
 (none)))
 (none))
 (((gL (rdC h (Addr.add p_1 0) 0))).bind fun p7 =>
 cond (bS 1 (Int.ofNat p7.2.1))
 (((gL (rdC h (Addr.add p_1 0) 0))).bind fun p8 =>
 cond (bS (Int.ofNat p8.2.1) 5)
 (((gL (rdC h (Addr.add p_1 1) 0))).bind fun p9 =>
 some (ai h0 h (.bool (bS (Int.ofNat p9.2.1) 3))))
 (some (ai h0 h (.bool false))))
 (some (ai h0 h (.bool false))))) = some r) : xz n (m0 + 1) h0 p_1 i_3 h = some r:=gV (plan:=p28) (by kernel_rfl) hv
def mj : List (List Nat × List Nat):=[([0,1,0,1,1,1,1],[1,2,3,4]),([0,1,0,1,1,1,1,1,1],[1,2,3,5,6]),([0,1,0,1,0,0,1,0,0,1,0,1,1,1,1,1,1],[1,2,3,5,6,7,8]),([0,1,0,1,1,1,1,1,1,1],[1,2,3,5,9]),([0,1,0,1,1,1,0,0,1,0,0,1,0,1,1,1,1,1,1,1],[1,2,3,5,9,10,11]),([1,1,0,0,1,1,1,1,1,1,0,0,1,0,0,1,0,1,1,1,1,1,1,1],[1,2,3,5,9,10,12,13]),([0,1,0,1,0,0,1,1,1,1,1,1,0,0,1,0,0,1,0,1,1,1,1,1,1,1],[1,2,3,5,9,10,12,14]),([1,1,1,1,1,1,1,0,0,1,0,0,1,0,1,1,1,1,1,1,1],[1,2,3,5,9,12]),([9],[])]
 noncomputable def pU (n m0 : Nat) (h0 : AH) (p_1 t_2 b_3 : Addr) (i_4 : Int) (h : AH) : Option (Go.Value × AH):=aO Tryz.prog n Tryz.f12 h0 (.head (aB (av Tryz.f12) [1,1,1,1,0,1,0,0]) [0,1,0,1,1,1,1] m0) [.block 0,.seq (aB (av Tryz.f12) [1,1,1,1,1]) [1,1,1,1,1]] (E [(1,.pointer (some p_1)),(2,.pointer (some t_2)),(3,.pointer (some b_3)),(4,.int .i64 i_4)]) h
 noncomputable def tU (n m0 : Nat) (h0 : AH) (p_1 t_2 b_3 : Addr) (params_5 : Option Addr) (params_5n params_5c : Nat) (i_6 : Int) (h : AH) : Option (Go.Value × AH):=aO Tryz.prog n Tryz.f12 h0 (.head (aB (av Tryz.f12) [1,1,1,1,1,1,0,1,0,0]) [0,1,0,1,1,1,1,1,1] m0) [.block 2,.seq (aB (av Tryz.f12) [1,1,1,1,1,1,1]) [1,1,1,1,1,1,1]] (E [(1,.pointer (some p_1)),(2,.pointer (some t_2)),(3,.pointer (some b_3)),(5,.slice params_5 params_5n params_5c),(6,.int .i64 i_6)]) h
 noncomputable def xA (n m0 m1 : Nat) (h0 : AH) (p_1 t_2 b_3 : Addr) (params_5 : Option Addr) (params_5n params_5c : Nat) (i_6 : Int) (l_7 : Option Addr) (l_7n l_7c : Nat) (k_8 : Int) (h : AH) : Option (Go.Value × AH):=aO Tryz.prog n Tryz.f12 h0 (.head (aB (av Tryz.f12) [1,1,1,1,1,1,0,1,0,0,1,0,0,1,0,1,0,0]) [0,1,0,1,0,0,1,0,0,1,0,1,1,1,1,1,1] m0) [.block 4,.seq (aB (av Tryz.f12) [1,1,1,1,1,1,0,1,0,0,1,0,0,1,1]) [1,1,0,0,1,0,0,1,0,1,1,1,1,1,1],.block 3,.seq (aB (av Tryz.f12) [1,1,1,1,1,1,0,1,0,0,1,1]) [1,1,0,0,1,0,1,1,1,1,1,1],.loop (aB (av Tryz.f12) [1,1,1,1,1,1,0,1,0,0]) [0,1,0,1,1,1,1,1,1] m1,.block 2,.seq (aB (av Tryz.f12) [1,1,1,1,1,1,1]) [1,1,1,1,1,1,1]] (E [(1,.pointer (some p_1)),(2,.pointer (some t_2)),(3,.pointer (some b_3)),(5,.slice params_5 params_5n params_5c),(6,.int .i64 i_6),(7,.slice l_7 l_7n l_7c),(8,.int .i64 k_8)]) h
 noncomputable def kG (n m0 : Nat) (h0 : AH) (p_1 t_2 b_3 : Addr) (params_5 : Option Addr) (params_5n params_5c : Nat) (i_9 : Int) (h : AH) : Option (Go.Value × AH):=aO Tryz.prog n Tryz.f12 h0 (.head (aB (av Tryz.f12) [1,1,1,1,1,1,1,0,1,0,0]) [0,1,0,1,1,1,1,1,1,1] m0) [.block 6,.seq (aB (av Tryz.f12) [1,1,1,1,1,1,1,1]) [1,1,1,1,1,1,1,1]] (E [(1,.pointer (some p_1)),(2,.pointer (some t_2)),(3,.pointer (some b_3)),(5,.slice params_5 params_5n params_5c),(9,.int .i64 i_9)]) h
 noncomputable def xB (n m0 m1 : Nat) (h0 : AH) (p_1 t_2 b_3 : Addr) (params_5 : Option Addr) (params_5n params_5c : Nat) (i_9 : Int) (x_10 : Addr) (k_11 : Int) (h : AH) : Option (Go.Value × AH):=aO Tryz.prog n Tryz.f12 h0 (.head (aB (av Tryz.f12) [1,1,1,1,1,1,1,0,1,0,0,1,0,0,1,1,1,0,1,0,0]) [0,1,0,1,1,1,0,0,1,0,0,1,0,1,1,1,1,1,1,1] m0) [.block 8,.seq (aB (av Tryz.f12) [1,1,1,1,1,1,1,0,1,0,0,1,0,0,1,1,1,1]) [1,1,1,1,0,0,1,0,0,1,0,1,1,1,1,1,1,1],.block 7,.seq (aB (av Tryz.f12) [1,1,1,1,1,1,1,0,1,0,0,1,1]) [1,1,0,0,1,0,1,1,1,1,1,1,1],.loop (aB (av Tryz.f12) [1,1,1,1,1,1,1,0,1,0,0]) [0,1,0,1,1,1,1,1,1,1] m1,.block 6,.seq (aB (av Tryz.f12) [1,1,1,1,1,1,1,1]) [1,1,1,1,1,1,1,1]] (E [(1,.pointer (some p_1)),(2,.pointer (some t_2)),(3,.pointer (some b_3)),(5,.slice params_5 params_5n params_5c),(9,.int .i64 i_9),(10,.pointer (some x_10)),(11,.int .i64 k_11)]) h
 noncomputable def oi (n m0 m1 : Nat) (h0 : AH) (p_1 t_2 b_3 : Addr) (params_5 : Option Addr) (params_5n params_5c : Nat) (i_9 : Int) (x_10 t_12 : Addr) (k_14 : Int) (h : AH) : Option (Go.Value × AH):=aO Tryz.prog n Tryz.f12 h0 (.head (aB (av Tryz.f12) [1,1,1,1,1,1,1,0,1,0,0,1,0,0,1,1,1,1,1,1,0,0,1,0,1,0,0]) [0,1,0,1,0,0,1,1,1,1,1,1,0,0,1,0,0,1,0,1,1,1,1,1,1,1] m0) [.block 11,.block 10,.seq (aB (av Tryz.f12) [1,1,1,1,1,1,1,0,1,0,0,1,0,0,1,1,1,1,1,1,1]) [1,1,1,1,1,1,1,0,0,1,0,0,1,0,1,1,1,1,1,1,1],.block 7,.seq (aB (av Tryz.f12) [1,1,1,1,1,1,1,0,1,0,0,1,1]) [1,1,0,0,1,0,1,1,1,1,1,1,1],.loop (aB (av Tryz.f12) [1,1,1,1,1,1,1,0,1,0,0]) [0,1,0,1,1,1,1,1,1,1] m1,.block 6,.seq (aB (av Tryz.f12) [1,1,1,1,1,1,1,1]) [1,1,1,1,1,1,1,1]] (E [(1,.pointer (some p_1)),(2,.pointer (some t_2)),(3,.pointer (some b_3)),(5,.slice params_5 params_5n params_5c),(9,.int .i64 i_9),(10,.pointer (some x_10)),(12,.pointer (some t_12)),(14,.int .i64 k_14)]) h
 noncomputable def BA (n m0 : Nat) (h0 : AH) (p_1 t_2 b_3 : Addr) (params_5 : Option Addr) (params_5n params_5c : Nat) (i_9 : Int) (x_10 t_12 : Addr) (kind_13 : Int) (h : AH) : Option (Go.Value × AH):=aO Tryz.prog n Tryz.f12 h0 (.code (aB (av Tryz.f12) [1,1,1,1,1,1,1,0,1,0,0,1,0,0,1,1,1,1,1,1,0,0,1,1]) [1,1,0,0,1,1,1,1,1,1,0,0,1,0,0,1,0,1,1,1,1,1,1,1]) [.block 10,.seq (aB (av Tryz.f12) [1,1,1,1,1,1,1,0,1,0,0,1,0,0,1,1,1,1,1,1,1]) [1,1,1,1,1,1,1,0,0,1,0,0,1,0,1,1,1,1,1,1,1],.block 7,.seq (aB (av Tryz.f12) [1,1,1,1,1,1,1,0,1,0,0,1,1]) [1,1,0,0,1,0,1,1,1,1,1,1,1],.loop (aB (av Tryz.f12) [1,1,1,1,1,1,1,0,1,0,0]) [0,1,0,1,1,1,1,1,1,1] m0,.block 6,.seq (aB (av Tryz.f12) [1,1,1,1,1,1,1,1]) [1,1,1,1,1,1,1,1]] (E [(1,.pointer (some p_1)),(2,.pointer (some t_2)),(3,.pointer (some b_3)),(5,.slice params_5 params_5n params_5c),(9,.int .i64 i_9),(10,.pointer (some x_10)),(12,.pointer (some t_12)),(13,.int .i64 kind_13)]) h
 noncomputable def oj (n m0 : Nat) (h0 : AH) (p_1 t_2 b_3 : Addr) (params_5 : Option Addr) (params_5n params_5c : Nat) (i_9 : Int) (t_12 : Addr) (h : AH) : Option (Go.Value × AH):=aO Tryz.prog n Tryz.f12 h0 (.code (aB (av Tryz.f12) [1,1,1,1,1,1,1,0,1,0,0,1,0,0,1,1,1,1,1,1,1]) [1,1,1,1,1,1,1,0,0,1,0,0,1,0,1,1,1,1,1,1,1]) [.block 7,.seq (aB (av Tryz.f12) [1,1,1,1,1,1,1,0,1,0,0,1,1]) [1,1,0,0,1,0,1,1,1,1,1,1,1],.loop (aB (av Tryz.f12) [1,1,1,1,1,1,1,0,1,0,0]) [0,1,0,1,1,1,1,1,1,1] m0,.block 6,.seq (aB (av Tryz.f12) [1,1,1,1,1,1,1,1]) [1,1,1,1,1,1,1,1]] (E [(1,.pointer (some p_1)),(2,.pointer (some t_2)),(3,.pointer (some b_3)),(5,.slice params_5 params_5n params_5c),(9,.int .i64 i_9),(12,.pointer (some t_12))]) h
theorem Gz {n : Nat} {p_0a : Option Addr} {p_0an p_0ac : Nat} {p_0b : Option Addr} {p_0bn p_0bc : Nat} {h : AH} {r : Go.Value × AH} (hv :
( ((aF (setLow h h.next) [(.slice p_0a p_0an p_0ac),(.slice p_0b p_0bn p_0bc)] 0)).bind fun p0 =>
 ((aF p0.2 [(.string (ByteArray.mk (List.toArray []))),(.slice none 0 0),(.slice none 0 0),(.slice none 0 0),(.slice none 0 0),(.slice none 0 0)] 0)).bind fun p1 =>
 ((aF p1.2 [(.string (ByteArray.mk (List.toArray []))),(.slice none 0 0),(.slice none 0 0),(.slice none 0 0),(.slice none 0 0),(.slice none 0 0),(.slice none 0 0),(.slice none 0 0)] 0)).bind fun p2 =>
 ((di p2.2 ⟨p2.1,0,none⟩ [(.string (ByteArray.mk (List.toArray [(OfNat.ofNat 102)]))),(.slice none 0 0),(.slice none 0 0),(.slice none 0 0),(.slice none 0 0),(.slice none 0 0),(.slice none 0 0),(.slice none 0 0)])).bind fun x3 =>
 ((aF x3 [(.string (ByteArray.mk (List.toArray [(OfNat.ofNat 97)]))),(.int .i64 8),(.int .i64 5),(.int .i64 0),(.int .i64 0),(.string (ByteArray.mk (List.toArray [(OfNat.ofNat 98)]))),(.int .i64 16),(.int .i64 3),(.int .i64 0),(.int .i64 0)] 5)).bind fun p4 =>
 ((di p4.2 (Addr.add (Addr.add ⟨p2.1,0,none⟩ 0) 2) [(.slice (some ⟨p4.1,0,none⟩) 2 2)])).bind fun x5 =>
 ((aF x5 [(.string (ByteArray.mk (List.toArray [(OfNat.ofNat 105),(OfNat.ofNat 110)]))),(.int .i64 8),(.bool false),(.string (ByteArray.mk (List.toArray [(OfNat.ofNat 111),(OfNat.ofNat 117),(OfNat.ofNat 116)]))),(.int .i64 8),(.bool true)] 3)).bind fun p6 =>
 ((di p6.2 (Addr.add (Addr.add ⟨p2.1,0,none⟩ 0) 3) [(.slice (some ⟨p6.1,0,none⟩) 2 2)])).bind fun x7 =>
 pU n n h ⟨p0.1,0,none⟩ ⟨p1.1,0,none⟩ ⟨p2.1,0,none⟩ 0 x7) = some r) : az Tryz.prog (n + 1) 12 [(.agg #[(.slice p_0a p_0an p_0ac),(.slice p_0b p_0bn p_0bc)])] h = some r:=eO (plan:=mj) (by kernel_rfl) hv
theorem tV {n m0 : Nat} {h0 : AH} {p_1 t_2 b_3 : Addr} {i_4 : Int} {h : AH} {r : Go.Value × AH} (hv :
( ((gL (rdC h (Addr.add p_1 1) 0))).bind fun p0 =>
 cond (bZ i_4 (Int.ofNat p0.2.1))
 (((gL (rdC h (Addr.add (Addr.add b_3 0) 4) 0))).bind fun p1 =>
 ((gL (rdC h (Addr.add p_1 1) 0))).bind fun p2 =>
 (p2.1).bind fun a3 =>
 cond (bM i_4 p2.2.1)
 (((gI .u8 (rdC h (Addr.add a3 ((Int.toNat i_4) * 1)) 0))).bind fun n4 =>
 ((az Tryz.prog n 38 [(.int .u8 n4)] (setLow h h.next))).bind fun p5 =>
 ((gI .i64 (some p5.1))).bind fun n6 =>
 cond (Nat.beq p5.2.low h.next)
 (((aF (setLow p5.2 h.low) [(.int .i64 n6)] 1)).bind fun p7 =>
 ((dg 1 8 (.slice p1.1 p1.2.1 p1.2.2) (.slice (some ⟨p7.1,0,none⟩) 1 1) p7.2)).bind fun p8 =>
 ((di p8.2 (Addr.add (Addr.add b_3 0) 4) [(.slice p8.1.1 p8.1.2.1 p8.1.2.2)])).bind fun x9 =>
 pU n m0 h0 p_1 t_2 b_3 (aT .i64 i_4 1) x9)
 (((gL (rdC h (Addr.add (Addr.add b_3 0) 4) 0))).bind fun p10 =>
 ((gL (rdC h (Addr.add p_1 1) 0))).bind fun p11 =>
 (p11.1).bind fun a12 =>
 cond (bM i_4 p11.2.1)
 (((gI .u8 (rdC h (Addr.add a12 ((Int.toNat i_4) * 1)) 0))).bind fun n13 =>
 ((az Tryz.prog n 38 [(.int .u8 n13)] h)).bind fun p14 =>
 ((gI .i64 (some p14.1))).bind fun n15 =>
 ((aF p14.2 [(.int .i64 n15)] 1)).bind fun p16 =>
 ((dg 1 8 (.slice p10.1 p10.2.1 p10.2.2) (.slice (some ⟨p16.1,0,none⟩) 1 1) p16.2)).bind fun p17 =>
 ((di p17.2 (Addr.add (Addr.add b_3 0) 4) [(.slice p17.1.1 p17.1.2.1 p17.1.2.2)])).bind fun x18 =>
 cond (Bool.and (Bool.and (cF h p14.2 (Addr.add (Addr.add b_3 0) 4) 1) (Bool.and (cF h p16.2 (Addr.add (Addr.add b_3 0) 4) 1) true)) true)
 (pU n m0 h0 p_1 t_2 b_3 (aT .i64 i_4 1) x18)
 (none))
 (none)))
 (none))
 (tU n n h0 p_1 t_2 b_3 none 0 0 0 h)) = some r) : pU n (m0 + 1) h0 p_1 t_2 b_3 i_4 h = some r:=gV (plan:=mj) (by kernel_rfl) hv
theorem tW {n m0 : Nat} {h0 : AH} {p_1 t_2 b_3 : Addr} {params_5 : Option Addr} {params_5n params_5c : Nat} {i_6 : Int} {h : AH} {r : Go.Value × AH} (hv :
( ((gL (rdC h (Addr.add p_1 0) 0))).bind fun p0 =>
 cond (bZ i_6 (Int.ofNat p0.2.1))
 (xA n n m0 h0 p_1 t_2 b_3 params_5 params_5n params_5c i_6 none 0 0 0 h)
 (kG n n h0 p_1 t_2 b_3 params_5 params_5n params_5c 0 h)) = some r) : tU n (m0 + 1) h0 p_1 t_2 b_3 params_5 params_5n params_5c i_6 h = some r:=gV (plan:=mj) (by kernel_rfl) hv
theorem tX {n m0 m1 : Nat} {h0 : AH} {p_1 t_2 b_3 : Addr} {params_5 : Option Addr} {params_5n params_5c : Nat} {i_6 : Int} {l_7 : Option Addr} {l_7n l_7c : Nat} {k_8 : Int} {h : AH} {r : Go.Value × AH} (hv :
( ((gL (rdC h (Addr.add p_1 0) 0))).bind fun p0 =>
 (p0.1).bind fun a1 =>
 cond (bM i_6 p0.2.1)
 (((gL (rdC h (Addr.add (Addr.add a1 ((Int.toNat i_6) * 9)) 0) 0))).bind fun p2 =>
 cond (bZ k_8 (Int.ofNat p2.2.1))
 (((gL (rdC h (Addr.add p_1 0) 0))).bind fun p3 =>
 (p3.1).bind fun a4 =>
 cond (bM i_6 p3.2.1)
 (((gL (rdC h (Addr.add (Addr.add a4 ((Int.toNat i_6) * 9)) 0) 0))).bind fun p5 =>
 (p5.1).bind fun a6 =>
 cond (bM k_8 p5.2.1)
 (((gI .u8 (rdC h (Addr.add a6 ((Int.toNat k_8) * 1)) 0))).bind fun n7 =>
 ((az Tryz.prog n 38 [(.int .u8 n7)] h)).bind fun p8 =>
 ((gI .i64 (some p8.1))).bind fun n9 =>
 ((az Tryz.prog n 39 [(.pointer (some b_3)),(.int .i64 n9)] p8.2)).bind fun p10 =>
 ((gI .i64 (some p10.1))).bind fun n11 =>
 ((aF p10.2 [(.int .i64 n11)] 1)).bind fun p12 =>
 ((dg 1 8 (.slice l_7 l_7n l_7c) (.slice (some ⟨p12.1,0,none⟩) 1 1) p12.2)).bind fun p13 =>
 xA n m0 m1 h0 p_1 t_2 b_3 params_5 params_5n params_5c i_6 p13.1.1 p13.1.2.1 p13.1.2.2 (aT .i64 k_8 1) p13.2)
 (none))
 (none))
 (((aF h [(.slice l_7 l_7n l_7c)] 1)).bind fun p14 =>
 ((dg 1 24 (.slice params_5 params_5n params_5c) (.slice (some ⟨p14.1,0,none⟩) 1 1) p14.2)).bind fun p15 =>
 tU n m1 h0 p_1 t_2 b_3 p15.1.1 p15.1.2.1 p15.1.2.2 (aT .i64 i_6 1) p15.2))
 (none)) = some r) : xA n (m0 + 1) m1 h0 p_1 t_2 b_3 params_5 params_5n params_5c i_6 l_7 l_7n l_7c k_8 h = some r:=gV (plan:=mj) (by kernel_rfl) hv
theorem tY {n m0 : Nat} {h0 : AH} {p_1 t_2 b_3 : Addr} {params_5 : Option Addr} {params_5n params_5c : Nat} {i_9 : Int} {h : AH} {r : Go.Value × AH} (hv :
( ((gL (rdC h (Addr.add p_1 0) 0))).bind fun p0 =>
 cond (bZ i_9 (Int.ofNat p0.2.1))
 (((gL (rdC h (Addr.add p_1 0) 0))).bind fun p1 =>
 (p1.1).bind fun a2 =>
 cond (bM i_9 p1.2.1)
 (((gL (rdC h (Addr.add a2 ((Int.toNat i_9) * 9)) 0))).bind fun p3 =>
 ((gL (rdC h (Addr.add a2 ((Int.toNat i_9) * 9)) 1))).bind fun p4 =>
 ((gI .u8 (rdC h (Addr.add a2 ((Int.toNat i_9) * 9)) 2))).bind fun n5 =>
 ((gI .u8 (rdC h (Addr.add a2 ((Int.toNat i_9) * 9)) 3))).bind fun n6 =>
 ((gI .u8 (rdC h (Addr.add a2 ((Int.toNat i_9) * 9)) 4))).bind fun n7 =>
 ((gI .u8 (rdC h (Addr.add a2 ((Int.toNat i_9) * 9)) 5))).bind fun n8 =>
 ((gI .u8 (rdC h (Addr.add a2 ((Int.toNat i_9) * 9)) 6))).bind fun n9 =>
 ((gI .u8 (rdC h (Addr.add a2 ((Int.toNat i_9) * 9)) 7))).bind fun n10 =>
 ((gI .u8 (rdC h (Addr.add a2 ((Int.toNat i_9) * 9)) 8))).bind fun n11 =>
 ((aF h [(.slice none 0 0),(.slice none 0 0),(.int .u8 0),(.int .u8 0),(.int .u8 0),(.int .u8 0),(.int .u8 0),(.int .u8 0),(.int .u8 0)] 0)).bind fun p12 =>
 ((di p12.2 ⟨p12.1,0,none⟩ [(.slice p3.1 p3.2.1 p3.2.2),(.slice p4.1 p4.2.1 p4.2.2),(.int .u8 n5),(.int .u8 n6),(.int .u8 n7),(.int .u8 n8),(.int .u8 n9),(.int .u8 n10),(.int .u8 n11)])).bind fun x13 =>
 ((aF x13 [] 1)).bind fun p14 =>
 (params_5).bind fun a15 =>
 cond (bM i_9 params_5n)
 (((gL (rdC p14.2 (Addr.add a15 ((Int.toNat i_9) * 1)) 0))).bind fun p16 =>
 ((dg 1 8 (.slice (some ⟨p14.1,0,none⟩) 0 0) (.slice p16.1 p16.2.1 p16.2.2) p14.2)).bind fun p17 =>
 ((di p17.2 (Addr.add b_3 6) [(.slice p17.1.1 p17.1.2.1 p17.1.2.2)])).bind fun x18 =>
 ((di x18 (Addr.add b_3 7) [(.slice none 0 0)])).bind fun x19 =>
 xB n n m0 h0 p_1 t_2 b_3 params_5 params_5n params_5c i_9 ⟨p12.1,0,none⟩ 0 x19)
 (none))
 (none))
 (((gS (rdC h (Addr.add b_3 0) 0))).bind fun x20 =>
 ((gL (rdC h (Addr.add b_3 0) 1))).bind fun gQ =>
 ((gL (rdC h (Addr.add b_3 0) 2))).bind fun gf =>
 ((gL (rdC h (Addr.add b_3 0) 3))).bind fun lu =>
 ((gL (rdC h (Addr.add b_3 0) 4))).bind fun iy =>
 ((gL (rdC h (Addr.add b_3 0) 5))).bind fun jo =>
 ((di h t_2 [(.string x20),(.slice gQ.1 gQ.2.1 gQ.2.2),(.slice gf.1 gf.2.1 gf.2.2),(.slice lu.1 lu.2.1 lu.2.2),(.slice iy.1 iy.2.1 iy.2.2),(.slice jo.1 jo.2.1 jo.2.2)])).bind fun x26 =>
 ((gS (rdC x26 t_2 0))).bind fun x27 =>
 ((gL (rdC x26 t_2 1))).bind fun p28 =>
 ((gL (rdC x26 t_2 2))).bind fun mj =>
 ((gL (rdC x26 t_2 3))).bind fun p30 =>
 ((gL (rdC x26 t_2 4))).bind fun p31 =>
 ((gL (rdC x26 t_2 5))).bind fun p32 =>
 some (ai h0 x26 (.agg #[(.string x27),(.slice p28.1 p28.2.1 p28.2.2),(.slice mj.1 mj.2.1 mj.2.2),(.slice p30.1 p30.2.1 p30.2.2),(.slice p31.1 p31.2.1 p31.2.2),(.slice p32.1 p32.2.1 p32.2.2)])))) = some r) : kG n (m0 + 1) h0 p_1 t_2 b_3 params_5 params_5n params_5c i_9 h = some r:=gV (plan:=mj) (by kernel_rfl) hv
theorem tZ {n m0 m1 : Nat} {h0 : AH} {p_1 t_2 b_3 : Addr} {params_5 : Option Addr} {params_5n params_5c : Nat} {i_9 : Int} {x_10 : Addr} {k_11 : Int} {h : AH} {r : Go.Value × AH} (hv :
( ((gL (rdC h (Addr.add x_10 1) 0))).bind fun p0 =>
 cond (bZ k_11 (Int.ofNat p0.2.1))
 (((gL (rdC h (Addr.add x_10 1) 0))).bind fun p1 =>
 (p1.1).bind fun a2 =>
 cond (bM k_11 p1.2.1)
 (((gI .u8 (rdC h (Addr.add a2 ((Int.toNat k_11) * 6)) 0))).bind fun n3 =>
 ((gI .u8 (rdC h (Addr.add a2 ((Int.toNat k_11) * 6)) 1))).bind fun n4 =>
 ((gI .u8 (rdC h (Addr.add a2 ((Int.toNat k_11) * 6)) 2))).bind fun n5 =>
 ((gI .u8 (rdC h (Addr.add a2 ((Int.toNat k_11) * 6)) 3))).bind fun n6 =>
 ((gI .u8 (rdC h (Addr.add a2 ((Int.toNat k_11) * 6)) 4))).bind fun n7 =>
 ((gI .u64 (rdC h (Addr.add a2 ((Int.toNat k_11) * 6)) 5))).bind fun n8 =>
 ((az Tryz.prog n 40 [(.pointer (some b_3)),(.agg #[(.int .u8 n3),(.int .u8 n4),(.int .u8 n5),(.int .u8 n6),(.int .u8 n7),(.int .u64 n8)])] h)).bind fun p9 =>
 xB n m0 m1 h0 p_1 t_2 b_3 params_5 params_5n params_5c i_9 x_10 (aT .i64 k_11 1) p9.2)
 (none))
 (((aF h [(.int .i64 0),(.int .i64 0),(.slice none 0 0),(.slice none 0 0)] 0)).bind fun p10 =>
 ((di p10.2 ⟨p10.1,0,none⟩ [(.int .i64 3),(.int .i64 (-1)),(.slice none 0 0),(.slice none 0 0)])).bind fun x11 =>
 ((gI .u8 (rdC x11 (Addr.add x_10 2) 0))).bind fun n12 =>
 cond (aX (ce .i64 (aQ .i64 n12) 4) 0)
 (oi n n m1 h0 p_1 t_2 b_3 params_5 params_5n params_5c i_9 x_10 ⟨p10.1,0,none⟩ 0 x11)
 (((gL (rdC x11 (Addr.add p_1 0) 0))).bind fun p13 =>
 cond (aX (Int.ofNat p13.2.1) 1)
 (oi n n m1 h0 p_1 t_2 b_3 params_5 params_5n params_5c i_9 x_10 ⟨p10.1,0,none⟩ 0 x11)
 (BA n m1 h0 p_1 t_2 b_3 params_5 params_5n params_5c i_9 x_10 ⟨p10.1,0,none⟩ (ce .i64 (aQ .i64 n12) 4) x11)))) = some r) : xB n (m0 + 1) m1 h0 p_1 t_2 b_3 params_5 params_5n params_5c i_9 x_10 k_11 h = some r:=gV (plan:=mj) (by kernel_rfl) hv
theorem t8 {n m0 m1 : Nat} {h0 : AH} {p_1 t_2 b_3 : Addr} {params_5 : Option Addr} {params_5n params_5c : Nat} {i_9 : Int} {x_10 t_12 : Addr} {k_14 : Int} {h : AH} {r : Go.Value × AH} (hv :
( ((gL (rdC h (Addr.add (Addr.add b_3 0) 4) 0))).bind fun p0 =>
 cond (bZ k_14 (Int.ofNat p0.2.1))
 (((gL (rdC h (Addr.add t_12 3) 0))).bind fun p1 =>
 ((gL (rdC h (Addr.add (Addr.add b_3 0) 4) 0))).bind fun p2 =>
 (p2.1).bind fun a3 =>
 cond (bM k_14 p2.2.1)
 (((gI .i64 (rdC h (Addr.add a3 ((Int.toNat k_14) * 1)) 0))).bind fun n4 =>
 ((gI .u8 (rdC h (Addr.add (Addr.add x_10 5) 0) 0))).bind fun n5 =>
 ((az Tryz.prog n 41 [(.pointer (some b_3)),(.int .i64 n4),(.int .u8 (aT .u8 n5 (aQ .u8 k_14)))] (setLow h h.next))).bind fun p6 =>
 ((gI .i64 (some p6.1))).bind fun n7 =>
 cond (Nat.beq p6.2.low h.next)
 (((aF (setLow p6.2 h.low) [(.int .i64 n7)] 1)).bind fun p8 =>
 ((dg 1 8 (.slice p1.1 p1.2.1 p1.2.2) (.slice (some ⟨p8.1,0,none⟩) 1 1) p8.2)).bind fun p9 =>
 ((di p9.2 (Addr.add t_12 3) [(.slice p9.1.1 p9.1.2.1 p9.1.2.2)])).bind fun x10 =>
 oi n m0 m1 h0 p_1 t_2 b_3 params_5 params_5n params_5c i_9 x_10 t_12 (aT .i64 k_14 1) x10)
 (((gL (rdC h (Addr.add t_12 3) 0))).bind fun p11 =>
 ((gL (rdC h (Addr.add (Addr.add b_3 0) 4) 0))).bind fun p12 =>
 (p12.1).bind fun a13 =>
 cond (bM k_14 p12.2.1)
 (((gI .i64 (rdC h (Addr.add a13 ((Int.toNat k_14) * 1)) 0))).bind fun n14 =>
 ((gI .u8 (rdC h (Addr.add (Addr.add x_10 5) 0) 0))).bind fun n15 =>
 ((az Tryz.prog n 41 [(.pointer (some b_3)),(.int .i64 n14),(.int .u8 (aT .u8 n15 (aQ .u8 k_14)))] h)).bind fun p16 =>
 ((gI .i64 (some p16.1))).bind fun n17 =>
 ((aF p16.2 [(.int .i64 n17)] 1)).bind fun p18 =>
 ((dg 1 8 (.slice p11.1 p11.2.1 p11.2.2) (.slice (some ⟨p18.1,0,none⟩) 1 1) p18.2)).bind fun gh =>
 ((di gh.2 (Addr.add t_12 3) [(.slice gh.1.1 gh.1.2.1 gh.1.2.2)])).bind fun x20 =>
 cond (Bool.and (Bool.and (cF h p16.2 (Addr.add t_12 3) 1) (Bool.and (cF h p18.2 (Addr.add t_12 3) 1) true)) true)
 (oi n m0 m1 h0 p_1 t_2 b_3 params_5 params_5n params_5c i_9 x_10 t_12 (aT .i64 k_14 1) x20)
 (none))
 (none)))
 (none))
 (oj n m1 h0 p_1 t_2 b_3 params_5 params_5n params_5c i_9 t_12 h)) = some r) : oi n (m0 + 1) m1 h0 p_1 t_2 b_3 params_5 params_5n params_5c i_9 x_10 t_12 k_14 h = some r:=gV (plan:=mj) (by kernel_rfl) hv
theorem BB {n m0 : Nat} {h0 : AH} {p_1 t_2 b_3 : Addr} {params_5 : Option Addr} {params_5n params_5c : Nat} {i_9 : Int} {x_10 t_12 : Addr} {kind_13 : Int} {h : AH} {r : Go.Value × AH} (hv :
( cond (aX kind_13 1)
 (((di h (Addr.add t_12 0) [(.int .i64 1)])).bind fun x0 =>
 ((gL (rdC x0 p_1 0))).bind fun p1 =>
 ((gL (rdC x0 p_1 1))).bind fun p2 =>
 ((gI .u8 (rdC x0 (Addr.add (Addr.add x_10 3) 0) 0))).bind fun n3 =>
 ((gI .u8 (rdC x0 (Addr.add (Addr.add x_10 5) 0) 0))).bind fun n4 =>
 ((az Tryz.prog n 42 [(.pointer (some b_3)),(.agg #[(.slice p1.1 p1.2.1 p1.2.2),(.slice p2.1 p2.2.1 p2.2.2)]),(.int .u8 n3),(.int .u8 n4)] x0)).bind fun p5 =>
 cond (gb 2 p5.1)
 (((gI .i64 (db 0 p5.1))).bind fun n6 =>
 ((gL (db 1 p5.1))).bind fun p7 =>
 ((aF p5.2 [(.int .i64 n6),(.slice p7.1 p7.2.1 p7.2.2)] 2)).bind fun p8 =>
 ((di p8.2 (Addr.add t_12 2) [(.slice (some ⟨p8.1,0,none⟩) 1 1)])).bind fun x9 =>
 oj n m0 h0 p_1 t_2 b_3 params_5 params_5n params_5c i_9 t_12 x9)
 (none))
 (((di h (Addr.add t_12 0) [(.int .i64 2)])).bind fun x10 =>
 ((gI .u8 (rdC x10 (Addr.add (Addr.add x_10 5) 1) 0))).bind fun n11 =>
 ((az Tryz.prog n 41 [(.pointer (some b_3)),(.int .i64 1),(.int .u8 n11)] x10)).bind fun p12 =>
 ((gI .i64 (some p12.1))).bind fun n13 =>
 ((di p12.2 (Addr.add t_12 1) [(.int .i64 n13)])).bind fun x14 =>
 ((gL (rdC x14 p_1 0))).bind fun p15 =>
 ((gL (rdC x14 p_1 1))).bind fun p16 =>
 ((gI .u8 (rdC x14 (Addr.add (Addr.add x_10 3) 0) 0))).bind fun n17 =>
 ((gI .u8 (rdC x14 (Addr.add (Addr.add x_10 5) 2) 0))).bind fun n18 =>
 ((az Tryz.prog n 42 [(.pointer (some b_3)),(.agg #[(.slice p15.1 p15.2.1 p15.2.2),(.slice p16.1 p16.2.1 p16.2.2)]),(.int .u8 n17),(.int .u8 n18)] x14)).bind fun gh =>
 cond (gb 2 gh.1)
 (((gI .i64 (db 0 gh.1))).bind fun n20 =>
 ((gL (db 1 gh.1))).bind fun gQ =>
 ((aF gh.2 [(.int .i64 0),(.slice none 0 0)] 0)).bind fun gf =>
 ((di gf.2 ⟨gf.1,0,none⟩ [(.int .i64 n20),(.slice gQ.1 gQ.2.1 gQ.2.2)])).bind fun x23 =>
 ((gI .i64 (rdC x23 ⟨gf.1,0,none⟩ 0))).bind fun n24 =>
 ((gL (rdC x23 ⟨gf.1,0,none⟩ 1))).bind fun jo =>
 ((gL (rdC x23 p_1 0))).bind fun p26 =>
 ((gL (rdC x23 p_1 1))).bind fun p27 =>
 ((gI .u8 (rdC x23 (Addr.add (Addr.add x_10 3) 1) 0))).bind fun n28 =>
 ((gI .u8 (rdC x23 (Addr.add (Addr.add x_10 5) 3) 0))).bind fun n29 =>
 ((az Tryz.prog n 42 [(.pointer (some b_3)),(.agg #[(.slice p26.1 p26.2.1 p26.2.2),(.slice p27.1 p27.2.1 p27.2.2)]),(.int .u8 n28),(.int .u8 n29)] (setLow x23 x23.next))).bind fun p30 =>
 cond (gb 2 p30.1)
 (((gI .i64 (db 0 p30.1))).bind fun n31 =>
 ((gL (db 1 p30.1))).bind fun p32 =>
 cond (Nat.beq p30.2.low x23.next)
 (((aF (setLow p30.2 x23.low) [(.int .i64 n24),(.slice jo.1 jo.2.1 jo.2.2),(.int .i64 n31),(.slice p32.1 p32.2.1 p32.2.2)] 2)).bind fun p33 =>
 ((di p33.2 (Addr.add t_12 2) [(.slice (some ⟨p33.1,0,none⟩) 2 2)])).bind fun x34 =>
 oj n m0 h0 p_1 t_2 b_3 params_5 params_5n params_5c i_9 t_12 x34)
 (((gI .i64 (rdC x23 ⟨gf.1,0,none⟩ 0))).bind fun n35 =>
 ((gL (rdC x23 ⟨gf.1,0,none⟩ 1))).bind fun p36 =>
 ((gL (rdC x23 p_1 0))).bind fun qZ =>
 ((gL (rdC x23 p_1 1))).bind fun p38 =>
 ((gI .u8 (rdC x23 (Addr.add (Addr.add x_10 3) 1) 0))).bind fun n39 =>
 ((gI .u8 (rdC x23 (Addr.add (Addr.add x_10 5) 3) 0))).bind fun n40 =>
 ((az Tryz.prog n 42 [(.pointer (some b_3)),(.agg #[(.slice qZ.1 qZ.2.1 qZ.2.2),(.slice p38.1 p38.2.1 p38.2.2)]),(.int .u8 n39),(.int .u8 n40)] x23)).bind fun p41 =>
 cond (gb 2 p41.1)
 (((gI .i64 (db 0 p41.1))).bind fun n42 =>
 ((gL (db 1 p41.1))).bind fun p43 =>
 ((aF p41.2 [(.int .i64 n35),(.slice p36.1 p36.2.1 p36.2.2),(.int .i64 n42),(.slice p43.1 p43.2.1 p43.2.2)] 2)).bind fun p44 =>
 ((di p44.2 (Addr.add t_12 2) [(.slice (some ⟨p44.1,0,none⟩) 2 2)])).bind fun x45 =>
 cond (Bool.and (Bool.and (cF x23 p41.2 ⟨gf.1,0,none⟩ 2) true) true)
 (oj n m0 h0 p_1 t_2 b_3 params_5 params_5n params_5c i_9 t_12 x45)
 (none))
 (none)))
 (none))
 (none))) = some r) : BA n m0 h0 p_1 t_2 b_3 params_5 params_5n params_5c i_9 x_10 t_12 kind_13 h = some r:=fO (plan:=mj) (by kernel_rfl) hv
theorem BC {n m0 : Nat} {h0 : AH} {p_1 t_2 b_3 : Addr} {params_5 : Option Addr} {params_5n params_5c : Nat} {i_9 : Int} {t_12 : Addr} {h : AH} {r : Go.Value × AH} (hv :
( ((gL (rdC h (Addr.add (Addr.add b_3 0) 5) 0))).bind fun p0 =>
 (params_5).bind fun a1 =>
 cond (bM i_9 params_5n)
 (((gL (rdC h (Addr.add a1 ((Int.toNat i_9) * 1)) 0))).bind fun p2 =>
 ((gL (rdC h (Addr.add b_3 7) 0))).bind fun p3 =>
 ((gI .i64 (rdC h t_12 0))).bind fun n4 =>
 ((gI .i64 (rdC h t_12 1))).bind fun n5 =>
 ((gL (rdC h t_12 2))).bind fun p6 =>
 ((gL (rdC h t_12 3))).bind fun p7 =>
 ((aF h [(.slice p2.1 p2.2.1 p2.2.2),(.slice p3.1 p3.2.1 p3.2.2),(.int .i64 n4),(.int .i64 n5),(.slice p6.1 p6.2.1 p6.2.2),(.slice p7.1 p7.2.1 p7.2.2),(.int .i64 0),(.int .i64 0),(.int .i64 0)] 9)).bind fun p8 =>
 ((dg 9 136 (.slice p0.1 p0.2.1 p0.2.2) (.slice (some ⟨p8.1,0,none⟩) 1 1) p8.2)).bind fun p9 =>
 ((di p9.2 (Addr.add (Addr.add b_3 0) 5) [(.slice p9.1.1 p9.1.2.1 p9.1.2.2)])).bind fun x10 =>
 kG n m0 h0 p_1 t_2 b_3 params_5 params_5n params_5c (aT .i64 i_9 1) x10)
 (none)) = some r) : oj n m0 h0 p_1 t_2 b_3 params_5 params_5n params_5c i_9 t_12 h = some r:=fO (plan:=mj) (by kernel_rfl) hv
def EJ : List (List Nat × List Nat):=[]
theorem GA {n : Nat} {n_0 : Int} {h : AH} {r : Go.Value × AH} (hv :
( ((aF (setLow h h.next) [(.int .i64 8),(.int .i64 1),(.int .i64 4),(.int .i64 16),(.int .i64 3),(.int .i64 64),(.int .i64 32),(.int .i64 7)] 1)).bind fun p0 =>
 cond (bM (ce .u8 n_0 8) 8)
 (((gI .i64 (rdC p0.2 (Addr.add ⟨p0.1,0,none⟩ ((Int.toNat (ce .u8 n_0 8)) * 1)) 0))).bind fun n1 =>
 some (ai h p0.2 (.int .i64 n1)))
 (none)) = some r) : az Tryz.prog (n + 1) 38 [(.int .u8 n_0)] h = some r:=eO (plan:=EJ) (by kernel_rfl) hv
def HQ : List (List Nat × List Nat):=[]
theorem GB {n : Nat} {b_0 : Addr} {w_1 : Int} {h : AH} {r : Go.Value × AH} (hv :
( ((gL (rdC (setLow h h.next) (Addr.add (Addr.add b_0 0) 1) 0))).bind fun p0 =>
 ((aF (setLow h h.next) [(.int .i64 w_1)] 1)).bind fun p1 =>
 ((dg 1 8 (.slice p0.1 p0.2.1 p0.2.2) (.slice (some ⟨p1.1,0,none⟩) 1 1) p1.2)).bind fun p2 =>
 ((di p2.2 (Addr.add (Addr.add b_0 0) 1) [(.slice p2.1.1 p2.1.2.1 p2.1.2.2)])).bind fun x3 =>
 ((gL (rdC x3 (Addr.add (Addr.add b_0 0) 1) 0))).bind fun p4 =>
 some (ai h x3 (.int .i64 (fC .i64 (Int.ofNat p4.2.1) 1)))) = some r) : az Tryz.prog (n + 1) 39 [(.pointer (some b_0)),(.int .i64 w_1)] h = some r:=eO (plan:=HQ) (by kernel_rfl) hv
def IV : List (List Nat × List Nat):=[([9],[])]
theorem GC {n : Nat} {b_0 : Addr} {p_1a p_1b p_1c p_1d p_1e p_1f : Int} {h : AH} {r : Go.Value × AH} (hv :
( ((aF (setLow h h.next) [(.int .u8 p_1a),(.int .u8 p_1b),(.int .u8 p_1c),(.int .u8 p_1d),(.int .u8 p_1e),(.int .u64 p_1f)] 0)).bind fun p0 =>
 ((gI .u8 (rdC p0.2 (Addr.add ⟨p0.1,0,none⟩ 0) 0))).bind fun n1 =>
 ((gI .u8 (rdC p0.2 (Addr.add ⟨p0.1,0,none⟩ 1) 0))).bind fun n2 =>
 ((az Tryz.prog n 38 [(.int .u8 n2)] p0.2)).bind fun p3 =>
 ((gI .i64 (some p3.1))).bind fun n4 =>
 cond (aX (aT .i64 1 (ce .i64 (aQ .i64 n1) 28)) 1)
 (((gI .u64 (rdC p3.2 (Addr.add ⟨p0.1,0,none⟩ 5) 0))).bind fun n5 =>
 ((az Tryz.prog n 35 [(.int .i64 n4)] (setLow p3.2 p3.2.next))).bind fun p6 =>
 ((gI .u64 (some p6.1))).bind fun n7 =>
 cond (Nat.beq p6.2.low p3.2.next)
 (((az Tryz.prog n 79 [(.pointer (some b_0)),(.int .i64 (aT .i64 1 (ce .i64 (aQ .i64 n1) 28))),(.int .i64 n4),(.slice none 0 0),(.int .u64 (qI .u64 n5 n7)),(.int .i64 0)] (setLow p6.2 p3.2.low))).bind fun p8 =>
 ((gI .i64 (some p8.1))).bind fun n9 =>
 some (ai h p8.2 (.tuple #[])))
 (((gI .u64 (rdC p3.2 (Addr.add ⟨p0.1,0,none⟩ 5) 0))).bind fun n10 =>
 ((az Tryz.prog n 35 [(.int .i64 n4)] p3.2)).bind fun p11 =>
 ((gI .u64 (some p11.1))).bind fun n12 =>
 ((az Tryz.prog n 79 [(.pointer (some b_0)),(.int .i64 (aT .i64 1 (ce .i64 (aQ .i64 n1) 28))),(.int .i64 n4),(.slice none 0 0),(.int .u64 (qI .u64 n10 n12)),(.int .i64 0)] p11.2)).bind fun p13 =>
 ((gI .i64 (some p13.1))).bind fun n14 =>
 cond (Bool.and (Bool.and (cF p3.2 p11.2 (Addr.add ⟨p0.1,0,none⟩ 5) 1) true) true)
 (some (ai h p13.2 (.tuple #[])))
 (none)))
 (cond (bS (aT .i64 1 (ce .i64 (aQ .i64 n1) 28)) 14)
 (((gI .u8 (rdC p3.2 (Addr.add ⟨p0.1,0,none⟩ 2) 0))).bind fun n15 =>
 ((az Tryz.prog n 41 [(.pointer (some b_0)),(.int .i64 n4),(.int .u8 n15)] p3.2)).bind fun p16 =>
 ((gI .i64 (some p16.1))).bind fun n17 =>
 ((gI .u8 (rdC p16.2 (Addr.add ⟨p0.1,0,none⟩ 3) 0))).bind fun n18 =>
 ((az Tryz.prog n 41 [(.pointer (some b_0)),(.int .i64 n4),(.int .u8 n18)] p16.2)).bind fun gh =>
 ((gI .i64 (some gh.1))).bind fun n20 =>
 ((aF gh.2 [(.int .i64 n17),(.int .i64 n20)] 1)).bind fun gQ =>
 ((az Tryz.prog n 79 [(.pointer (some b_0)),(.int .i64 (aT .i64 1 (ce .i64 (aQ .i64 n1) 28))),(.int .i64 n4),(.slice (some ⟨gQ.1,0,none⟩) 2 2),(.int .u64 0),(.int .i64 0)] gQ.2)).bind fun gf =>
 ((gI .i64 (some gf.1))).bind fun n23 =>
 some (ai h gf.2 (.tuple #[])))
 (cond (bS (aT .i64 1 (ce .i64 (aQ .i64 n1) 28)) 20)
 (((gI .u8 (rdC p3.2 (Addr.add ⟨p0.1,0,none⟩ 2) 0))).bind fun n24 =>
 ((az Tryz.prog n 41 [(.pointer (some b_0)),(.int .i64 n4),(.int .u8 n24)] p3.2)).bind fun jo =>
 ((gI .i64 (some jo.1))).bind fun n26 =>
 ((gI .u8 (rdC jo.2 (Addr.add ⟨p0.1,0,none⟩ 3) 0))).bind fun n27 =>
 ((az Tryz.prog n 41 [(.pointer (some b_0)),(.int .i64 n4),(.int .u8 n27)] jo.2)).bind fun p28 =>
 ((gI .i64 (some p28.1))).bind fun n29 =>
 ((aF p28.2 [(.int .i64 n26),(.int .i64 n29)] 1)).bind fun p30 =>
 ((az Tryz.prog n 79 [(.pointer (some b_0)),(.int .i64 (aT .i64 1 (ce .i64 (aQ .i64 n1) 28))),(.int .i64 1),(.slice (some ⟨p30.1,0,none⟩) 2 2),(.int .u64 0),(.int .i64 0)] p30.2)).bind fun p31 =>
 ((gI .i64 (some p31.1))).bind fun n32 =>
 some (ai h p31.2 (.tuple #[])))
 (cond (aX (aT .i64 1 (ce .i64 (aQ .i64 n1) 28)) 21)
 (((gI .u8 (rdC p3.2 (Addr.add ⟨p0.1,0,none⟩ 4) 0))).bind fun n33 =>
 ((az Tryz.prog n 41 [(.pointer (some b_0)),(.int .i64 1),(.int .u8 n33)] p3.2)).bind fun rE =>
 ((gI .i64 (some rE.1))).bind fun n35 =>
 ((gI .u8 (rdC rE.2 (Addr.add ⟨p0.1,0,none⟩ 2) 0))).bind fun n36 =>
 ((az Tryz.prog n 41 [(.pointer (some b_0)),(.int .i64 n4),(.int .u8 n36)] rE.2)).bind fun qZ =>
 ((gI .i64 (some qZ.1))).bind fun n38 =>
 ((gI .u8 (rdC qZ.2 (Addr.add ⟨p0.1,0,none⟩ 3) 0))).bind fun n39 =>
 ((az Tryz.prog n 41 [(.pointer (some b_0)),(.int .i64 n4),(.int .u8 n39)] qZ.2)).bind fun p40 =>
 ((gI .i64 (some p40.1))).bind fun n41 =>
 ((aF p40.2 [(.int .i64 n35),(.int .i64 n38),(.int .i64 n41)] 1)).bind fun p42 =>
 ((az Tryz.prog n 79 [(.pointer (some b_0)),(.int .i64 (aT .i64 1 (ce .i64 (aQ .i64 n1) 28))),(.int .i64 n4),(.slice (some ⟨p42.1,0,none⟩) 3 3),(.int .u64 0),(.int .i64 0)] p42.2)).bind fun p43 =>
 ((gI .i64 (some p43.1))).bind fun n44 =>
 some (ai h p43.2 (.tuple #[])))
 (cond (bS (aT .i64 1 (ce .i64 (aQ .i64 n1) 28)) 24)
 (((gI .u8 (rdC p3.2 (Addr.add ⟨p0.1,0,none⟩ 3) 0))).bind fun n45 =>
 ((az Tryz.prog n 38 [(.int .u8 n45)] p3.2)).bind fun p46 =>
 ((gI .i64 (some p46.1))).bind fun n47 =>
 cond (aX (fM n4 n47) (ge n4 n47))
 (((gI .u8 (rdC p46.2 (Addr.add ⟨p0.1,0,none⟩ 2) 0))).bind fun n48 =>
 ((az Tryz.prog n 41 [(.pointer (some b_0)),(.int .i64 n4),(.int .u8 n48)] (setLow p46.2 p46.2.next))).bind fun p49 =>
 ((gI .i64 (some p49.1))).bind fun n50 =>
 cond (Nat.beq p49.2.low p46.2.next)
 (((gI .u8 (rdC (setLow p49.2 p46.2.low) (Addr.add ⟨p0.1,0,none⟩ 4) 0))).bind fun n51 =>
 ((az Tryz.prog n 41 [(.pointer (some b_0)),(.int .i64 n4),(.int .u8 n51)] (setLow p49.2 p46.2.low))).bind fun AS =>
 ((gI .i64 (some AS.1))).bind fun n53 =>
 ((aF AS.2 [(.int .i64 n50),(.int .i64 n53)] 1)).bind fun uw =>
 ((az Tryz.prog n 79 [(.pointer (some b_0)),(.int .i64 10),(.int .i64 n4),(.slice (some ⟨uw.1,0,none⟩) 2 2),(.int .u64 0),(.int .i64 0)] uw.2)).bind fun IT =>
 ((gI .i64 (some IT.1))).bind fun n56 =>
 some (ai h IT.2 (.tuple #[])))
 (((gI .u8 (rdC p46.2 (Addr.add ⟨p0.1,0,none⟩ 2) 0))).bind fun n57 =>
 ((az Tryz.prog n 41 [(.pointer (some b_0)),(.int .i64 n4),(.int .u8 n57)] p46.2)).bind fun p58 =>
 ((gI .i64 (some p58.1))).bind fun n59 =>
 ((gI .u8 (rdC p58.2 (Addr.add ⟨p0.1,0,none⟩ 4) 0))).bind fun n60 =>
 ((az Tryz.prog n 41 [(.pointer (some b_0)),(.int .i64 n4),(.int .u8 n60)] p58.2)).bind fun EJ =>
 ((gI .i64 (some EJ.1))).bind fun n62 =>
 ((aF EJ.2 [(.int .i64 n59),(.int .i64 n62)] 1)).bind fun IV =>
 ((az Tryz.prog n 79 [(.pointer (some b_0)),(.int .i64 10),(.int .i64 n4),(.slice (some ⟨IV.1,0,none⟩) 2 2),(.int .u64 0),(.int .i64 0)] IV.2)).bind fun p64 =>
 ((gI .i64 (some p64.1))).bind fun n65 =>
 cond (Bool.and (Bool.and (cF p58.2 p46.2 (Addr.add ⟨p0.1,0,none⟩ 4) 1) true) true)
 (some (ai h p64.2 (.tuple #[])))
 (none)))
 (cond (aX (aT .i64 1 (ce .i64 (aQ .i64 n1) 28)) 24)
 (((gI .u8 (rdC p46.2 (Addr.add ⟨p0.1,0,none⟩ 2) 0))).bind fun n66 =>
 ((az Tryz.prog n 41 [(.pointer (some b_0)),(.int .i64 (ge n4 n47)),(.int .u8 n66)] p46.2)).bind fun DS =>
 ((gI .i64 (some DS.1))).bind fun n68 =>
 ((aF DS.2 [(.int .i64 n68)] 1)).bind fun DT =>
 ((az Tryz.prog n 79 [(.pointer (some b_0)),(.int .i64 (aT .i64 1 (ce .i64 (aQ .i64 n1) 28))),(.int .i64 (fM n4 n47)),(.slice (some ⟨DT.1,0,none⟩) 1 1),(.int .u64 0),(.int .i64 0)] DT.2)).bind fun CP =>
 ((gI .i64 (some CP.1))).bind fun n71 =>
 some (ai h CP.2 (.tuple #[])))
 (((gI .u8 (rdC p46.2 (Addr.add ⟨p0.1,0,none⟩ 2) 0))).bind fun n72 =>
 ((az Tryz.prog n 41 [(.pointer (some b_0)),(.int .i64 (fM n4 n47)),(.int .u8 n72)] p46.2)).bind fun IU =>
 ((gI .i64 (some IU.1))).bind fun n74 =>
 ((aF IU.2 [(.int .i64 n74)] 1)).bind fun p75 =>
 ((az Tryz.prog n 79 [(.pointer (some b_0)),(.int .i64 (aT .i64 1 (ce .i64 (aQ .i64 n1) 28))),(.int .i64 (ge n4 n47)),(.slice (some ⟨p75.1,0,none⟩) 1 1),(.int .u64 0),(.int .i64 0)] p75.2)).bind fun p76 =>
 ((gI .i64 (some p76.1))).bind fun n77 =>
 some (ai h p76.2 (.tuple #[])))))
 (cond (aX (aT .i64 1 (ce .i64 (aQ .i64 n1) 28)) 25)
 (((gI .u8 (rdC p3.2 (Addr.add ⟨p0.1,0,none⟩ 4) 0))).bind fun n78 =>
 ((gI .u8 (rdC p3.2 (Addr.add ⟨p0.1,0,none⟩ 2) 0))).bind fun n79 =>
 ((az Tryz.prog n 41 [(.pointer (some b_0)),(.int .i64 8),(.int .u8 n79)] p3.2)).bind fun p80 =>
 ((gI .i64 (some p80.1))).bind fun n81 =>
 ((gL (rdC p80.2 (Addr.add (Addr.add b_0 0) 2) 0))).bind fun p82 =>
 (p82.1).bind fun a83 =>
 cond (bM (ce .i64 (aQ .i64 n78) 2) p82.2.1)
 (((gI .i64 (rdC p80.2 (Addr.add (Addr.add a83 ((Int.toNat (ce .i64 (aQ .i64 n78) 2)) * 5)) 1) 0))).bind fun n84 =>
 ((gI .u8 (rdC p80.2 (Addr.add ⟨p0.1,0,none⟩ 3) 0))).bind fun n85 =>
 ((az Tryz.prog n 41 [(.pointer (some b_0)),(.int .i64 1),(.int .u8 n85)] (setLow p80.2 p80.2.next))).bind fun p86 =>
 ((gI .i64 (some p86.1))).bind fun n87 =>
 cond (Nat.beq p86.2.low p80.2.next)
 (((aF (setLow p86.2 p80.2.low) [(.int .i64 n81),(.int .i64 n87)] 1)).bind fun p88 =>
 ((az Tryz.prog n 79 [(.pointer (some b_0)),(.int .i64 (aT .i64 1 (ce .i64 (aQ .i64 n1) 28))),(.int .i64 n84),(.slice (some ⟨p88.1,0,none⟩) 2 2),(.int .u64 0),(.int .i64 (ce .i64 (aQ .i64 n78) 2))] p88.2)).bind fun p89 =>
 ((gI .i64 (some p89.1))).bind fun n90 =>
 some (ai h p89.2 (.tuple #[])))
 (((gL (rdC p80.2 (Addr.add (Addr.add b_0 0) 2) 0))).bind fun EI =>
 (EI.1).bind fun a92 =>
 cond (bM (ce .i64 (aQ .i64 n78) 2) EI.2.1)
 (((gI .i64 (rdC p80.2 (Addr.add (Addr.add a92 ((Int.toNat (ce .i64 (aQ .i64 n78) 2)) * 5)) 1) 0))).bind fun n93 =>
 ((gI .u8 (rdC p80.2 (Addr.add ⟨p0.1,0,none⟩ 3) 0))).bind fun n94 =>
 ((az Tryz.prog n 41 [(.pointer (some b_0)),(.int .i64 1),(.int .u8 n94)] p80.2)).bind fun CQ =>
 ((gI .i64 (some CQ.1))).bind fun n96 =>
 ((aF CQ.2 [(.int .i64 n81),(.int .i64 n96)] 1)).bind fun p97 =>
 ((az Tryz.prog n 79 [(.pointer (some b_0)),(.int .i64 (aT .i64 1 (ce .i64 (aQ .i64 n1) 28))),(.int .i64 n93),(.slice (some ⟨p97.1,0,none⟩) 2 2),(.int .u64 0),(.int .i64 (ce .i64 (aQ .i64 n78) 2))] p97.2)).bind fun p98 =>
 ((gI .i64 (some p98.1))).bind fun n99 =>
 cond (Bool.and (Bool.and (cF p80.2 CQ.2 (Addr.add (Addr.add b_0 0) 2) 1) (Bool.and (cF p80.2 p97.2 (Addr.add (Addr.add b_0 0) 2) 1) true)) (Bool.and (Bool.and (cF p80.2 CQ.2 (Addr.add (Addr.add a92 ((Int.toNat (ce .i64 (aQ .i64 n78) 2)) * 5)) 1) 1) (Bool.and (cF p80.2 p97.2 (Addr.add (Addr.add a92 ((Int.toNat (ce .i64 (aQ .i64 n78) 2)) * 5)) 1) 1) true)) true))
 (some (ai h p98.2 (.tuple #[])))
 (none))
 (none)))
 (none))
 (cond (aX (aT .i64 1 (ce .i64 (aQ .i64 n1) 28)) 26)
 (((gI .u8 (rdC p3.2 (Addr.add ⟨p0.1,0,none⟩ 4) 0))).bind fun n100 =>
 ((gI .u8 (rdC p3.2 (Addr.add ⟨p0.1,0,none⟩ 2) 0))).bind fun n101 =>
 ((az Tryz.prog n 41 [(.pointer (some b_0)),(.int .i64 8),(.int .u8 n101)] p3.2)).bind fun p102 =>
 ((gI .i64 (some p102.1))).bind fun n103 =>
 ((gL (rdC p102.2 (Addr.add (Addr.add b_0 0) 2) 0))).bind fun p104 =>
 (p104.1).bind fun a105 =>
 cond (bM (ce .i64 (aQ .i64 n100) 2) p104.2.1)
 (((gI .i64 (rdC p102.2 (Addr.add (Addr.add a105 ((Int.toNat (ce .i64 (aQ .i64 n100) 2)) * 5)) 1) 0))).bind fun n106 =>
 ((gI .u8 (rdC p102.2 (Addr.add ⟨p0.1,0,none⟩ 3) 0))).bind fun n107 =>
 ((az Tryz.prog n 41 [(.pointer (some b_0)),(.int .i64 n106),(.int .u8 n107)] p102.2)).bind fun Bz =>
 ((gI .i64 (some Bz.1))).bind fun n109 =>
 ((gI .u8 (rdC Bz.2 (Addr.add ⟨p0.1,0,none⟩ 4) 0))).bind fun n110 =>
 ((az Tryz.prog n 41 [(.pointer (some b_0)),(.int .i64 1),(.int .u8 (qH .u8 n110 2))] Bz.2)).bind fun p111 =>
 ((gI .i64 (some p111.1))).bind fun n112 =>
 ((gL (rdC p111.2 (Addr.add b_0 7) 0))).bind fun p113 =>
 ((aF p111.2 [(.int .i64 n103),(.int .i64 n109),(.int .i64 n112)] 1)).bind fun p114 =>
 ((aF p114.2 [(.int .i64 (aT .i64 1 (ce .i64 (aQ .i64 n1) 28))),(.int .i64 (-1)),(.slice (some ⟨p114.1,0,none⟩) 3 3),(.int .u64 0),(.int .i64 (ce .i64 (aQ .i64 n100) 2))] 5)).bind fun p115 =>
 ((dg 5 56 (.slice p113.1 p113.2.1 p113.2.2) (.slice (some ⟨p115.1,0,none⟩) 1 1) p115.2)).bind fun p116 =>
 ((di p116.2 (Addr.add b_0 7) [(.slice p116.1.1 p116.1.2.1 p116.1.2.2)])).bind fun x117 =>
 some (ai h x117 (.tuple #[])))
 (none))
 (cond (aX (aT .i64 1 (ce .i64 (aQ .i64 n1) 28)) 27)
 (((gI .u8 (rdC p3.2 (Addr.add ⟨p0.1,0,none⟩ 2) 0))).bind fun n118 =>
 ((az Tryz.prog n 41 [(.pointer (some b_0)),(.int .i64 1),(.int .u8 n118)] p3.2)).bind fun p119 =>
 ((gI .i64 (some p119.1))).bind fun n120 =>
 ((aF p119.2 [(.int .i64 n120)] 1)).bind fun p121 =>
 ((az Tryz.prog n 79 [(.pointer (some b_0)),(.int .i64 (aT .i64 1 (ce .i64 (aQ .i64 n1) 28))),(.int .i64 8),(.slice (some ⟨p121.1,0,none⟩) 1 1),(.int .u64 0),(.int .i64 0)] p121.2)).bind fun p122 =>
 ((gI .i64 (some p122.1))).bind fun n123 =>
 some (ai h p122.2 (.tuple #[])))
 (((gI .u8 (rdC p3.2 (Addr.add ⟨p0.1,0,none⟩ 2) 0))).bind fun n124 =>
 ((az Tryz.prog n 41 [(.pointer (some b_0)),(.int .i64 8),(.int .u8 n124)] p3.2)).bind fun p125 =>
 ((gI .i64 (some p125.1))).bind fun n126 =>
 ((gI .u8 (rdC p125.2 (Addr.add ⟨p0.1,0,none⟩ 3) 0))).bind fun n127 =>
 ((az Tryz.prog n 41 [(.pointer (some b_0)),(.int .i64 1),(.int .u8 n127)] p125.2)).bind fun p128 =>
 ((gI .i64 (some p128.1))).bind fun n129 =>
 ((gL (rdC p128.2 (Addr.add b_0 7) 0))).bind fun p130 =>
 ((aF p128.2 [(.int .i64 n126),(.int .i64 n129)] 1)).bind fun p131 =>
 ((aF p131.2 [(.int .i64 (aT .i64 1 (ce .i64 (aQ .i64 n1) 28))),(.int .i64 (-1)),(.slice (some ⟨p131.1,0,none⟩) 2 2),(.int .u64 0),(.int .i64 1)] 5)).bind fun p132 =>
 ((dg 5 56 (.slice p130.1 p130.2.1 p130.2.2) (.slice (some ⟨p132.1,0,none⟩) 1 1) p132.2)).bind fun p133 =>
 ((di p133.2 (Addr.add b_0 7) [(.slice p133.1.1 p133.1.2.1 p133.1.2.2)])).bind fun x134 =>
 some (ai h x134 (.tuple #[]))))))))))) = some r) : az Tryz.prog (n + 1) 40 [(.pointer (some b_0)),(.agg #[(.int .u8 p_1a),(.int .u8 p_1b),(.int .u8 p_1c),(.int .u8 p_1d),(.int .u8 p_1e),(.int .u64 p_1f)])] h = some r:=eO (plan:=IV) (by kernel_rfl) hv
def p64 : List (List Nat × List Nat):=[([0,1,0,1,1],[0,1,2,7,8]),([0,1,0,1,1,1],[0,1,2]),([1,1,1,1],[2,7])]
section
variable (N : jS) (n m0 : Nat) (h0 : AH) (b_0 : Addr) (w_1 n_2 : Int) (l_7 : Option Addr) (l_7n l_7c : Nat) (i_8 : Int) (h : AH)
 noncomputable def t9 : Option (Go.Value × AH):=aO Tryz.prog n Tryz.f41 h0 (.head (aB (av Tryz.f41) [1,1,0,1,0,0]) [0,1,0,1,1] m0) [.block 0,.seq (aB (av Tryz.f41) [1,1,1]) [1,1,1]] (E [(0,.pointer (some b_0)),(1,.int .i64 w_1),(2,.int .u8 n_2),(7,.slice l_7 l_7n l_7c),(8,.int .i64 i_8)]) h
 noncomputable def rf : Option (Go.Value × AH):=iZ Tryz.prog (az Tryz.prog n) n Tryz.f41 h0 p64 N (aO Tryz.prog n Tryz.f41 h0) (aB (av Tryz.f41) [1,1,0,1,0,0]) [0,1,0,1,1] m0 [.block 0,.seq (aB (av Tryz.f41) [1,1,1]) [1,1,1]] (E [(0,.pointer (some b_0)),(1,.int .i64 w_1),(2,.int .u8 n_2),(7,.slice l_7 l_7n l_7c),(8,.int .i64 i_8)]) h
variable {n m0} {h0} {b_0 w_1 n_2 l_7 l_7n l_7c i_8} {h}
theorem ub {r : Go.Value × AH} (hv : rf aF n m0 h0 b_0 w_1 n_2 l_7 l_7n l_7c i_8 h = some r) : t9 n (m0 + 1) h0 b_0 w_1 n_2 l_7 l_7n l_7c i_8 h = some r:=i4 hv
end
 noncomputable def xC (n : Nat) (h0 : AH) (b_0 : Addr) (w_1 n_2 : Int) (h : AH) : Option (Go.Value × AH):=aO Tryz.prog n Tryz.f41 h0 (.code (aB (av Tryz.f41) [1,1,1,0,1,0]) [0,1,0,1,1,1]) [.seq (aB (av Tryz.f41) [1,1,1,1]) [1,1,1,1]] (E [(0,.pointer (some b_0)),(1,.int .i64 w_1),(2,.int .u8 n_2)]) h
 noncomputable def BD (n : Nat) (h0 : AH) (n_2 : Int) (l_7 : Option Addr) (l_7n l_7c : Nat) (h : AH) : Option (Go.Value × AH):=aO Tryz.prog n Tryz.f41 h0 (.code (aB (av Tryz.f41) [1,1,1,1]) [1,1,1,1]) [] (E [(2,.int .u8 n_2),(7,.slice l_7 l_7n l_7c)]) h
theorem GE {n : Nat} {b_0 : Addr} {w_1 n_2 : Int} {h : AH} {r : Go.Value × AH} (hv :
( ((gL (rdC (setLow h h.next) (Addr.add b_0 6) 0))).bind fun p0 =>
 t9 n n h b_0 w_1 n_2 none 0 0 (fC .i64 (Int.ofNat p0.2.1) 1) (setLow h h.next)) = some r) : az Tryz.prog (n + 1) 41 [(.pointer (some b_0)),(.int .i64 w_1),(.int .u8 n_2)] h = some r:=eO (plan:=p64) (by kernel_rfl) hv
theorem ud (N : jS) (n m0 : Nat) (h0 : AH) (b_0 : Addr) (w_1 n_2 : Int) (l_7 : Option Addr) (l_7n l_7c : Nat) (i_8 : Int) (h : AH) : rf N n m0 h0 b_0 w_1 n_2 l_7 l_7n l_7c i_8 h =
 cond (bS 0 i_8)
 ((gL (rdC h (Addr.add (Addr.add b_0 0) 1) 0)).bind fun p0 =>
 (gL (rdC h (Addr.add b_0 6) 0)).bind fun p1 =>
 (p1.1).bind fun a2 =>
 cond (bM i_8 p1.2.1)
 ((gI .i64 (rdC h (Addr.add a2 ((Int.toNat i_8) * 1)) 0)).bind fun n3 =>
 (p0.1).bind fun a4 =>
 cond (bM n3 p0.2.1)
 ((gI .i64 (rdC h (Addr.add a4 ((Int.toNat n3) * 1)) 0)).bind fun n5 =>
 cond (aX n5 w_1)
 ((gL (rdC h (Addr.add b_0 6) 0)).bind fun p6 =>
 (p6.1).bind fun a7 =>
 cond (bM i_8 p6.2.1)
 ((gI .i64 (rdC h (Addr.add a7 ((Int.toNat i_8) * 1)) 0)).bind fun n8 =>
 (N h [(.int .i64 n8)] 1).bind fun p9 =>
 (dg 1 8 (.slice l_7 l_7n l_7c) (.slice (some ⟨p9.1,0,none⟩) 1 1) p9.2).bind fun p10 =>
 t9 n m0 h0 b_0 w_1 n_2 p10.1.1 p10.1.2.1 p10.1.2.2 (fC .i64 i_8 1) p10.2)
 (none))
 (t9 n m0 h0 b_0 w_1 n_2 l_7 l_7n l_7c (fC .i64 i_8 1) h))
 (none))
 (none))
 (cond (aX (Int.ofNat l_7n) 0)
 (xC n h0 b_0 w_1 n_2 h)
 (cond (bS 250 n_2)
 (xC n h0 b_0 w_1 n_2 h)
 (BD n h0 n_2 l_7 l_7n l_7c h))):=by kernel_rfl
theorem BE {n : Nat} {h0 : AH} {b_0 : Addr} {w_1 n_2 : Int} {h : AH} {r : Go.Value × AH} (hv :
( ((az Tryz.prog n 35 [(.int .i64 w_1)] h)).bind fun p0 =>
 ((gI .u64 (some p0.1))).bind fun n1 =>
 ((az Tryz.prog n 79 [(.pointer (some b_0)),(.int .i64 1),(.int .i64 w_1),(.slice none 0 0),(.int .u64 (qI .u64 (aQ .u64 n_2) n1)),(.int .i64 0)] p0.2)).bind fun p2 =>
 ((gI .i64 (some p2.1))).bind fun n3 =>
 some (ai h0 p2.2 (.int .i64 n3))) = some r) : xC n h0 b_0 w_1 n_2 h = some r:=fO (plan:=p64) (by kernel_rfl) hv
theorem BF {n : Nat} {h0 : AH} {n_2 : Int} {l_7 : Option Addr} {l_7n l_7c : Nat} {h : AH} {r : Go.Value × AH} (hv :
( cond (aX (Int.ofNat l_7n) 0)
 (none)
 ((l_7).bind fun a0 =>
 cond (bM (ce .i64 (aQ .i64 n_2) (Int.ofNat l_7n)) l_7n)
 (((gI .i64 (rdC h (Addr.add a0 ((Int.toNat (ce .i64 (aQ .i64 n_2) (Int.ofNat l_7n))) * 1)) 0))).bind fun n1 =>
 some (ai h0 h (.int .i64 n1)))
 (none))) = some r) : BD n h0 n_2 l_7 l_7n l_7c h = some r:=fO (plan:=p64) (by kernel_rfl) hv
def Jm : List (List Nat × List Nat):=[([1,1,1],[0,3,5,8,9]),([0,1,0,1,1,1,1],[0,3,5,8,9,10,11]),([9],[])]
 noncomputable def xD (n : Nat) (h0 : AH) (b_0 : Addr) (n_3 : Int) (p_5 t_8 : Addr) (k_9 : Int) (h : AH) : Option (Go.Value × AH):=aO Tryz.prog n Tryz.f42 h0 (.code (aB (av Tryz.f42) [1,1,1]) [1,1,1]) [] (E [(0,.pointer (some b_0)),(3,.int .u8 n_3),(5,.pointer (some p_5)),(8,.pointer (some t_8)),(9,.int .i64 k_9)]) h
 noncomputable def ol (n m0 : Nat) (h0 : AH) (b_0 : Addr) (n_3 : Int) (p_5 t_8 : Addr) (k_9 : Int) (e_10 : Addr) (i_11 : Int) (h : AH) : Option (Go.Value × AH):=aO Tryz.prog n Tryz.f42 h0 (.head (aB (av Tryz.f42) [1,1,1,1,0,1,0,0]) [0,1,0,1,1,1,1] m0) [.block 0,.seq (aB (av Tryz.f42) [1,1,1,1,1]) [1,1,1,1,1]] (E [(0,.pointer (some b_0)),(3,.int .u8 n_3),(5,.pointer (some p_5)),(8,.pointer (some t_8)),(9,.int .i64 k_9),(10,.pointer (some e_10)),(11,.int .i64 i_11)]) h
theorem GF {n : Nat} {b_0 : Addr} {p_1a : Option Addr} {p_1an p_1ac : Nat} {p_1b : Option Addr} {p_1bn p_1bc : Nat} {to_2 n_3 : Int} {h : AH} {r : Go.Value × AH} (hv :
( ((aF (setLow h h.next) [(.slice p_1a p_1an p_1ac),(.slice p_1b p_1bn p_1bc)] 0)).bind fun p0 =>
 ((aF p0.2 [(.int .i64 0),(.slice none 0 0)] 0)).bind fun p1 =>
 ((gL (rdC p1.2 (Addr.add ⟨p0.1,0,none⟩ 0) 0))).bind fun p2 =>
 cond (bZ 1 (Int.ofNat p2.2.1))
 (((gL (rdC p1.2 (Addr.add ⟨p0.1,0,none⟩ 0) 0))).bind fun p3 =>
 cond (aX (fC .i64 (Int.ofNat p3.2.1) 1) 0)
 (none)
 (xD n h b_0 n_3 ⟨p0.1,0,none⟩ ⟨p1.1,0,none⟩ (aT .i64 1 (ce .i64 (aQ .i64 to_2) (fC .i64 (Int.ofNat p3.2.1) 1))) p1.2))
 (xD n h b_0 n_3 ⟨p0.1,0,none⟩ ⟨p1.1,0,none⟩ 0 p1.2)) = some r) : az Tryz.prog (n + 1) 42 [(.pointer (some b_0)),(.agg #[(.slice p_1a p_1an p_1ac),(.slice p_1b p_1bn p_1bc)]),(.int .u8 to_2),(.int .u8 n_3)] h = some r:=eO (plan:=Jm) (by kernel_rfl) hv
theorem BH {n : Nat} {h0 : AH} {b_0 : Addr} {n_3 : Int} {p_5 t_8 : Addr} {k_9 : Int} {h : AH} {r : Go.Value × AH} (hv :
( ((aF h [(.int .i64 0),(.slice none 0 0)] 0)).bind fun p0 =>
 ((di p0.2 ⟨p0.1,0,none⟩ [(.int .i64 k_9),(.slice none 0 0)])).bind fun x1 =>
 ol n n h0 b_0 n_3 p_5 t_8 k_9 ⟨p0.1,0,none⟩ 0 x1) = some r) : xD n h0 b_0 n_3 p_5 t_8 k_9 h = some r:=fO (plan:=Jm) (by kernel_rfl) hv
theorem ue {n m0 : Nat} {h0 : AH} {b_0 : Addr} {n_3 : Int} {p_5 t_8 : Addr} {k_9 : Int} {e_10 : Addr} {i_11 : Int} {h : AH} {r : Go.Value × AH} (hv :
( ((gL (rdC h (Addr.add p_5 0) 0))).bind fun p0 =>
 (p0.1).bind fun a1 =>
 cond (bM k_9 p0.2.1)
 (((gL (rdC h (Addr.add (Addr.add a1 ((Int.toNat k_9) * 9)) 0) 0))).bind fun p2 =>
 cond (bZ i_11 (Int.ofNat p2.2.1))
 (((gL (rdC h (Addr.add e_10 1) 0))).bind fun p3 =>
 ((gL (rdC h (Addr.add p_5 0) 0))).bind fun p4 =>
 (p4.1).bind fun a5 =>
 cond (bM k_9 p4.2.1)
 (((gL (rdC h (Addr.add (Addr.add a5 ((Int.toNat k_9) * 9)) 0) 0))).bind fun p6 =>
 (p6.1).bind fun a7 =>
 cond (bM i_11 p6.2.1)
 (((gI .u8 (rdC h (Addr.add a7 ((Int.toNat i_11) * 1)) 0))).bind fun n8 =>
 ((az Tryz.prog n 38 [(.int .u8 n8)] (setLow h h.next))).bind fun p9 =>
 ((gI .i64 (some p9.1))).bind fun n10 =>
 cond (Nat.beq p9.2.low h.next)
 (((az Tryz.prog n 41 [(.pointer (some b_0)),(.int .i64 n10),(.int .u8 (aT .u8 n_3 (aQ .u8 i_11)))] (setLow (setLow p9.2 h.low) (setLow p9.2 h.low).next))).bind fun p11 =>
 ((gI .i64 (some p11.1))).bind fun n12 =>
 cond (Nat.beq p11.2.low (setLow p9.2 h.low).next)
 (((aF (setLow p11.2 (setLow p9.2 h.low).low) [(.int .i64 n12)] 1)).bind fun p13 =>
 ((dg 1 8 (.slice p3.1 p3.2.1 p3.2.2) (.slice (some ⟨p13.1,0,none⟩) 1 1) p13.2)).bind fun p14 =>
 ((di p14.2 (Addr.add e_10 1) [(.slice p14.1.1 p14.1.2.1 p14.1.2.2)])).bind fun x15 =>
 ol n m0 h0 b_0 n_3 p_5 t_8 k_9 e_10 (aT .i64 i_11 1) x15)
 (((gL (rdC h (Addr.add e_10 1) 0))).bind fun p16 =>
 ((gL (rdC h (Addr.add p_5 0) 0))).bind fun p17 =>
 (p17.1).bind fun a18 =>
 cond (bM k_9 p17.2.1)
 (((gL (rdC h (Addr.add (Addr.add a18 ((Int.toNat k_9) * 9)) 0) 0))).bind fun gh =>
 (gh.1).bind fun a20 =>
 cond (bM i_11 gh.2.1)
 (((gI .u8 (rdC h (Addr.add a20 ((Int.toNat i_11) * 1)) 0))).bind fun n21 =>
 ((az Tryz.prog n 38 [(.int .u8 n21)] h)).bind fun gf =>
 ((gI .i64 (some gf.1))).bind fun n23 =>
 ((az Tryz.prog n 41 [(.pointer (some b_0)),(.int .i64 n23),(.int .u8 (aT .u8 n_3 (aQ .u8 i_11)))] gf.2)).bind fun iy =>
 ((gI .i64 (some iy.1))).bind fun n25 =>
 ((aF iy.2 [(.int .i64 n25)] 1)).bind fun p26 =>
 ((dg 1 8 (.slice p16.1 p16.2.1 p16.2.2) (.slice (some ⟨p26.1,0,none⟩) 1 1) p26.2)).bind fun p27 =>
 ((di p27.2 (Addr.add e_10 1) [(.slice p27.1.1 p27.1.2.1 p27.1.2.2)])).bind fun x28 =>
 cond (Bool.and (Bool.and (cF h gf.2 (Addr.add e_10 1) 1) (Bool.and (cF h iy.2 (Addr.add e_10 1) 1) (Bool.and (cF h p26.2 (Addr.add e_10 1) 1) true))) true)
 (ol n m0 h0 b_0 n_3 p_5 t_8 k_9 e_10 (aT .i64 i_11 1) x28)
 (none))
 (none))
 (none)))
 (((gL (rdC h (Addr.add e_10 1) 0))).bind fun mj =>
 ((gL (rdC h (Addr.add p_5 0) 0))).bind fun p30 =>
 (p30.1).bind fun a31 =>
 cond (bM k_9 p30.2.1)
 (((gL (rdC h (Addr.add (Addr.add a31 ((Int.toNat k_9) * 9)) 0) 0))).bind fun p32 =>
 (p32.1).bind fun a33 =>
 cond (bM i_11 p32.2.1)
 (((gI .u8 (rdC h (Addr.add a33 ((Int.toNat i_11) * 1)) 0))).bind fun n34 =>
 ((az Tryz.prog n 38 [(.int .u8 n34)] h)).bind fun i5 =>
 ((gI .i64 (some i5.1))).bind fun n36 =>
 ((az Tryz.prog n 41 [(.pointer (some b_0)),(.int .i64 n36),(.int .u8 (aT .u8 n_3 (aQ .u8 i_11)))] i5.2)).bind fun qZ =>
 ((gI .i64 (some qZ.1))).bind fun n38 =>
 ((aF qZ.2 [(.int .i64 n38)] 1)).bind fun p39 =>
 ((dg 1 8 (.slice mj.1 mj.2.1 mj.2.2) (.slice (some ⟨p39.1,0,none⟩) 1 1) p39.2)).bind fun p40 =>
 ((di p40.2 (Addr.add e_10 1) [(.slice p40.1.1 p40.1.2.1 p40.1.2.2)])).bind fun x41 =>
 cond (Bool.and (Bool.and (cF h i5.2 (Addr.add e_10 1) 1) (Bool.and (cF h qZ.2 (Addr.add e_10 1) 1) (Bool.and (cF h p39.2 (Addr.add e_10 1) 1) true))) true)
 (ol n m0 h0 b_0 n_3 p_5 t_8 k_9 e_10 (aT .i64 i_11 1) x41)
 (none))
 (none))
 (none)))
 (none))
 (none))
 (((gI .i64 (rdC h e_10 0))).bind fun n42 =>
 ((gL (rdC h e_10 1))).bind fun p43 =>
 ((di h t_8 [(.int .i64 n42),(.slice p43.1 p43.2.1 p43.2.2)])).bind fun x44 =>
 ((gI .i64 (rdC x44 t_8 0))).bind fun n45 =>
 ((gL (rdC x44 t_8 1))).bind fun p46 =>
 some (ai h0 x44 (.agg #[(.int .i64 n45),(.slice p46.1 p46.2.1 p46.2.2)]))))
 (none)) = some r) : ol n (m0 + 1) h0 b_0 n_3 p_5 t_8 k_9 e_10 i_11 h = some r:=gV (plan:=Jm) (by kernel_rfl) hv
def KB : List (List Nat × List Nat):=[([0,1,0,1,1],[0,3,4])]
 noncomputable def xF (n m0 : Nat) (h0 : AH) (w_0 m_3 i_4 : Int) (h : AH) : Option (Go.Value × AH):=aO Tryz.prog n Tryz.f35 h0 (.head (aB (av Tryz.f35) [1,1,0,1,0,0]) [0,1,0,1,1] m0) [.block 0,.seq (aB (av Tryz.f35) [1,1,1]) [1,1,1]] (E [(0,.int .i64 w_0),(3,.int .u64 m_3),(4,.int .i64 i_4)]) h
theorem GG {n : Nat} {w_0 : Int} {h : AH} {r : Go.Value × AH} (hv :
( xF n n h w_0 0 0 (setLow h h.next)) = some r) : az Tryz.prog (n + 1) 35 [(.int .i64 w_0)] h = some r:=eO (plan:=KB) (by kernel_rfl) hv
theorem uf {n m0 : Nat} {h0 : AH} {w_0 m_3 i_4 : Int} {h : AH} {r : Go.Value × AH} (hv :
( cond (bZ i_4 w_0)
 (xF n m0 h0 w_0 (aT .u64 (Ah .u64 m_3 2) 1) (aT .i64 i_4 1) h)
 (some (ai h0 h (.int .u64 m_3)))) = some r) : xF n (m0 + 1) h0 w_0 m_3 i_4 h = some r:=gV (plan:=KB) (by kernel_rfl) hv
def p89 : List (List Nat × List Nat):=[]
theorem GH {n : Nat} {b_0 : Addr} {op_1 w_2 : Int} {args_3 : Option Addr} {args_3n args_3c : Nat} {num_4 mem_5 : Int} {h : AH} {r : Go.Value × AH} (hv :
( ((az Tryz.prog n 39 [(.pointer (some b_0)),(.int .i64 w_2)] (setLow h h.next))).bind fun p0 =>
 ((gI .i64 (some p0.1))).bind fun n1 =>
 ((gL (rdC p0.2 (Addr.add b_0 7) 0))).bind fun p2 =>
 ((aF p0.2 [(.int .i64 op_1),(.int .i64 n1),(.slice args_3 args_3n args_3c),(.int .u64 num_4),(.int .i64 mem_5)] 5)).bind fun p3 =>
 ((dg 5 56 (.slice p2.1 p2.2.1 p2.2.2) (.slice (some ⟨p3.1,0,none⟩) 1 1) p3.2)).bind fun p4 =>
 ((di p4.2 (Addr.add b_0 7) [(.slice p4.1.1 p4.1.2.1 p4.1.2.2)])).bind fun x5 =>
 ((gL (rdC x5 (Addr.add b_0 6) 0))).bind fun p6 =>
 ((aF x5 [(.int .i64 n1)] 1)).bind fun p7 =>
 ((dg 1 8 (.slice p6.1 p6.2.1 p6.2.2) (.slice (some ⟨p7.1,0,none⟩) 1 1) p7.2)).bind fun p8 =>
 ((di p8.2 (Addr.add b_0 6) [(.slice p8.1.1 p8.1.2.1 p8.1.2.2)])).bind fun x9 =>
 some (ai h x9 (.int .i64 n1))) = some r) : az Tryz.prog (n + 1) 79 [(.pointer (some b_0)),(.int .i64 op_1),(.int .i64 w_2),(.slice args_3 args_3n args_3c),(.int .u64 num_4),(.int .i64 mem_5)] h = some r:=eO (plan:=p89) (by kernel_rfl) hv
def p9 : List (List Nat × List Nat):=[]
theorem HR {n : Nat} {p_0a : Option Addr} {p_0an p_0ac : Nat} {p_0b : Option Addr} {p_0bn p_0bc : Nat} {h : AH} {r : Go.Value × AH} (hv :
( ((aF (setLow h h.next) [(.slice p_0a p_0an p_0ac),(.slice p_0b p_0bn p_0bc)] 0)).bind fun p0 =>
 ((aF p0.2 [(.string (ByteArray.mk (List.toArray []))),(.slice none 0 0),(.slice none 0 0),(.slice none 0 0),(.slice none 0 0),(.slice none 0 0)] 0)).bind fun p1 =>
 ((gL (rdC p1.2 ⟨p0.1,0,none⟩ 0))).bind fun p2 =>
 ((gL (rdC p1.2 ⟨p0.1,0,none⟩ 1))).bind fun p3 =>
 ((az Tryz.prog n 11 [(.agg #[(.slice p2.1 p2.2.1 p2.2.2),(.slice p3.1 p3.2.1 p3.2.2)])] p1.2)).bind fun p4 =>
 ((gB (some p4.1))).bind fun b5 =>
 cond (Bool.not b5)
 (((di p4.2 ⟨p1.1,0,none⟩ [(.string (ByteArray.mk (List.toArray []))),(.slice none 0 0),(.slice none 0 0),(.slice none 0 0),(.slice none 0 0),(.slice none 0 0)])).bind fun x6 =>
 ((gS (rdC x6 ⟨p1.1,0,none⟩ 0))).bind fun x7 =>
 ((gL (rdC x6 ⟨p1.1,0,none⟩ 1))).bind fun p8 =>
 ((gL (rdC x6 ⟨p1.1,0,none⟩ 2))).bind fun p9 =>
 ((gL (rdC x6 ⟨p1.1,0,none⟩ 3))).bind fun p10 =>
 ((gL (rdC x6 ⟨p1.1,0,none⟩ 4))).bind fun p11 =>
 ((gL (rdC x6 ⟨p1.1,0,none⟩ 5))).bind fun p12 =>
 some (ai h x6 (.tuple #[(.agg #[(.string x7),(.slice p8.1 p8.2.1 p8.2.2),(.slice p9.1 p9.2.1 p9.2.2),(.slice p10.1 p10.2.1 p10.2.2),(.slice p11.1 p11.2.1 p11.2.2),(.slice p12.1 p12.2.1 p12.2.2)]),(.bool false)])))
 (((gL (rdC p4.2 ⟨p0.1,0,none⟩ 0))).bind fun p13 =>
 ((gL (rdC p4.2 ⟨p0.1,0,none⟩ 1))).bind fun p14 =>
 ((az Tryz.prog n 12 [(.agg #[(.slice p13.1 p13.2.1 p13.2.2),(.slice p14.1 p14.2.1 p14.2.2)])] p4.2)).bind fun p15 =>
 cond (gb 6 p15.1)
 (((gS (db 0 p15.1))).bind fun x16 =>
 ((gL (db 1 p15.1))).bind fun p17 =>
 ((gL (db 2 p15.1))).bind fun p18 =>
 ((gL (db 3 p15.1))).bind fun gh =>
 ((gL (db 4 p15.1))).bind fun jB =>
 ((gL (db 5 p15.1))).bind fun gQ =>
 ((aF p15.2 [(.string (ByteArray.mk (List.toArray []))),(.slice none 0 0),(.slice none 0 0),(.slice none 0 0),(.slice none 0 0),(.slice none 0 0)] 0)).bind fun gf =>
 ((di gf.2 ⟨gf.1,0,none⟩ [(.string x16),(.slice p17.1 p17.2.1 p17.2.2),(.slice p18.1 p18.2.1 p18.2.2),(.slice gh.1 gh.2.1 gh.2.2),(.slice jB.1 jB.2.1 jB.2.2),(.slice gQ.1 gQ.2.1 gQ.2.2)])).bind fun x23 =>
 ((gS (rdC x23 ⟨gf.1,0,none⟩ 0))).bind fun x24 =>
 ((gL (rdC x23 ⟨gf.1,0,none⟩ 1))).bind fun jo =>
 ((gL (rdC x23 ⟨gf.1,0,none⟩ 2))).bind fun p26 =>
 ((gL (rdC x23 ⟨gf.1,0,none⟩ 3))).bind fun p27 =>
 ((gL (rdC x23 ⟨gf.1,0,none⟩ 4))).bind fun p28 =>
 ((gL (rdC x23 ⟨gf.1,0,none⟩ 5))).bind fun mj =>
 ((gS (rdC x23 ⟨gf.1,0,none⟩ 0))).bind fun x30 =>
 ((gL (rdC x23 ⟨gf.1,0,none⟩ 1))).bind fun p31 =>
 ((gL (rdC x23 ⟨gf.1,0,none⟩ 2))).bind fun p32 =>
 ((gL (rdC x23 ⟨gf.1,0,none⟩ 3))).bind fun p33 =>
 ((gL (rdC x23 ⟨gf.1,0,none⟩ 4))).bind fun rE =>
 ((gL (rdC x23 ⟨gf.1,0,none⟩ 5))).bind fun i5 =>
 ((az Tryz.prog n 6 [(.agg #[(.string x30),(.slice p31.1 p31.2.1 p31.2.2),(.slice p32.1 p32.2.1 p32.2.2),(.slice p33.1 p33.2.1 p33.2.2),(.slice rE.1 rE.2.1 rE.2.2),(.slice i5.1 i5.2.1 i5.2.2)])] (setLow x23 x23.next))).bind fun p36 =>
 ((gB (some p36.1))).bind fun b37 =>
 cond (Nat.beq p36.2.low x23.next)
 (((di (setLow p36.2 x23.low) ⟨p1.1,0,none⟩ [(.string x24),(.slice jo.1 jo.2.1 jo.2.2),(.slice p26.1 p26.2.1 p26.2.2),(.slice p27.1 p27.2.1 p27.2.2),(.slice p28.1 p28.2.1 p28.2.2),(.slice mj.1 mj.2.1 mj.2.2)])).bind fun x38 =>
 ((gS (rdC x38 ⟨p1.1,0,none⟩ 0))).bind fun x39 =>
 ((gL (rdC x38 ⟨p1.1,0,none⟩ 1))).bind fun p40 =>
 ((gL (rdC x38 ⟨p1.1,0,none⟩ 2))).bind fun p41 =>
 ((gL (rdC x38 ⟨p1.1,0,none⟩ 3))).bind fun p42 =>
 ((gL (rdC x38 ⟨p1.1,0,none⟩ 4))).bind fun p43 =>
 ((gL (rdC x38 ⟨p1.1,0,none⟩ 5))).bind fun p44 =>
 some (ai h x38 (.tuple #[(.agg #[(.string x39),(.slice p40.1 p40.2.1 p40.2.2),(.slice p41.1 p41.2.1 p41.2.2),(.slice p42.1 p42.2.1 p42.2.2),(.slice p43.1 p43.2.1 p43.2.2),(.slice p44.1 p44.2.1 p44.2.2)]),(.bool b37)])))
 (none))
 (none))) = some r) : az Tryz.prog (n + 1) 5 [(.agg #[(.slice p_0a p_0an p_0ac),(.slice p_0b p_0bn p_0bc)])] h = some r:=eO (plan:=p9) (by kernel_rfl) hv
def p10 : List (List Nat × List Nat):=[([1,1],[2,3]),([0,1,0,1,1],[2,3,58,59]),([0,1,0,1,1,1],[2,3,76,77]),([0,1,0,1,1,1,1],[2,3,94,95])]
 noncomputable def BI (n : Nat) (h0 : AH) (a_2 b_3 : Addr) (h : AH) : Option (Go.Value × AH):=aO Tryz.prog n Tryz.f8 h0 (.code (aB (av Tryz.f8) [1,1]) [1,1]) [] (E [(2,.pointer (some a_2)),(3,.pointer (some b_3))]) h
 noncomputable def BJ (n m0 : Nat) (h0 : AH) (a_2 b_3 : Addr) (t_58 t_59 : Int) (h : AH) : Option (Go.Value × AH):=aO Tryz.prog n Tryz.f8 h0 (.head (aB (av Tryz.f8) [1,1,0,1,0,0]) [0,1,0,1,1] m0) [.block 0,.seq (aB (av Tryz.f8) [1,1,1]) [1,1,1]] (E [(2,.pointer (some a_2)),(3,.pointer (some b_3)),(58,.int .i64 t_58),(59,.int .i64 t_59)]) h
 noncomputable def BM (n m0 : Nat) (h0 : AH) (a_2 b_3 : Addr) (t_76 t_77 : Int) (h : AH) : Option (Go.Value × AH):=aO Tryz.prog n Tryz.f8 h0 (.head (aB (av Tryz.f8) [1,1,1,0,1,0,0]) [0,1,0,1,1,1] m0) [.block 2,.seq (aB (av Tryz.f8) [1,1,1,1]) [1,1,1,1]] (E [(2,.pointer (some a_2)),(3,.pointer (some b_3)),(76,.int .i64 t_76),(77,.int .i64 t_77)]) h
 noncomputable def xG (n m0 : Nat) (h0 : AH) (a_2 b_3 : Addr) (t_94 t_95 : Int) (h : AH) : Option (Go.Value × AH):=aO Tryz.prog n Tryz.f8 h0 (.head (aB (av Tryz.f8) [1,1,1,1,0,1,0,0]) [0,1,0,1,1,1,1] m0) [.block 4,.seq (aB (av Tryz.f8) [1,1,1,1,1]) [1,1,1,1,1]] (E [(2,.pointer (some a_2)),(3,.pointer (some b_3)),(94,.int .i64 t_94),(95,.int .i64 t_95)]) h
theorem GI {n : Nat} {a_0a : ByteArray} {a_0b : Option Addr} {a_0bn a_0bc : Nat} {a_0c : Option Addr} {a_0cn a_0cc : Nat} {a_0d : Option Addr} {a_0dn a_0dc : Nat} {a_0e : Option Addr} {a_0en a_0ec : Nat} {a_0f : Option Addr} {a_0fn a_0fc : Nat} {b_1a : ByteArray} {b_1b : Option Addr} {b_1bn b_1bc : Nat} {b_1c : Option Addr} {b_1cn b_1cc : Nat} {b_1d : Option Addr} {b_1dn b_1dc : Nat} {b_1e : Option Addr} {b_1en b_1ec : Nat} {b_1f : Option Addr} {b_1fn b_1fc : Nat} {h : AH} {r : Go.Value × AH} (hv :
( ((aF (setLow h h.next) [(.string a_0a),(.slice a_0b a_0bn a_0bc),(.slice a_0c a_0cn a_0cc),(.slice a_0d a_0dn a_0dc),(.slice a_0e a_0en a_0ec),(.slice a_0f a_0fn a_0fc)] 0)).bind fun p0 =>
 ((aF p0.2 [(.string b_1a),(.slice b_1b b_1bn b_1bc),(.slice b_1c b_1cn b_1cc),(.slice b_1d b_1dn b_1dc),(.slice b_1e b_1en b_1ec),(.slice b_1f b_1fn b_1fc)] 0)).bind fun p1 =>
 ((gS (rdC p1.2 (Addr.add ⟨p0.1,0,none⟩ 0) 0))).bind fun x2 =>
 ((gS (rdC p1.2 (Addr.add ⟨p1.1,0,none⟩ 0) 0))).bind fun x3 =>
 cond (Bool.not (BEq.beq (ByteArray.toList x2) (ByteArray.toList x3)))
 (some (ai h p1.2 (.bool false)))
 (((gL (rdC p1.2 (Addr.add ⟨p0.1,0,none⟩ 1) 0))).bind fun p4 =>
 ((gL (rdC p1.2 (Addr.add ⟨p1.1,0,none⟩ 1) 0))).bind fun p5 =>
 ((az Tryz.prog n 33 [(.slice p4.1 p4.2.1 p4.2.2),(.slice p5.1 p5.2.1 p5.2.2)] p1.2)).bind fun p6 =>
 ((gB (some p6.1))).bind fun b7 =>
 cond (Bool.not b7)
 (some (ai h p6.2 (.bool false)))
 (((gL (rdC p6.2 (Addr.add ⟨p0.1,0,none⟩ 4) 0))).bind fun p8 =>
 ((gL (rdC p6.2 (Addr.add ⟨p1.1,0,none⟩ 4) 0))).bind fun p9 =>
 ((az Tryz.prog n 33 [(.slice p8.1 p8.2.1 p8.2.2),(.slice p9.1 p9.2.1 p9.2.2)] p6.2)).bind fun p10 =>
 ((gB (some p10.1))).bind fun b11 =>
 cond (Bool.not b11)
 (some (ai h p10.2 (.bool false)))
 (((gL (rdC p10.2 (Addr.add ⟨p0.1,0,none⟩ 2) 0))).bind fun p12 =>
 ((gL (rdC p10.2 (Addr.add ⟨p1.1,0,none⟩ 2) 0))).bind fun p13 =>
 cond (gz (Int.ofNat p12.2.1) (Int.ofNat p13.2.1))
 (some (ai h p10.2 (.bool false)))
 (((gL (rdC p10.2 (Addr.add ⟨p0.1,0,none⟩ 3) 0))).bind fun p14 =>
 ((gL (rdC p10.2 (Addr.add ⟨p1.1,0,none⟩ 3) 0))).bind fun p15 =>
 cond (gz (Int.ofNat p14.2.1) (Int.ofNat p15.2.1))
 (some (ai h p10.2 (.bool false)))
 (((gL (rdC p10.2 (Addr.add ⟨p0.1,0,none⟩ 5) 0))).bind fun p16 =>
 ((gL (rdC p10.2 (Addr.add ⟨p1.1,0,none⟩ 5) 0))).bind fun p17 =>
 cond (gz (Int.ofNat p16.2.1) (Int.ofNat p17.2.1))
 (some (ai h p10.2 (.bool false)))
 (BI n h ⟨p0.1,0,none⟩ ⟨p1.1,0,none⟩ p10.2))))))) = some r) : az Tryz.prog (n + 1) 8 [(.agg #[(.string a_0a),(.slice a_0b a_0bn a_0bc),(.slice a_0c a_0cn a_0cc),(.slice a_0d a_0dn a_0dc),(.slice a_0e a_0en a_0ec),(.slice a_0f a_0fn a_0fc)]),(.agg #[(.string b_1a),(.slice b_1b b_1bn b_1bc),(.slice b_1c b_1cn b_1cc),(.slice b_1d b_1dn b_1dc),(.slice b_1e b_1en b_1ec),(.slice b_1f b_1fn b_1fc)])] h = some r:=eO (plan:=p10) (by kernel_rfl) hv
theorem BN {n : Nat} {h0 : AH} {a_2 b_3 : Addr} {h : AH} {r : Go.Value × AH} (hv :
( ((gL (rdC h (Addr.add a_2 2) 0))).bind fun p0 =>
 BJ n n h0 a_2 b_3 (Int.ofNat p0.2.1) 0 h) = some r) : BI n h0 a_2 b_3 h = some r:=fO (plan:=p10) (by kernel_rfl) hv
theorem BP {n m0 : Nat} {h0 : AH} {a_2 b_3 : Addr} {t_58 t_59 : Int} {h : AH} {r : Go.Value × AH} (hv :
( cond (bZ t_59 t_58)
 (((gL (rdC h (Addr.add a_2 2) 0))).bind fun p0 =>
 (p0.1).bind fun a1 =>
 cond (bM t_59 p0.2.1)
 (((gS (rdC h (Addr.add a1 ((Int.toNat t_59) * 5)) 0))).bind fun x2 =>
 ((gI .i64 (rdC h (Addr.add a1 ((Int.toNat t_59) * 5)) 1))).bind fun n3 =>
 ((gI .i64 (rdC h (Addr.add a1 ((Int.toNat t_59) * 5)) 2))).bind fun n4 =>
 ((gI .i64 (rdC h (Addr.add a1 ((Int.toNat t_59) * 5)) 3))).bind fun n5 =>
 ((gI .i64 (rdC h (Addr.add a1 ((Int.toNat t_59) * 5)) 4))).bind fun n6 =>
 ((gL (rdC h (Addr.add b_3 2) 0))).bind fun p7 =>
 (p7.1).bind fun a8 =>
 cond (bM t_59 p7.2.1)
 (((gS (rdC h (Addr.add a8 ((Int.toNat t_59) * 5)) 0))).bind fun x9 =>
 ((gI .i64 (rdC h (Addr.add a8 ((Int.toNat t_59) * 5)) 1))).bind fun n10 =>
 ((gI .i64 (rdC h (Addr.add a8 ((Int.toNat t_59) * 5)) 2))).bind fun n11 =>
 ((gI .i64 (rdC h (Addr.add a8 ((Int.toNat t_59) * 5)) 3))).bind fun n12 =>
 ((gI .i64 (rdC h (Addr.add a8 ((Int.toNat t_59) * 5)) 4))).bind fun n13 =>
 none)
 (none))
 (none))
 (((gL (rdC h (Addr.add a_2 3) 0))).bind fun p14 =>
 BM n n h0 a_2 b_3 (Int.ofNat p14.2.1) 0 h)) = some r) : BJ n (m0 + 1) h0 a_2 b_3 t_58 t_59 h = some r:=gV (plan:=p10) (by kernel_rfl) hv
theorem BQ {n m0 : Nat} {h0 : AH} {a_2 b_3 : Addr} {t_76 t_77 : Int} {h : AH} {r : Go.Value × AH} (hv :
( cond (bZ t_77 t_76)
 (((gL (rdC h (Addr.add a_2 3) 0))).bind fun p0 =>
 (p0.1).bind fun a1 =>
 cond (bM t_77 p0.2.1)
 (((gS (rdC h (Addr.add a1 ((Int.toNat t_77) * 3)) 0))).bind fun x2 =>
 ((gI .i64 (rdC h (Addr.add a1 ((Int.toNat t_77) * 3)) 1))).bind fun n3 =>
 ((gB (rdC h (Addr.add a1 ((Int.toNat t_77) * 3)) 2))).bind fun b4 =>
 ((gL (rdC h (Addr.add b_3 3) 0))).bind fun p5 =>
 (p5.1).bind fun a6 =>
 cond (bM t_77 p5.2.1)
 (((gS (rdC h (Addr.add a6 ((Int.toNat t_77) * 3)) 0))).bind fun x7 =>
 ((gI .i64 (rdC h (Addr.add a6 ((Int.toNat t_77) * 3)) 1))).bind fun n8 =>
 ((gB (rdC h (Addr.add a6 ((Int.toNat t_77) * 3)) 2))).bind fun b9 =>
 none)
 (none))
 (none))
 (((gL (rdC h (Addr.add a_2 5) 0))).bind fun p10 =>
 xG n n h0 a_2 b_3 (Int.ofNat p10.2.1) 0 h)) = some r) : BM n (m0 + 1) h0 a_2 b_3 t_76 t_77 h = some r:=gV (plan:=p10) (by kernel_rfl) hv
theorem BT {n m0 : Nat} {h0 : AH} {a_2 b_3 : Addr} {t_94 t_95 : Int} {h : AH} {r : Go.Value × AH} (hv :
( cond (bZ t_95 t_94)
 (((gL (rdC h (Addr.add a_2 5) 0))).bind fun p0 =>
 (p0.1).bind fun a1 =>
 cond (bM t_95 p0.2.1)
 (((gL (rdC h (Addr.add a1 ((Int.toNat t_95) * 9)) 0))).bind fun p2 =>
 ((gL (rdC h (Addr.add a1 ((Int.toNat t_95) * 9)) 1))).bind fun p3 =>
 ((gI .i64 (rdC h (Addr.add a1 ((Int.toNat t_95) * 9)) 2))).bind fun n4 =>
 ((gI .i64 (rdC h (Addr.add a1 ((Int.toNat t_95) * 9)) 3))).bind fun n5 =>
 ((gL (rdC h (Addr.add a1 ((Int.toNat t_95) * 9)) 4))).bind fun p6 =>
 ((gL (rdC h (Addr.add a1 ((Int.toNat t_95) * 9)) 5))).bind fun p7 =>
 ((gI .i64 (rdC h (Addr.add a1 ((Int.toNat t_95) * 9)) 6))).bind fun n8 =>
 ((gI .i64 (rdC h (Addr.add a1 ((Int.toNat t_95) * 9)) 7))).bind fun n9 =>
 ((gI .i64 (rdC h (Addr.add a1 ((Int.toNat t_95) * 9)) 8))).bind fun n10 =>
 ((gL (rdC h (Addr.add b_3 5) 0))).bind fun p11 =>
 (p11.1).bind fun a12 =>
 cond (bM t_95 p11.2.1)
 (((gL (rdC h (Addr.add a12 ((Int.toNat t_95) * 9)) 0))).bind fun p13 =>
 ((gL (rdC h (Addr.add a12 ((Int.toNat t_95) * 9)) 1))).bind fun p14 =>
 ((gI .i64 (rdC h (Addr.add a12 ((Int.toNat t_95) * 9)) 2))).bind fun n15 =>
 ((gI .i64 (rdC h (Addr.add a12 ((Int.toNat t_95) * 9)) 3))).bind fun n16 =>
 ((gL (rdC h (Addr.add a12 ((Int.toNat t_95) * 9)) 4))).bind fun p17 =>
 ((gL (rdC h (Addr.add a12 ((Int.toNat t_95) * 9)) 5))).bind fun p18 =>
 ((gI .i64 (rdC h (Addr.add a12 ((Int.toNat t_95) * 9)) 6))).bind fun n19 =>
 ((gI .i64 (rdC h (Addr.add a12 ((Int.toNat t_95) * 9)) 7))).bind fun n20 =>
 ((gI .i64 (rdC h (Addr.add a12 ((Int.toNat t_95) * 9)) 8))).bind fun n21 =>
 ((az Tryz.prog n 34 [(.agg #[(.slice p2.1 p2.2.1 p2.2.2),(.slice p3.1 p3.2.1 p3.2.2),(.int .i64 n4),(.int .i64 n5),(.slice p6.1 p6.2.1 p6.2.2),(.slice p7.1 p7.2.1 p7.2.2),(.int .i64 n8),(.int .i64 n9),(.int .i64 n10)]),(.agg #[(.slice p13.1 p13.2.1 p13.2.2),(.slice p14.1 p14.2.1 p14.2.2),(.int .i64 n15),(.int .i64 n16),(.slice p17.1 p17.2.1 p17.2.2),(.slice p18.1 p18.2.1 p18.2.2),(.int .i64 n19),(.int .i64 n20),(.int .i64 n21)])] h)).bind fun gf =>
 ((gB (some gf.1))).bind fun b23 =>
 cond (Bool.not b23)
 (some (ai h0 gf.2 (.bool false)))
 (xG n m0 h0 a_2 b_3 t_94 (aT .i64 t_95 1) gf.2))
 (none))
 (none))
 (some (ai h0 h (.bool true)))) = some r) : xG n (m0 + 1) h0 a_2 b_3 t_94 t_95 h = some r:=gV (plan:=p10) (by kernel_rfl) hv
def p30 : List (List Nat × List Nat):=[([0,1,0,1,1],[0,1,12,13])]
 noncomputable def xH (n m0 : Nat) (h0 : AH) (a_0 : Option Addr) (a_0n a_0c : Nat) (b_1 : Option Addr) (b_1n b_1c : Nat) (t_12 t_13 : Int) (h : AH) : Option (Go.Value × AH):=aO Tryz.prog n Tryz.f33 h0 (.head (aB (av Tryz.f33) [1,1,0,1,0,0]) [0,1,0,1,1] m0) [.block 0,.seq (aB (av Tryz.f33) [1,1,1]) [1,1,1]] (E [(0,.slice a_0 a_0n a_0c),(1,.slice b_1 b_1n b_1c),(12,.int .i64 t_12),(13,.int .i64 t_13)]) h
theorem GJ {n : Nat} {a_0 : Option Addr} {a_0n a_0c : Nat} {b_1 : Option Addr} {b_1n b_1c : Nat} {h : AH} {r : Go.Value × AH} (hv :
( cond (gz (Int.ofNat a_0n) (Int.ofNat b_1n))
 (some (ai h (setLow h h.next) (.bool false)))
 (xH n n h a_0 a_0n a_0c b_1 b_1n b_1c (Int.ofNat a_0n) 0 (setLow h h.next))) = some r) : az Tryz.prog (n + 1) 33 [(.slice a_0 a_0n a_0c),(.slice b_1 b_1n b_1c)] h = some r:=eO (plan:=p30) (by kernel_rfl) hv
theorem BU {n m0 : Nat} {h0 : AH} {a_0 : Option Addr} {a_0n a_0c : Nat} {b_1 : Option Addr} {b_1n b_1c : Nat} {t_12 t_13 : Int} {h : AH} {r : Go.Value × AH} (hv :
( cond (bZ t_13 t_12)
 ((a_0).bind fun a0 =>
 cond (bM t_13 a_0n)
 (((gI .i64 (rdC h (Addr.add a0 ((Int.toNat t_13) * 1)) 0))).bind fun n1 =>
 (b_1).bind fun a2 =>
 cond (bM t_13 b_1n)
 (((gI .i64 (rdC h (Addr.add a2 ((Int.toNat t_13) * 1)) 0))).bind fun n3 =>
 cond (gz n1 n3)
 (some (ai h0 h (.bool false)))
 (xH n m0 h0 a_0 a_0n a_0c b_1 b_1n b_1c t_12 (aT .i64 t_13 1) h))
 (none))
 (none))
 (some (ai h0 h (.bool true)))) = some r) : xH n (m0 + 1) h0 a_0 a_0n a_0c b_1 b_1n b_1c t_12 t_13 h = some r:=gV (plan:=p30) (by kernel_rfl) hv
def KC : List (List Nat × List Nat):=[([1,1,1,1,1,1],[7])]
 noncomputable def BV (cf : FuncId → List Go.Value → AH → Option (Go.Value × AH)) (n : Nat) (h0 : AH) (f_7 : Addr) (h : AH) : Option (Go.Value × AH):=iY Tryz.prog cf n Tryz.f3 h0 (.code (aB (av Tryz.f3) [1,1,1,1,1,1]) [1,1,1,1,1,1]) [] (E [(7,.pointer (some f_7))]) h
theorem BW {cf : FuncId → List Go.Value → AH → Option (Go.Value × AH)} {n : Nat} {p_0a : Option Addr} {p_0an p_0ac : Nat} {p_0b : Option Addr} {p_0bn p_0bc : Nat} {what_1 n_2 : Int} {h : AH} {r : Go.Value × AH} (hv :
( ((aF (setLow h h.next) [(.slice p_0a p_0an p_0ac),(.slice p_0b p_0bn p_0bc)] 0)).bind fun p0 =>
 ((cf 4 [] p0.2)).bind fun p1 =>
 ((gB (some p1.1))).bind fun b2 =>
 cond (Bool.not b2)
 (some (ai h p1.2 (.bool false)))
 (((gL (rdC p1.2 ⟨p0.1,0,none⟩ 0))).bind fun p3 =>
 ((gL (rdC p1.2 ⟨p0.1,0,none⟩ 1))).bind fun p4 =>
 ((cf 5 [(.agg #[(.slice p3.1 p3.2.1 p3.2.2),(.slice p4.1 p4.2.1 p4.2.2)])] p1.2)).bind fun p5 =>
 cond (nO 2 p5.1)
 (((mi 0 p5.1)).bind fun v6 =>
 cond (gb 6 v6)
 (((gS (db 0 v6))).bind fun x7 =>
 ((gL (db 1 v6))).bind fun p8 =>
 ((gL (db 2 v6))).bind fun p9 =>
 ((gL (db 3 v6))).bind fun p10 =>
 ((gL (db 4 v6))).bind fun p11 =>
 ((gL (db 5 v6))).bind fun p12 =>
 ((gB (mi 1 p5.1))).bind fun b13 =>
 ((aF p5.2 [(.string (ByteArray.mk (List.toArray []))),(.slice none 0 0),(.slice none 0 0),(.slice none 0 0),(.slice none 0 0),(.slice none 0 0)] 0)).bind fun p14 =>
 ((di p14.2 ⟨p14.1,0,none⟩ [(.string x7),(.slice p8.1 p8.2.1 p8.2.2),(.slice p9.1 p9.2.1 p9.2.2),(.slice p10.1 p10.2.1 p10.2.2),(.slice p11.1 p11.2.1 p11.2.2),(.slice p12.1 p12.2.1 p12.2.2)])).bind fun x15 =>
 cond (Bool.not b13)
 (some (ai h x15 (.bool true)))
 (((gL (rdC x15 (Addr.add ⟨p14.1,0,none⟩ 5) 0))).bind fun p16 =>
 ((gL (rdC x15 (Addr.add ⟨p14.1,0,none⟩ 5) 0))).bind fun p17 =>
 cond (aX (Int.ofNat p17.2.1) 0)
 (none)
 ((p16.1).bind fun a18 =>
 cond (bM (ce .i64 (aQ .i64 n_2) (Int.ofNat p17.2.1)) p16.2.1)
 (cond (aX (ce .u8 what_1 2) 0)
 (((di x15 (Addr.add (Addr.add (Addr.add a18 ((Int.toNat (ce .i64 (aQ .i64 n_2) (Int.ofNat p17.2.1))) * 9)) 2) 0) [(.int .i64 9)])).bind fun x19 =>
 BV cf n h ⟨p14.1,0,none⟩ x19)
 (((gL (rdC x15 (Addr.add (Addr.add a18 ((Int.toNat (ce .i64 (aQ .i64 n_2) (Int.ofNat p17.2.1))) * 9)) 1) 0))).bind fun jB =>
 ((aF x15 [(.int .i64 77),(.int .i64 0),(.slice none 0 0),(.int .u64 0),(.int .i64 0)] 5)).bind fun gQ =>
 ((dg 5 56 (.slice jB.1 jB.2.1 jB.2.2) (.slice (some ⟨gQ.1,0,none⟩) 1 1) gQ.2)).bind fun gf =>
 ((di gf.2 (Addr.add (Addr.add a18 ((Int.toNat (ce .i64 (aQ .i64 n_2) (Int.ofNat p17.2.1))) * 9)) 1) [(.slice gf.1.1 gf.1.2.1 gf.1.2.2)])).bind fun x23 =>
 BV cf n h ⟨p14.1,0,none⟩ x23))
 (none))))
 (none))
 (none))) = some r) : yS Tryz.prog cf n 3 [(.agg #[(.slice p_0a p_0an p_0ac),(.slice p_0b p_0bn p_0bc)]),(.int .u8 what_1),(.int .u16 n_2)] h = some r:=Jh (plan:=KC) (by kernel_rfl) hv
theorem xI {cf : FuncId → List Go.Value → AH → Option (Go.Value × AH)} {n : Nat} {h0 : AH} {f_7 : Addr} {h : AH} {r : Go.Value × AH} (hv :
( ((gS (rdC h f_7 0))).bind fun x0 =>
 ((gL (rdC h f_7 1))).bind fun p1 =>
 ((gL (rdC h f_7 2))).bind fun p2 =>
 ((gL (rdC h f_7 3))).bind fun p3 =>
 ((gL (rdC h f_7 4))).bind fun p4 =>
 ((gL (rdC h f_7 5))).bind fun p5 =>
 ((cf 6 [(.agg #[(.string x0),(.slice p1.1 p1.2.1 p1.2.2),(.slice p2.1 p2.2.1 p2.2.2),(.slice p3.1 p3.2.1 p3.2.2),(.slice p4.1 p4.2.1 p4.2.2),(.slice p5.1 p5.2.1 p5.2.2)])] h)).bind fun p6 =>
 ((gB (some p6.1))).bind fun b7 =>
 cond b7
 (some (ai h0 p6.2 (.bool true)))
 (((gS (rdC p6.2 f_7 0))).bind fun x8 =>
 ((gL (rdC p6.2 f_7 1))).bind fun p9 =>
 ((gL (rdC p6.2 f_7 2))).bind fun p10 =>
 ((gL (rdC p6.2 f_7 3))).bind fun p11 =>
 ((gL (rdC p6.2 f_7 4))).bind fun p12 =>
 ((gL (rdC p6.2 f_7 5))).bind fun p13 =>
 ((cf 7 [(.agg #[(.string x8),(.slice p9.1 p9.2.1 p9.2.2),(.slice p10.1 p10.2.1 p10.2.2),(.slice p11.1 p11.2.1 p11.2.2),(.slice p12.1 p12.2.1 p12.2.2),(.slice p13.1 p13.2.1 p13.2.2)])] p6.2)).bind fun p14 =>
 cond (nO 2 p14.1)
 (((mi 0 p14.1)).bind fun v15 =>
 cond (gb 6 v15)
 (((gS (db 0 v15))).bind fun x16 =>
 ((gL (db 1 v15))).bind fun p17 =>
 ((gL (db 2 v15))).bind fun p18 =>
 ((gL (db 3 v15))).bind fun gh =>
 ((gL (db 4 v15))).bind fun jB =>
 ((gL (db 5 v15))).bind fun gQ =>
 ((mi 1 p14.1)).bind fun v22 =>
 cond (gb 1 v22)
 (((gL (db 0 v22))).bind fun lu =>
 ((aF p14.2 [(.string (ByteArray.mk (List.toArray []))),(.slice none 0 0),(.slice none 0 0),(.slice none 0 0),(.slice none 0 0),(.slice none 0 0)] 0)).bind fun iy =>
 ((aF iy.2 [(.slice none 0 0)] 0)).bind fun jo =>
 ((di jo.2 ⟨iy.1,0,none⟩ [(.string x16),(.slice p17.1 p17.2.1 p17.2.2),(.slice p18.1 p18.2.1 p18.2.2),(.slice gh.1 gh.2.1 gh.2.2),(.slice jB.1 jB.2.1 jB.2.2),(.slice gQ.1 gQ.2.1 gQ.2.2)])).bind fun x26 =>
 ((di x26 ⟨jo.1,0,none⟩ [(.slice lu.1 lu.2.1 lu.2.2)])).bind fun x27 =>
 ((gS (rdC x27 ⟨iy.1,0,none⟩ 0))).bind fun x28 =>
 ((gL (rdC x27 ⟨iy.1,0,none⟩ 1))).bind fun mj =>
 ((gL (rdC x27 ⟨iy.1,0,none⟩ 2))).bind fun p30 =>
 ((gL (rdC x27 ⟨iy.1,0,none⟩ 3))).bind fun p31 =>
 ((gL (rdC x27 ⟨iy.1,0,none⟩ 4))).bind fun p32 =>
 ((gL (rdC x27 ⟨iy.1,0,none⟩ 5))).bind fun p33 =>
 ((cf 8 [(.agg #[(.string x28),(.slice mj.1 mj.2.1 mj.2.2),(.slice p30.1 p30.2.1 p30.2.2),(.slice p31.1 p31.2.1 p31.2.2),(.slice p32.1 p32.2.1 p32.2.2),(.slice p33.1 p33.2.1 p33.2.2)]),(.agg #[(.string (ByteArray.mk (List.toArray []))),(.slice none 0 0),(.slice none 0 0),(.slice none 0 0),(.slice none 0 0),(.slice none 0 0)])] x27)).bind fun rE =>
 ((gB (some rE.1))).bind fun b35 =>
 cond b35
 (((gL (rdC rE.2 (Addr.add ⟨jo.1,0,none⟩ 0) 0))).bind fun p36 =>
 some (ai h0 rE.2 (.bool (aX (Int.ofNat p36.2.1) 0))))
 (some (ai h0 rE.2 (.bool false))))
 (none))
 (none))
 (none))) = some r) : BV cf n h0 f_7 h = some r:=Jg (plan:=KC) (by kernel_rfl) hv
def LC : List (List Nat × List Nat):=[([0,1,1,1,1,1],[2,3,4,5]),([0,1,0,1,0,0,0,1,1,1,1,1],[2,3,4,5,49,50]),([0,1,0,1,0,0,1,1,0,0,1,0,1,0,0,0,1,1,1,1,1],[2,3,4,5,6,49,50,62,63,64]),([0,1,1,1,0,0,1,1,0,0,1,0,1,0,0,0,1,1,1,1,1],[2,3,4,5,6,49,50,101,102,103]),([0,1,0,1,1,0,0,0,1,1,1,1,1],[2,3,4,5,141,142]),([8],[])]
theorem HT {n : Nat} {f_0a : ByteArray} {f_0b : Option Addr} {f_0bn f_0bc : Nat} {f_0c : Option Addr} {f_0cn f_0cc : Nat} {f_0d : Option Addr} {f_0dn f_0dc : Nat} {f_0e : Option Addr} {f_0en f_0ec : Nat} {f_0f : Option Addr} {f_0fn f_0fc : Nat} {h : AH} {r : Go.Value × AH} (hv :
( ((aF (setLow h h.next) [(.string f_0a),(.slice f_0b f_0bn f_0bc),(.slice f_0c f_0cn f_0cc),(.slice f_0d f_0dn f_0dc),(.slice f_0e f_0en f_0ec),(.slice f_0f f_0fn f_0fc)] 0)).bind fun p0 =>
 ((aF p0.2 [(.string (ByteArray.mk (List.toArray []))),(.slice none 0 0),(.slice none 0 0),(.slice none 0 0),(.slice none 0 0),(.slice none 0 0)] 0)).bind fun p1 =>
 ((aF p1.2 [(.slice none 0 0)] 0)).bind fun p2 =>
 ((aF p2.2 [(.slice none 0 0)] 0)).bind fun p3 =>
 ((gS (rdC p3.2 ⟨p0.1,0,none⟩ 0))).bind fun x4 =>
 ((gL (rdC p3.2 ⟨p0.1,0,none⟩ 1))).bind fun p5 =>
 ((gL (rdC p3.2 ⟨p0.1,0,none⟩ 2))).bind fun p6 =>
 ((gL (rdC p3.2 ⟨p0.1,0,none⟩ 3))).bind fun p7 =>
 ((gL (rdC p3.2 ⟨p0.1,0,none⟩ 4))).bind fun p8 =>
 ((gL (rdC p3.2 ⟨p0.1,0,none⟩ 5))).bind fun p9 =>
 ((az Tryz.prog n 22 [(.agg #[(.string x4),(.slice p5.1 p5.2.1 p5.2.2),(.slice p6.1 p6.2.1 p6.2.2),(.slice p7.1 p7.2.1 p7.2.2),(.slice p8.1 p8.2.1 p8.2.2),(.slice p9.1 p9.2.1 p9.2.2)])] p3.2)).bind fun p10 =>
 ((gB (some p10.1))).bind fun b11 =>
 cond (Bool.not b11)
 (((gL (rdC p10.2 ⟨p3.1,0,none⟩ 0))).bind fun p12 =>
 cond (vr p10.2 ⟨p1.1,0,none⟩)
 (cond (jT p10.2 ⟨p1.1,0,none⟩ ⟨p3.1,0,none⟩)
 (((di p10.2 ⟨p1.1,0,none⟩ [(.string (ByteArray.mk (List.toArray []))),(.slice none 0 0),(.slice none 0 0),(.slice none 0 0),(.slice none 0 0),(.slice none 0 0)])).bind fun x13 =>
 ((di x13 ⟨p2.1,0,none⟩ [(.slice p12.1 p12.2.1 p12.2.2)])).bind fun x14 =>
 ((gS (rdC x14 ⟨p1.1,0,none⟩ 0))).bind fun x15 =>
 ((gL (rdC x14 ⟨p1.1,0,none⟩ 1))).bind fun p16 =>
 ((gL (rdC x14 ⟨p1.1,0,none⟩ 2))).bind fun p17 =>
 ((gL (rdC x14 ⟨p1.1,0,none⟩ 3))).bind fun p18 =>
 ((gL (rdC x14 ⟨p1.1,0,none⟩ 4))).bind fun gh =>
 ((gL (rdC x14 ⟨p1.1,0,none⟩ 5))).bind fun jB =>
 ((gL (rdC x14 ⟨p2.1,0,none⟩ 0))).bind fun gQ =>
 some (ai h x14 (.tuple #[(.agg #[(.string x15),(.slice p16.1 p16.2.1 p16.2.2),(.slice p17.1 p17.2.1 p17.2.2),(.slice p18.1 p18.2.1 p18.2.2),(.slice gh.1 gh.2.1 gh.2.2),(.slice jB.1 jB.2.1 jB.2.2)]),(.agg #[(.slice gQ.1 gQ.2.1 gQ.2.2)])])))
 (none))
 (none))
 (((gS (rdC p10.2 ⟨p0.1,0,none⟩ 0))).bind fun x22 =>
 ((gL (rdC p10.2 ⟨p0.1,0,none⟩ 1))).bind fun lu =>
 ((gL (rdC p10.2 ⟨p0.1,0,none⟩ 2))).bind fun iy =>
 ((gL (rdC p10.2 ⟨p0.1,0,none⟩ 3))).bind fun jo =>
 ((gL (rdC p10.2 ⟨p0.1,0,none⟩ 4))).bind fun p26 =>
 ((gL (rdC p10.2 ⟨p0.1,0,none⟩ 5))).bind fun p27 =>
 ((az Tryz.prog n 23 [(.agg #[(.string x22),(.slice lu.1 lu.2.1 lu.2.2),(.slice iy.1 iy.2.1 iy.2.2),(.slice jo.1 jo.2.1 jo.2.2),(.slice p26.1 p26.2.1 p26.2.2),(.slice p27.1 p27.2.1 p27.2.2)])] p10.2)).bind fun p28 =>
 cond (gb 6 p28.1)
 (((gS (db 0 p28.1))).bind fun x29 =>
 ((gL (db 1 p28.1))).bind fun p30 =>
 ((gL (db 2 p28.1))).bind fun p31 =>
 ((gL (db 3 p28.1))).bind fun p32 =>
 ((gL (db 4 p28.1))).bind fun p33 =>
 ((gL (db 5 p28.1))).bind fun rE =>
 ((aF p28.2 [(.string x29),(.slice p30.1 p30.2.1 p30.2.2),(.slice p31.1 p31.2.1 p31.2.2),(.slice p32.1 p32.2.1 p32.2.2),(.slice p33.1 p33.2.1 p33.2.2),(.slice rE.1 rE.2.1 rE.2.2),(.slice none 0 0),(.slice none 0 0)] 0)).bind fun i5 =>
 ((gL (rdC i5.2 (Addr.add ⟨p0.1,0,none⟩ 1) 0))).bind fun p36 =>
 cond (bZ 4096 (Int.ofNat p36.2.1))
 (((gS (rdC i5.2 (Addr.add ⟨i5.1,0,none⟩ 0) 0))).bind fun x37 =>
 ((gL (rdC i5.2 (Addr.add ⟨i5.1,0,none⟩ 0) 1))).bind fun p38 =>
 ((gL (rdC i5.2 (Addr.add ⟨i5.1,0,none⟩ 0) 2))).bind fun p39 =>
 ((gL (rdC i5.2 (Addr.add ⟨i5.1,0,none⟩ 0) 3))).bind fun p40 =>
 ((gL (rdC i5.2 (Addr.add ⟨i5.1,0,none⟩ 0) 4))).bind fun p41 =>
 ((gL (rdC i5.2 (Addr.add ⟨i5.1,0,none⟩ 0) 5))).bind fun p42 =>
 ((gL (rdC i5.2 ⟨p3.1,0,none⟩ 0))).bind fun p43 =>
 cond (vr i5.2 ⟨p1.1,0,none⟩)
 (cond (jT i5.2 ⟨p1.1,0,none⟩ ⟨p3.1,0,none⟩)
 (((di i5.2 ⟨p1.1,0,none⟩ [(.string x37),(.slice p38.1 p38.2.1 p38.2.2),(.slice p39.1 p39.2.1 p39.2.2),(.slice p40.1 p40.2.1 p40.2.2),(.slice p41.1 p41.2.1 p41.2.2),(.slice p42.1 p42.2.1 p42.2.2)])).bind fun x44 =>
 ((di x44 ⟨p2.1,0,none⟩ [(.slice p43.1 p43.2.1 p43.2.2)])).bind fun x45 =>
 ((gS (rdC x45 ⟨p1.1,0,none⟩ 0))).bind fun x46 =>
 ((gL (rdC x45 ⟨p1.1,0,none⟩ 1))).bind fun p47 =>
 ((gL (rdC x45 ⟨p1.1,0,none⟩ 2))).bind fun p48 =>
 ((gL (rdC x45 ⟨p1.1,0,none⟩ 3))).bind fun p49 =>
 ((gL (rdC x45 ⟨p1.1,0,none⟩ 4))).bind fun p50 =>
 ((gL (rdC x45 ⟨p1.1,0,none⟩ 5))).bind fun HO =>
 ((gL (rdC x45 ⟨p2.1,0,none⟩ 0))).bind fun AS =>
 some (ai h x45 (.tuple #[(.agg #[(.string x46),(.slice p47.1 p47.2.1 p47.2.2),(.slice p48.1 p48.2.1 p48.2.2),(.slice p49.1 p49.2.1 p49.2.2),(.slice p50.1 p50.2.1 p50.2.2),(.slice HO.1 HO.2.1 HO.2.2)]),(.agg #[(.slice AS.1 AS.2.1 AS.2.2)])])))
 (none))
 (none))
 (((gL (rdC i5.2 (Addr.add ⟨p0.1,0,none⟩ 5) 0))).bind fun HM =>
 ((az Tryz.prog n 24 [(.slice HM.1 HM.2.1 HM.2.2),(Value.func (Fn.func 25) (List.toArray []) (List.toArray []))] i5.2)).bind fun uw =>
 ((gB (some uw.1))).bind fun b55 =>
 cond b55
 (((gS (rdC uw.2 (Addr.add ⟨i5.1,0,none⟩ 0) 0))).bind fun x56 =>
 ((gL (rdC uw.2 (Addr.add ⟨i5.1,0,none⟩ 0) 1))).bind fun FL =>
 ((gL (rdC uw.2 (Addr.add ⟨i5.1,0,none⟩ 0) 2))).bind fun p58 =>
 ((gL (rdC uw.2 (Addr.add ⟨i5.1,0,none⟩ 0) 3))).bind fun p59 =>
 ((gL (rdC uw.2 (Addr.add ⟨i5.1,0,none⟩ 0) 4))).bind fun p60 =>
 ((gL (rdC uw.2 (Addr.add ⟨i5.1,0,none⟩ 0) 5))).bind fun EJ =>
 ((gL (rdC uw.2 ⟨p3.1,0,none⟩ 0))).bind fun HQ =>
 cond (vr uw.2 ⟨p1.1,0,none⟩)
 (cond (jT uw.2 ⟨p1.1,0,none⟩ ⟨p3.1,0,none⟩)
 (((di uw.2 ⟨p1.1,0,none⟩ [(.string x56),(.slice FL.1 FL.2.1 FL.2.2),(.slice p58.1 p58.2.1 p58.2.2),(.slice p59.1 p59.2.1 p59.2.2),(.slice p60.1 p60.2.1 p60.2.2),(.slice EJ.1 EJ.2.1 EJ.2.2)])).bind fun x63 =>
 ((di x63 ⟨p2.1,0,none⟩ [(.slice HQ.1 HQ.2.1 HQ.2.2)])).bind fun x64 =>
 ((gS (rdC x64 ⟨p1.1,0,none⟩ 0))).bind fun x65 =>
 ((gL (rdC x64 ⟨p1.1,0,none⟩ 1))).bind fun HP =>
 ((gL (rdC x64 ⟨p1.1,0,none⟩ 2))).bind fun DS =>
 ((gL (rdC x64 ⟨p1.1,0,none⟩ 3))).bind fun Hy =>
 ((gL (rdC x64 ⟨p1.1,0,none⟩ 4))).bind fun DT =>
 ((gL (rdC x64 ⟨p1.1,0,none⟩ 5))).bind fun CP =>
 ((gL (rdC x64 ⟨p2.1,0,none⟩ 0))).bind fun Hx =>
 some (ai h x64 (.tuple #[(.agg #[(.string x65),(.slice HP.1 HP.2.1 HP.2.2),(.slice DS.1 DS.2.1 DS.2.2),(.slice Hy.1 Hy.2.1 Hy.2.2),(.slice DT.1 DT.2.1 DT.2.2),(.slice CP.1 CP.2.1 CP.2.2)]),(.agg #[(.slice Hx.1 Hx.2.1 Hx.2.2)])])))
 (none))
 (none))
 (none)))
 (none))) = some r) : az Tryz.prog (n + 1) 7 [(.agg #[(.string f_0a),(.slice f_0b f_0bn f_0bc),(.slice f_0c f_0cn f_0cc),(.slice f_0d f_0dn f_0dc),(.slice f_0e f_0en f_0ec),(.slice f_0f f_0fn f_0fc)])] h = some r:=eO (plan:=LC) (by kernel_rfl) hv
end Go.Proofs.YtjdomdndflfjdabGreatDoor.Kb
