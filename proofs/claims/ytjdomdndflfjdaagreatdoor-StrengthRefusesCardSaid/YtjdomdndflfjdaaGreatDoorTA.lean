/- Joined texts: TA. -/
import Derived.KernelRfl
import Derived.Test.YtjdomdndflfjdaaGreatDoorYA
import Derived.Test.YtjdomdndflfjdaaGreatDoorProg
namespace Go.Proofs.YtjdomdndflfjdaaGreatDoor.Kb
open Go Go.Proofs Go.Proofs.YtjdomdndflfjdaaGreatDoor Go.Proofs.YtjdomdndflfjdaaGreatDoor.X
set_option maxRecDepth 100000
set_option linter.unusedVariables false
def kn : List (List Nat × List Nat):=[]
 noncomputable def J3 (N : aB) (n : Nat) (f_0a : ByteArray) (f_0b : Option Addr) (f_0bn f_0bc : Nat) (f_0c : Option Addr) (f_0cn f_0cc : Nat) (f_0d : Option Addr) (f_0dn f_0dc : Nat) (f_0e : Option Addr) (f_0en f_0ec : Nat) (f_0f : Option Addr) (f_0fn f_0fc : Nat) (v_1 : Int) (h : AH) : Option (Go.Value × AH):=bQ Tryz.prog (au Tryz.prog n) n kn N (aC Tryz.prog n) 16 [(.agg #[(.string f_0a),(.slice f_0b f_0bn f_0bc),(.slice f_0c f_0cn f_0cc),(.slice f_0d f_0dn f_0dc),(.slice f_0e f_0en f_0ec),(.slice f_0f f_0fn f_0fc)]),(.int .i64 v_1)] h
theorem H2 {n : Nat} {f_0a : ByteArray} {f_0b : Option Addr} {f_0bn f_0bc : Nat} {f_0c : Option Addr} {f_0cn f_0cc : Nat} {f_0d : Option Addr} {f_0dn f_0dc : Nat} {f_0e : Option Addr} {f_0en f_0ec : Nat} {f_0f : Option Addr} {f_0fn f_0fc : Nat} {v_1 : Int} {h : AH} {r : Go.Value × AH} (hv : J3 aD n f_0a f_0b f_0bn f_0bc f_0c f_0cn f_0cc f_0d f_0dn f_0dc f_0e f_0en f_0ec f_0f f_0fn f_0fc v_1 h = some r) : au Tryz.prog (n + 1) 16 [(.agg #[(.string f_0a),(.slice f_0b f_0bn f_0bc),(.slice f_0c f_0cn f_0cc),(.slice f_0d f_0dn f_0dc),(.slice f_0e f_0en f_0ec),(.slice f_0f f_0fn f_0fc)]),(.int .i64 v_1)] h = some r:=aL hv
theorem Nq (N : aB) (n : Nat) (f_0a : ByteArray) (f_0b : Option Addr) (f_0bn f_0bc : Nat) (f_0c : Option Addr) (f_0cn f_0cc : Nat) (f_0d : Option Addr) (f_0dn f_0dc : Nat) (f_0e : Option Addr) (f_0en f_0ec : Nat) (f_0f : Option Addr) (f_0fn f_0fc : Nat) (v_1 : Int) (h : AH) : J3 N n f_0a f_0b f_0bn f_0bc f_0c f_0cn f_0cc f_0d f_0dn f_0dc f_0e f_0en f_0ec f_0f f_0fn f_0fc v_1 h =
 (N (setLow h h.next) [(.string f_0a),(.slice f_0b f_0bn f_0bc),(.slice f_0c f_0cn f_0cc),(.slice f_0d f_0dn f_0dc),(.slice f_0e f_0en f_0ec),(.slice f_0f f_0fn f_0fc)] 0).bind fun p0 =>
 cond (bV 0 v_1)
 ((gL (rdC p0.2 (Addr.add ⟨p0.1,0,none⟩ 1) 0)).bind fun p1 =>
 some (aj h p0.2 (.bool (cj v_1 (Int.ofNat p1.2.1)))))
 (some (aj h p0.2 (.bool false))):=by kernel_rfl
def gK : List (List Nat × List Nat):=[([1,1,1,0,0,1],[0,6]),([1,1,1,1,1,0,0,1],[0,13])]
section
variable (N : aB) (n : Nat) (h0 : AH) (op_0 : Int) (t_6 : Bool) (h : AH)
 noncomputable def rR : Option (Go.Value × AH):=aC Tryz.prog n Tryz.f17 h0 (.code (av (ae Tryz.f17) [1,0,0,1,1,1]) [1,1,1,0,0,1]) [.block 0,.seq (av (ae Tryz.f17) [1,1]) [1,1]] (E [(0,.int .i64 op_0),(6,.bool t_6)]) h
 noncomputable def Ab : Option (Go.Value × AH):=bw Tryz.prog (au Tryz.prog n) n Tryz.f17 h0 gK N (aC Tryz.prog n Tryz.f17 h0) (av (ae Tryz.f17) [1,0,0,1,1,1]) [1,1,1,0,0,1] [.block 0,.seq (av (ae Tryz.f17) [1,1]) [1,1]] (E [(0,.int .i64 op_0),(6,.bool t_6)]) h
variable {n} {h0} {op_0 t_6} {h}
theorem Ac {r : Go.Value × AH} (hv : Ab aD n h0 op_0 t_6 h = some r) : rR n h0 op_0 t_6 h = some r:=aN hv
end
section
variable (N : aB) (n : Nat) (h0 : AH) (op_0 : Int) (t_13 : Bool) (h : AH)
 noncomputable def we : Option (Go.Value × AH):=aC Tryz.prog n Tryz.f17 h0 (.code (av (ae Tryz.f17) [1,0,0,1,1,1,1,1]) [1,1,1,1,1,0,0,1]) [.block 0,.seq (av (ae Tryz.f17) [1,1]) [1,1]] (E [(0,.int .i64 op_0),(13,.bool t_13)]) h
 noncomputable def Ad : Option (Go.Value × AH):=bw Tryz.prog (au Tryz.prog n) n Tryz.f17 h0 gK N (aC Tryz.prog n Tryz.f17 h0) (av (ae Tryz.f17) [1,0,0,1,1,1,1,1]) [1,1,1,1,1,0,0,1] [.block 0,.seq (av (ae Tryz.f17) [1,1]) [1,1]] (E [(0,.int .i64 op_0),(13,.bool t_13)]) h
variable {n} {h0} {op_0 t_13} {h}
theorem Ae {r : Go.Value × AH} (hv : Ad aD n h0 op_0 t_13 h = some r) : we n h0 op_0 t_13 h = some r:=aN hv
end
 noncomputable def J4 (N : aB) (n : Nat) (op_0 : Int) (h : AH) : Option (Go.Value × AH):=bQ Tryz.prog (au Tryz.prog n) n gK N (aC Tryz.prog n) 17 [(.int .i64 op_0)] h
theorem H3 {n : Nat} {op_0 : Int} {h : AH} {r : Go.Value × AH} (hv : J4 aD n op_0 h = some r) : au Tryz.prog (n + 1) 17 [(.int .i64 op_0)] h = some r:=aL hv
theorem Nr (N : aB) (n : Nat) (op_0 : Int) (h : AH) : J4 N n op_0 h =
 cond (aY op_0 1)
 (some (aj h (setLow h h.next) (.int .i64 0)))
 ((au Tryz.prog n 40 [(.int .i64 op_0)] (setLow h h.next)).bind fun p0 =>
 (gB (some p0.1)).bind fun b1 =>
 cond b1
 (rR n h op_0 true p0.2)
 (cond (aY op_0 25)
 (rR n h op_0 true p0.2)
 (rR n h op_0 (aY op_0 28) p0.2))):=by kernel_rfl
theorem Af (N : aB) (n  : Nat) (h0 : AH) (op_0 : Int) (t_6 : Bool) (h : AH) : Ab N n  h0 op_0 t_6 h =
 cond t_6
 (some (aj h0 h (.int .i64 2)))
 (cond (aY op_0 21)
 (we n h0 op_0 true h)
 (we n h0 op_0 (aY op_0 26) h)):=by kernel_rfl
theorem Ag (N : aB) (n  : Nat) (h0 : AH) (op_0 : Int) (t_13 : Bool) (h : AH) : Ad N n  h0 op_0 t_13 h =
 cond t_13
 (some (aj h0 h (.int .i64 3)))
 (cond (aY op_0 22)
 (some (aj h0 h (.int .i64 1)))
 (cond (aY op_0 23)
 (some (aj h0 h (.int .i64 1)))
 (cond (aY op_0 24)
 (some (aj h0 h (.int .i64 1)))
 (cond (aY op_0 27)
 (some (aj h0 h (.int .i64 1)))
 (some (aj h0 h (.int .i64 (-1)))))))):=by kernel_rfl
def kS : List (List Nat × List Nat):=[]
 noncomputable def J5 (N : aB) (n : Nat) (op_0 : Int) (h : AH) : Option (Go.Value × AH):=bQ Tryz.prog (au Tryz.prog n) n kS N (aC Tryz.prog n) 19 [(.int .i64 op_0)] h
theorem H4 {n : Nat} {op_0 : Int} {h : AH} {r : Go.Value × AH} (hv : J5 aD n op_0 h = some r) : au Tryz.prog (n + 1) 19 [(.int .i64 op_0)] h = some r:=aL hv
theorem Ns (N : aB) (n : Nat) (op_0 : Int) (h : AH) : J5 N n op_0 h =
 (au Tryz.prog n 17 [(.int .i64 op_0)] (setLow h h.next)).bind fun p0 =>
 (gI .i64 (some p0.1)).bind fun n1 =>
 cond (bV 0 n1)
 (cond (gv op_0 26)
 (some (aj h p0.2 (.bool (gv op_0 28))))
 (some (aj h p0.2 (.bool false))))
 (some (aj h p0.2 (.bool false))):=by kernel_rfl
def Nt : List (List Nat × List Nat):=[]
 noncomputable def J6 (N : aB) (n : Nat) (w_0 : Int) (h : AH) : Option (Go.Value × AH):=bQ Tryz.prog (au Tryz.prog n) n Nt N (aC Tryz.prog n) 39 [(.int .i64 w_0)] h
theorem H5 {n : Nat} {w_0 : Int} {h : AH} {r : Go.Value × AH} (hv : J6 aD n w_0 h = some r) : au Tryz.prog (n + 1) 39 [(.int .i64 w_0)] h = some r:=aL hv
theorem Nu (N : aB) (n : Nat) (w_0 : Int) (h : AH) : J6 N n w_0 h =
 cond (bV 1 w_0)
 (some (aj h (setLow h h.next) (.bool (bV w_0 64))))
 (some (aj h (setLow h h.next) (.bool false))):=by kernel_rfl
def GR : List (List Nat × List Nat):=[]
 noncomputable def J7 (N : aB) (n : Nat) (op_0 : Int) (h : AH) : Option (Go.Value × AH):=bQ Tryz.prog (au Tryz.prog n) n GR N (aC Tryz.prog n) 40 [(.int .i64 op_0)] h
theorem H7 {n : Nat} {op_0 : Int} {h : AH} {r : Go.Value × AH} (hv : J7 aD n op_0 h = some r) : au Tryz.prog (n + 1) 40 [(.int .i64 op_0)] h = some r:=aL hv
theorem Nv (N : aB) (n : Nat) (op_0 : Int) (h : AH) : J7 N n op_0 h =
 cond (bV 2 op_0)
 (some (aj h (setLow h h.next) (.bool (bV op_0 20))))
 (some (aj h (setLow h h.next) (.bool false))):=by kernel_rfl
def GS : List (List Nat × List Nat):=[]
 noncomputable def J8 (N : aB) (n : Nat) (w_0 x_1 : Int) (h : AH) : Option (Go.Value × AH):=bQ Tryz.prog (au Tryz.prog n) n GS N (aC Tryz.prog n) 41 [(.int .i64 w_0),(.int .u64 x_1)] h
theorem H8 {n : Nat} {w_0 x_1 : Int} {h : AH} {r : Go.Value × AH} (hv : J8 aD n w_0 x_1 h = some r) : au Tryz.prog (n + 1) 41 [(.int .i64 w_0),(.int .u64 x_1)] h = some r:=aL hv
theorem Nw (N : aB) (n : Nat) (w_0 x_1 : Int) (h : AH) : J8 N n w_0 x_1 h =
 (au Tryz.prog n 62 [(.int .i64 w_0),(.int .u64 x_1)] (setLow h h.next)).bind fun p0 =>
 (gL (some p0.1)).bind fun p1 =>
 (au Tryz.prog n 61 [(.slice p1.1 p1.2.1 p1.2.2)] p0.2).bind fun p2 =>
 (gI .u64 (some p2.1)).bind fun n3 =>
 some (aj h p2.2 (.int .u64 n3)):=by kernel_rfl
def J9 : List (List Nat × List Nat):=[]
 noncomputable def Ka (N : aB) (n : Nat) (op_0 : Int) (h : AH) : Option (Go.Value × AH):=bQ Tryz.prog (au Tryz.prog n) n J9 N (aC Tryz.prog n) 42 [(.int .i64 op_0)] h
theorem H9 {n : Nat} {op_0 : Int} {h : AH} {r : Go.Value × AH} (hv : Ka aD n op_0 h = some r) : au Tryz.prog (n + 1) 42 [(.int .i64 op_0)] h = some r:=aL hv
theorem Nz (N : aB) (n : Nat) (op_0 : Int) (h : AH) : Ka N n op_0 h =
 cond (bV 15 op_0)
 (some (aj h (setLow h h.next) (.bool (bV op_0 20))))
 (some (aj h (setLow h h.next) (.bool false))):=by kernel_rfl
def fL : List (List Nat × List Nat):=[([0,1,0,1],[1,2,3,7])]
section
variable (N : aB) (n m0 : Nat) (h0 : AH) (l_1 : Option Addr) (l_1n l_1c : Nat) (known_2 : Option Addr) (known_2n known_2c : Nat) (f_3 : Addr) (i_7 : Int) (h : AH)
 noncomputable def wg : Option (Go.Value × AH):=aC Tryz.prog n Tryz.f18 h0 (.head (av (ae Tryz.f18) [1,0,1,0,0]) [0,1,0,1] m0) [.block 0,.seq (av (ae Tryz.f18) [1,1]) [1,1]] (E [(1,.slice l_1 l_1n l_1c),(2,.slice known_2 known_2n known_2c),(3,.pointer (some f_3)),(7,.int .i64 i_7)]) h
 noncomputable def vd : Option (Go.Value × AH):=bH Tryz.prog (au Tryz.prog n) n Tryz.f18 h0 fL N (aC Tryz.prog n Tryz.f18 h0) (av (ae Tryz.f18) [1,0,1,0,0]) [0,1,0,1] m0 [.block 0,.seq (av (ae Tryz.f18) [1,1]) [1,1]] (E [(1,.slice l_1 l_1n l_1c),(2,.slice known_2 known_2n known_2c),(3,.pointer (some f_3)),(7,.int .i64 i_7)]) h
variable {n m0} {h0} {l_1 l_1n l_1c known_2 known_2n known_2c f_3 i_7} {h}
theorem rS {r : Go.Value × AH} (hv : vd aD n m0 h0 l_1 l_1n l_1c known_2 known_2n known_2c f_3 i_7 h = some r) : wg n (m0 + 1) h0 l_1 l_1n l_1c known_2 known_2n known_2c f_3 i_7 h = some r:=aO hv
end
 noncomputable def Kc (N : aB) (n : Nat) (f_0a : ByteArray) (f_0b : Option Addr) (f_0bn f_0bc : Nat) (f_0c : Option Addr) (f_0cn f_0cc : Nat) (f_0d : Option Addr) (f_0dn f_0dc : Nat) (f_0e : Option Addr) (f_0en f_0ec : Nat) (f_0f : Option Addr) (f_0fn f_0fc : Nat) (l_1 : Option Addr) (l_1n l_1c : Nat) (known_2 : Option Addr) (known_2n known_2c : Nat) (h : AH) : Option (Go.Value × AH):=bQ Tryz.prog (au Tryz.prog n) n fL N (aC Tryz.prog n) 18 [(.agg #[(.string f_0a),(.slice f_0b f_0bn f_0bc),(.slice f_0c f_0cn f_0cc),(.slice f_0d f_0dn f_0dc),(.slice f_0e f_0en f_0ec),(.slice f_0f f_0fn f_0fc)]),(.slice l_1 l_1n l_1c),(.slice known_2 known_2n known_2c)] h
theorem Ia {n : Nat} {f_0a : ByteArray} {f_0b : Option Addr} {f_0bn f_0bc : Nat} {f_0c : Option Addr} {f_0cn f_0cc : Nat} {f_0d : Option Addr} {f_0dn f_0dc : Nat} {f_0e : Option Addr} {f_0en f_0ec : Nat} {f_0f : Option Addr} {f_0fn f_0fc : Nat} {l_1 : Option Addr} {l_1n l_1c : Nat} {known_2 : Option Addr} {known_2n known_2c : Nat} {h : AH} {r : Go.Value × AH} (hv : Kc aD n f_0a f_0b f_0bn f_0bc f_0c f_0cn f_0cc f_0d f_0dn f_0dc f_0e f_0en f_0ec f_0f f_0fn f_0fc l_1 l_1n l_1c known_2 known_2n known_2c h = some r) : au Tryz.prog (n + 1) 18 [(.agg #[(.string f_0a),(.slice f_0b f_0bn f_0bc),(.slice f_0c f_0cn f_0cc),(.slice f_0d f_0dn f_0dc),(.slice f_0e f_0en f_0ec),(.slice f_0f f_0fn f_0fc)]),(.slice l_1 l_1n l_1c),(.slice known_2 known_2n known_2c)] h = some r:=aL hv
theorem NA (N : aB) (n : Nat) (f_0a : ByteArray) (f_0b : Option Addr) (f_0bn f_0bc : Nat) (f_0c : Option Addr) (f_0cn f_0cc : Nat) (f_0d : Option Addr) (f_0dn f_0dc : Nat) (f_0e : Option Addr) (f_0en f_0ec : Nat) (f_0f : Option Addr) (f_0fn f_0fc : Nat) (l_1 : Option Addr) (l_1n l_1c : Nat) (known_2 : Option Addr) (known_2n known_2c : Nat) (h : AH) : Kc N n f_0a f_0b f_0bn f_0bc f_0c f_0cn f_0cc f_0d f_0dn f_0dc f_0e f_0en f_0ec f_0f f_0fn f_0fc l_1 l_1n l_1c known_2 known_2n known_2c h =
 (N (setLow h h.next) [(.string f_0a),(.slice f_0b f_0bn f_0bc),(.slice f_0c f_0cn f_0cc),(.slice f_0d f_0dn f_0dc),(.slice f_0e f_0en f_0ec),(.slice f_0f f_0fn f_0fc)] 0).bind fun p0 =>
 wg n n h l_1 l_1n l_1c known_2 known_2n known_2c ⟨p0.1,0,none⟩ 0 p0.2:=by kernel_rfl
theorem rT (N : aB) (n m0 : Nat) (h0 : AH) (l_1 : Option Addr) (l_1n l_1c : Nat) (known_2 : Option Addr) (known_2n known_2c : Nat) (f_3 : Addr) (i_7 : Int) (h : AH) : vd N n m0 h0 l_1 l_1n l_1c known_2 known_2n known_2c f_3 i_7 h =
 cond (cj i_7 (Int.ofNat l_1n))
 ((gS (rdC h f_3 0)).bind fun x0 =>
 (gL (rdC h f_3 1)).bind fun p1 =>
 (gL (rdC h f_3 2)).bind fun p2 =>
 (gL (rdC h f_3 3)).bind fun p3 =>
 (gL (rdC h f_3 4)).bind fun p4 =>
 (gL (rdC h f_3 5)).bind fun p5 =>
 (l_1).bind fun a6 =>
 cond (bO i_7 l_1n)
 ((gI .i64 (rdC h (Addr.add a6 ((Int.toNat i_7) * 1)) 0)).bind fun n7 =>
 (au Tryz.prog n 16 [(.agg #[(.string x0),(.slice p1.1 p1.2.1 p1.2.2),(.slice p2.1 p2.2.1 p2.2.2),(.slice p3.1 p3.2.1 p3.2.2),(.slice p4.1 p4.2.1 p4.2.2),(.slice p5.1 p5.2.1 p5.2.2)]),(.int .i64 n7)] (setLow h h.next)).bind fun p8 =>
 (gB (some p8.1)).bind fun b9 =>
 cond (Nat.beq p8.2.low h.next)
 (cond (Bool.not b9)
 (some (aj h0 (setLow p8.2 h.low) (.bool false)))
 ((l_1).bind fun a10 =>
 cond (bO i_7 l_1n)
 ((gI .i64 (rdC (setLow p8.2 h.low) (Addr.add a10 ((Int.toNat i_7) * 1)) 0)).bind fun n11 =>
 (known_2).bind fun a12 =>
 cond (bO n11 known_2n)
 ((gB (rdC (setLow p8.2 h.low) (Addr.add a12 ((Int.toNat n11) * 1)) 0)).bind fun b13 =>
 cond (Bool.not b13)
 (some (aj h0 (setLow p8.2 h.low) (.bool false)))
 (wg n m0 h0 l_1 l_1n l_1c known_2 known_2n known_2c f_3 (aU .i64 i_7 1) (setLow p8.2 h.low)))
 (none))
 (none)))
 (none))
 (none))
 (some (aj h0 h (.bool true))):=by kernel_rfl
def gc : List (List Nat × List Nat):=[([0,1,0,1],[0,1,5])]
section
variable (N : aB) (n m0 : Nat) (h0 : AH) (l_0 : Option Addr) (l_0n l_0c : Nat) (most_1 i_5 : Int) (h : AH)
 noncomputable def wi : Option (Go.Value × AH):=aC Tryz.prog n Tryz.f15 h0 (.head (av (ae Tryz.f15) [1,0,1,0,0]) [0,1,0,1] m0) [.block 0,.seq (av (ae Tryz.f15) [1,1]) [1,1]] (E [(0,.slice l_0 l_0n l_0c),(1,.int .i64 most_1),(5,.int .i64 i_5)]) h
 noncomputable def Ah : Option (Go.Value × AH):=bH Tryz.prog (au Tryz.prog n) n Tryz.f15 h0 gc N (aC Tryz.prog n Tryz.f15 h0) (av (ae Tryz.f15) [1,0,1,0,0]) [0,1,0,1] m0 [.block 0,.seq (av (ae Tryz.f15) [1,1]) [1,1]] (E [(0,.slice l_0 l_0n l_0c),(1,.int .i64 most_1),(5,.int .i64 i_5)]) h
variable {n m0} {h0} {l_0 l_0n l_0c most_1 i_5} {h}
theorem rU {r : Go.Value × AH} (hv : Ah aD n m0 h0 l_0 l_0n l_0c most_1 i_5 h = some r) : wi n (m0 + 1) h0 l_0 l_0n l_0c most_1 i_5 h = some r:=aO hv
end
 noncomputable def Kd (N : aB) (n : Nat) (l_0 : Option Addr) (l_0n l_0c : Nat) (most_1 : Int) (h : AH) : Option (Go.Value × AH):=bQ Tryz.prog (au Tryz.prog n) n gc N (aC Tryz.prog n) 15 [(.slice l_0 l_0n l_0c),(.int .i64 most_1)] h
theorem Ib {n : Nat} {l_0 : Option Addr} {l_0n l_0c : Nat} {most_1 : Int} {h : AH} {r : Go.Value × AH} (hv : Kd aD n l_0 l_0n l_0c most_1 h = some r) : au Tryz.prog (n + 1) 15 [(.slice l_0 l_0n l_0c),(.int .i64 most_1)] h = some r:=aL hv
theorem NB (N : aB) (n : Nat) (l_0 : Option Addr) (l_0n l_0c : Nat) (most_1 : Int) (h : AH) : Kd N n l_0 l_0n l_0c most_1 h =
 wi n n h l_0 l_0n l_0c most_1 0 (setLow h h.next):=by kernel_rfl
theorem rV (N : aB) (n m0 : Nat) (h0 : AH) (l_0 : Option Addr) (l_0n l_0c : Nat) (most_1 i_5 : Int) (h : AH) : Ah N n m0 h0 l_0 l_0n l_0c most_1 i_5 h =
 cond (cj i_5 (Int.ofNat l_0n))
 ((l_0).bind fun a0 =>
 cond (bO i_5 l_0n)
 ((gI .i64 (rdC h (Addr.add a0 ((Int.toNat i_5) * 1)) 0)).bind fun n1 =>
 (au Tryz.prog n 39 [(.int .i64 n1)] h).bind fun p2 =>
 (gB (some p2.1)).bind fun b3 =>
 cond (Bool.not b3)
 (some (aj h0 p2.2 (.bool false)))
 (wi n m0 h0 l_0 l_0n l_0c most_1 (aU .i64 i_5 1) p2.2))
 (none))
 (some (aj h0 h (.bool (bV (Int.ofNat l_0n) most_1)))):=by kernel_rfl
def M5 : List (List Nat × List Nat):=[([0,1,0,1,1],[0,3,4])]
section
variable (N : aB) (n m0 : Nat) (h0 : AH) (bits_0 : Option Addr) (bits_0n bits_0c : Nat) (x_3 i_4 : Int) (h : AH)
 noncomputable def wj : Option (Go.Value × AH):=aC Tryz.prog n Tryz.f61 h0 (.head (av (ae Tryz.f61) [1,1,0,1,0,0]) [0,1,0,1,1] m0) [.block 0,.seq (av (ae Tryz.f61) [1,1,1]) [1,1,1]] (E [(0,.slice bits_0 bits_0n bits_0c),(3,.int .u64 x_3),(4,.int .i64 i_4)]) h
 noncomputable def Ai : Option (Go.Value × AH):=bH Tryz.prog (au Tryz.prog n) n Tryz.f61 h0 M5 N (aC Tryz.prog n Tryz.f61 h0) (av (ae Tryz.f61) [1,1,0,1,0,0]) [0,1,0,1,1] m0 [.block 0,.seq (av (ae Tryz.f61) [1,1,1]) [1,1,1]] (E [(0,.slice bits_0 bits_0n bits_0c),(3,.int .u64 x_3),(4,.int .i64 i_4)]) h
variable {n m0} {h0} {bits_0 bits_0n bits_0c x_3 i_4} {h}
theorem rW {r : Go.Value × AH} (hv : Ai aD n m0 h0 bits_0 bits_0n bits_0c x_3 i_4 h = some r) : wj n (m0 + 1) h0 bits_0 bits_0n bits_0c x_3 i_4 h = some r:=aO hv
end
 noncomputable def Kf (N : aB) (n : Nat) (bits_0 : Option Addr) (bits_0n bits_0c : Nat) (h : AH) : Option (Go.Value × AH):=bQ Tryz.prog (au Tryz.prog n) n M5 N (aC Tryz.prog n) 61 [(.slice bits_0 bits_0n bits_0c)] h
theorem Ic {n : Nat} {bits_0 : Option Addr} {bits_0n bits_0c : Nat} {h : AH} {r : Go.Value × AH} (hv : Kf aD n bits_0 bits_0n bits_0c h = some r) : au Tryz.prog (n + 1) 61 [(.slice bits_0 bits_0n bits_0c)] h = some r:=aL hv
theorem NC (N : aB) (n : Nat) (bits_0 : Option Addr) (bits_0n bits_0c : Nat) (h : AH) : Kf N n bits_0 bits_0n bits_0c h =
 wj n n h bits_0 bits_0n bits_0c 0 (fy .i64 (Int.ofNat bits_0n) 1) (setLow h h.next):=by kernel_rfl
theorem rX (N : aB) (n m0 : Nat) (h0 : AH) (bits_0 : Option Addr) (bits_0n bits_0c : Nat) (x_3 i_4 : Int) (h : AH) : Ai N n m0 h0 bits_0 bits_0n bits_0c x_3 i_4 h =
 cond (bV 0 i_4)
 ((bits_0).bind fun a0 =>
 cond (bO i_4 bits_0n)
 ((gI .i64 (rdC h (Addr.add a0 ((Int.toNat i_4) * 1)) 0)).bind fun n1 =>
 wj n m0 h0 bits_0 bits_0n bits_0c (aU .u64 (zU .u64 2 x_3) (aR .u64 n1)) (fy .i64 i_4 1) h)
 (none))
 (some (aj h0 h (.int .u64 x_3))):=by kernel_rfl
def M6 : List (List Nat × List Nat):=[([0,1,0,1,1],[0,1,5,6])]
section
variable (N : aB) (n m0 : Nat) (h0 : AH) (w_0 x_1 : Int) (out_5 : Option Addr) (out_5n out_5c : Nat) (i_6 : Int) (h : AH)
 noncomputable def wm : Option (Go.Value × AH):=aC Tryz.prog n Tryz.f62 h0 (.head (av (ae Tryz.f62) [1,1,0,1,0,0]) [0,1,0,1,1] m0) [.block 0,.seq (av (ae Tryz.f62) [1,1,1]) [1,1,1]] (E [(0,.int .i64 w_0),(1,.int .u64 x_1),(5,.slice out_5 out_5n out_5c),(6,.int .i64 i_6)]) h
 noncomputable def ve : Option (Go.Value × AH):=bH Tryz.prog (au Tryz.prog n) n Tryz.f62 h0 M6 N (aC Tryz.prog n Tryz.f62 h0) (av (ae Tryz.f62) [1,1,0,1,0,0]) [0,1,0,1,1] m0 [.block 0,.seq (av (ae Tryz.f62) [1,1,1]) [1,1,1]] (E [(0,.int .i64 w_0),(1,.int .u64 x_1),(5,.slice out_5 out_5n out_5c),(6,.int .i64 i_6)]) h
variable {n m0} {h0} {w_0 x_1 out_5 out_5n out_5c i_6} {h}
theorem nH {r : Go.Value × AH} (hv : ve aD n m0 h0 w_0 x_1 out_5 out_5n out_5c i_6 h = some r) : wm n (m0 + 1) h0 w_0 x_1 out_5 out_5n out_5c i_6 h = some r:=aO hv
end
 noncomputable def Kh (N : aB) (n : Nat) (w_0 x_1 : Int) (h : AH) : Option (Go.Value × AH):=bQ Tryz.prog (au Tryz.prog n) n M6 N (aC Tryz.prog n) 62 [(.int .i64 w_0),(.int .u64 x_1)] h
theorem Id {n : Nat} {w_0 x_1 : Int} {h : AH} {r : Go.Value × AH} (hv : Kh aD n w_0 x_1 h = some r) : au Tryz.prog (n + 1) 62 [(.int .i64 w_0),(.int .u64 x_1)] h = some r:=aL hv
theorem ND (N : aB) (n : Nat) (w_0 x_1 : Int) (h : AH) : Kh N n w_0 x_1 h =
 wm n n h w_0 x_1 none 0 0 0 (setLow h h.next):=by kernel_rfl
theorem rY (N : aB) (n m0 : Nat) (h0 : AH) (w_0 x_1 : Int) (out_5 : Option Addr) (out_5n out_5c : Nat) (i_6 : Int) (h : AH) : ve N n m0 h0 w_0 x_1 out_5 out_5n out_5c i_6 h =
 (au Tryz.prog n 87 [(.int .i64 w_0)] h).bind fun p0 =>
 (gI .i64 (some p0.1)).bind fun n1 =>
 cond (cj i_6 n1)
 ((N p0.2 [(.int .i64 (aR .i64 (cm .u64 x_1 2)))] 1).bind fun p2 =>
 (dg 1 8 (.slice out_5 out_5n out_5c) (.slice (some ⟨p2.1,0,none⟩) 1 1) p2.2).bind fun p3 =>
 wm n m0 h0 w_0 (pT .u64 x_1 2) p3.1.1 p3.1.2.1 p3.1.2.2 (aU .i64 i_6 1) p3.2)
 (some (aj h0 p0.2 (.slice out_5 out_5n out_5c))):=by kernel_rfl
def Ma : List (List Nat × List Nat):=[]
 noncomputable def GT (N : aB) (n : Nat) (w_0 : Int) (h : AH) : Option (Go.Value × AH):=bQ Tryz.prog (au Tryz.prog n) n Ma N (aC Tryz.prog n) 87 [(.int .i64 w_0)] h
theorem FC {n : Nat} {w_0 : Int} {h : AH} {r : Go.Value × AH} (hv : GT aD n w_0 h = some r) : au Tryz.prog (n + 1) 87 [(.int .i64 w_0)] h = some r:=aL hv
theorem Mb (N : aB) (n : Nat) (w_0 : Int) (h : AH) : GT N n w_0 h =
 some (aj h (setLow h h.next) (.int .i64 (fJ (gb w_0 0) 64))):=by kernel_rfl
def ip : List (List Nat × List Nat):=[([1,1],[2,3]),([1,1,1],[2,3,5]),([1,1,1,1],[2,3,5]),([1,1,1,1,1,1],[2,3,5,6]),([0,1,0,1,1,1,1,1,1,1],[2,3,5,6,7,8]),([0,1,0,1,1,1,1,1,1,1,1,1],[2,3,6,7]),([1,1,0,1,1,1,1,1,1,1,1,1],[2,3,5,6,7,9]),([1,1,1,1,1,1,1,1,1,1],[3,6,7,9]),([1,1,1,1,1,0,1,0,1,1,1,1,1,1,1,1,1,1],[3,6,7,9,121,151]),([1,1,1,1,1,1,1,1,1,1,1],[3,6,7])]
section
variable (N : aB) (n : Nat) (h0 : AH) (f_2 in_3 : Addr) (h : AH)
 noncomputable def wn : Option (Go.Value × AH):=aC Tryz.prog n Tryz.f20 h0 (.code (av (ae Tryz.f20) [1,1]) [1,1]) [] (E [(2,.pointer (some f_2)),(3,.pointer (some in_3))]) h
 noncomputable def Aj : Option (Go.Value × AH):=bw Tryz.prog (au Tryz.prog n) n Tryz.f20 h0 ip N (aC Tryz.prog n Tryz.f20 h0) (av (ae Tryz.f20) [1,1]) [1,1] [] (E [(2,.pointer (some f_2)),(3,.pointer (some in_3))]) h
variable {n} {h0} {f_2 in_3} {h}
theorem Ak {r : Go.Value × AH} (hv : Aj aD n h0 f_2 in_3 h = some r) : wn n h0 f_2 in_3 h = some r:=aN hv
end
section
variable (N : aB) (n : Nat) (h0 : AH) (f_2 in_3 : Addr) (memory_5 : Bool) (h : AH)
 noncomputable def wo : Option (Go.Value × AH):=aC Tryz.prog n Tryz.f20 h0 (.code (av (ae Tryz.f20) [1,1,1]) [1,1,1]) [] (E [(2,.pointer (some f_2)),(3,.pointer (some in_3)),(5,.bool memory_5)]) h
 noncomputable def Al : Option (Go.Value × AH):=bw Tryz.prog (au Tryz.prog n) n Tryz.f20 h0 ip N (aC Tryz.prog n Tryz.f20 h0) (av (ae Tryz.f20) [1,1,1]) [1,1,1] [] (E [(2,.pointer (some f_2)),(3,.pointer (some in_3)),(5,.bool memory_5)]) h
variable {n} {h0} {f_2 in_3 memory_5} {h}
theorem Am {r : Go.Value × AH} (hv : Al aD n h0 f_2 in_3 memory_5 h = some r) : wo n h0 f_2 in_3 memory_5 h = some r:=aN hv
end
section
variable (N : aB) (n : Nat) (h0 : AH) (f_2 in_3 : Addr) (memory_5 : Bool) (h : AH)
 noncomputable def wq : Option (Go.Value × AH):=aC Tryz.prog n Tryz.f20 h0 (.code (av (ae Tryz.f20) [1,1,1,1]) [1,1,1,1]) [] (E [(2,.pointer (some f_2)),(3,.pointer (some in_3)),(5,.bool memory_5)]) h
 noncomputable def An : Option (Go.Value × AH):=bw Tryz.prog (au Tryz.prog n) n Tryz.f20 h0 ip N (aC Tryz.prog n Tryz.f20 h0) (av (ae Tryz.f20) [1,1,1,1]) [1,1,1,1] [] (E [(2,.pointer (some f_2)),(3,.pointer (some in_3)),(5,.bool memory_5)]) h
variable {n} {h0} {f_2 in_3 memory_5} {h}
theorem Ao {r : Go.Value × AH} (hv : An aD n h0 f_2 in_3 memory_5 h = some r) : wq n h0 f_2 in_3 memory_5 h = some r:=aN hv
end
section
variable (N : aB) (n : Nat) (h0 : AH) (f_2 in_3 : Addr) (memory_5 : Bool) (w_6 : Int) (h : AH)
 noncomputable def ws : Option (Go.Value × AH):=aC Tryz.prog n Tryz.f20 h0 (.code (av (ae Tryz.f20) [1,1,1,1,1,1]) [1,1,1,1,1,1]) [] (E [(2,.pointer (some f_2)),(3,.pointer (some in_3)),(5,.bool memory_5),(6,.int .i64 w_6)]) h
 noncomputable def Ap : Option (Go.Value × AH):=bw Tryz.prog (au Tryz.prog n) n Tryz.f20 h0 ip N (aC Tryz.prog n Tryz.f20 h0) (av (ae Tryz.f20) [1,1,1,1,1,1]) [1,1,1,1,1,1] [] (E [(2,.pointer (some f_2)),(3,.pointer (some in_3)),(5,.bool memory_5),(6,.int .i64 w_6)]) h
variable {n} {h0} {f_2 in_3 memory_5 w_6} {h}
theorem Aq {r : Go.Value × AH} (hv : Ap aD n h0 f_2 in_3 memory_5 w_6 h = some r) : ws n h0 f_2 in_3 memory_5 w_6 h = some r:=aN hv
end
section
variable (N : aB) (n m0 : Nat) (h0 : AH) (f_2 in_3 : Addr) (memory_5 : Bool) (w_6 : Int) (a_7 : Option Addr) (a_7n a_7c : Nat) (i_8 : Int) (h : AH)
 noncomputable def wu : Option (Go.Value × AH):=aC Tryz.prog n Tryz.f20 h0 (.head (av (ae Tryz.f20) [1,1,1,1,1,1,1,0,1,0,0]) [0,1,0,1,1,1,1,1,1,1] m0) [.block 0,.seq (av (ae Tryz.f20) [1,1,1,1,1,1,1,1]) [1,1,1,1,1,1,1,1]] (E [(2,.pointer (some f_2)),(3,.pointer (some in_3)),(5,.bool memory_5),(6,.int .i64 w_6),(7,.slice a_7 a_7n a_7c),(8,.int .i64 i_8)]) h
 noncomputable def Ar : Option (Go.Value × AH):=bH Tryz.prog (au Tryz.prog n) n Tryz.f20 h0 ip N (aC Tryz.prog n Tryz.f20 h0) (av (ae Tryz.f20) [1,1,1,1,1,1,1,0,1,0,0]) [0,1,0,1,1,1,1,1,1,1] m0 [.block 0,.seq (av (ae Tryz.f20) [1,1,1,1,1,1,1,1]) [1,1,1,1,1,1,1,1]] (E [(2,.pointer (some f_2)),(3,.pointer (some in_3)),(5,.bool memory_5),(6,.int .i64 w_6),(7,.slice a_7 a_7n a_7c),(8,.int .i64 i_8)]) h
variable {n m0} {h0} {f_2 in_3 memory_5 w_6 a_7 a_7n a_7c i_8} {h}
theorem rZ {r : Go.Value × AH} (hv : Ar aD n m0 h0 f_2 in_3 memory_5 w_6 a_7 a_7n a_7c i_8 h = some r) : wu n (m0 + 1) h0 f_2 in_3 memory_5 w_6 a_7 a_7n a_7c i_8 h = some r:=aO hv
end
section
variable (N : aB) (n : Nat) (h0 : AH) (f_2 in_3 : Addr) (w_6 : Int) (a_7 : Option Addr) (a_7n a_7c : Nat) (h : AH)
 noncomputable def wv : Option (Go.Value × AH):=aC Tryz.prog n Tryz.f20 h0 (.code (av (ae Tryz.f20) [1,1,1,1,1,1,1,1,1,0,1,0]) [0,1,0,1,1,1,1,1,1,1,1,1]) [.seq (av (ae Tryz.f20) [1,1,1,1,1,1,1,1,1,1]) [1,1,1,1,1,1,1,1,1,1]] (E [(2,.pointer (some f_2)),(3,.pointer (some in_3)),(6,.int .i64 w_6),(7,.slice a_7 a_7n a_7c)]) h
 noncomputable def As : Option (Go.Value × AH):=bw Tryz.prog (au Tryz.prog n) n Tryz.f20 h0 ip N (aC Tryz.prog n Tryz.f20 h0) (av (ae Tryz.f20) [1,1,1,1,1,1,1,1,1,0,1,0]) [0,1,0,1,1,1,1,1,1,1,1,1] [.seq (av (ae Tryz.f20) [1,1,1,1,1,1,1,1,1,1]) [1,1,1,1,1,1,1,1,1,1]] (E [(2,.pointer (some f_2)),(3,.pointer (some in_3)),(6,.int .i64 w_6),(7,.slice a_7 a_7n a_7c)]) h
variable {n} {h0} {f_2 in_3 w_6 a_7 a_7n a_7c} {h}
theorem Au {r : Go.Value × AH} (hv : As aD n h0 f_2 in_3 w_6 a_7 a_7n a_7c h = some r) : wv n h0 f_2 in_3 w_6 a_7 a_7n a_7c h = some r:=aN hv
end
section
variable (N : aB) (n : Nat) (h0 : AH) (f_2 in_3 : Addr) (memory_5 : Bool) (w_6 : Int) (a_7 : Option Addr) (a_7n a_7c : Nat) (m_9 : Int) (h : AH)
 noncomputable def Av : Option (Go.Value × AH):=aC Tryz.prog n Tryz.f20 h0 (.code (av (ae Tryz.f20) [1,1,1,1,1,1,1,1,1,0,1,1]) [1,1,0,1,1,1,1,1,1,1,1,1]) [.seq (av (ae Tryz.f20) [1,1,1,1,1,1,1,1,1,1]) [1,1,1,1,1,1,1,1,1,1]] (E [(2,.pointer (some f_2)),(3,.pointer (some in_3)),(5,.bool memory_5),(6,.int .i64 w_6),(7,.slice a_7 a_7n a_7c),(9,.int .i64 m_9)]) h
 noncomputable def Aw : Option (Go.Value × AH):=bw Tryz.prog (au Tryz.prog n) n Tryz.f20 h0 ip N (aC Tryz.prog n Tryz.f20 h0) (av (ae Tryz.f20) [1,1,1,1,1,1,1,1,1,0,1,1]) [1,1,0,1,1,1,1,1,1,1,1,1] [.seq (av (ae Tryz.f20) [1,1,1,1,1,1,1,1,1,1]) [1,1,1,1,1,1,1,1,1,1]] (E [(2,.pointer (some f_2)),(3,.pointer (some in_3)),(5,.bool memory_5),(6,.int .i64 w_6),(7,.slice a_7 a_7n a_7c),(9,.int .i64 m_9)]) h
variable {n} {h0} {f_2 in_3 memory_5 w_6 a_7 a_7n a_7c m_9} {h}
theorem Ax {r : Go.Value × AH} (hv : Aw aD n h0 f_2 in_3 memory_5 w_6 a_7 a_7n a_7c m_9 h = some r) : Av n h0 f_2 in_3 memory_5 w_6 a_7 a_7n a_7c m_9 h = some r:=aN hv
end
section
variable (N : aB) (n : Nat) (h0 : AH) (in_3 : Addr) (w_6 : Int) (a_7 : Option Addr) (a_7n a_7c : Nat) (m_9 : Int) (h : AH)
 noncomputable def r9 : Option (Go.Value × AH):=aC Tryz.prog n Tryz.f20 h0 (.code (av (ae Tryz.f20) [1,1,1,1,1,1,1,1,1,1]) [1,1,1,1,1,1,1,1,1,1]) [] (E [(3,.pointer (some in_3)),(6,.int .i64 w_6),(7,.slice a_7 a_7n a_7c),(9,.int .i64 m_9)]) h
 noncomputable def Ay : Option (Go.Value × AH):=bw Tryz.prog (au Tryz.prog n) n Tryz.f20 h0 ip N (aC Tryz.prog n Tryz.f20 h0) (av (ae Tryz.f20) [1,1,1,1,1,1,1,1,1,1]) [1,1,1,1,1,1,1,1,1,1] [] (E [(3,.pointer (some in_3)),(6,.int .i64 w_6),(7,.slice a_7 a_7n a_7c),(9,.int .i64 m_9)]) h
variable {n} {h0} {in_3 w_6 a_7 a_7n a_7c m_9} {h}
theorem Az {r : Go.Value × AH} (hv : Ay aD n h0 in_3 w_6 a_7 a_7n a_7c m_9 h = some r) : r9 n h0 in_3 w_6 a_7 a_7n a_7c m_9 h = some r:=aN hv
end
section
variable (N : aB) (n : Nat) (h0 : AH) (in_3 : Addr) (w_6 : Int) (a_7 : Option Addr) (a_7n a_7c : Nat) (m_9 t_121 : Int) (t_151 : Bool) (h : AH)
 noncomputable def ww : Option (Go.Value × AH):=aC Tryz.prog n Tryz.f20 h0 (.code (av (ae Tryz.f20) [1,1,1,1,1,1,1,1,1,1,0,1,0,1,1,1,1,1]) [1,1,1,1,1,0,1,0,1,1,1,1,1,1,1,1,1,1]) [.block 2,.seq (av (ae Tryz.f20) [1,1,1,1,1,1,1,1,1,1,1]) [1,1,1,1,1,1,1,1,1,1,1]] (E [(3,.pointer (some in_3)),(6,.int .i64 w_6),(7,.slice a_7 a_7n a_7c),(9,.int .i64 m_9),(121,.int .i64 t_121),(151,.bool t_151)]) h
 noncomputable def AB : Option (Go.Value × AH):=bw Tryz.prog (au Tryz.prog n) n Tryz.f20 h0 ip N (aC Tryz.prog n Tryz.f20 h0) (av (ae Tryz.f20) [1,1,1,1,1,1,1,1,1,1,0,1,0,1,1,1,1,1]) [1,1,1,1,1,0,1,0,1,1,1,1,1,1,1,1,1,1] [.block 2,.seq (av (ae Tryz.f20) [1,1,1,1,1,1,1,1,1,1,1]) [1,1,1,1,1,1,1,1,1,1,1]] (E [(3,.pointer (some in_3)),(6,.int .i64 w_6),(7,.slice a_7 a_7n a_7c),(9,.int .i64 m_9),(121,.int .i64 t_121),(151,.bool t_151)]) h
variable {n} {h0} {in_3 w_6 a_7 a_7n a_7c m_9 t_121 t_151} {h}
theorem AC {r : Go.Value × AH} (hv : AB aD n h0 in_3 w_6 a_7 a_7n a_7c m_9 t_121 t_151 h = some r) : ww n h0 in_3 w_6 a_7 a_7n a_7c m_9 t_121 t_151 h = some r:=aN hv
end
section
variable (N : aB) (n : Nat) (h0 : AH) (in_3 : Addr) (w_6 : Int) (a_7 : Option Addr) (a_7n a_7c : Nat) (h : AH)
 noncomputable def AD : Option (Go.Value × AH):=aC Tryz.prog n Tryz.f20 h0 (.code (av (ae Tryz.f20) [1,1,1,1,1,1,1,1,1,1,1]) [1,1,1,1,1,1,1,1,1,1,1]) [] (E [(3,.pointer (some in_3)),(6,.int .i64 w_6),(7,.slice a_7 a_7n a_7c)]) h
 noncomputable def AE : Option (Go.Value × AH):=bw Tryz.prog (au Tryz.prog n) n Tryz.f20 h0 ip N (aC Tryz.prog n Tryz.f20 h0) (av (ae Tryz.f20) [1,1,1,1,1,1,1,1,1,1,1]) [1,1,1,1,1,1,1,1,1,1,1] [] (E [(3,.pointer (some in_3)),(6,.int .i64 w_6),(7,.slice a_7 a_7n a_7c)]) h
variable {n} {h0} {in_3 w_6 a_7 a_7n a_7c} {h}
theorem AF {r : Go.Value × AH} (hv : AE aD n h0 in_3 w_6 a_7 a_7n a_7c h = some r) : AD n h0 in_3 w_6 a_7 a_7n a_7c h = some r:=aN hv
end
 noncomputable def Ki (N : aB) (n : Nat) (f_0a : ByteArray) (f_0b : Option Addr) (f_0bn f_0bc : Nat) (f_0c : Option Addr) (f_0cn f_0cc : Nat) (f_0d : Option Addr) (f_0dn f_0dc : Nat) (f_0e : Option Addr) (f_0en f_0ec : Nat) (f_0f : Option Addr) (f_0fn f_0fc : Nat) (in_1a in_1b : Int) (in_1c : Option Addr) (in_1cn in_1cc : Nat) (in_1d in_1e : Int) (h : AH) : Option (Go.Value × AH):=bQ Tryz.prog (au Tryz.prog n) n ip N (aC Tryz.prog n) 20 [(.agg #[(.string f_0a),(.slice f_0b f_0bn f_0bc),(.slice f_0c f_0cn f_0cc),(.slice f_0d f_0dn f_0dc),(.slice f_0e f_0en f_0ec),(.slice f_0f f_0fn f_0fc)]),(.agg #[(.int .i64 in_1a),(.int .i64 in_1b),(.slice in_1c in_1cn in_1cc),(.int .u64 in_1d),(.int .i64 in_1e)])] h
theorem Ie {n : Nat} {f_0a : ByteArray} {f_0b : Option Addr} {f_0bn f_0bc : Nat} {f_0c : Option Addr} {f_0cn f_0cc : Nat} {f_0d : Option Addr} {f_0dn f_0dc : Nat} {f_0e : Option Addr} {f_0en f_0ec : Nat} {f_0f : Option Addr} {f_0fn f_0fc : Nat} {in_1a in_1b : Int} {in_1c : Option Addr} {in_1cn in_1cc : Nat} {in_1d in_1e : Int} {h : AH} {r : Go.Value × AH} (hv : Ki aD n f_0a f_0b f_0bn f_0bc f_0c f_0cn f_0cc f_0d f_0dn f_0dc f_0e f_0en f_0ec f_0f f_0fn f_0fc in_1a in_1b in_1c in_1cn in_1cc in_1d in_1e h = some r) : au Tryz.prog (n + 1) 20 [(.agg #[(.string f_0a),(.slice f_0b f_0bn f_0bc),(.slice f_0c f_0cn f_0cc),(.slice f_0d f_0dn f_0dc),(.slice f_0e f_0en f_0ec),(.slice f_0f f_0fn f_0fc)]),(.agg #[(.int .i64 in_1a),(.int .i64 in_1b),(.slice in_1c in_1cn in_1cc),(.int .u64 in_1d),(.int .i64 in_1e)])] h = some r:=aL hv
theorem NE (N : aB) (n : Nat) (f_0a : ByteArray) (f_0b : Option Addr) (f_0bn f_0bc : Nat) (f_0c : Option Addr) (f_0cn f_0cc : Nat) (f_0d : Option Addr) (f_0dn f_0dc : Nat) (f_0e : Option Addr) (f_0en f_0ec : Nat) (f_0f : Option Addr) (f_0fn f_0fc : Nat) (in_1a in_1b : Int) (in_1c : Option Addr) (in_1cn in_1cc : Nat) (in_1d in_1e : Int) (h : AH) : Ki N n f_0a f_0b f_0bn f_0bc f_0c f_0cn f_0cc f_0d f_0dn f_0dc f_0e f_0en f_0ec f_0f f_0fn f_0fc in_1a in_1b in_1c in_1cn in_1cc in_1d in_1e h =
 (N (setLow h h.next) [(.string f_0a),(.slice f_0b f_0bn f_0bc),(.slice f_0c f_0cn f_0cc),(.slice f_0d f_0dn f_0dc),(.slice f_0e f_0en f_0ec),(.slice f_0f f_0fn f_0fc)] 0).bind fun p0 =>
 (N p0.2 [(.int .i64 in_1a),(.int .i64 in_1b),(.slice in_1c in_1cn in_1cc),(.int .u64 in_1d),(.int .i64 in_1e)] 0).bind fun p1 =>
 (gI .u64 (rdC p1.2 (Addr.add ⟨p1.1,0,none⟩ 3) 0)).bind fun n2 =>
 cond (gv n2 0)
 ((gI .i64 (rdC p1.2 (Addr.add ⟨p1.1,0,none⟩ 0) 0)).bind fun n3 =>
 cond (gv n3 1)
 (some (aj h p1.2 (.bool false)))
 (wn n h ⟨p0.1,0,none⟩ ⟨p1.1,0,none⟩ p1.2))
 (wn n h ⟨p0.1,0,none⟩ ⟨p1.1,0,none⟩ p1.2):=by kernel_rfl
theorem AG (N : aB) (n  : Nat) (h0 : AH) (f_2 in_3 : Addr) (h : AH) : Aj N n  h0 f_2 in_3 h =
 (gI .i64 (rdC h (Addr.add in_3 0) 0)).bind fun n0 =>
 cond (bV 25 n0)
 ((gI .i64 (rdC h (Addr.add in_3 0) 0)).bind fun n1 =>
 wo n h0 f_2 in_3 (bV n1 28) h)
 (wo n h0 f_2 in_3 false h):=by kernel_rfl
theorem AI (N : aB) (n  : Nat) (h0 : AH) (f_2 in_3 : Addr) (memory_5 : Bool) (h : AH) : Al N n  h0 f_2 in_3 memory_5 h =
 (gI .i64 (rdC h (Addr.add in_3 4) 0)).bind fun n0 =>
 cond (gv n0 0)
 (cond (Bool.not memory_5)
 (some (aj h0 h (.bool false)))
 (wq n h0 f_2 in_3 memory_5 h))
 (wq n h0 f_2 in_3 memory_5 h):=by kernel_rfl
theorem AJ (N : aB) (n  : Nat) (h0 : AH) (f_2 in_3 : Addr) (memory_5 : Bool) (h : AH) : An N n  h0 f_2 in_3 memory_5 h =
 (gI .i64 (rdC h (Addr.add in_3 0) 0)).bind fun n0 =>
 (au Tryz.prog n 19 [(.int .i64 n0)] h).bind fun p1 =>
 (gB (some p1.1)).bind fun b2 =>
 cond b2
 ((gL (rdC p1.2 (Addr.add f_2 1) 0)).bind fun p3 =>
 (gI .i64 (rdC p1.2 (Addr.add in_3 1) 0)).bind fun n4 =>
 (p3.1).bind fun a5 =>
 cond (bO n4 p3.2.1)
 ((gI .i64 (rdC p1.2 (Addr.add a5 ((Int.toNat n4) * 1)) 0)).bind fun n6 =>
 ws n h0 f_2 in_3 memory_5 n6 p1.2)
 (none))
 (ws n h0 f_2 in_3 memory_5 0 p1.2):=by kernel_rfl
theorem AK (N : aB) (n  : Nat) (h0 : AH) (f_2 in_3 : Addr) (memory_5 : Bool) (w_6 : Int) (h : AH) : Ap N n  h0 f_2 in_3 memory_5 w_6 h =
 (N h [(.int .i64 0),(.int .i64 0),(.int .i64 0)] 1).bind fun p0 =>
 wu n n h0 f_2 in_3 memory_5 w_6 (some ⟨p0.1,0,none⟩) 3 3 0 p0.2:=by kernel_rfl
theorem sd (N : aB) (n m0 : Nat) (h0 : AH) (f_2 in_3 : Addr) (memory_5 : Bool) (w_6 : Int) (a_7 : Option Addr) (a_7n a_7c : Nat) (i_8 : Int) (h : AH) : Ar N n m0 h0 f_2 in_3 memory_5 w_6 a_7 a_7n a_7c i_8 h =
 (gL (rdC h (Addr.add in_3 2) 0)).bind fun p0 =>
 cond (cj i_8 (Int.ofNat p0.2.1))
 ((gL (rdC h (Addr.add f_2 1) 0)).bind fun p1 =>
 (gL (rdC h (Addr.add in_3 2) 0)).bind fun p2 =>
 (p2.1).bind fun a3 =>
 cond (bO i_8 p2.2.1)
 ((gI .i64 (rdC h (Addr.add a3 ((Int.toNat i_8) * 1)) 0)).bind fun n4 =>
 (p1.1).bind fun a5 =>
 cond (bO n4 p1.2.1)
 ((gI .i64 (rdC h (Addr.add a5 ((Int.toNat n4) * 1)) 0)).bind fun n6 =>
 (a_7).bind fun a7 =>
 cond (bO i_8 a_7n)
 ((di h (Addr.add a7 ((Int.toNat i_8) * 1)) [(.int .i64 n6)]).bind fun x8 =>
 wu n m0 h0 f_2 in_3 memory_5 w_6 a_7 a_7n a_7c (aU .i64 i_8 1) x8)
 (none))
 (none))
 (none))
 ((gI .i64 (rdC h (Addr.add in_3 0) 0)).bind fun n9 =>
 cond (aY n9 25)
 (wv n h0 f_2 in_3 w_6 a_7 a_7n a_7c h)
 ((gI .i64 (rdC h (Addr.add in_3 0) 0)).bind fun n10 =>
 cond (aY n10 26)
 (wv n h0 f_2 in_3 w_6 a_7 a_7n a_7c h)
 (Av n h0 f_2 in_3 memory_5 w_6 a_7 a_7n a_7c 0 h))):=by kernel_rfl
theorem AM (N : aB) (n  : Nat) (h0 : AH) (f_2 in_3 : Addr) (w_6 : Int) (a_7 : Option Addr) (a_7n a_7c : Nat) (h : AH) : As N n  h0 f_2 in_3 w_6 a_7 a_7n a_7c h =
 (gI .i64 (rdC h (Addr.add in_3 4) 0)).bind fun n0 =>
 cond (cj n0 0)
 (some (aj h0 h (.bool false)))
 ((gI .i64 (rdC h (Addr.add in_3 4) 0)).bind fun n1 =>
 (gL (rdC h (Addr.add f_2 2) 0)).bind fun p2 =>
 cond (bV (Int.ofNat p2.2.1) n1)
 (some (aj h0 h (.bool false)))
 ((gL (rdC h (Addr.add f_2 2) 0)).bind fun p3 =>
 (gI .i64 (rdC h (Addr.add in_3 4) 0)).bind fun n4 =>
 (p3.1).bind fun a5 =>
 cond (bO n4 p3.2.1)
 ((gI .i64 (rdC h (Addr.add (Addr.add a5 ((Int.toNat n4) * 5)) 1) 0)).bind fun n6 =>
 r9 n h0 in_3 w_6 a_7 a_7n a_7c n6 h)
 (none))):=by kernel_rfl
theorem AN (N : aB) (n  : Nat) (h0 : AH) (f_2 in_3 : Addr) (memory_5 : Bool) (w_6 : Int) (a_7 : Option Addr) (a_7n a_7c : Nat) (m_9 : Int) (h : AH) : Aw N n  h0 f_2 in_3 memory_5 w_6 a_7 a_7n a_7c m_9 h =
 cond memory_5
 ((gI .i64 (rdC h (Addr.add in_3 4) 0)).bind fun n0 =>
 cond (cj n0 0)
 (some (aj h0 h (.bool false)))
 ((gI .i64 (rdC h (Addr.add in_3 4) 0)).bind fun n1 =>
 (gL (rdC h (Addr.add f_2 3) 0)).bind fun p2 =>
 cond (bV (Int.ofNat p2.2.1) n1)
 (some (aj h0 h (.bool false)))
 ((gL (rdC h (Addr.add f_2 3) 0)).bind fun p3 =>
 (gI .i64 (rdC h (Addr.add in_3 4) 0)).bind fun n4 =>
 (p3.1).bind fun a5 =>
 cond (bO n4 p3.2.1)
 ((gB (rdC h (Addr.add (Addr.add a5 ((Int.toNat n4) * 3)) 2) 0)).bind fun b6 =>
 (gI .i64 (rdC h (Addr.add in_3 0) 0)).bind fun n7 =>
 cond (Bool.not (BEq.beq b6 (aY n7 28)))
 (some (aj h0 h (.bool false)))
 ((gL (rdC h (Addr.add f_2 3) 0)).bind fun p8 =>
 (gI .i64 (rdC h (Addr.add in_3 4) 0)).bind fun n9 =>
 (p8.1).bind fun a10 =>
 cond (bO n9 p8.2.1)
 ((gI .i64 (rdC h (Addr.add (Addr.add a10 ((Int.toNat n9) * 3)) 1) 0)).bind fun n11 =>
 r9 n h0 in_3 w_6 a_7 a_7n a_7c n11 h)
 (none)))
 (none))))
 (r9 n h0 in_3 w_6 a_7 a_7n a_7c m_9 h):=by kernel_rfl
theorem AP (N : aB) (n  : Nat) (h0 : AH) (in_3 : Addr) (w_6 : Int) (a_7 : Option Addr) (a_7n a_7c : Nat) (m_9 : Int) (h : AH) : Ay N n  h0 in_3 w_6 a_7 a_7n a_7c m_9 h =
 (gI .i64 (rdC h (Addr.add in_3 0) 0)).bind fun n0 =>
 cond (aY n0 1)
 ((gI .u64 (rdC h (Addr.add in_3 3) 0)).bind fun n1 =>
 (au Tryz.prog n 41 [(.int .i64 w_6),(.int .u64 n1)] (setLow h h.next)).bind fun p2 =>
 (gI .u64 (some p2.1)).bind fun n3 =>
 cond (Nat.beq p2.2.low h.next)
 ((gI .u64 (rdC (setLow p2.2 h.low) (Addr.add in_3 3) 0)).bind fun n4 =>
 some (aj h0 (setLow p2.2 h.low) (.bool (aY n3 n4))))
 (none))
 (cond (aY n0 21)
 ((a_7).bind fun a5 =>
 cond (bO 0 a_7n)
 ((gI .i64 (rdC h (Addr.add a5 0) 0)).bind fun n6 =>
 cond (aY n6 1)
 ((a_7).bind fun a7 =>
 cond (bO 1 a_7n)
 ((gI .i64 (rdC h (Addr.add a7 1) 0)).bind fun n8 =>
 cond (aY n8 w_6)
 ((a_7).bind fun a9 =>
 cond (bO 2 a_7n)
 ((gI .i64 (rdC h (Addr.add a9 2) 0)).bind fun n10 =>
 some (aj h0 h (.bool (aY n10 w_6))))
 (none))
 (some (aj h0 h (.bool false))))
 (none))
 (some (aj h0 h (.bool false))))
 (none))
 (cond (aY n0 22)
 (ww n h0 in_3 w_6 a_7 a_7n a_7c m_9 n0 true h)
 (ww n h0 in_3 w_6 a_7 a_7n a_7c m_9 n0 (aY n0 23) h))):=by kernel_rfl
theorem AQ (N : aB) (n  : Nat) (h0 : AH) (in_3 : Addr) (w_6 : Int) (a_7 : Option Addr) (a_7n a_7c : Nat) (m_9 t_121 : Int) (t_151 : Bool) (h : AH) : AB N n  h0 in_3 w_6 a_7 a_7n a_7c m_9 t_121 t_151 h =
 cond t_151
 ((a_7).bind fun a0 =>
 cond (bO 0 a_7n)
 ((gI .i64 (rdC h (Addr.add a0 0) 0)).bind fun n1 =>
 some (aj h0 h (.bool (cj n1 w_6))))
 (none))
 (cond (aY t_121 24)
 ((a_7).bind fun a2 =>
 cond (bO 0 a_7n)
 ((gI .i64 (rdC h (Addr.add a2 0) 0)).bind fun n3 =>
 some (aj h0 h (.bool (cj w_6 n3))))
 (none))
 (cond (aY t_121 25)
 (cond (aY m_9 w_6)
 ((a_7).bind fun a4 =>
 cond (bO 1 a_7n)
 ((gI .i64 (rdC h (Addr.add a4 1) 0)).bind fun n5 =>
 some (aj h0 h (.bool (aY n5 1))))
 (none))
 (some (aj h0 h (.bool false))))
 (cond (aY t_121 26)
 ((a_7).bind fun a6 =>
 cond (bO 1 a_7n)
 ((gI .i64 (rdC h (Addr.add a6 1) 0)).bind fun n7 =>
 cond (aY m_9 n7)
 ((a_7).bind fun a8 =>
 cond (bO 2 a_7n)
 ((gI .i64 (rdC h (Addr.add a8 2) 0)).bind fun n9 =>
 some (aj h0 h (.bool (aY n9 1))))
 (none))
 (some (aj h0 h (.bool false))))
 (none))
 (cond (aY t_121 27)
 (cond (aY m_9 w_6)
 ((a_7).bind fun a10 =>
 cond (bO 0 a_7n)
 ((gI .i64 (rdC h (Addr.add a10 0) 0)).bind fun n11 =>
 some (aj h0 h (.bool (aY n11 1))))
 (none))
 (some (aj h0 h (.bool false))))
 (cond (aY t_121 28)
 ((a_7).bind fun a12 =>
 cond (bO 0 a_7n)
 ((gI .i64 (rdC h (Addr.add a12 0) 0)).bind fun n13 =>
 cond (aY m_9 n13)
 ((a_7).bind fun a14 =>
 cond (bO 1 a_7n)
 ((gI .i64 (rdC h (Addr.add a14 1) 0)).bind fun n15 =>
 some (aj h0 h (.bool (aY n15 1))))
 (none))
 (some (aj h0 h (.bool false))))
 (none))
 (AD n h0 in_3 w_6 a_7 a_7n a_7c h)))))):=by kernel_rfl
theorem AR (N : aB) (n  : Nat) (h0 : AH) (in_3 : Addr) (w_6 : Int) (a_7 : Option Addr) (a_7n a_7c : Nat) (h : AH) : AE N n  h0 in_3 w_6 a_7 a_7n a_7c h =
 (gI .i64 (rdC h (Addr.add in_3 0) 0)).bind fun n0 =>
 (au Tryz.prog n 42 [(.int .i64 n0)] h).bind fun p1 =>
 (gB (some p1.1)).bind fun b2 =>
 cond b2
 (cond (aY w_6 1)
 ((a_7).bind fun a3 =>
 cond (bO 0 a_7n)
 ((gI .i64 (rdC p1.2 (Addr.add a3 0) 0)).bind fun n4 =>
 (a_7).bind fun a5 =>
 cond (bO 1 a_7n)
 ((gI .i64 (rdC p1.2 (Addr.add a5 1) 0)).bind fun n6 =>
 some (aj h0 p1.2 (.bool (aY n4 n6))))
 (none))
 (none))
 (some (aj h0 p1.2 (.bool false))))
 ((a_7).bind fun a7 =>
 cond (bO 0 a_7n)
 ((gI .i64 (rdC p1.2 (Addr.add a7 0) 0)).bind fun n8 =>
 cond (aY n8 w_6)
 ((a_7).bind fun a9 =>
 cond (bO 1 a_7n)
 ((gI .i64 (rdC p1.2 (Addr.add a9 1) 0)).bind fun n10 =>
 some (aj h0 p1.2 (.bool (aY n10 w_6))))
 (none))
 (some (aj h0 p1.2 (.bool false))))
 (none)):=by kernel_rfl
def jb : List (List Nat × List Nat):=[([0,1,1,0,1,1,1,1,1,0,1,0,1,1],[2,3,4,7,8]),([1,1,1],[2,3,4,7]),([1,1,1,1],[2,3,4]),([0,1,0,1,1,1,1,1],[2,3,4,9])]
section
variable (N : aB) (n : Nat) (h0 : AH) (known_2 : Option Addr) (known_2n known_2c : Nat) (f_3 t_4 : Addr) (size_7 : Int) (h : AH)
 noncomputable def se : Option (Go.Value × AH):=aC Tryz.prog n Tryz.f21 h0 (.code (av (ae Tryz.f21) [1,1,1]) [1,1,1]) [] (E [(2,.slice known_2 known_2n known_2c),(3,.pointer (some f_3)),(4,.pointer (some t_4)),(7,.int .i64 size_7)]) h
 noncomputable def AS : Option (Go.Value × AH):=bw Tryz.prog (au Tryz.prog n) n Tryz.f21 h0 jb N (aC Tryz.prog n Tryz.f21 h0) (av (ae Tryz.f21) [1,1,1]) [1,1,1] [] (E [(2,.slice known_2 known_2n known_2c),(3,.pointer (some f_3)),(4,.pointer (some t_4)),(7,.int .i64 size_7)]) h
variable {n} {h0} {known_2 known_2n known_2c f_3 t_4 size_7} {h}
theorem AT {r : Go.Value × AH} (hv : AS aD n h0 known_2 known_2n known_2c f_3 t_4 size_7 h = some r) : se n h0 known_2 known_2n known_2c f_3 t_4 size_7 h = some r:=aN hv
end
section
variable (N : aB) (n m0 : Nat) (h0 : AH) (known_2 : Option Addr) (known_2n known_2c : Nat) (f_3 t_4 : Addr) (size_7 i_8 : Int) (h : AH)
 noncomputable def wx : Option (Go.Value × AH):=aC Tryz.prog n Tryz.f21 h0 (.head (av (ae Tryz.f21) [1,1,0,1,0,1,1,1,1,1,0,1,1,0,0]) [0,1,1,0,1,1,1,1,1,0,1,0,1,1] m0) [.block 1,.block 0,.seq (av (ae Tryz.f21) [1,1,1]) [1,1,1]] (E [(2,.slice known_2 known_2n known_2c),(3,.pointer (some f_3)),(4,.pointer (some t_4)),(7,.int .i64 size_7),(8,.int .i64 i_8)]) h
 noncomputable def AU : Option (Go.Value × AH):=bH Tryz.prog (au Tryz.prog n) n Tryz.f21 h0 jb N (aC Tryz.prog n Tryz.f21 h0) (av (ae Tryz.f21) [1,1,0,1,0,1,1,1,1,1,0,1,1,0,0]) [0,1,1,0,1,1,1,1,1,0,1,0,1,1] m0 [.block 1,.block 0,.seq (av (ae Tryz.f21) [1,1,1]) [1,1,1]] (E [(2,.slice known_2 known_2n known_2c),(3,.pointer (some f_3)),(4,.pointer (some t_4)),(7,.int .i64 size_7),(8,.int .i64 i_8)]) h
variable {n m0} {h0} {known_2 known_2n known_2c f_3 t_4 size_7 i_8} {h}
theorem sf {r : Go.Value × AH} (hv : AU aD n m0 h0 known_2 known_2n known_2c f_3 t_4 size_7 i_8 h = some r) : wx n (m0 + 1) h0 known_2 known_2n known_2c f_3 t_4 size_7 i_8 h = some r:=aO hv
end
section
variable (N : aB) (n : Nat) (h0 : AH) (known_2 : Option Addr) (known_2n known_2c : Nat) (f_3 t_4 : Addr) (h : AH)
 noncomputable def wy : Option (Go.Value × AH):=aC Tryz.prog n Tryz.f21 h0 (.code (av (ae Tryz.f21) [1,1,1,1]) [1,1,1,1]) [] (E [(2,.slice known_2 known_2n known_2c),(3,.pointer (some f_3)),(4,.pointer (some t_4))]) h
 noncomputable def AV : Option (Go.Value × AH):=bw Tryz.prog (au Tryz.prog n) n Tryz.f21 h0 jb N (aC Tryz.prog n Tryz.f21 h0) (av (ae Tryz.f21) [1,1,1,1]) [1,1,1,1] [] (E [(2,.slice known_2 known_2n known_2c),(3,.pointer (some f_3)),(4,.pointer (some t_4))]) h
variable {n} {h0} {known_2 known_2n known_2c f_3 t_4} {h}
theorem AW {r : Go.Value × AH} (hv : AV aD n h0 known_2 known_2n known_2c f_3 t_4 h = some r) : wy n h0 known_2 known_2n known_2c f_3 t_4 h = some r:=aN hv
end
section
variable (N : aB) (n m0 : Nat) (h0 : AH) (known_2 : Option Addr) (known_2n known_2c : Nat) (f_3 t_4 : Addr) (i_9 : Int) (h : AH)
 noncomputable def si : Option (Go.Value × AH):=aC Tryz.prog n Tryz.f21 h0 (.head (av (ae Tryz.f21) [1,1,1,1,1,0,1,0,0]) [0,1,0,1,1,1,1,1] m0) [.block 3,.seq (av (ae Tryz.f21) [1,1,1,1,1,1]) [1,1,1,1,1,1]] (E [(2,.slice known_2 known_2n known_2c),(3,.pointer (some f_3)),(4,.pointer (some t_4)),(9,.int .i64 i_9)]) h
 noncomputable def AX : Option (Go.Value × AH):=bH Tryz.prog (au Tryz.prog n) n Tryz.f21 h0 jb N (aC Tryz.prog n Tryz.f21 h0) (av (ae Tryz.f21) [1,1,1,1,1,0,1,0,0]) [0,1,0,1,1,1,1,1] m0 [.block 3,.seq (av (ae Tryz.f21) [1,1,1,1,1,1]) [1,1,1,1,1,1]] (E [(2,.slice known_2 known_2n known_2c),(3,.pointer (some f_3)),(4,.pointer (some t_4)),(9,.int .i64 i_9)]) h
variable {n m0} {h0} {known_2 known_2n known_2c f_3 t_4 i_9} {h}
theorem sj {r : Go.Value × AH} (hv : AX aD n m0 h0 known_2 known_2n known_2c f_3 t_4 i_9 h = some r) : si n (m0 + 1) h0 known_2 known_2n known_2c f_3 t_4 i_9 h = some r:=aO hv
end
 noncomputable def Kj (N : aB) (n : Nat) (f_0a : ByteArray) (f_0b : Option Addr) (f_0bn f_0bc : Nat) (f_0c : Option Addr) (f_0cn f_0cc : Nat) (f_0d : Option Addr) (f_0dn f_0dc : Nat) (f_0e : Option Addr) (f_0en f_0ec : Nat) (f_0f : Option Addr) (f_0fn f_0fc : Nat) (t_1a t_1b : Int) (t_1c : Option Addr) (t_1cn t_1cc : Nat) (t_1d : Option Addr) (t_1dn t_1dc : Nat) (known_2 : Option Addr) (known_2n known_2c : Nat) (h : AH) : Option (Go.Value × AH):=bQ Tryz.prog (au Tryz.prog n) n jb N (aC Tryz.prog n) 21 [(.agg #[(.string f_0a),(.slice f_0b f_0bn f_0bc),(.slice f_0c f_0cn f_0cc),(.slice f_0d f_0dn f_0dc),(.slice f_0e f_0en f_0ec),(.slice f_0f f_0fn f_0fc)]),(.agg #[(.int .i64 t_1a),(.int .i64 t_1b),(.slice t_1c t_1cn t_1cc),(.slice t_1d t_1dn t_1dc)]),(.slice known_2 known_2n known_2c)] h
theorem If {n : Nat} {f_0a : ByteArray} {f_0b : Option Addr} {f_0bn f_0bc : Nat} {f_0c : Option Addr} {f_0cn f_0cc : Nat} {f_0d : Option Addr} {f_0dn f_0dc : Nat} {f_0e : Option Addr} {f_0en f_0ec : Nat} {f_0f : Option Addr} {f_0fn f_0fc : Nat} {t_1a t_1b : Int} {t_1c : Option Addr} {t_1cn t_1cc : Nat} {t_1d : Option Addr} {t_1dn t_1dc : Nat} {known_2 : Option Addr} {known_2n known_2c : Nat} {h : AH} {r : Go.Value × AH} (hv : Kj aD n f_0a f_0b f_0bn f_0bc f_0c f_0cn f_0cc f_0d f_0dn f_0dc f_0e f_0en f_0ec f_0f f_0fn f_0fc t_1a t_1b t_1c t_1cn t_1cc t_1d t_1dn t_1dc known_2 known_2n known_2c h = some r) : au Tryz.prog (n + 1) 21 [(.agg #[(.string f_0a),(.slice f_0b f_0bn f_0bc),(.slice f_0c f_0cn f_0cc),(.slice f_0d f_0dn f_0dc),(.slice f_0e f_0en f_0ec),(.slice f_0f f_0fn f_0fc)]),(.agg #[(.int .i64 t_1a),(.int .i64 t_1b),(.slice t_1c t_1cn t_1cc),(.slice t_1d t_1dn t_1dc)]),(.slice known_2 known_2n known_2c)] h = some r:=aL hv
theorem NF (N : aB) (n : Nat) (f_0a : ByteArray) (f_0b : Option Addr) (f_0bn f_0bc : Nat) (f_0c : Option Addr) (f_0cn f_0cc : Nat) (f_0d : Option Addr) (f_0dn f_0dc : Nat) (f_0e : Option Addr) (f_0en f_0ec : Nat) (f_0f : Option Addr) (f_0fn f_0fc : Nat) (t_1a t_1b : Int) (t_1c : Option Addr) (t_1cn t_1cc : Nat) (t_1d : Option Addr) (t_1dn t_1dc : Nat) (known_2 : Option Addr) (known_2n known_2c : Nat) (h : AH) : Kj N n f_0a f_0b f_0bn f_0bc f_0c f_0cn f_0cc f_0d f_0dn f_0dc f_0e f_0en f_0ec f_0f f_0fn f_0fc t_1a t_1b t_1c t_1cn t_1cc t_1d t_1dn t_1dc known_2 known_2n known_2c h =
 (N (setLow h h.next) [(.string f_0a),(.slice f_0b f_0bn f_0bc),(.slice f_0c f_0cn f_0cc),(.slice f_0d f_0dn f_0dc),(.slice f_0e f_0en f_0ec),(.slice f_0f f_0fn f_0fc)] 0).bind fun p0 =>
 (N p0.2 [(.int .i64 t_1a),(.int .i64 t_1b),(.slice t_1c t_1cn t_1cc),(.slice t_1d t_1dn t_1dc)] 0).bind fun p1 =>
 (gI .i64 (rdC p1.2 (Addr.add ⟨p1.1,0,none⟩ 0) 0)).bind fun n2 =>
 cond (aY n2 1)
 (se n h known_2 known_2n known_2c ⟨p0.1,0,none⟩ ⟨p1.1,0,none⟩ 1 p1.2)
 (cond (aY n2 2)
 (se n h known_2 known_2n known_2c ⟨p0.1,0,none⟩ ⟨p1.1,0,none⟩ 2 p1.2)
 (cond (aY n2 3)
 ((gL (rdC p1.2 (Addr.add ⟨p1.1,0,none⟩ 3) 0)).bind fun p3 =>
 (gL (rdC p1.2 (Addr.add ⟨p0.1,0,none⟩ 4) 0)).bind fun p4 =>
 cond (gv (Int.ofNat p3.2.1) (Int.ofNat p4.2.1))
 (some (aj h p1.2 (.bool false)))
 ((gS (rdC p1.2 ⟨p0.1,0,none⟩ 0)).bind fun x5 =>
 (gL (rdC p1.2 ⟨p0.1,0,none⟩ 1)).bind fun p6 =>
 (gL (rdC p1.2 ⟨p0.1,0,none⟩ 2)).bind fun p7 =>
 (gL (rdC p1.2 ⟨p0.1,0,none⟩ 3)).bind fun p8 =>
 (gL (rdC p1.2 ⟨p0.1,0,none⟩ 4)).bind fun p9 =>
 (gL (rdC p1.2 ⟨p0.1,0,none⟩ 5)).bind fun p10 =>
 (gL (rdC p1.2 (Addr.add ⟨p1.1,0,none⟩ 3) 0)).bind fun p11 =>
 (au Tryz.prog n 18 [(.agg #[(.string x5),(.slice p6.1 p6.2.1 p6.2.2),(.slice p7.1 p7.2.1 p7.2.2),(.slice p8.1 p8.2.1 p8.2.2),(.slice p9.1 p9.2.1 p9.2.2),(.slice p10.1 p10.2.1 p10.2.2)]),(.slice p11.1 p11.2.1 p11.2.2),(.slice known_2 known_2n known_2c)] p1.2).bind fun p12 =>
 (gB (some p12.1)).bind fun b13 =>
 cond (Bool.not b13)
 (some (aj h p12.2 (.bool false)))
 (wx n n h known_2 known_2n known_2c ⟨p0.1,0,none⟩ ⟨p1.1,0,none⟩ 0 0 p12.2)))
 (some (aj h p1.2 (.bool false))))):=by kernel_rfl
theorem AY (N : aB) (n  : Nat) (h0 : AH) (known_2 : Option Addr) (known_2n known_2c : Nat) (f_3 t_4 : Addr) (size_7 : Int) (h : AH) : AS N n  h0 known_2 known_2n known_2c f_3 t_4 size_7 h =
 (gL (rdC h (Addr.add t_4 2) 0)).bind fun p0 =>
 cond (gv (Int.ofNat p0.2.1) size_7)
 (some (aj h0 h (.bool false)))
 ((gI .i64 (rdC h (Addr.add t_4 0) 0)).bind fun n1 =>
 cond (gv n1 3)
 ((gL (rdC h (Addr.add t_4 3) 0)).bind fun p2 =>
 cond (cj 0 (Int.ofNat p2.2.1))
 (some (aj h0 h (.bool false)))
 (wy n h0 known_2 known_2n known_2c f_3 t_4 h))
 (wy n h0 known_2 known_2n known_2c f_3 t_4 h)):=by kernel_rfl
theorem sk (N : aB) (n m0 : Nat) (h0 : AH) (known_2 : Option Addr) (known_2n known_2c : Nat) (f_3 t_4 : Addr) (size_7 i_8 : Int) (h : AH) : AU N n m0 h0 known_2 known_2n known_2c f_3 t_4 size_7 i_8 h =
 (gL (rdC h (Addr.add t_4 3) 0)).bind fun p0 =>
 cond (cj i_8 (Int.ofNat p0.2.1))
 ((gL (rdC h (Addr.add f_3 1) 0)).bind fun p1 =>
 (gL (rdC h (Addr.add t_4 3) 0)).bind fun p2 =>
 (p2.1).bind fun a3 =>
 cond (bO i_8 p2.2.1)
 ((gI .i64 (rdC h (Addr.add a3 ((Int.toNat i_8) * 1)) 0)).bind fun n4 =>
 (p1.1).bind fun a5 =>
 cond (bO n4 p1.2.1)
 ((gI .i64 (rdC h (Addr.add a5 ((Int.toNat n4) * 1)) 0)).bind fun n6 =>
 (gL (rdC h (Addr.add f_3 4) 0)).bind fun p7 =>
 (p7.1).bind fun a8 =>
 cond (bO i_8 p7.2.1)
 ((gI .i64 (rdC h (Addr.add a8 ((Int.toNat i_8) * 1)) 0)).bind fun n9 =>
 cond (gv n6 n9)
 (some (aj h0 h (.bool false)))
 (wx n m0 h0 known_2 known_2n known_2c f_3 t_4 size_7 (aU .i64 i_8 1) h))
 (none))
 (none))
 (none))
 (se n h0 known_2 known_2n known_2c f_3 t_4 size_7 h):=by kernel_rfl
theorem AZ (N : aB) (n  : Nat) (h0 : AH) (known_2 : Option Addr) (known_2n known_2c : Nat) (f_3 t_4 : Addr) (h : AH) : AV N n  h0 known_2 known_2n known_2c f_3 t_4 h =
 (gI .i64 (rdC h (Addr.add t_4 0) 0)).bind fun n0 =>
 cond (aY n0 2)
 ((gS (rdC h f_3 0)).bind fun x1 =>
 (gL (rdC h f_3 1)).bind fun p2 =>
 (gL (rdC h f_3 2)).bind fun p3 =>
 (gL (rdC h f_3 3)).bind fun p4 =>
 (gL (rdC h f_3 4)).bind fun p5 =>
 (gL (rdC h f_3 5)).bind fun p6 =>
 (gI .i64 (rdC h (Addr.add t_4 1) 0)).bind fun n7 =>
 (N h [(.int .i64 n7)] 1).bind fun p8 =>
 (au Tryz.prog n 18 [(.agg #[(.string x1),(.slice p2.1 p2.2.1 p2.2.2),(.slice p3.1 p3.2.1 p3.2.2),(.slice p4.1 p4.2.1 p4.2.2),(.slice p5.1 p5.2.1 p5.2.2),(.slice p6.1 p6.2.1 p6.2.2)]),(.slice (some ⟨p8.1,0,none⟩) 1 1),(.slice known_2 known_2n known_2c)] p8.2).bind fun p9 =>
 (gB (some p9.1)).bind fun b10 =>
 cond (Bool.not b10)
 (some (aj h0 p9.2 (.bool false)))
 ((gL (rdC p9.2 (Addr.add f_3 1) 0)).bind fun p11 =>
 (gI .i64 (rdC p9.2 (Addr.add t_4 1) 0)).bind fun n12 =>
 (p11.1).bind fun a13 =>
 cond (bO n12 p11.2.1)
 ((gI .i64 (rdC p9.2 (Addr.add a13 ((Int.toNat n12) * 1)) 0)).bind fun n14 =>
 cond (gv n14 1)
 (some (aj h0 p9.2 (.bool false)))
 (si n n h0 known_2 known_2n known_2c f_3 t_4 0 p9.2))
 (none)))
 ((gI .i64 (rdC h (Addr.add t_4 1) 0)).bind fun n15 =>
 cond (gv n15 (-1))
 (some (aj h0 h (.bool false)))
 (si n n h0 known_2 known_2n known_2c f_3 t_4 0 h)):=by kernel_rfl
theorem sm (N : aB) (n m0 : Nat) (h0 : AH) (known_2 : Option Addr) (known_2n known_2c : Nat) (f_3 t_4 : Addr) (i_9 : Int) (h : AH) : AX N n m0 h0 known_2 known_2n known_2c f_3 t_4 i_9 h =
 (gL (rdC h (Addr.add t_4 2) 0)).bind fun p0 =>
 cond (cj i_9 (Int.ofNat p0.2.1))
 ((gS (rdC h f_3 0)).bind fun x1 =>
 (gL (rdC h f_3 1)).bind fun p2 =>
 (gL (rdC h f_3 2)).bind fun p3 =>
 (gL (rdC h f_3 3)).bind fun p4 =>
 (gL (rdC h f_3 4)).bind fun p5 =>
 (gL (rdC h f_3 5)).bind fun p6 =>
 (gL (rdC h (Addr.add t_4 2) 0)).bind fun p7 =>
 (p7.1).bind fun a8 =>
 cond (bO i_9 p7.2.1)
 ((gI .i64 (rdC h (Addr.add a8 ((Int.toNat i_9) * 2)) 0)).bind fun n9 =>
 (gL (rdC h (Addr.add a8 ((Int.toNat i_9) * 2)) 1)).bind fun p10 =>
 (au Tryz.prog n 43 [(.agg #[(.string x1),(.slice p2.1 p2.2.1 p2.2.2),(.slice p3.1 p3.2.1 p3.2.2),(.slice p4.1 p4.2.1 p4.2.2),(.slice p5.1 p5.2.1 p5.2.2),(.slice p6.1 p6.2.1 p6.2.2)]),(.agg #[(.int .i64 n9),(.slice p10.1 p10.2.1 p10.2.2)]),(.slice known_2 known_2n known_2c)] h).bind fun p11 =>
 (gB (some p11.1)).bind fun b12 =>
 cond (Bool.not b12)
 (some (aj h0 p11.2 (.bool false)))
 (si n m0 h0 known_2 known_2n known_2c f_3 t_4 (aU .i64 i_9 1) p11.2))
 (none))
 (some (aj h0 h (.bool true))):=by kernel_rfl
def Ig : List (List Nat × List Nat):=[([1,1],[3,4]),([0,1,0,1,1,1,1],[3,4,7,8])]
section
variable (N : aB) (n : Nat) (h0 : AH) (f_3 e_4 : Addr) (h : AH)
 noncomputable def GU : Option (Go.Value × AH):=aC Tryz.prog n Tryz.f43 h0 (.code (av (ae Tryz.f43) [1,1]) [1,1]) [] (E [(3,.pointer (some f_3)),(4,.pointer (some e_4))]) h
 noncomputable def Ba : Option (Go.Value × AH):=bw Tryz.prog (au Tryz.prog n) n Tryz.f43 h0 Ig N (aC Tryz.prog n Tryz.f43 h0) (av (ae Tryz.f43) [1,1]) [1,1] [] (E [(3,.pointer (some f_3)),(4,.pointer (some e_4))]) h
variable {n} {h0} {f_3 e_4} {h}
theorem Bb {r : Go.Value × AH} (hv : Ba aD n h0 f_3 e_4 h = some r) : GU n h0 f_3 e_4 h = some r:=aN hv
end
section
variable (N : aB) (n m0 : Nat) (h0 : AH) (f_3 e_4 : Addr) (p_7 : Option Addr) (p_7n p_7c : Nat) (i_8 : Int) (h : AH)
 noncomputable def wz : Option (Go.Value × AH):=aC Tryz.prog n Tryz.f43 h0 (.head (av (ae Tryz.f43) [1,1,1,1,0,1,0,0]) [0,1,0,1,1,1,1] m0) [.block 0,.seq (av (ae Tryz.f43) [1,1,1,1,1]) [1,1,1,1,1]] (E [(3,.pointer (some f_3)),(4,.pointer (some e_4)),(7,.slice p_7 p_7n p_7c),(8,.int .i64 i_8)]) h
 noncomputable def Bc : Option (Go.Value × AH):=bH Tryz.prog (au Tryz.prog n) n Tryz.f43 h0 Ig N (aC Tryz.prog n Tryz.f43 h0) (av (ae Tryz.f43) [1,1,1,1,0,1,0,0]) [0,1,0,1,1,1,1] m0 [.block 0,.seq (av (ae Tryz.f43) [1,1,1,1,1]) [1,1,1,1,1]] (E [(3,.pointer (some f_3)),(4,.pointer (some e_4)),(7,.slice p_7 p_7n p_7c),(8,.int .i64 i_8)]) h
variable {n m0} {h0} {f_3 e_4 p_7 p_7n p_7c i_8} {h}
theorem sq {r : Go.Value × AH} (hv : Bc aD n m0 h0 f_3 e_4 p_7 p_7n p_7c i_8 h = some r) : wz n (m0 + 1) h0 f_3 e_4 p_7 p_7n p_7c i_8 h = some r:=aO hv
end
 noncomputable def Kk (N : aB) (n : Nat) (f_0a : ByteArray) (f_0b : Option Addr) (f_0bn f_0bc : Nat) (f_0c : Option Addr) (f_0cn f_0cc : Nat) (f_0d : Option Addr) (f_0dn f_0dc : Nat) (f_0e : Option Addr) (f_0en f_0ec : Nat) (f_0f : Option Addr) (f_0fn f_0fc : Nat) (e_1a : Int) (e_1b : Option Addr) (e_1bn e_1bc : Nat) (known_2 : Option Addr) (known_2n known_2c : Nat) (h : AH) : Option (Go.Value × AH):=bQ Tryz.prog (au Tryz.prog n) n Ig N (aC Tryz.prog n) 43 [(.agg #[(.string f_0a),(.slice f_0b f_0bn f_0bc),(.slice f_0c f_0cn f_0cc),(.slice f_0d f_0dn f_0dc),(.slice f_0e f_0en f_0ec),(.slice f_0f f_0fn f_0fc)]),(.agg #[(.int .i64 e_1a),(.slice e_1b e_1bn e_1bc)]),(.slice known_2 known_2n known_2c)] h
theorem Ih {n : Nat} {f_0a : ByteArray} {f_0b : Option Addr} {f_0bn f_0bc : Nat} {f_0c : Option Addr} {f_0cn f_0cc : Nat} {f_0d : Option Addr} {f_0dn f_0dc : Nat} {f_0e : Option Addr} {f_0en f_0ec : Nat} {f_0f : Option Addr} {f_0fn f_0fc : Nat} {e_1a : Int} {e_1b : Option Addr} {e_1bn e_1bc : Nat} {known_2 : Option Addr} {known_2n known_2c : Nat} {h : AH} {r : Go.Value × AH} (hv : Kk aD n f_0a f_0b f_0bn f_0bc f_0c f_0cn f_0cc f_0d f_0dn f_0dc f_0e f_0en f_0ec f_0f f_0fn f_0fc e_1a e_1b e_1bn e_1bc known_2 known_2n known_2c h = some r) : au Tryz.prog (n + 1) 43 [(.agg #[(.string f_0a),(.slice f_0b f_0bn f_0bc),(.slice f_0c f_0cn f_0cc),(.slice f_0d f_0dn f_0dc),(.slice f_0e f_0en f_0ec),(.slice f_0f f_0fn f_0fc)]),(.agg #[(.int .i64 e_1a),(.slice e_1b e_1bn e_1bc)]),(.slice known_2 known_2n known_2c)] h = some r:=aL hv
theorem NG (N : aB) (n : Nat) (f_0a : ByteArray) (f_0b : Option Addr) (f_0bn f_0bc : Nat) (f_0c : Option Addr) (f_0cn f_0cc : Nat) (f_0d : Option Addr) (f_0dn f_0dc : Nat) (f_0e : Option Addr) (f_0en f_0ec : Nat) (f_0f : Option Addr) (f_0fn f_0fc : Nat) (e_1a : Int) (e_1b : Option Addr) (e_1bn e_1bc : Nat) (known_2 : Option Addr) (known_2n known_2c : Nat) (h : AH) : Kk N n f_0a f_0b f_0bn f_0bc f_0c f_0cn f_0cc f_0d f_0dn f_0dc f_0e f_0en f_0ec f_0f f_0fn f_0fc e_1a e_1b e_1bn e_1bc known_2 known_2n known_2c h =
 (N (setLow h h.next) [(.string f_0a),(.slice f_0b f_0bn f_0bc),(.slice f_0c f_0cn f_0cc),(.slice f_0d f_0dn f_0dc),(.slice f_0e f_0en f_0ec),(.slice f_0f f_0fn f_0fc)] 0).bind fun p0 =>
 (N p0.2 [(.int .i64 e_1a),(.slice e_1b e_1bn e_1bc)] 0).bind fun p1 =>
 (gI .i64 (rdC p1.2 (Addr.add ⟨p1.1,0,none⟩ 0) 0)).bind fun n2 =>
 cond (cj n2 1)
 (some (aj h p1.2 (.bool false)))
 ((gI .i64 (rdC p1.2 (Addr.add ⟨p1.1,0,none⟩ 0) 0)).bind fun n3 =>
 (gL (rdC p1.2 (Addr.add ⟨p0.1,0,none⟩ 5) 0)).bind fun p4 =>
 cond (bV (Int.ofNat p4.2.1) n3)
 (some (aj h p1.2 (.bool false)))
 ((gS (rdC p1.2 ⟨p0.1,0,none⟩ 0)).bind fun x5 =>
 (gL (rdC p1.2 ⟨p0.1,0,none⟩ 1)).bind fun p6 =>
 (gL (rdC p1.2 ⟨p0.1,0,none⟩ 2)).bind fun p7 =>
 (gL (rdC p1.2 ⟨p0.1,0,none⟩ 3)).bind fun p8 =>
 (gL (rdC p1.2 ⟨p0.1,0,none⟩ 4)).bind fun p9 =>
 (gL (rdC p1.2 ⟨p0.1,0,none⟩ 5)).bind fun p10 =>
 (gL (rdC p1.2 (Addr.add ⟨p1.1,0,none⟩ 1) 0)).bind fun p11 =>
 (au Tryz.prog n 18 [(.agg #[(.string x5),(.slice p6.1 p6.2.1 p6.2.2),(.slice p7.1 p7.2.1 p7.2.2),(.slice p8.1 p8.2.1 p8.2.2),(.slice p9.1 p9.2.1 p9.2.2),(.slice p10.1 p10.2.1 p10.2.2)]),(.slice p11.1 p11.2.1 p11.2.2),(.slice known_2 known_2n known_2c)] p1.2).bind fun p12 =>
 (gB (some p12.1)).bind fun b13 =>
 cond (Bool.not b13)
 (some (aj h p12.2 (.bool false)))
 (GU n h ⟨p0.1,0,none⟩ ⟨p1.1,0,none⟩ p12.2))):=by kernel_rfl
theorem Bd (N : aB) (n  : Nat) (h0 : AH) (f_3 e_4 : Addr) (h : AH) : Ba N n  h0 f_3 e_4 h =
 (gL (rdC h (Addr.add f_3 5) 0)).bind fun p0 =>
 (gI .i64 (rdC h (Addr.add e_4 0) 0)).bind fun n1 =>
 (p0.1).bind fun a2 =>
 cond (bO n1 p0.2.1)
 ((gL (rdC h (Addr.add (Addr.add a2 ((Int.toNat n1) * 9)) 0) 0)).bind fun p3 =>
 (gL (rdC h (Addr.add e_4 1) 0)).bind fun p4 =>
 cond (gv (Int.ofNat p3.2.1) (Int.ofNat p4.2.1))
 (some (aj h0 h (.bool false)))
 (wz n n h0 f_3 e_4 p3.1 p3.2.1 p3.2.2 0 h))
 (none):=by kernel_rfl
theorem sr (N : aB) (n m0 : Nat) (h0 : AH) (f_3 e_4 : Addr) (p_7 : Option Addr) (p_7n p_7c : Nat) (i_8 : Int) (h : AH) : Bc N n m0 h0 f_3 e_4 p_7 p_7n p_7c i_8 h =
 cond (cj i_8 (Int.ofNat p_7n))
 ((gS (rdC h f_3 0)).bind fun x0 =>
 (gL (rdC h f_3 1)).bind fun p1 =>
 (gL (rdC h f_3 2)).bind fun p2 =>
 (gL (rdC h f_3 3)).bind fun p3 =>
 (gL (rdC h f_3 4)).bind fun p4 =>
 (gL (rdC h f_3 5)).bind fun p5 =>
 (p_7).bind fun a6 =>
 cond (bO i_8 p_7n)
 ((gI .i64 (rdC h (Addr.add a6 ((Int.toNat i_8) * 1)) 0)).bind fun n7 =>
 (au Tryz.prog n 16 [(.agg #[(.string x0),(.slice p1.1 p1.2.1 p1.2.2),(.slice p2.1 p2.2.1 p2.2.2),(.slice p3.1 p3.2.1 p3.2.2),(.slice p4.1 p4.2.1 p4.2.2),(.slice p5.1 p5.2.1 p5.2.2)]),(.int .i64 n7)] (setLow h h.next)).bind fun p8 =>
 (gB (some p8.1)).bind fun b9 =>
 cond (Nat.beq p8.2.low h.next)
 (cond (Bool.not b9)
 (some (aj h0 (setLow p8.2 h.low) (.bool false)))
 ((gL (rdC (setLow p8.2 h.low) (Addr.add f_3 1) 0)).bind fun p10 =>
 (p_7).bind fun a11 =>
 cond (bO i_8 p_7n)
 ((gI .i64 (rdC (setLow p8.2 h.low) (Addr.add a11 ((Int.toNat i_8) * 1)) 0)).bind fun n12 =>
 (p10.1).bind fun a13 =>
 cond (bO n12 p10.2.1)
 ((gI .i64 (rdC (setLow p8.2 h.low) (Addr.add a13 ((Int.toNat n12) * 1)) 0)).bind fun n14 =>
 (gL (rdC (setLow p8.2 h.low) (Addr.add f_3 1) 0)).bind fun p15 =>
 (gL (rdC (setLow p8.2 h.low) (Addr.add e_4 1) 0)).bind fun p16 =>
 (p16.1).bind fun a17 =>
 cond (bO i_8 p16.2.1)
 ((gI .i64 (rdC (setLow p8.2 h.low) (Addr.add a17 ((Int.toNat i_8) * 1)) 0)).bind fun n18 =>
 (p15.1).bind fun a19 =>
 cond (bO n18 p15.2.1)
 ((gI .i64 (rdC (setLow p8.2 h.low) (Addr.add a19 ((Int.toNat n18) * 1)) 0)).bind fun n20 =>
 cond (gv n14 n20)
 (some (aj h0 (setLow p8.2 h.low) (.bool false)))
 (wz n m0 h0 f_3 e_4 p_7 p_7n p_7c (aU .i64 i_8 1) (setLow p8.2 h.low)))
 (none))
 (none))
 (none))
 (none)))
 (none))
 (none))
 (some (aj h0 h (.bool true))):=by kernel_rfl
def p7 : List (List Nat × List Nat):=[([1,1],[1]),([0,1,0,1,1,1],[1,3,46,47]),([0,1,0,1,1,1,1],[1,3,4]),([1,1,0,0,1,0,0,1,0,1,1,1,1],[1,3,4,5]),([0,1,0,1,1,1,0,0,1,0,0,1,0,1,1,1,1],[1,3,4,5,6,101,102]),([0,1,0,1,1,1,1,0,0,1,0,0,1,0,1,1,1,1],[1,3,4,5,6,7]),([0,1,0,1,1,1,1,1,0,0,1,0,0,1,0,1,1,1,1],[1,3,4,5,6,9]),([1,1,0,0,1,0,0,1,0,1,1,1,1,1,0,0,1,0,0,1,0,1,1,1,1],[1,3,4,5,6,9,10]),([1,1,1,0,0,1,0,0,1,0,1,1,1,1,1,0,0,1,0,0,1,0,1,1,1,1],[1,3,4,5,6,9,10])]
section
variable (N : aB) (n : Nat) (h0 : AH) (f_1 : Addr) (h : AH)
 noncomputable def Ii : Option (Go.Value × AH):=aC Tryz.prog n Tryz.f6 h0 (.code (av (ae Tryz.f6) [1,1]) [1,1]) [] (E [(1,.pointer (some f_1))]) h
 noncomputable def GV : Option (Go.Value × AH):=bw Tryz.prog (au Tryz.prog n) n Tryz.f6 h0 p7 N (aC Tryz.prog n Tryz.f6 h0) (av (ae Tryz.f6) [1,1]) [1,1] [] (E [(1,.pointer (some f_1))]) h
variable {n} {h0} {f_1} {h}
theorem FD {r : Go.Value × AH} (hv : GV aD n h0 f_1 h = some r) : Ii n h0 f_1 h = some r:=aN hv
end
section
variable (N : aB) (n m0 : Nat) (h0 : AH) (f_1 : Addr) (defined_3 : Option Addr) (defined_3n defined_3c : Nat) (t_46 t_47 : Int) (h : AH)
 noncomputable def FE : Option (Go.Value × AH):=aC Tryz.prog n Tryz.f6 h0 (.head (av (ae Tryz.f6) [1,1,1,0,1,0,0]) [0,1,0,1,1,1] m0) [.block 0,.seq (av (ae Tryz.f6) [1,1,1,1]) [1,1,1,1]] (E [(1,.pointer (some f_1)),(3,.slice defined_3 defined_3n defined_3c),(46,.int .i64 t_46),(47,.int .i64 t_47)]) h
 noncomputable def GW : Option (Go.Value × AH):=bH Tryz.prog (au Tryz.prog n) n Tryz.f6 h0 p7 N (aC Tryz.prog n Tryz.f6 h0) (av (ae Tryz.f6) [1,1,1,0,1,0,0]) [0,1,0,1,1,1] m0 [.block 0,.seq (av (ae Tryz.f6) [1,1,1,1]) [1,1,1,1]] (E [(1,.pointer (some f_1)),(3,.slice defined_3 defined_3n defined_3c),(46,.int .i64 t_46),(47,.int .i64 t_47)]) h
variable {n m0} {h0} {f_1 defined_3 defined_3n defined_3c t_46 t_47} {h}
theorem wA {r : Go.Value × AH} (hv : GW aD n m0 h0 f_1 defined_3 defined_3n defined_3c t_46 t_47 h = some r) : FE n (m0 + 1) h0 f_1 defined_3 defined_3n defined_3c t_46 t_47 h = some r:=aO hv
end
section
variable (N : aB) (n m0 : Nat) (h0 : AH) (f_1 : Addr) (defined_3 : Option Addr) (defined_3n defined_3c : Nat) (b_4 : Int) (h : AH)
 noncomputable def vf : Option (Go.Value × AH):=aC Tryz.prog n Tryz.f6 h0 (.head (av (ae Tryz.f6) [1,1,1,1,0,1,0,0]) [0,1,0,1,1,1,1] m0) [.block 2,.seq (av (ae Tryz.f6) [1,1,1,1,1]) [1,1,1,1,1]] (E [(1,.pointer (some f_1)),(3,.slice defined_3 defined_3n defined_3c),(4,.int .i64 b_4)]) h
 noncomputable def GX : Option (Go.Value × AH):=bH Tryz.prog (au Tryz.prog n) n Tryz.f6 h0 p7 N (aC Tryz.prog n Tryz.f6 h0) (av (ae Tryz.f6) [1,1,1,1,0,1,0,0]) [0,1,0,1,1,1,1] m0 [.block 2,.seq (av (ae Tryz.f6) [1,1,1,1,1]) [1,1,1,1,1]] (E [(1,.pointer (some f_1)),(3,.slice defined_3 defined_3n defined_3c),(4,.int .i64 b_4)]) h
variable {n m0} {h0} {f_1 defined_3 defined_3n defined_3c b_4} {h}
theorem wB {r : Go.Value × AH} (hv : GX aD n m0 h0 f_1 defined_3 defined_3n defined_3c b_4 h = some r) : vf n (m0 + 1) h0 f_1 defined_3 defined_3n defined_3c b_4 h = some r:=aO hv
end
section
variable (N : aB) (n m0 : Nat) (h0 : AH) (f_1 : Addr) (defined_3 : Option Addr) (defined_3n defined_3c : Nat) (b_4 : Int) (x_5 : Addr) (h : AH)
 noncomputable def Ij : Option (Go.Value × AH):=aC Tryz.prog n Tryz.f6 h0 (.code (av (ae Tryz.f6) [1,1,1,1,0,1,0,0,1,0,0,1,1]) [1,1,0,0,1,0,0,1,0,1,1,1,1]) [.block 3,.seq (av (ae Tryz.f6) [1,1,1,1,0,1,0,0,1,1]) [1,1,0,0,1,0,1,1,1,1],.loop (av (ae Tryz.f6) [1,1,1,1,0,1,0,0]) [0,1,0,1,1,1,1] m0,.block 2,.seq (av (ae Tryz.f6) [1,1,1,1,1]) [1,1,1,1,1]] (E [(1,.pointer (some f_1)),(3,.slice defined_3 defined_3n defined_3c),(4,.int .i64 b_4),(5,.pointer (some x_5))]) h
 noncomputable def GY : Option (Go.Value × AH):=bw Tryz.prog (au Tryz.prog n) n Tryz.f6 h0 p7 N (aC Tryz.prog n Tryz.f6 h0) (av (ae Tryz.f6) [1,1,1,1,0,1,0,0,1,0,0,1,1]) [1,1,0,0,1,0,0,1,0,1,1,1,1] [.block 3,.seq (av (ae Tryz.f6) [1,1,1,1,0,1,0,0,1,1]) [1,1,0,0,1,0,1,1,1,1],.loop (av (ae Tryz.f6) [1,1,1,1,0,1,0,0]) [0,1,0,1,1,1,1] m0,.block 2,.seq (av (ae Tryz.f6) [1,1,1,1,1]) [1,1,1,1,1]] (E [(1,.pointer (some f_1)),(3,.slice defined_3 defined_3n defined_3c),(4,.int .i64 b_4),(5,.pointer (some x_5))]) h
variable {n m0} {h0} {f_1 defined_3 defined_3n defined_3c b_4 x_5} {h}
theorem FF {r : Go.Value × AH} (hv : GY aD n m0 h0 f_1 defined_3 defined_3n defined_3c b_4 x_5 h = some r) : Ij n m0 h0 f_1 defined_3 defined_3n defined_3c b_4 x_5 h = some r:=aN hv
end
section
variable (N : aB) (n m0 m1 : Nat) (h0 : AH) (f_1 : Addr) (defined_3 : Option Addr) (defined_3n defined_3c : Nat) (b_4 : Int) (x_5 : Addr) (known_6 : Option Addr) (known_6n known_6c : Nat) (t_101 t_102 : Int) (h : AH)
 noncomputable def FG : Option (Go.Value × AH):=aC Tryz.prog n Tryz.f6 h0 (.head (av (ae Tryz.f6) [1,1,1,1,0,1,0,0,1,0,0,1,1,1,0,1,0,0]) [0,1,0,1,1,1,0,0,1,0,0,1,0,1,1,1,1] m0) [.block 4,.seq (av (ae Tryz.f6) [1,1,1,1,0,1,0,0,1,0,0,1,1,1,1]) [1,1,1,1,0,0,1,0,0,1,0,1,1,1,1],.block 3,.seq (av (ae Tryz.f6) [1,1,1,1,0,1,0,0,1,1]) [1,1,0,0,1,0,1,1,1,1],.loop (av (ae Tryz.f6) [1,1,1,1,0,1,0,0]) [0,1,0,1,1,1,1] m1,.block 2,.seq (av (ae Tryz.f6) [1,1,1,1,1]) [1,1,1,1,1]] (E [(1,.pointer (some f_1)),(3,.slice defined_3 defined_3n defined_3c),(4,.int .i64 b_4),(5,.pointer (some x_5)),(6,.slice known_6 known_6n known_6c),(101,.int .i64 t_101),(102,.int .i64 t_102)]) h
 noncomputable def GZ : Option (Go.Value × AH):=bH Tryz.prog (au Tryz.prog n) n Tryz.f6 h0 p7 N (aC Tryz.prog n Tryz.f6 h0) (av (ae Tryz.f6) [1,1,1,1,0,1,0,0,1,0,0,1,1,1,0,1,0,0]) [0,1,0,1,1,1,0,0,1,0,0,1,0,1,1,1,1] m0 [.block 4,.seq (av (ae Tryz.f6) [1,1,1,1,0,1,0,0,1,0,0,1,1,1,1]) [1,1,1,1,0,0,1,0,0,1,0,1,1,1,1],.block 3,.seq (av (ae Tryz.f6) [1,1,1,1,0,1,0,0,1,1]) [1,1,0,0,1,0,1,1,1,1],.loop (av (ae Tryz.f6) [1,1,1,1,0,1,0,0]) [0,1,0,1,1,1,1] m1,.block 2,.seq (av (ae Tryz.f6) [1,1,1,1,1]) [1,1,1,1,1]] (E [(1,.pointer (some f_1)),(3,.slice defined_3 defined_3n defined_3c),(4,.int .i64 b_4),(5,.pointer (some x_5)),(6,.slice known_6 known_6n known_6c),(101,.int .i64 t_101),(102,.int .i64 t_102)]) h
variable {n m0 m1} {h0} {f_1 defined_3 defined_3n defined_3c b_4 x_5 known_6 known_6n known_6c t_101 t_102} {h}
theorem wC {r : Go.Value × AH} (hv : GZ aD n m0 m1 h0 f_1 defined_3 defined_3n defined_3c b_4 x_5 known_6 known_6n known_6c t_101 t_102 h = some r) : FG n (m0 + 1) m1 h0 f_1 defined_3 defined_3n defined_3c b_4 x_5 known_6 known_6n known_6c t_101 t_102 h = some r:=aO hv
end
section
variable (N : aB) (n m0 m1 : Nat) (h0 : AH) (f_1 : Addr) (defined_3 : Option Addr) (defined_3n defined_3c : Nat) (b_4 : Int) (x_5 : Addr) (known_6 : Option Addr) (known_6n known_6c : Nat) (i_7 : Int) (h : AH)
 noncomputable def FH : Option (Go.Value × AH):=aC Tryz.prog n Tryz.f6 h0 (.head (av (ae Tryz.f6) [1,1,1,1,0,1,0,0,1,0,0,1,1,1,1,0,1,0,0]) [0,1,0,1,1,1,1,0,0,1,0,0,1,0,1,1,1,1] m0) [.block 6,.seq (av (ae Tryz.f6) [1,1,1,1,0,1,0,0,1,0,0,1,1,1,1,1]) [1,1,1,1,1,0,0,1,0,0,1,0,1,1,1,1],.block 3,.seq (av (ae Tryz.f6) [1,1,1,1,0,1,0,0,1,1]) [1,1,0,0,1,0,1,1,1,1],.loop (av (ae Tryz.f6) [1,1,1,1,0,1,0,0]) [0,1,0,1,1,1,1] m1,.block 2,.seq (av (ae Tryz.f6) [1,1,1,1,1]) [1,1,1,1,1]] (E [(1,.pointer (some f_1)),(3,.slice defined_3 defined_3n defined_3c),(4,.int .i64 b_4),(5,.pointer (some x_5)),(6,.slice known_6 known_6n known_6c),(7,.int .i64 i_7)]) h
 noncomputable def G7 : Option (Go.Value × AH):=bH Tryz.prog (au Tryz.prog n) n Tryz.f6 h0 p7 N (aC Tryz.prog n Tryz.f6 h0) (av (ae Tryz.f6) [1,1,1,1,0,1,0,0,1,0,0,1,1,1,1,0,1,0,0]) [0,1,0,1,1,1,1,0,0,1,0,0,1,0,1,1,1,1] m0 [.block 6,.seq (av (ae Tryz.f6) [1,1,1,1,0,1,0,0,1,0,0,1,1,1,1,1]) [1,1,1,1,1,0,0,1,0,0,1,0,1,1,1,1],.block 3,.seq (av (ae Tryz.f6) [1,1,1,1,0,1,0,0,1,1]) [1,1,0,0,1,0,1,1,1,1],.loop (av (ae Tryz.f6) [1,1,1,1,0,1,0,0]) [0,1,0,1,1,1,1] m1,.block 2,.seq (av (ae Tryz.f6) [1,1,1,1,1]) [1,1,1,1,1]] (E [(1,.pointer (some f_1)),(3,.slice defined_3 defined_3n defined_3c),(4,.int .i64 b_4),(5,.pointer (some x_5)),(6,.slice known_6 known_6n known_6c),(7,.int .i64 i_7)]) h
variable {n m0 m1} {h0} {f_1 defined_3 defined_3n defined_3c b_4 x_5 known_6 known_6n known_6c i_7} {h}
theorem wD {r : Go.Value × AH} (hv : G7 aD n m0 m1 h0 f_1 defined_3 defined_3n defined_3c b_4 x_5 known_6 known_6n known_6c i_7 h = some r) : FH n (m0 + 1) m1 h0 f_1 defined_3 defined_3n defined_3c b_4 x_5 known_6 known_6n known_6c i_7 h = some r:=aO hv
end
section
variable (N : aB) (n m0 m1 : Nat) (h0 : AH) (f_1 : Addr) (defined_3 : Option Addr) (defined_3n defined_3c : Nat) (b_4 : Int) (x_5 : Addr) (known_6 : Option Addr) (known_6n known_6c : Nat) (i_9 : Int) (h : AH)
 noncomputable def Be : Option (Go.Value × AH):=aC Tryz.prog n Tryz.f6 h0 (.head (av (ae Tryz.f6) [1,1,1,1,0,1,0,0,1,0,0,1,1,1,1,1,0,1,0,0]) [0,1,0,1,1,1,1,1,0,0,1,0,0,1,0,1,1,1,1] m0) [.block 8,.seq (av (ae Tryz.f6) [1,1,1,1,0,1,0,0,1,0,0,1,1,1,1,1,1]) [1,1,1,1,1,1,0,0,1,0,0,1,0,1,1,1,1],.block 3,.seq (av (ae Tryz.f6) [1,1,1,1,0,1,0,0,1,1]) [1,1,0,0,1,0,1,1,1,1],.loop (av (ae Tryz.f6) [1,1,1,1,0,1,0,0]) [0,1,0,1,1,1,1] m1,.block 2,.seq (av (ae Tryz.f6) [1,1,1,1,1]) [1,1,1,1,1]] (E [(1,.pointer (some f_1)),(3,.slice defined_3 defined_3n defined_3c),(4,.int .i64 b_4),(5,.pointer (some x_5)),(6,.slice known_6 known_6n known_6c),(9,.int .i64 i_9)]) h
 noncomputable def G8 : Option (Go.Value × AH):=bH Tryz.prog (au Tryz.prog n) n Tryz.f6 h0 p7 N (aC Tryz.prog n Tryz.f6 h0) (av (ae Tryz.f6) [1,1,1,1,0,1,0,0,1,0,0,1,1,1,1,1,0,1,0,0]) [0,1,0,1,1,1,1,1,0,0,1,0,0,1,0,1,1,1,1] m0 [.block 8,.seq (av (ae Tryz.f6) [1,1,1,1,0,1,0,0,1,0,0,1,1,1,1,1,1]) [1,1,1,1,1,1,0,0,1,0,0,1,0,1,1,1,1],.block 3,.seq (av (ae Tryz.f6) [1,1,1,1,0,1,0,0,1,1]) [1,1,0,0,1,0,1,1,1,1],.loop (av (ae Tryz.f6) [1,1,1,1,0,1,0,0]) [0,1,0,1,1,1,1] m1,.block 2,.seq (av (ae Tryz.f6) [1,1,1,1,1]) [1,1,1,1,1]] (E [(1,.pointer (some f_1)),(3,.slice defined_3 defined_3n defined_3c),(4,.int .i64 b_4),(5,.pointer (some x_5)),(6,.slice known_6 known_6n known_6c),(9,.int .i64 i_9)]) h
variable {n m0 m1} {h0} {f_1 defined_3 defined_3n defined_3c b_4 x_5 known_6 known_6n known_6c i_9} {h}
theorem wE {r : Go.Value × AH} (hv : G8 aD n m0 m1 h0 f_1 defined_3 defined_3n defined_3c b_4 x_5 known_6 known_6n known_6c i_9 h = some r) : Be n (m0 + 1) m1 h0 f_1 defined_3 defined_3n defined_3c b_4 x_5 known_6 known_6n known_6c i_9 h = some r:=aO hv
end
section
variable (N : aB) (n m0 m1 : Nat) (h0 : AH) (f_1 : Addr) (defined_3 : Option Addr) (defined_3n defined_3c : Nat) (b_4 : Int) (x_5 : Addr) (known_6 : Option Addr) (known_6n known_6c : Nat) (i_9 : Int) (in_10 : Addr) (h : AH)
 noncomputable def Ik : Option (Go.Value × AH):=aC Tryz.prog n Tryz.f6 h0 (.code (av (ae Tryz.f6) [1,1,1,1,0,1,0,0,1,0,0,1,1,1,1,1,0,1,0,0,1,0,0,1,1]) [1,1,0,0,1,0,0,1,0,1,1,1,1,1,0,0,1,0,0,1,0,1,1,1,1]) [.block 9,.seq (av (ae Tryz.f6) [1,1,1,1,0,1,0,0,1,0,0,1,1,1,1,1,0,1,0,0,1,1]) [1,1,0,0,1,0,1,1,1,1,1,0,0,1,0,0,1,0,1,1,1,1],.loop (av (ae Tryz.f6) [1,1,1,1,0,1,0,0,1,0,0,1,1,1,1,1,0,1,0,0]) [0,1,0,1,1,1,1,1,0,0,1,0,0,1,0,1,1,1,1] m0,.block 8,.seq (av (ae Tryz.f6) [1,1,1,1,0,1,0,0,1,0,0,1,1,1,1,1,1]) [1,1,1,1,1,1,0,0,1,0,0,1,0,1,1,1,1],.block 3,.seq (av (ae Tryz.f6) [1,1,1,1,0,1,0,0,1,1]) [1,1,0,0,1,0,1,1,1,1],.loop (av (ae Tryz.f6) [1,1,1,1,0,1,0,0]) [0,1,0,1,1,1,1] m1,.block 2,.seq (av (ae Tryz.f6) [1,1,1,1,1]) [1,1,1,1,1]] (E [(1,.pointer (some f_1)),(3,.slice defined_3 defined_3n defined_3c),(4,.int .i64 b_4),(5,.pointer (some x_5)),(6,.slice known_6 known_6n known_6c),(9,.int .i64 i_9),(10,.pointer (some in_10))]) h
 noncomputable def G9 : Option (Go.Value × AH):=bw Tryz.prog (au Tryz.prog n) n Tryz.f6 h0 p7 N (aC Tryz.prog n Tryz.f6 h0) (av (ae Tryz.f6) [1,1,1,1,0,1,0,0,1,0,0,1,1,1,1,1,0,1,0,0,1,0,0,1,1]) [1,1,0,0,1,0,0,1,0,1,1,1,1,1,0,0,1,0,0,1,0,1,1,1,1] [.block 9,.seq (av (ae Tryz.f6) [1,1,1,1,0,1,0,0,1,0,0,1,1,1,1,1,0,1,0,0,1,1]) [1,1,0,0,1,0,1,1,1,1,1,0,0,1,0,0,1,0,1,1,1,1],.loop (av (ae Tryz.f6) [1,1,1,1,0,1,0,0,1,0,0,1,1,1,1,1,0,1,0,0]) [0,1,0,1,1,1,1,1,0,0,1,0,0,1,0,1,1,1,1] m0,.block 8,.seq (av (ae Tryz.f6) [1,1,1,1,0,1,0,0,1,0,0,1,1,1,1,1,1]) [1,1,1,1,1,1,0,0,1,0,0,1,0,1,1,1,1],.block 3,.seq (av (ae Tryz.f6) [1,1,1,1,0,1,0,0,1,1]) [1,1,0,0,1,0,1,1,1,1],.loop (av (ae Tryz.f6) [1,1,1,1,0,1,0,0]) [0,1,0,1,1,1,1] m1,.block 2,.seq (av (ae Tryz.f6) [1,1,1,1,1]) [1,1,1,1,1]] (E [(1,.pointer (some f_1)),(3,.slice defined_3 defined_3n defined_3c),(4,.int .i64 b_4),(5,.pointer (some x_5)),(6,.slice known_6 known_6n known_6c),(9,.int .i64 i_9),(10,.pointer (some in_10))]) h
variable {n m0 m1} {h0} {f_1 defined_3 defined_3n defined_3c b_4 x_5 known_6 known_6n known_6c i_9 in_10} {h}
theorem FI {r : Go.Value × AH} (hv : G9 aD n m0 m1 h0 f_1 defined_3 defined_3n defined_3c b_4 x_5 known_6 known_6n known_6c i_9 in_10 h = some r) : Ik n m0 m1 h0 f_1 defined_3 defined_3n defined_3c b_4 x_5 known_6 known_6n known_6c i_9 in_10 h = some r:=aN hv
end
section
variable (N : aB) (n m0 m1 : Nat) (h0 : AH) (f_1 : Addr) (defined_3 : Option Addr) (defined_3n defined_3c : Nat) (b_4 : Int) (x_5 : Addr) (known_6 : Option Addr) (known_6n known_6c : Nat) (i_9 : Int) (in_10 : Addr) (h : AH)
 noncomputable def FJ : Option (Go.Value × AH):=aC Tryz.prog n Tryz.f6 h0 (.code (av (ae Tryz.f6) [1,1,1,1,0,1,0,0,1,0,0,1,1,1,1,1,0,1,0,0,1,0,0,1,1,1]) [1,1,1,0,0,1,0,0,1,0,1,1,1,1,1,0,0,1,0,0,1,0,1,1,1,1]) [.block 9,.seq (av (ae Tryz.f6) [1,1,1,1,0,1,0,0,1,0,0,1,1,1,1,1,0,1,0,0,1,1]) [1,1,0,0,1,0,1,1,1,1,1,0,0,1,0,0,1,0,1,1,1,1],.loop (av (ae Tryz.f6) [1,1,1,1,0,1,0,0,1,0,0,1,1,1,1,1,0,1,0,0]) [0,1,0,1,1,1,1,1,0,0,1,0,0,1,0,1,1,1,1] m0,.block 8,.seq (av (ae Tryz.f6) [1,1,1,1,0,1,0,0,1,0,0,1,1,1,1,1,1]) [1,1,1,1,1,1,0,0,1,0,0,1,0,1,1,1,1],.block 3,.seq (av (ae Tryz.f6) [1,1,1,1,0,1,0,0,1,1]) [1,1,0,0,1,0,1,1,1,1],.loop (av (ae Tryz.f6) [1,1,1,1,0,1,0,0]) [0,1,0,1,1,1,1] m1,.block 2,.seq (av (ae Tryz.f6) [1,1,1,1,1]) [1,1,1,1,1]] (E [(1,.pointer (some f_1)),(3,.slice defined_3 defined_3n defined_3c),(4,.int .i64 b_4),(5,.pointer (some x_5)),(6,.slice known_6 known_6n known_6c),(9,.int .i64 i_9),(10,.pointer (some in_10))]) h
 noncomputable def Ha : Option (Go.Value × AH):=bw Tryz.prog (au Tryz.prog n) n Tryz.f6 h0 p7 N (aC Tryz.prog n Tryz.f6 h0) (av (ae Tryz.f6) [1,1,1,1,0,1,0,0,1,0,0,1,1,1,1,1,0,1,0,0,1,0,0,1,1,1]) [1,1,1,0,0,1,0,0,1,0,1,1,1,1,1,0,0,1,0,0,1,0,1,1,1,1] [.block 9,.seq (av (ae Tryz.f6) [1,1,1,1,0,1,0,0,1,0,0,1,1,1,1,1,0,1,0,0,1,1]) [1,1,0,0,1,0,1,1,1,1,1,0,0,1,0,0,1,0,1,1,1,1],.loop (av (ae Tryz.f6) [1,1,1,1,0,1,0,0,1,0,0,1,1,1,1,1,0,1,0,0]) [0,1,0,1,1,1,1,1,0,0,1,0,0,1,0,1,1,1,1] m0,.block 8,.seq (av (ae Tryz.f6) [1,1,1,1,0,1,0,0,1,0,0,1,1,1,1,1,1]) [1,1,1,1,1,1,0,0,1,0,0,1,0,1,1,1,1],.block 3,.seq (av (ae Tryz.f6) [1,1,1,1,0,1,0,0,1,1]) [1,1,0,0,1,0,1,1,1,1],.loop (av (ae Tryz.f6) [1,1,1,1,0,1,0,0]) [0,1,0,1,1,1,1] m1,.block 2,.seq (av (ae Tryz.f6) [1,1,1,1,1]) [1,1,1,1,1]] (E [(1,.pointer (some f_1)),(3,.slice defined_3 defined_3n defined_3c),(4,.int .i64 b_4),(5,.pointer (some x_5)),(6,.slice known_6 known_6n known_6c),(9,.int .i64 i_9),(10,.pointer (some in_10))]) h
variable {n m0 m1} {h0} {f_1 defined_3 defined_3n defined_3c b_4 x_5 known_6 known_6n known_6c i_9 in_10} {h}
theorem FK {r : Go.Value × AH} (hv : Ha aD n m0 m1 h0 f_1 defined_3 defined_3n defined_3c b_4 x_5 known_6 known_6n known_6c i_9 in_10 h = some r) : FJ n m0 m1 h0 f_1 defined_3 defined_3n defined_3c b_4 x_5 known_6 known_6n known_6c i_9 in_10 h = some r:=aN hv
end
 noncomputable def M7 (N : aB) (n : Nat) (f_0a : ByteArray) (f_0b : Option Addr) (f_0bn f_0bc : Nat) (f_0c : Option Addr) (f_0cn f_0cc : Nat) (f_0d : Option Addr) (f_0dn f_0dc : Nat) (f_0e : Option Addr) (f_0en f_0ec : Nat) (f_0f : Option Addr) (f_0fn f_0fc : Nat) (h : AH) : Option (Go.Value × AH):=bQ Tryz.prog (au Tryz.prog n) n p7 N (aC Tryz.prog n) 6 [(.agg #[(.string f_0a),(.slice f_0b f_0bn f_0bc),(.slice f_0c f_0cn f_0cc),(.slice f_0d f_0dn f_0dc),(.slice f_0e f_0en f_0ec),(.slice f_0f f_0fn f_0fc)])] h
theorem Kl {n : Nat} {f_0a : ByteArray} {f_0b : Option Addr} {f_0bn f_0bc : Nat} {f_0c : Option Addr} {f_0cn f_0cc : Nat} {f_0d : Option Addr} {f_0dn f_0dc : Nat} {f_0e : Option Addr} {f_0en f_0ec : Nat} {f_0f : Option Addr} {f_0fn f_0fc : Nat} {h : AH} {r : Go.Value × AH} (hv : M7 aD n f_0a f_0b f_0bn f_0bc f_0c f_0cn f_0cc f_0d f_0dn f_0dc f_0e f_0en f_0ec f_0f f_0fn f_0fc h = some r) : au Tryz.prog (n + 1) 6 [(.agg #[(.string f_0a),(.slice f_0b f_0bn f_0bc),(.slice f_0c f_0cn f_0cc),(.slice f_0d f_0dn f_0dc),(.slice f_0e f_0en f_0ec),(.slice f_0f f_0fn f_0fc)])] h = some r:=aL hv
theorem t7 (N : aB) (n : Nat) (f_0a : ByteArray) (f_0b : Option Addr) (f_0bn f_0bc : Nat) (f_0c : Option Addr) (f_0cn f_0cc : Nat) (f_0d : Option Addr) (f_0dn f_0dc : Nat) (f_0e : Option Addr) (f_0en f_0ec : Nat) (f_0f : Option Addr) (f_0fn f_0fc : Nat) (h : AH) : M7 N n f_0a f_0b f_0bn f_0bc f_0c f_0cn f_0cc f_0d f_0dn f_0dc f_0e f_0en f_0ec f_0f f_0fn f_0fc h =
 (N (setLow h h.next) [(.string f_0a),(.slice f_0b f_0bn f_0bc),(.slice f_0c f_0cn f_0cc),(.slice f_0d f_0dn f_0dc),(.slice f_0e f_0en f_0ec),(.slice f_0f f_0fn f_0fc)] 0).bind fun p0 =>
 (gS (rdC p0.2 (Addr.add ⟨p0.1,0,none⟩ 0) 0)).bind fun x1 =>
 (au Tryz.prog n 13 [(.string x1)] p0.2).bind fun p2 =>
 (gB (some p2.1)).bind fun b3 =>
 cond (Bool.not b3)
 (some (aj h p2.2 (.bool false)))
 ((gS (rdC p2.2 ⟨p0.1,0,none⟩ 0)).bind fun x4 =>
 (gL (rdC p2.2 ⟨p0.1,0,none⟩ 1)).bind fun p5 =>
 (gL (rdC p2.2 ⟨p0.1,0,none⟩ 2)).bind fun p6 =>
 (gL (rdC p2.2 ⟨p0.1,0,none⟩ 3)).bind fun p7 =>
 (gL (rdC p2.2 ⟨p0.1,0,none⟩ 4)).bind fun p8 =>
 (gL (rdC p2.2 ⟨p0.1,0,none⟩ 5)).bind fun p9 =>
 (au Tryz.prog n 14 [(.agg #[(.string x4),(.slice p5.1 p5.2.1 p5.2.2),(.slice p6.1 p6.2.1 p6.2.2),(.slice p7.1 p7.2.1 p7.2.2),(.slice p8.1 p8.2.1 p8.2.2),(.slice p9.1 p9.2.1 p9.2.2)])] p2.2).bind fun p10 =>
 (gB (some p10.1)).bind fun b11 =>
 cond (Bool.not b11)
 (some (aj h p10.2 (.bool false)))
 ((gL (rdC p10.2 (Addr.add ⟨p0.1,0,none⟩ 1) 0)).bind fun p12 =>
 (au Tryz.prog n 15 [(.slice p12.1 p12.2.1 p12.2.2),(.int .i64 65536)] p10.2).bind fun p13 =>
 (gB (some p13.1)).bind fun b14 =>
 cond (Bool.not b14)
 (some (aj h p13.2 (.bool false)))
 ((gL (rdC p13.2 (Addr.add ⟨p0.1,0,none⟩ 4) 0)).bind fun p15 =>
 (au Tryz.prog n 15 [(.slice p15.1 p15.2.1 p15.2.2),(.int .i64 64)] p13.2).bind fun p16 =>
 (gB (some p16.1)).bind fun b17 =>
 cond (Bool.not b17)
 (some (aj h p16.2 (.bool false)))
 ((gL (rdC p16.2 (Addr.add ⟨p0.1,0,none⟩ 5) 0)).bind fun p18 =>
 cond (cj (Int.ofNat p18.2.1) 1)
 (some (aj h p16.2 (.bool false)))
 ((gL (rdC p16.2 (Addr.add ⟨p0.1,0,none⟩ 5) 0)).bind fun gc =>
 cond (cj 1024 (Int.ofNat gc.2.1))
 (some (aj h p16.2 (.bool false)))
 (Ii n h ⟨p0.1,0,none⟩ p16.2)))))):=by kernel_rfl
theorem FL (N : aB) (n  : Nat) (h0 : AH) (f_1 : Addr) (h : AH) : GV N n  h0 f_1 h =
 (gL (rdC h (Addr.add f_1 1) 0)).bind fun p0 =>
 FE n n h0 f_1 none 0 0 (Int.ofNat p0.2.1) 0 h:=by kernel_rfl
theorem wF (N : aB) (n m0 : Nat) (h0 : AH) (f_1 : Addr) (defined_3 : Option Addr) (defined_3n defined_3c : Nat) (t_46 t_47 : Int) (h : AH) : GW N n m0 h0 f_1 defined_3 defined_3n defined_3c t_46 t_47 h =
 cond (cj t_47 t_46)
 ((N h [(.bool false)] 1).bind fun p0 =>
 (dg 1 1 (.slice defined_3 defined_3n defined_3c) (.slice (some ⟨p0.1,0,none⟩) 1 1) p0.2).bind fun p1 =>
 FE n m0 h0 f_1 p1.1.1 p1.1.2.1 p1.1.2.2 t_46 (aU .i64 t_47 1) p1.2)
 (vf n n h0 f_1 defined_3 defined_3n defined_3c 0 h):=by kernel_rfl
theorem wG (N : aB) (n m0 : Nat) (h0 : AH) (f_1 : Addr) (defined_3 : Option Addr) (defined_3n defined_3c : Nat) (b_4 : Int) (h : AH) : GX N n m0 h0 f_1 defined_3 defined_3n defined_3c b_4 h =
 (gL (rdC h (Addr.add f_1 5) 0)).bind fun p0 =>
 cond (cj b_4 (Int.ofNat p0.2.1))
 ((gL (rdC h (Addr.add f_1 5) 0)).bind fun p1 =>
 (p1.1).bind fun a2 =>
 cond (bO b_4 p1.2.1)
 ((gL (rdC h (Addr.add a2 ((Int.toNat b_4) * 9)) 0)).bind fun p3 =>
 (gL (rdC h (Addr.add a2 ((Int.toNat b_4) * 9)) 1)).bind fun p4 =>
 (gI .i64 (rdC h (Addr.add a2 ((Int.toNat b_4) * 9)) 2)).bind fun n5 =>
 (gI .i64 (rdC h (Addr.add a2 ((Int.toNat b_4) * 9)) 3)).bind fun n6 =>
 (gL (rdC h (Addr.add a2 ((Int.toNat b_4) * 9)) 4)).bind fun p7 =>
 (gL (rdC h (Addr.add a2 ((Int.toNat b_4) * 9)) 5)).bind fun p8 =>
 (gI .i64 (rdC h (Addr.add a2 ((Int.toNat b_4) * 9)) 6)).bind fun n9 =>
 (gI .i64 (rdC h (Addr.add a2 ((Int.toNat b_4) * 9)) 7)).bind fun n10 =>
 (gI .i64 (rdC h (Addr.add a2 ((Int.toNat b_4) * 9)) 8)).bind fun n11 =>
 (N h [(.slice none 0 0),(.slice none 0 0),(.int .i64 0),(.int .i64 0),(.slice none 0 0),(.slice none 0 0),(.int .i64 0),(.int .i64 0),(.int .i64 0)] 0).bind fun p12 =>
 (di p12.2 ⟨p12.1,0,none⟩ [(.slice p3.1 p3.2.1 p3.2.2),(.slice p4.1 p4.2.1 p4.2.2),(.int .i64 n5),(.int .i64 n6),(.slice p7.1 p7.2.1 p7.2.2),(.slice p8.1 p8.2.1 p8.2.2),(.int .i64 n9),(.int .i64 n10),(.int .i64 n11)]).bind fun x13 =>
 (gL (rdC x13 (Addr.add ⟨p12.1,0,none⟩ 1) 0)).bind fun p14 =>
 cond (cj 4096 (Int.ofNat p14.2.1))
 (some (aj h0 x13 (.bool false)))
 ((gI .i64 (rdC x13 (Addr.add ⟨p12.1,0,none⟩ 6) 0)).bind fun n15 =>
 cond (cj n15 0)
 (some (aj h0 x13 (.bool false)))
 ((gI .i64 (rdC x13 (Addr.add ⟨p12.1,0,none⟩ 6) 0)).bind fun n16 =>
 cond (cj 256 n16)
 (some (aj h0 x13 (.bool false)))
 ((gI .i64 (rdC x13 (Addr.add ⟨p12.1,0,none⟩ 7) 0)).bind fun n17 =>
 cond (cj n17 0)
 (some (aj h0 x13 (.bool false)))
 ((gI .i64 (rdC x13 (Addr.add ⟨p12.1,0,none⟩ 7) 0)).bind fun n18 =>
 cond (cj 64 n18)
 (some (aj h0 x13 (.bool false)))
 ((gI .i64 (rdC x13 (Addr.add ⟨p12.1,0,none⟩ 8) 0)).bind fun n19 =>
 cond (cj n19 0)
 (some (aj h0 x13 (.bool false)))
 ((gI .i64 (rdC x13 (Addr.add ⟨p12.1,0,none⟩ 8) 0)).bind fun n20 =>
 cond (cj 2147483647 n20)
 (some (aj h0 x13 (.bool false)))
 (Ij n m0 h0 f_1 defined_3 defined_3n defined_3c b_4 ⟨p12.1,0,none⟩ x13))))))))
 (none))
 (some (aj h0 h (.bool true))):=by kernel_rfl
theorem FM (N : aB) (n m0 : Nat) (h0 : AH) (f_1 : Addr) (defined_3 : Option Addr) (defined_3n defined_3c : Nat) (b_4 : Int) (x_5 : Addr) (h : AH) : GY N n m0 h0 f_1 defined_3 defined_3n defined_3c b_4 x_5 h =
 (gL (rdC h (Addr.add f_1 1) 0)).bind fun p0 =>
 FG n n m0 h0 f_1 defined_3 defined_3n defined_3c b_4 x_5 none 0 0 (Int.ofNat p0.2.1) 0 h:=by kernel_rfl
theorem wH (N : aB) (n m0 m1 : Nat) (h0 : AH) (f_1 : Addr) (defined_3 : Option Addr) (defined_3n defined_3c : Nat) (b_4 : Int) (x_5 : Addr) (known_6 : Option Addr) (known_6n known_6c : Nat) (t_101 t_102 : Int) (h : AH) : GZ N n m0 m1 h0 f_1 defined_3 defined_3n defined_3c b_4 x_5 known_6 known_6n known_6c t_101 t_102 h =
 cond (cj t_102 t_101)
 ((N h [(.bool false)] 1).bind fun p0 =>
 (dg 1 1 (.slice known_6 known_6n known_6c) (.slice (some ⟨p0.1,0,none⟩) 1 1) p0.2).bind fun p1 =>
 FG n m0 m1 h0 f_1 defined_3 defined_3n defined_3c b_4 x_5 p1.1.1 p1.1.2.1 p1.1.2.2 t_101 (aU .i64 t_102 1) p1.2)
 (FH n n m1 h0 f_1 defined_3 defined_3n defined_3c b_4 x_5 known_6 known_6n known_6c 0 h):=by kernel_rfl
theorem wI (N : aB) (n m0 m1 : Nat) (h0 : AH) (f_1 : Addr) (defined_3 : Option Addr) (defined_3n defined_3c : Nat) (b_4 : Int) (x_5 : Addr) (known_6 : Option Addr) (known_6n known_6c : Nat) (i_7 : Int) (h : AH) : G7 N n m0 m1 h0 f_1 defined_3 defined_3n defined_3c b_4 x_5 known_6 known_6n known_6c i_7 h =
 (gL (rdC h (Addr.add x_5 0) 0)).bind fun p0 =>
 cond (cj i_7 (Int.ofNat p0.2.1))
 ((gL (rdC h (Addr.add x_5 0) 0)).bind fun p1 =>
 (p1.1).bind fun a2 =>
 cond (bO i_7 p1.2.1)
 ((gI .i64 (rdC h (Addr.add a2 ((Int.toNat i_7) * 1)) 0)).bind fun n3 =>
 (gS (rdC h f_1 0)).bind fun x4 =>
 (gL (rdC h f_1 1)).bind fun p5 =>
 (gL (rdC h f_1 2)).bind fun p6 =>
 (gL (rdC h f_1 3)).bind fun p7 =>
 (gL (rdC h f_1 4)).bind fun p8 =>
 (gL (rdC h f_1 5)).bind fun p9 =>
 (au Tryz.prog n 16 [(.agg #[(.string x4),(.slice p5.1 p5.2.1 p5.2.2),(.slice p6.1 p6.2.1 p6.2.2),(.slice p7.1 p7.2.1 p7.2.2),(.slice p8.1 p8.2.1 p8.2.2),(.slice p9.1 p9.2.1 p9.2.2)]),(.int .i64 n3)] h).bind fun p10 =>
 (gB (some p10.1)).bind fun b11 =>
 cond (Bool.not b11)
 (some (aj h0 p10.2 (.bool false)))
 ((defined_3).bind fun a12 =>
 cond (bO n3 defined_3n)
 ((gB (rdC p10.2 (Addr.add a12 ((Int.toNat n3) * 1)) 0)).bind fun b13 =>
 cond b13
 (some (aj h0 p10.2 (.bool false)))
 ((defined_3).bind fun a14 =>
 cond (bO n3 defined_3n)
 ((di p10.2 (Addr.add a14 ((Int.toNat n3) * 1)) [(.bool true)]).bind fun x15 =>
 (known_6).bind fun a16 =>
 cond (bO n3 known_6n)
 ((di x15 (Addr.add a16 ((Int.toNat n3) * 1)) [(.bool true)]).bind fun x17 =>
 FH n m0 m1 h0 f_1 defined_3 defined_3n defined_3c b_4 x_5 known_6 known_6n known_6c (aU .i64 i_7 1) x17)
 (none))
 (none)))
 (none)))
 (none))
 (Be n n m1 h0 f_1 defined_3 defined_3n defined_3c b_4 x_5 known_6 known_6n known_6c 0 h):=by kernel_rfl
theorem wJ (N : aB) (n m0 m1 : Nat) (h0 : AH) (f_1 : Addr) (defined_3 : Option Addr) (defined_3n defined_3c : Nat) (b_4 : Int) (x_5 : Addr) (known_6 : Option Addr) (known_6n known_6c : Nat) (i_9 : Int) (h : AH) : G8 N n m0 m1 h0 f_1 defined_3 defined_3n defined_3c b_4 x_5 known_6 known_6n known_6c i_9 h =
 (gL (rdC h (Addr.add x_5 1) 0)).bind fun p0 =>
 cond (cj i_9 (Int.ofNat p0.2.1))
 ((gL (rdC h (Addr.add x_5 1) 0)).bind fun p1 =>
 (p1.1).bind fun a2 =>
 cond (bO i_9 p1.2.1)
 ((gI .i64 (rdC h (Addr.add a2 ((Int.toNat i_9) * 5)) 0)).bind fun n3 =>
 (gI .i64 (rdC h (Addr.add a2 ((Int.toNat i_9) * 5)) 1)).bind fun n4 =>
 (gL (rdC h (Addr.add a2 ((Int.toNat i_9) * 5)) 2)).bind fun p5 =>
 (gI .u64 (rdC h (Addr.add a2 ((Int.toNat i_9) * 5)) 3)).bind fun n6 =>
 (gI .i64 (rdC h (Addr.add a2 ((Int.toNat i_9) * 5)) 4)).bind fun n7 =>
 (N h [(.int .i64 0),(.int .i64 0),(.slice none 0 0),(.int .u64 0),(.int .i64 0)] 0).bind fun p8 =>
 (di p8.2 ⟨p8.1,0,none⟩ [(.int .i64 n3),(.int .i64 n4),(.slice p5.1 p5.2.1 p5.2.2),(.int .u64 n6),(.int .i64 n7)]).bind fun x9 =>
 (gI .i64 (rdC x9 (Addr.add ⟨p8.1,0,none⟩ 0) 0)).bind fun n10 =>
 (au Tryz.prog n 17 [(.int .i64 n10)] (setLow x9 x9.next)).bind fun p11 =>
 (gI .i64 (some p11.1)).bind fun n12 =>
 cond (Nat.beq p11.2.low x9.next)
 ((gL (rdC (setLow p11.2 x9.low) (Addr.add ⟨p8.1,0,none⟩ 2) 0)).bind fun p13 =>
 cond (gv n12 (Int.ofNat p13.2.1))
 (some (aj h0 (setLow p11.2 x9.low) (.bool false)))
 ((gS (rdC (setLow p11.2 x9.low) f_1 0)).bind fun x14 =>
 (gL (rdC (setLow p11.2 x9.low) f_1 1)).bind fun p15 =>
 (gL (rdC (setLow p11.2 x9.low) f_1 2)).bind fun p16 =>
 (gL (rdC (setLow p11.2 x9.low) f_1 3)).bind fun p17 =>
 (gL (rdC (setLow p11.2 x9.low) f_1 4)).bind fun p18 =>
 (gL (rdC (setLow p11.2 x9.low) f_1 5)).bind fun gc =>
 (gL (rdC (setLow p11.2 x9.low) (Addr.add ⟨p8.1,0,none⟩ 2) 0)).bind fun kn =>
 (au Tryz.prog n 18 [(.agg #[(.string x14),(.slice p15.1 p15.2.1 p15.2.2),(.slice p16.1 p16.2.1 p16.2.2),(.slice p17.1 p17.2.1 p17.2.2),(.slice p18.1 p18.2.1 p18.2.2),(.slice gc.1 gc.2.1 gc.2.2)]),(.slice kn.1 kn.2.1 kn.2.2),(.slice known_6 known_6n known_6c)] (setLow p11.2 x9.low)).bind fun gK =>
 (gB (some gK.1)).bind fun b22 =>
 cond (Bool.not b22)
 (some (aj h0 gK.2 (.bool false)))
 (Ik n m0 m1 h0 f_1 defined_3 defined_3n defined_3c b_4 x_5 known_6 known_6n known_6c i_9 ⟨p8.1,0,none⟩ gK.2)))
 (none))
 (none))
 ((gS (rdC h f_1 0)).bind fun x23 =>
 (gL (rdC h f_1 1)).bind fun ip =>
 (gL (rdC h f_1 2)).bind fun jb =>
 (gL (rdC h f_1 3)).bind fun p26 =>
 (gL (rdC h f_1 4)).bind fun p27 =>
 (gL (rdC h f_1 5)).bind fun p28 =>
 (gI .i64 (rdC h (Addr.add x_5 2) 0)).bind fun n29 =>
 (gI .i64 (rdC h (Addr.add x_5 2) 1)).bind fun n30 =>
 (gL (rdC h (Addr.add x_5 2) 2)).bind fun p31 =>
 (gL (rdC h (Addr.add x_5 2) 3)).bind fun p32 =>
 (au Tryz.prog n 21 [(.agg #[(.string x23),(.slice ip.1 ip.2.1 ip.2.2),(.slice jb.1 jb.2.1 jb.2.2),(.slice p26.1 p26.2.1 p26.2.2),(.slice p27.1 p27.2.1 p27.2.2),(.slice p28.1 p28.2.1 p28.2.2)]),(.agg #[(.int .i64 n29),(.int .i64 n30),(.slice p31.1 p31.2.1 p31.2.2),(.slice p32.1 p32.2.1 p32.2.2)]),(.slice known_6 known_6n known_6c)] h).bind fun p33 =>
 (gB (some p33.1)).bind fun b34 =>
 cond (Bool.not b34)
 (some (aj h0 p33.2 (.bool false)))
 (vf n m1 h0 f_1 defined_3 defined_3n defined_3c (aU .i64 b_4 1) p33.2)):=by kernel_rfl
theorem FO (N : aB) (n m0 m1 : Nat) (h0 : AH) (f_1 : Addr) (defined_3 : Option Addr) (defined_3n defined_3c : Nat) (b_4 : Int) (x_5 : Addr) (known_6 : Option Addr) (known_6n known_6c : Nat) (i_9 : Int) (in_10 : Addr) (h : AH) : G9 N n m0 m1 h0 f_1 defined_3 defined_3n defined_3c b_4 x_5 known_6 known_6n known_6c i_9 in_10 h =
 (gI .i64 (rdC h (Addr.add in_10 0) 0)).bind fun n0 =>
 (au Tryz.prog n 19 [(.int .i64 n0)] h).bind fun p1 =>
 (gB (some p1.1)).bind fun b2 =>
 cond b2
 ((gS (rdC p1.2 f_1 0)).bind fun x3 =>
 (gL (rdC p1.2 f_1 1)).bind fun p4 =>
 (gL (rdC p1.2 f_1 2)).bind fun p5 =>
 (gL (rdC p1.2 f_1 3)).bind fun p6 =>
 (gL (rdC p1.2 f_1 4)).bind fun p7 =>
 (gL (rdC p1.2 f_1 5)).bind fun p8 =>
 (gI .i64 (rdC p1.2 (Addr.add in_10 1) 0)).bind fun n9 =>
 (au Tryz.prog n 16 [(.agg #[(.string x3),(.slice p4.1 p4.2.1 p4.2.2),(.slice p5.1 p5.2.1 p5.2.2),(.slice p6.1 p6.2.1 p6.2.2),(.slice p7.1 p7.2.1 p7.2.2),(.slice p8.1 p8.2.1 p8.2.2)]),(.int .i64 n9)] p1.2).bind fun p10 =>
 (gB (some p10.1)).bind fun b11 =>
 cond (Bool.not b11)
 (some (aj h0 p10.2 (.bool false)))
 ((gI .i64 (rdC p10.2 (Addr.add in_10 1) 0)).bind fun n12 =>
 (defined_3).bind fun a13 =>
 cond (bO n12 defined_3n)
 ((gB (rdC p10.2 (Addr.add a13 ((Int.toNat n12) * 1)) 0)).bind fun b14 =>
 cond b14
 (some (aj h0 p10.2 (.bool false)))
 (FJ n m0 m1 h0 f_1 defined_3 defined_3n defined_3c b_4 x_5 known_6 known_6n known_6c i_9 in_10 p10.2))
 (none)))
 ((gI .i64 (rdC p1.2 (Addr.add in_10 1) 0)).bind fun n15 =>
 cond (gv n15 (-1))
 (some (aj h0 p1.2 (.bool false)))
 (FJ n m0 m1 h0 f_1 defined_3 defined_3n defined_3c b_4 x_5 known_6 known_6n known_6c i_9 in_10 p1.2)):=by kernel_rfl
theorem FP (N : aB) (n m0 m1 : Nat) (h0 : AH) (f_1 : Addr) (defined_3 : Option Addr) (defined_3n defined_3c : Nat) (b_4 : Int) (x_5 : Addr) (known_6 : Option Addr) (known_6n known_6c : Nat) (i_9 : Int) (in_10 : Addr) (h : AH) : Ha N n m0 m1 h0 f_1 defined_3 defined_3n defined_3c b_4 x_5 known_6 known_6n known_6c i_9 in_10 h =
 (gS (rdC h f_1 0)).bind fun x0 =>
 (gL (rdC h f_1 1)).bind fun p1 =>
 (gL (rdC h f_1 2)).bind fun p2 =>
 (gL (rdC h f_1 3)).bind fun p3 =>
 (gL (rdC h f_1 4)).bind fun p4 =>
 (gL (rdC h f_1 5)).bind fun p5 =>
 (gI .i64 (rdC h in_10 0)).bind fun n6 =>
 (gI .i64 (rdC h in_10 1)).bind fun n7 =>
 (gL (rdC h in_10 2)).bind fun p8 =>
 (gI .u64 (rdC h in_10 3)).bind fun n9 =>
 (gI .i64 (rdC h in_10 4)).bind fun n10 =>
 (au Tryz.prog n 20 [(.agg #[(.string x0),(.slice p1.1 p1.2.1 p1.2.2),(.slice p2.1 p2.2.1 p2.2.2),(.slice p3.1 p3.2.1 p3.2.2),(.slice p4.1 p4.2.1 p4.2.2),(.slice p5.1 p5.2.1 p5.2.2)]),(.agg #[(.int .i64 n6),(.int .i64 n7),(.slice p8.1 p8.2.1 p8.2.2),(.int .u64 n9),(.int .i64 n10)])] h).bind fun p11 =>
 (gB (some p11.1)).bind fun b12 =>
 cond (Bool.not b12)
 (some (aj h0 p11.2 (.bool false)))
 ((gI .i64 (rdC p11.2 (Addr.add in_10 0) 0)).bind fun n13 =>
 (au Tryz.prog n 19 [(.int .i64 n13)] p11.2).bind fun p14 =>
 (gB (some p14.1)).bind fun b15 =>
 cond b15
 ((gI .i64 (rdC p14.2 (Addr.add in_10 1) 0)).bind fun n16 =>
 (defined_3).bind fun a17 =>
 cond (bO n16 defined_3n)
 ((di p14.2 (Addr.add a17 ((Int.toNat n16) * 1)) [(.bool true)]).bind fun x18 =>
 (gI .i64 (rdC x18 (Addr.add in_10 1) 0)).bind fun n19 =>
 (known_6).bind fun a20 =>
 cond (bO n19 known_6n)
 ((di x18 (Addr.add a20 ((Int.toNat n19) * 1)) [(.bool true)]).bind fun x21 =>
 Be n m0 m1 h0 f_1 defined_3 defined_3n defined_3c b_4 x_5 known_6 known_6n known_6c (aU .i64 i_9 1) x21)
 (none))
 (none))
 (Be n m0 m1 h0 f_1 defined_3 defined_3n defined_3c b_4 x_5 known_6 known_6n known_6c (aU .i64 i_9 1) p14.2)):=by kernel_rfl
def p18 : List (List Nat × List Nat):=[([0,1,0,1,1],[1,3,4]),([1,1,1,0,0,1,0,0,1,0,1,1],[1,3,4,5]),([1,0,1,1,1,1,0,0,1,0,0,1,0,1,1],[1,3,4,5,41,42]),([1,1,1,0,1,1,1,1,0,0,1,0,0,1,0,1,1],[1,3,4,5,58]),([0,1,0,1,1,1],[1,3,6]),([0,1,0,1,1,1,1],[1,3,7]),([0,1,1,0,0,1,0,0,1,0,1,1,1,1],[1,3,7,8])]
section
variable (N : aB) (n m0 : Nat) (h0 : AH) (f_1 : Addr) (names_3 : Option Addr) (names_3n names_3c : Nat) (i_4 : Int) (h : AH)
 noncomputable def o8 : Option (Go.Value × AH):=aC Tryz.prog n Tryz.f14 h0 (.head (av (ae Tryz.f14) [1,1,0,1,0,0]) [0,1,0,1,1] m0) [.block 0,.seq (av (ae Tryz.f14) [1,1,1]) [1,1,1]] (E [(1,.pointer (some f_1)),(3,.slice names_3 names_3n names_3c),(4,.int .i64 i_4)]) h
 noncomputable def Bf : Option (Go.Value × AH):=bH Tryz.prog (au Tryz.prog n) n Tryz.f14 h0 p18 N (aC Tryz.prog n Tryz.f14 h0) (av (ae Tryz.f14) [1,1,0,1,0,0]) [0,1,0,1,1] m0 [.block 0,.seq (av (ae Tryz.f14) [1,1,1]) [1,1,1]] (E [(1,.pointer (some f_1)),(3,.slice names_3 names_3n names_3c),(4,.int .i64 i_4)]) h
variable {n m0} {h0} {f_1 names_3 names_3n names_3c i_4} {h}
theorem su {r : Go.Value × AH} (hv : Bf aD n m0 h0 f_1 names_3 names_3n names_3c i_4 h = some r) : o8 n (m0 + 1) h0 f_1 names_3 names_3n names_3c i_4 h = some r:=aO hv
end
section
variable (N : aB) (n m0 : Nat) (h0 : AH) (f_1 : Addr) (names_3 : Option Addr) (names_3n names_3c : Nat) (i_4 : Int) (a_5 : Addr) (h : AH)
 noncomputable def Bg : Option (Go.Value × AH):=aC Tryz.prog n Tryz.f14 h0 (.code (av (ae Tryz.f14) [1,1,0,1,0,0,1,0,0,1,1,1]) [1,1,1,0,0,1,0,0,1,0,1,1]) [.block 1,.seq (av (ae Tryz.f14) [1,1,0,1,0,0,1,1]) [1,1,0,0,1,0,1,1],.loop (av (ae Tryz.f14) [1,1,0,1,0,0]) [0,1,0,1,1] m0,.block 0,.seq (av (ae Tryz.f14) [1,1,1]) [1,1,1]] (E [(1,.pointer (some f_1)),(3,.slice names_3 names_3n names_3c),(4,.int .i64 i_4),(5,.pointer (some a_5))]) h
 noncomputable def Bh : Option (Go.Value × AH):=bw Tryz.prog (au Tryz.prog n) n Tryz.f14 h0 p18 N (aC Tryz.prog n Tryz.f14 h0) (av (ae Tryz.f14) [1,1,0,1,0,0,1,0,0,1,1,1]) [1,1,1,0,0,1,0,0,1,0,1,1] [.block 1,.seq (av (ae Tryz.f14) [1,1,0,1,0,0,1,1]) [1,1,0,0,1,0,1,1],.loop (av (ae Tryz.f14) [1,1,0,1,0,0]) [0,1,0,1,1] m0,.block 0,.seq (av (ae Tryz.f14) [1,1,1]) [1,1,1]] (E [(1,.pointer (some f_1)),(3,.slice names_3 names_3n names_3c),(4,.int .i64 i_4),(5,.pointer (some a_5))]) h
variable {n m0} {h0} {f_1 names_3 names_3n names_3c i_4 a_5} {h}
theorem Bi {r : Go.Value × AH} (hv : Bh aD n m0 h0 f_1 names_3 names_3n names_3c i_4 a_5 h = some r) : Bg n m0 h0 f_1 names_3 names_3n names_3c i_4 a_5 h = some r:=aN hv
end
section
variable (N : aB) (n m0 : Nat) (h0 : AH) (f_1 : Addr) (names_3 : Option Addr) (names_3n names_3c : Nat) (i_6 : Int) (h : AH)
 noncomputable def wK : Option (Go.Value × AH):=aC Tryz.prog n Tryz.f14 h0 (.head (av (ae Tryz.f14) [1,1,1,0,1,0,0]) [0,1,0,1,1,1] m0) [.block 3,.seq (av (ae Tryz.f14) [1,1,1,1]) [1,1,1,1]] (E [(1,.pointer (some f_1)),(3,.slice names_3 names_3n names_3c),(6,.int .i64 i_6)]) h
 noncomputable def Bj : Option (Go.Value × AH):=bH Tryz.prog (au Tryz.prog n) n Tryz.f14 h0 p18 N (aC Tryz.prog n Tryz.f14 h0) (av (ae Tryz.f14) [1,1,1,0,1,0,0]) [0,1,0,1,1,1] m0 [.block 3,.seq (av (ae Tryz.f14) [1,1,1,1]) [1,1,1,1]] (E [(1,.pointer (some f_1)),(3,.slice names_3 names_3n names_3c),(6,.int .i64 i_6)]) h
variable {n m0} {h0} {f_1 names_3 names_3n names_3c i_6} {h}
theorem sv {r : Go.Value × AH} (hv : Bj aD n m0 h0 f_1 names_3 names_3n names_3c i_6 h = some r) : wK n (m0 + 1) h0 f_1 names_3 names_3n names_3c i_6 h = some r:=aO hv
end
section
variable (N : aB) (n m0 : Nat) (h0 : AH) (f_1 : Addr) (names_3 : Option Addr) (names_3n names_3c : Nat) (i_4 : Int) (a_5 : Addr) (t_41 : Int) (t_42 : Bool) (h : AH)
 noncomputable def wL : Option (Go.Value × AH):=aC Tryz.prog n Tryz.f14 h0 (.code (av (ae Tryz.f14) [1,1,0,1,0,0,1,0,0,1,1,1,1,0,1]) [1,0,1,1,1,1,0,0,1,0,0,1,0,1,1]) [.block 2,.block 1,.seq (av (ae Tryz.f14) [1,1,0,1,0,0,1,1]) [1,1,0,0,1,0,1,1],.loop (av (ae Tryz.f14) [1,1,0,1,0,0]) [0,1,0,1,1] m0,.block 0,.seq (av (ae Tryz.f14) [1,1,1]) [1,1,1]] (E [(1,.pointer (some f_1)),(3,.slice names_3 names_3n names_3c),(4,.int .i64 i_4),(5,.pointer (some a_5)),(41,.int .i64 t_41),(42,.bool t_42)]) h
 noncomputable def Bk : Option (Go.Value × AH):=bw Tryz.prog (au Tryz.prog n) n Tryz.f14 h0 p18 N (aC Tryz.prog n Tryz.f14 h0) (av (ae Tryz.f14) [1,1,0,1,0,0,1,0,0,1,1,1,1,0,1]) [1,0,1,1,1,1,0,0,1,0,0,1,0,1,1] [.block 2,.block 1,.seq (av (ae Tryz.f14) [1,1,0,1,0,0,1,1]) [1,1,0,0,1,0,1,1],.loop (av (ae Tryz.f14) [1,1,0,1,0,0]) [0,1,0,1,1] m0,.block 0,.seq (av (ae Tryz.f14) [1,1,1]) [1,1,1]] (E [(1,.pointer (some f_1)),(3,.slice names_3 names_3n names_3c),(4,.int .i64 i_4),(5,.pointer (some a_5)),(41,.int .i64 t_41),(42,.bool t_42)]) h
variable {n m0} {h0} {f_1 names_3 names_3n names_3c i_4 a_5 t_41 t_42} {h}
theorem Bl {r : Go.Value × AH} (hv : Bk aD n m0 h0 f_1 names_3 names_3n names_3c i_4 a_5 t_41 t_42 h = some r) : wL n m0 h0 f_1 names_3 names_3n names_3c i_4 a_5 t_41 t_42 h = some r:=aN hv
end
section
variable (N : aB) (n m0 : Nat) (h0 : AH) (f_1 : Addr) (names_3 : Option Addr) (names_3n names_3c : Nat) (i_7 : Int) (h : AH)
 noncomputable def wM : Option (Go.Value × AH):=aC Tryz.prog n Tryz.f14 h0 (.head (av (ae Tryz.f14) [1,1,1,1,0,1,0,0]) [0,1,0,1,1,1,1] m0) [.block 5,.seq (av (ae Tryz.f14) [1,1,1,1,1]) [1,1,1,1,1]] (E [(1,.pointer (some f_1)),(3,.slice names_3 names_3n names_3c),(7,.int .i64 i_7)]) h
 noncomputable def Bm : Option (Go.Value × AH):=bH Tryz.prog (au Tryz.prog n) n Tryz.f14 h0 p18 N (aC Tryz.prog n Tryz.f14 h0) (av (ae Tryz.f14) [1,1,1,1,0,1,0,0]) [0,1,0,1,1,1,1] m0 [.block 5,.seq (av (ae Tryz.f14) [1,1,1,1,1]) [1,1,1,1,1]] (E [(1,.pointer (some f_1)),(3,.slice names_3 names_3n names_3c),(7,.int .i64 i_7)]) h
variable {n m0} {h0} {f_1 names_3 names_3n names_3c i_7} {h}
theorem sw {r : Go.Value × AH} (hv : Bm aD n m0 h0 f_1 names_3 names_3n names_3c i_7 h = some r) : wM n (m0 + 1) h0 f_1 names_3 names_3n names_3c i_7 h = some r:=aO hv
end
section
variable (N : aB) (n m0 : Nat) (h0 : AH) (f_1 : Addr) (names_3 : Option Addr) (names_3n names_3c : Nat) (i_4 : Int) (a_5 : Addr) (t_58 : Bool) (h : AH)
 noncomputable def wN : Option (Go.Value × AH):=aC Tryz.prog n Tryz.f14 h0 (.code (av (ae Tryz.f14) [1,1,0,1,0,0,1,0,0,1,1,1,1,0,1,1,1]) [1,1,1,0,1,1,1,1,0,0,1,0,0,1,0,1,1]) [.block 2,.block 1,.seq (av (ae Tryz.f14) [1,1,0,1,0,0,1,1]) [1,1,0,0,1,0,1,1],.loop (av (ae Tryz.f14) [1,1,0,1,0,0]) [0,1,0,1,1] m0,.block 0,.seq (av (ae Tryz.f14) [1,1,1]) [1,1,1]] (E [(1,.pointer (some f_1)),(3,.slice names_3 names_3n names_3c),(4,.int .i64 i_4),(5,.pointer (some a_5)),(58,.bool t_58)]) h
 noncomputable def Bn : Option (Go.Value × AH):=bw Tryz.prog (au Tryz.prog n) n Tryz.f14 h0 p18 N (aC Tryz.prog n Tryz.f14 h0) (av (ae Tryz.f14) [1,1,0,1,0,0,1,0,0,1,1,1,1,0,1,1,1]) [1,1,1,0,1,1,1,1,0,0,1,0,0,1,0,1,1] [.block 2,.block 1,.seq (av (ae Tryz.f14) [1,1,0,1,0,0,1,1]) [1,1,0,0,1,0,1,1],.loop (av (ae Tryz.f14) [1,1,0,1,0,0]) [0,1,0,1,1] m0,.block 0,.seq (av (ae Tryz.f14) [1,1,1]) [1,1,1]] (E [(1,.pointer (some f_1)),(3,.slice names_3 names_3n names_3c),(4,.int .i64 i_4),(5,.pointer (some a_5)),(58,.bool t_58)]) h
variable {n m0} {h0} {f_1 names_3 names_3n names_3c i_4 a_5 t_58} {h}
theorem Bo {r : Go.Value × AH} (hv : Bn aD n m0 h0 f_1 names_3 names_3n names_3c i_4 a_5 t_58 h = some r) : wN n m0 h0 f_1 names_3 names_3n names_3c i_4 a_5 t_58 h = some r:=aN hv
end
section
variable (N : aB) (n m0 m1 : Nat) (h0 : AH) (f_1 : Addr) (names_3 : Option Addr) (names_3n names_3c : Nat) (i_7 k_8 : Int) (h : AH)
 noncomputable def wO : Option (Go.Value × AH):=aC Tryz.prog n Tryz.f14 h0 (.head (av (ae Tryz.f14) [1,1,1,1,0,1,0,0,1,0,0,1,1,0,0]) [0,1,1,0,0,1,0,0,1,0,1,1,1,1] m0) [.block 7,.block 6,.seq (av (ae Tryz.f14) [1,1,1,1,0,1,0,0,1,1]) [1,1,0,0,1,0,1,1,1,1],.loop (av (ae Tryz.f14) [1,1,1,1,0,1,0,0]) [0,1,0,1,1,1,1] m1,.block 5,.seq (av (ae Tryz.f14) [1,1,1,1,1]) [1,1,1,1,1]] (E [(1,.pointer (some f_1)),(3,.slice names_3 names_3n names_3c),(7,.int .i64 i_7),(8,.int .i64 k_8)]) h
 noncomputable def Bp : Option (Go.Value × AH):=bH Tryz.prog (au Tryz.prog n) n Tryz.f14 h0 p18 N (aC Tryz.prog n Tryz.f14 h0) (av (ae Tryz.f14) [1,1,1,1,0,1,0,0,1,0,0,1,1,0,0]) [0,1,1,0,0,1,0,0,1,0,1,1,1,1] m0 [.block 7,.block 6,.seq (av (ae Tryz.f14) [1,1,1,1,0,1,0,0,1,1]) [1,1,0,0,1,0,1,1,1,1],.loop (av (ae Tryz.f14) [1,1,1,1,0,1,0,0]) [0,1,0,1,1,1,1] m1,.block 5,.seq (av (ae Tryz.f14) [1,1,1,1,1]) [1,1,1,1,1]] (E [(1,.pointer (some f_1)),(3,.slice names_3 names_3n names_3c),(7,.int .i64 i_7),(8,.int .i64 k_8)]) h
variable {n m0 m1} {h0} {f_1 names_3 names_3n names_3c i_7 k_8} {h}
theorem sx {r : Go.Value × AH} (hv : Bp aD n m0 m1 h0 f_1 names_3 names_3n names_3c i_7 k_8 h = some r) : wO n (m0 + 1) m1 h0 f_1 names_3 names_3n names_3c i_7 k_8 h = some r:=aO hv
end
 noncomputable def Km (N : aB) (n : Nat) (f_0a : ByteArray) (f_0b : Option Addr) (f_0bn f_0bc : Nat) (f_0c : Option Addr) (f_0cn f_0cc : Nat) (f_0d : Option Addr) (f_0dn f_0dc : Nat) (f_0e : Option Addr) (f_0en f_0ec : Nat) (f_0f : Option Addr) (f_0fn f_0fc : Nat) (h : AH) : Option (Go.Value × AH):=bQ Tryz.prog (au Tryz.prog n) n p18 N (aC Tryz.prog n) 14 [(.agg #[(.string f_0a),(.slice f_0b f_0bn f_0bc),(.slice f_0c f_0cn f_0cc),(.slice f_0d f_0dn f_0dc),(.slice f_0e f_0en f_0ec),(.slice f_0f f_0fn f_0fc)])] h
theorem Il {n : Nat} {f_0a : ByteArray} {f_0b : Option Addr} {f_0bn f_0bc : Nat} {f_0c : Option Addr} {f_0cn f_0cc : Nat} {f_0d : Option Addr} {f_0dn f_0dc : Nat} {f_0e : Option Addr} {f_0en f_0ec : Nat} {f_0f : Option Addr} {f_0fn f_0fc : Nat} {h : AH} {r : Go.Value × AH} (hv : Km aD n f_0a f_0b f_0bn f_0bc f_0c f_0cn f_0cc f_0d f_0dn f_0dc f_0e f_0en f_0ec f_0f f_0fn f_0fc h = some r) : au Tryz.prog (n + 1) 14 [(.agg #[(.string f_0a),(.slice f_0b f_0bn f_0bc),(.slice f_0c f_0cn f_0cc),(.slice f_0d f_0dn f_0dc),(.slice f_0e f_0en f_0ec),(.slice f_0f f_0fn f_0fc)])] h = some r:=aL hv
theorem NH (N : aB) (n : Nat) (f_0a : ByteArray) (f_0b : Option Addr) (f_0bn f_0bc : Nat) (f_0c : Option Addr) (f_0cn f_0cc : Nat) (f_0d : Option Addr) (f_0dn f_0dc : Nat) (f_0e : Option Addr) (f_0en f_0ec : Nat) (f_0f : Option Addr) (f_0fn f_0fc : Nat) (h : AH) : Km N n f_0a f_0b f_0bn f_0bc f_0c f_0cn f_0cc f_0d f_0dn f_0dc f_0e f_0en f_0ec f_0f f_0fn f_0fc h =
 (N (setLow h h.next) [(.string f_0a),(.slice f_0b f_0bn f_0bc),(.slice f_0c f_0cn f_0cc),(.slice f_0d f_0dn f_0dc),(.slice f_0e f_0en f_0ec),(.slice f_0f f_0fn f_0fc)] 0).bind fun p0 =>
 o8 n n h ⟨p0.1,0,none⟩ none 0 0 0 p0.2:=by kernel_rfl
theorem sy (N : aB) (n m0 : Nat) (h0 : AH) (f_1 : Addr) (names_3 : Option Addr) (names_3n names_3c : Nat) (i_4 : Int) (h : AH) : Bf N n m0 h0 f_1 names_3 names_3n names_3c i_4 h =
 (gL (rdC h (Addr.add f_1 2) 0)).bind fun p0 =>
 cond (cj i_4 (Int.ofNat p0.2.1))
 ((gL (rdC h (Addr.add f_1 2) 0)).bind fun p1 =>
 (p1.1).bind fun a2 =>
 cond (bO i_4 p1.2.1)
 ((gS (rdC h (Addr.add a2 ((Int.toNat i_4) * 5)) 0)).bind fun x3 =>
 (gI .i64 (rdC h (Addr.add a2 ((Int.toNat i_4) * 5)) 1)).bind fun n4 =>
 (gI .i64 (rdC h (Addr.add a2 ((Int.toNat i_4) * 5)) 2)).bind fun n5 =>
 (gI .i64 (rdC h (Addr.add a2 ((Int.toNat i_4) * 5)) 3)).bind fun n6 =>
 (gI .i64 (rdC h (Addr.add a2 ((Int.toNat i_4) * 5)) 4)).bind fun n7 =>
 (N h [(.string (ByteArray.mk (List.toArray []))),(.int .i64 0),(.int .i64 0),(.int .i64 0),(.int .i64 0)] 0).bind fun p8 =>
 (di p8.2 ⟨p8.1,0,none⟩ [(.string x3),(.int .i64 n4),(.int .i64 n5),(.int .i64 n6),(.int .i64 n7)]).bind fun x9 =>
 (gS (rdC x9 (Addr.add ⟨p8.1,0,none⟩ 0) 0)).bind fun x10 =>
 (N x9 [(.string x10)] 1).bind fun p11 =>
 (dg 1 16 (.slice names_3 names_3n names_3c) (.slice (some ⟨p11.1,0,none⟩) 1 1) p11.2).bind fun p12 =>
 (gI .i64 (rdC p12.2 (Addr.add ⟨p8.1,0,none⟩ 1) 0)).bind fun n13 =>
 (au Tryz.prog n 39 [(.int .i64 n13)] p12.2).bind fun p14 =>
 (gB (some p14.1)).bind fun b15 =>
 cond (Bool.not b15)
 (some (aj h0 p14.2 (.bool false)))
 ((gI .i64 (rdC p14.2 (Addr.add ⟨p8.1,0,none⟩ 2) 0)).bind fun n16 =>
 cond (cj n16 1)
 (some (aj h0 p14.2 (.bool false)))
 ((gI .i64 (rdC p14.2 (Addr.add ⟨p8.1,0,none⟩ 2) 0)).bind fun n17 =>
 cond (cj 4096 n17)
 (some (aj h0 p14.2 (.bool false)))
 (Bg n m0 h0 f_1 p12.1.1 p12.1.2.1 p12.1.2.2 i_4 ⟨p8.1,0,none⟩ p14.2))))
 (none))
 (wK n n h0 f_1 names_3 names_3n names_3c 0 h):=by kernel_rfl
theorem Bq (N : aB) (n m0 : Nat) (h0 : AH) (f_1 : Addr) (names_3 : Option Addr) (names_3n names_3c : Nat) (i_4 : Int) (a_5 : Addr) (h : AH) : Bh N n m0 h0 f_1 names_3 names_3n names_3c i_4 a_5 h =
 (gI .i64 (rdC h (Addr.add a_5 3) 0)).bind fun n0 =>
 cond (aY n0 0)
 (wL n m0 h0 f_1 names_3 names_3n names_3c i_4 a_5 n0 true h)
 (wL n m0 h0 f_1 names_3 names_3n names_3c i_4 a_5 n0 (aY n0 3) h):=by kernel_rfl
theorem sA (N : aB) (n m0 : Nat) (h0 : AH) (f_1 : Addr) (names_3 : Option Addr) (names_3n names_3c : Nat) (i_6 : Int) (h : AH) : Bj N n m0 h0 f_1 names_3 names_3n names_3c i_6 h =
 (gL (rdC h (Addr.add f_1 3) 0)).bind fun p0 =>
 cond (cj i_6 (Int.ofNat p0.2.1))
 ((gL (rdC h (Addr.add f_1 3) 0)).bind fun p1 =>
 (p1.1).bind fun a2 =>
 cond (bO i_6 p1.2.1)
 ((gS (rdC h (Addr.add (Addr.add a2 ((Int.toNat i_6) * 3)) 0) 0)).bind fun x3 =>
 (N h [(.string x3)] 1).bind fun p4 =>
 (dg 1 16 (.slice names_3 names_3n names_3c) (.slice (some ⟨p4.1,0,none⟩) 1 1) p4.2).bind fun p5 =>
 (gL (rdC p5.2 (Addr.add f_1 3) 0)).bind fun p6 =>
 (p6.1).bind fun a7 =>
 cond (bO i_6 p6.2.1)
 ((gI .i64 (rdC p5.2 (Addr.add (Addr.add a7 ((Int.toNat i_6) * 3)) 1) 0)).bind fun n8 =>
 (au Tryz.prog n 39 [(.int .i64 n8)] p5.2).bind fun p9 =>
 (gB (some p9.1)).bind fun b10 =>
 cond (Bool.not b10)
 (some (aj h0 p9.2 (.bool false)))
 (wK n m0 h0 f_1 p5.1.1 p5.1.2.1 p5.1.2.2 (aU .i64 i_6 1) p9.2))
 (none))
 (none))
 (wM n n h0 f_1 names_3 names_3n names_3c 0 h):=by kernel_rfl
theorem Br (N : aB) (n m0 : Nat) (h0 : AH) (f_1 : Addr) (names_3 : Option Addr) (names_3n names_3c : Nat) (i_4 : Int) (a_5 : Addr) (t_41 : Int) (t_42 : Bool) (h : AH) : Bk N n m0 h0 f_1 names_3 names_3n names_3c i_4 a_5 t_41 t_42 h =
 cond t_42
 ((gI .i64 (rdC h (Addr.add a_5 4) 0)).bind fun n0 =>
 cond (gv n0 0)
 (some (aj h0 h (.bool false)))
 ((gI .i64 (rdC h (Addr.add a_5 3) 0)).bind fun n1 =>
 cond (aY n1 3)
 ((gI .i64 (rdC h (Addr.add a_5 2) 0)).bind fun n2 =>
 cond (cj 64 n2)
 (some (aj h0 h (.bool false)))
 (o8 n m0 h0 f_1 names_3 names_3n names_3c (aU .i64 i_4 1) h))
 (o8 n m0 h0 f_1 names_3 names_3n names_3c (aU .i64 i_4 1) h)))
 (cond (aY t_41 1)
 (wN n m0 h0 f_1 names_3 names_3n names_3c i_4 a_5 true h)
 (wN n m0 h0 f_1 names_3 names_3n names_3c i_4 a_5 (aY t_41 2) h)):=by kernel_rfl
theorem sB (N : aB) (n m0 : Nat) (h0 : AH) (f_1 : Addr) (names_3 : Option Addr) (names_3n names_3c : Nat) (i_7 : Int) (h : AH) : Bm N n m0 h0 f_1 names_3 names_3n names_3c i_7 h =
 cond (cj i_7 (Int.ofNat names_3n))
 ((names_3).bind fun a0 =>
 cond (bO i_7 names_3n)
 ((gS (rdC h (Addr.add a0 ((Int.toNat i_7) * 1)) 0)).bind fun x1 =>
 (au Tryz.prog n 13 [(.string x1)] h).bind fun p2 =>
 (gB (some p2.1)).bind fun b3 =>
 cond (Bool.not b3)
 (some (aj h0 p2.2 (.bool false)))
 (wO n n m0 h0 f_1 names_3 names_3n names_3c i_7 0 p2.2))
 (none))
 ((gL (rdC h (Addr.add f_1 2) 0)).bind fun p4 =>
 cond (bV (Int.ofNat p4.2.1) 64)
 ((gL (rdC h (Addr.add f_1 3) 0)).bind fun p5 =>
 some (aj h0 h (.bool (bV (Int.ofNat p5.2.1) 64))))
 (some (aj h0 h (.bool false)))):=by kernel_rfl
theorem Bs (N : aB) (n m0 : Nat) (h0 : AH) (f_1 : Addr) (names_3 : Option Addr) (names_3n names_3c : Nat) (i_4 : Int) (a_5 : Addr) (t_58 : Bool) (h : AH) : Bn N n m0 h0 f_1 names_3 names_3n names_3c i_4 a_5 t_58 h =
 cond t_58
 ((gI .i64 (rdC h (Addr.add a_5 4) 0)).bind fun n0 =>
 cond (cj n0 1)
 (some (aj h0 h (.bool false)))
 ((gI .i64 (rdC h (Addr.add a_5 4) 0)).bind fun n1 =>
 (gI .i64 (rdC h (Addr.add a_5 2) 0)).bind fun n2 =>
 cond (cj (fJ n2 64) n1)
 (some (aj h0 h (.bool false)))
 (o8 n m0 h0 f_1 names_3 names_3n names_3c (aU .i64 i_4 1) h)))
 (some (aj h0 h (.bool false))):=by kernel_rfl
theorem sC (N : aB) (n m0 m1 : Nat) (h0 : AH) (f_1 : Addr) (names_3 : Option Addr) (names_3n names_3c : Nat) (i_7 k_8 : Int) (h : AH) : Bp N n m0 m1 h0 f_1 names_3 names_3n names_3c i_7 k_8 h =
 cond (cj k_8 i_7)
 ((names_3).bind fun a0 =>
 cond (bO k_8 names_3n)
 ((gS (rdC h (Addr.add a0 ((Int.toNat k_8) * 1)) 0)).bind fun x1 =>
 (names_3).bind fun a2 =>
 cond (bO i_7 names_3n)
 ((gS (rdC h (Addr.add a2 ((Int.toNat i_7) * 1)) 0)).bind fun x3 =>
 cond (BEq.beq (ByteArray.toList x1) (ByteArray.toList x3))
 (some (aj h0 h (.bool false)))
 (wO n m0 m1 h0 f_1 names_3 names_3n names_3c i_7 (aU .i64 k_8 1) h))
 (none))
 (none))
 (wM n m1 h0 f_1 names_3 names_3n names_3c (aU .i64 i_7 1) h):=by kernel_rfl
def p17 : List (List Nat × List Nat):=[([0,1,0,1],[0,3])]
section
variable (N : aB) (n m0 : Nat) (h0 : AH) (s_0 : ByteArray) (i_3 : Int) (h : AH)
 noncomputable def sD : Option (Go.Value × AH):=aC Tryz.prog n Tryz.f13 h0 (.head (av (ae Tryz.f13) [1,0,1,0,0]) [0,1,0,1] m0) [.block 0,.seq (av (ae Tryz.f13) [1,1]) [1,1]] (E [(0,.string s_0),(3,.int .i64 i_3)]) h
 noncomputable def Bu : Option (Go.Value × AH):=bH Tryz.prog (au Tryz.prog n) n Tryz.f13 h0 p17 N (aC Tryz.prog n Tryz.f13 h0) (av (ae Tryz.f13) [1,0,1,0,0]) [0,1,0,1] m0 [.block 0,.seq (av (ae Tryz.f13) [1,1]) [1,1]] (E [(0,.string s_0),(3,.int .i64 i_3)]) h
variable {n m0} {h0} {s_0 i_3} {h}
theorem sE {r : Go.Value × AH} (hv : Bu aD n m0 h0 s_0 i_3 h = some r) : sD n (m0 + 1) h0 s_0 i_3 h = some r:=aO hv
end
 noncomputable def Kn (N : aB) (n : Nat) (s_0 : ByteArray) (h : AH) : Option (Go.Value × AH):=bQ Tryz.prog (au Tryz.prog n) n p17 N (aC Tryz.prog n) 13 [(.string s_0)] h
theorem Im {n : Nat} {s_0 : ByteArray} {h : AH} {r : Go.Value × AH} (hv : Kn aD n s_0 h = some r) : au Tryz.prog (n + 1) 13 [(.string s_0)] h = some r:=aL hv
theorem NI (N : aB) (n : Nat) (s_0 : ByteArray) (h : AH) : Kn N n s_0 h =
 sD n n h s_0 0 (setLow h h.next):=by kernel_rfl
theorem sF (N : aB) (n m0 : Nat) (h0 : AH) (s_0 : ByteArray) (i_3 : Int) (h : AH) : Bu N n m0 h0 s_0 i_3 h =
 cond (cj i_3 (Int.ofNat (ByteArray.size s_0)))
 ((JL s_0 i_3).bind fun n0 =>
 (au Tryz.prog n 37 [(.int .u8 n0)] h).bind fun p1 =>
 (gB (some p1.1)).bind fun b2 =>
 cond (Bool.not b2)
 (cond (aY i_3 0)
 (some (aj h0 p1.2 (.bool false)))
 ((JL s_0 i_3).bind fun n3 =>
 (au Tryz.prog n 38 [(.int .u8 n3),(.int .i64 10)] p1.2).bind fun p4 =>
 (gI .i64 (some p4.1)).bind fun n5 =>
 cond (cj n5 0)
 (some (aj h0 p4.2 (.bool false)))
 (sD n m0 h0 s_0 (aU .i64 i_3 1) p4.2)))
 (sD n m0 h0 s_0 (aU .i64 i_3 1) p1.2))
 (cond (bV 1 (Int.ofNat (ByteArray.size s_0)))
 (some (aj h0 h (.bool (bV (Int.ofNat (ByteArray.size s_0)) 64))))
 (some (aj h0 h (.bool false)))):=by kernel_rfl
def EI : List (List Nat × List Nat):=[]
 noncomputable def Ko (N : aB) (n : Nat) (c_0 : Int) (h : AH) : Option (Go.Value × AH):=bQ Tryz.prog (au Tryz.prog n) n EI N (aC Tryz.prog n) 37 [(.int .u8 c_0)] h
theorem In {n : Nat} {c_0 : Int} {h : AH} {r : Go.Value × AH} (hv : Ko aD n c_0 h = some r) : au Tryz.prog (n + 1) 37 [(.int .u8 c_0)] h = some r:=aL hv
theorem NJ (N : aB) (n : Nat) (c_0 : Int) (h : AH) : Ko N n c_0 h =
 cond (bV 97 c_0)
 (cond (bV c_0 122)
 (some (aj h (setLow h h.next) (.bool true)))
 (cond (bV 65 c_0)
 (cond (bV c_0 90)
 (some (aj h (setLow h h.next) (.bool true)))
 (some (aj h (setLow h h.next) (.bool (aY c_0 95)))))
 (some (aj h (setLow h h.next) (.bool (aY c_0 95))))))
 (cond (bV 65 c_0)
 (cond (bV c_0 90)
 (some (aj h (setLow h h.next) (.bool true)))
 (some (aj h (setLow h h.next) (.bool (aY c_0 95)))))
 (some (aj h (setLow h h.next) (.bool (aY c_0 95))))):=by kernel_rfl
def Io : List (List Nat × List Nat):=[([1,1,1],[0,1,5]),([1,1,1,1],[0,1,5]),([1,1,1,1,1],[1,5])]
section
variable (N : aB) (n : Nat) (h0 : AH) (c_0 base_1 n_5 : Int) (h : AH)
 noncomputable def sG : Option (Go.Value × AH):=aC Tryz.prog n Tryz.f38 h0 (.code (av (ae Tryz.f38) [1,1,1]) [1,1,1]) [] (E [(0,.int .u8 c_0),(1,.int .i64 base_1),(5,.int .i64 n_5)]) h
 noncomputable def Bv : Option (Go.Value × AH):=bw Tryz.prog (au Tryz.prog n) n Tryz.f38 h0 Io N (aC Tryz.prog n Tryz.f38 h0) (av (ae Tryz.f38) [1,1,1]) [1,1,1] [] (E [(0,.int .u8 c_0),(1,.int .i64 base_1),(5,.int .i64 n_5)]) h
variable {n} {h0} {c_0 base_1 n_5} {h}
theorem Bw {r : Go.Value × AH} (hv : Bv aD n h0 c_0 base_1 n_5 h = some r) : sG n h0 c_0 base_1 n_5 h = some r:=aN hv
end
section
variable (N : aB) (n : Nat) (h0 : AH) (c_0 base_1 n_5 : Int) (h : AH)
 noncomputable def sH : Option (Go.Value × AH):=aC Tryz.prog n Tryz.f38 h0 (.code (av (ae Tryz.f38) [1,1,1,1]) [1,1,1,1]) [] (E [(0,.int .u8 c_0),(1,.int .i64 base_1),(5,.int .i64 n_5)]) h
 noncomputable def By : Option (Go.Value × AH):=bw Tryz.prog (au Tryz.prog n) n Tryz.f38 h0 Io N (aC Tryz.prog n Tryz.f38 h0) (av (ae Tryz.f38) [1,1,1,1]) [1,1,1,1] [] (E [(0,.int .u8 c_0),(1,.int .i64 base_1),(5,.int .i64 n_5)]) h
variable {n} {h0} {c_0 base_1 n_5} {h}
theorem Bz {r : Go.Value × AH} (hv : By aD n h0 c_0 base_1 n_5 h = some r) : sH n h0 c_0 base_1 n_5 h = some r:=aN hv
end
section
variable (N : aB) (n : Nat) (h0 : AH) (base_1 n_5 : Int) (h : AH)
 noncomputable def sI : Option (Go.Value × AH):=aC Tryz.prog n Tryz.f38 h0 (.code (av (ae Tryz.f38) [1,1,1,1,1]) [1,1,1,1,1]) [] (E [(1,.int .i64 base_1),(5,.int .i64 n_5)]) h
 noncomputable def BA : Option (Go.Value × AH):=bw Tryz.prog (au Tryz.prog n) n Tryz.f38 h0 Io N (aC Tryz.prog n Tryz.f38 h0) (av (ae Tryz.f38) [1,1,1,1,1]) [1,1,1,1,1] [] (E [(1,.int .i64 base_1),(5,.int .i64 n_5)]) h
variable {n} {h0} {base_1 n_5} {h}
theorem BB {r : Go.Value × AH} (hv : BA aD n h0 base_1 n_5 h = some r) : sI n h0 base_1 n_5 h = some r:=aN hv
end
 noncomputable def Kr (N : aB) (n : Nat) (c_0 base_1 : Int) (h : AH) : Option (Go.Value × AH):=bQ Tryz.prog (au Tryz.prog n) n Io N (aC Tryz.prog n) 38 [(.int .u8 c_0),(.int .i64 base_1)] h
theorem Ip {n : Nat} {c_0 base_1 : Int} {h : AH} {r : Go.Value × AH} (hv : Kr aD n c_0 base_1 h = some r) : au Tryz.prog (n + 1) 38 [(.int .u8 c_0),(.int .i64 base_1)] h = some r:=aL hv
theorem NK (N : aB) (n : Nat) (c_0 base_1 : Int) (h : AH) : Kr N n c_0 base_1 h =
 cond (bV 48 c_0)
 (cond (bV c_0 57)
 (sG n h c_0 base_1 (aR .i64 (fy .u8 c_0 48)) (setLow h h.next))
 (sG n h c_0 base_1 (-1) (setLow h h.next)))
 (sG n h c_0 base_1 (-1) (setLow h h.next)):=by kernel_rfl
theorem BC (N : aB) (n  : Nat) (h0 : AH) (c_0 base_1 n_5 : Int) (h : AH) : Bv N n  h0 c_0 base_1 n_5 h =
 cond (bV 97 c_0)
 (cond (bV c_0 102)
 (sH n h0 c_0 base_1 (aU .i64 (aR .i64 (fy .u8 c_0 97)) 10) h)
 (sH n h0 c_0 base_1 n_5 h))
 (sH n h0 c_0 base_1 n_5 h):=by kernel_rfl
theorem BD (N : aB) (n  : Nat) (h0 : AH) (c_0 base_1 n_5 : Int) (h : AH) : By N n  h0 c_0 base_1 n_5 h =
 cond (bV 65 c_0)
 (cond (bV c_0 70)
 (sI n h0 base_1 (aU .i64 (aR .i64 (fy .u8 c_0 65)) 10) h)
 (sI n h0 base_1 n_5 h))
 (sI n h0 base_1 n_5 h):=by kernel_rfl
theorem BE (N : aB) (n  : Nat) (h0 : AH) (base_1 n_5 : Int) (h : AH) : BA N n  h0 base_1 n_5 h =
 cond (bV base_1 n_5)
 (some (aj h0 h (.int .i64 (-1))))
 (some (aj h0 h (.int .i64 n_5))):=by kernel_rfl
end Go.Proofs.YtjdomdndflfjdaaGreatDoor.Kb
