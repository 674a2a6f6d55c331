/- Joined texts: JE. -/
import Derived.KernelRfl
import Derived.Test.YtjdomdndflfjdabGreatDoorJD
import Derived.Test.YtjdomdndflfjdabGreatDoorRD
import Derived.Test.YtjdomdndflfjdabGreatDoorXC
namespace Go.Proofs.YtjdomdndflfjdabGreatDoor.Kb
open Go Go.Proofs Go.Proofs.YtjdomdndflfjdabGreatDoor.X
set_option linter.unusedSimpArgs false
set_option linter.unusedVariables false
theorem CK {n : Int} (h0 : 0 ≤ n) (h1 : n < 65536) : aQ .i64 n = n:=by
 unfold aQ
 rw [IntKind.wrap_i64]
 omega
theorem Gr.some {a : Option Addr} {n c z : Nat} {cs : List Go.Value} (G : Gr a n c z cs) (hn : 0 < n) : aG ≤ c:=by
 rcases G.2.2 with h | ⟨_,h⟩
 ·exact h
 ·omega
theorem FN.un {m : Nat} {τ : Nat → Nat} {g : AH} {a : ByteArray} {b : Option Addr} {bn bc : Nat} {c : Option Addr} {cn cc : Nat} {d : Option Addr} {dn dc : Nat} {e : Option Addr} {en ec : Nat} {f : Option Addr} {fn fc : Nat} {WL EL : List Int} {LB : List ba}
  (F : FN m τ g (.agg #[.string a,.slice b bn bc,.slice c cn cc,.slice d dn dc,.slice e en ec,.slice f fn fc]) WL EL LB) : ∃ fcs,Go.Value.string a = iv ∧ (bn = WL.length ∧ cn = 2 ∧ cc = 2 ∧ dn = 2 ∧ dc = 2 ∧ en = EL.length ∧ fn = LB.length) ∧
  Rw m τ 3 g b 1 (bU WL) ∧ Rw m τ 6 g c 5 oR ∧ Rw m τ 6 g d 3 vL ∧ Rw m τ 12 g e 1 (bU EL) ∧ Rw m τ 7 g f 9 fcs ∧ BL m τ g fcs LB ∧ WL.length < 400 ∧ EL.length ≤ 3 ∧ 1 ≤ LB.length ∧ LB.length ≤ 5:=by
 obtain ⟨wa,wc,ma,sa,ea,ec',fa,fc',fcs,ev,b1,b2,b3,b4,⟨b5,b6⟩,b7,b8,b9,b10,b11⟩:=F
 injection ev with ev
 injection ev with ev
 obtain ⟨ea1,ev⟩:=List.cons.inj ev
 obtain ⟨ea2,ev⟩:=List.cons.inj ev
 obtain ⟨ea3,ev⟩:=List.cons.inj ev
 obtain ⟨ea4,ev⟩:=List.cons.inj ev
 obtain ⟨ea5,ev⟩:=List.cons.inj ev
 obtain ⟨ea6,ev⟩:=List.cons.inj ev
 injection ea2 with q1 q2 q3
 injection ea3 with q4' q5 q6
 injection ea4 with q7 q8 q9
 injection ea5 with q10 q11 q12
 injection ea6 with q13 q14 q15
 subst q1 q2 q3 q4' q5 q6 q7 q8 q9 q10 q11 q12 q13 q14 q15
 exact ⟨fcs,ea1,⟨rfl,rfl,rfl,rfl,rfl,rfl,rfl⟩,b1,b2,b3,b4,b5,b7,b8,b9,b10,b11⟩
theorem Rw.le {m : Nat} {τ : Nat → Nat} {k : Nat} {g : AH} {a : Option Addr} {z : Nat} {cs : List Go.Value} (H : WF g) (R : Rw m τ k g a z cs) (hc : 0 < cs.length) : m ≤ g.next ∧ ∃ β,a = Option.some ⟨β,0,none⟩:=by
 rcases R with ⟨_,e⟩ | ⟨β,G,e,r1,r2,r3,r4⟩
 ·rw [e,List.length_nil] at hc
  omega
 ·have h1:=H.lt r1
  have h2 : G ≤ β:=H.gle β _ r1
  exact ⟨by omega,β,e⟩
theorem IR.app1 {m : Nat} {τ : Nat → Nat} {g : AH} {cs : List Go.Value} {IL : List bF} (R : IR m τ g cs IL) (hl : cs.length = IL.length * 5) : IR m τ g (cs ++ [.int .i64 77,.int .i64 0,.slice none 0 0,.int .u64 0,.int .i64 0]) (IL ++ [⟨77,0,[],0,0⟩]) :=
 R.app hl ⟨77,0,[],0,0⟩ (aa:=none) (ac:=0) .nil
theorem Kl (n : Nat) {h : AH} (H : WF h) {pa : Option Addr} {pc : Nat} {parts : List fF} (RQ0 : RQ h pa parts) {ra : Option Addr} {rc : Nat} {RL : List Int} (RU0 : RU h ra RL) (hn : parts.length + 2300 < n) (hx : parts.length ≤ 9223372036854775807)
  {cf : FuncId → List Go.Value → AH → Option (Go.Value × AH)} (hcf : ∀ f a h,f ≠ 4 → cf f a h = az Tryz.prog n f a h) (c5 : ∀ g,Kq h g → cf 4 [] g = some (.bool true,g)) (wh nn : Int) (hw : 0 ≤ wh ∧ wh < 256) (hnn : 0 ≤ nn ∧ nn < 65536) :
  ∃ g',yS Tryz.prog cf n 3 [.agg #[.slice pa parts.length pc,.slice ra RL.length rc],.int .u8 wh,.int .u16 nn] h = some (.bool true,g'):=by
 have H0 : WF (setLow h h.next):=bO H _
 have K0 : Kq h (setLow h h.next):=Kq.refl H
 obtain ⟨g1,k1,A1,O1,_,n1,l1⟩:=bP (m:=h.next) (τ:=fun _ => 99) H0 (Nat.le_refl _) 99 0 [.slice pa parts.length pc,.slice ra RL.length rc]
 have K1:=K0.bt (Nat.le_refl _) A1
 rw [aD] at k1 n1
 have O1 : cp g1 h.next [.slice pa parts.length pc,.slice ra RL.length rc]:=O1.1
 have c9 : ∀ a h,cf 5 a h = az Tryz.prog n 5 a h:=fun a h => hcf 5 a h (by decide)
 obtain ⟨a,b,bn,bc,c,cn,cc,d,dn,dc,e,en,ec,f,fn,fc,r,g2,e2,w2,n2,hr⟩:=Hf n A1.wf (RQ0.kq H K1) (pc:=pc) (RU0.kq H K1) (rc:=rc) (by omega) hx
 cases r with
 | false =>
  obtain ⟨g3,k3,A3,O3,_,n3,l3⟩:=bP (m:=0) (τ:=fun _ => 99) w2 (Nat.zero_le _) 98 0 zc
  obtain ⟨g4,k4,A4,O4,n4,l4⟩:=cM (o:=0) (vs:=[.string a,.slice b bn bc,.slice c cn cc,.slice d dn dc,.slice e en ec,.slice f fn fc]) A3.wf O3 (by simp [zc])
  obtain ⟨g',e1,_⟩:=EY h g4 (.bool true)
  unfold zc at *
  refine ⟨g',BW ?_⟩
  simp only [k1,ak,ae,an,au,ap,aq,cond_true,cond_false,c5 g1 K1,Bool.not_true,Bool.not_false,O1.rd,Nat.zero_add,Nat.add_zero,List.getElem?_cons_zero,List.getElem?_cons_succ,aj,Nat.reduceAdd,c9,e2,iV,iW,iX,jP,jQ,jR,ov,ow,ox,oy,oz,oA,oB,k3,k4,e1]
 | true =>
  obtain ⟨m,τ,WL,EL,LB,hm,F⟩:=hr rfl
  have F0:=F
  obtain ⟨fcs0,ea1,⟨rfl,rfl,rfl,rfl,rfl,rfl,rfl⟩,_⟩:=F0.un
  unfold iv at ea1
  injection ea1 with ea1
  subst ea1
  obtain ⟨g3,k3,A3,O3,_,n3,l3⟩:=bP (m:=0) (τ:=τ) w2 (Nat.zero_le _) 98 0 zc
  have F3:=F.keep w2 A3 (by simp)
  generalize upd τ g2.next 98 = τ3 at A3 O3 F3
  obtain ⟨g4,k4,A4,O4,n4,l4⟩:=cM (o:=0) (vs:=[iv,.slice b WL.length bc,.slice c 2 2,.slice d 2 2,.slice e EL.length ec,.slice f LB.length fc]) A3.wf O3 (by simp [zc])
  have F4:=F3.keep A3.wf A4 (by simp)
  have O4 : Ow 0 τ3 98 g4 g2.next [iv,.slice b WL.length bc,.slice c 2 2,.slice d 2 2,.slice e EL.length ec,.slice f LB.length fc]:=O4
  have w4:=A4.wf
  obtain ⟨fcs,_,_,b1,b2,b3,b4,b5,b7,b8,b9,b10,b11⟩:=F4.un
  have hfl:=b7.1
  obtain ⟨hm4,β,rfl⟩:=b5.le w4 (by omega)
  obtain ⟨kk,hkk,hk2⟩:=ji (k:=.i64) hnn.1 (show 0 < LB.length by omega)
  obtain ⟨X,hX⟩ : ∃ X,LB[kk]? = some X:=⟨_,List.getElem?_eq_getElem hk2⟩
  obtain ⟨cells,c1,pa',pc',ia,ic,ta,tc,ra',rc',ics,tcs,rfl,⟨c3,c4⟩,⟨c6,c7,c8⟩,⟨c10,c11⟩,⟨c12,c13⟩,d1,d2,d3,d4,d5,d6⟩:=b7.2 kk X hX
  have bX:=Ib b7 X (List.mem_of_getElem? hX)
  have ez : aX (LB.length : Int) 0 = false:=by
   unfold aX
   exact beq_eq_false_iff_ne.2 (by omega)
  have eb:=aK (i:=(kk : Int)) (n:=LB.length) (by omega) (by omega)
  obtain ⟨w3,hw3,hw4⟩:=ji (k:=.u8) hw.1 (show 0 < 2 by omega)
  have hw3 : ce .u8 wh 2 = (w3 : Int):=hw3
  have rd:=fun (j : Nat) (v : Go.Value) (hv : fcs[kk * 9 + j]? = some v) (o i : Nat) (ho : o + i = kk * 9 + j) => (show rdC g4 ⟨β,o,none⟩ i = some v by
   obtain ⟨γ,e,h⟩:=b5.rd hv
   injection e with e
   injection e with e
   subst e
   exact h o i ho)
  have fin : ∀ {g5 : AH} {τ5 : Nat → Nat} {m0 : Nat} {S : List Nat},Bt m0 τ3 τ5 g4 g5 S → 98 ∉ S → xP g5 (.agg #[iv,.slice b WL.length bc,.slice c 2 2,.slice d 2 2,.slice e EL.length ec,.slice (some ⟨β,0,none⟩) LB.length fc]) →
    ∃ g',BV cf n h ⟨g2.next,0,none⟩ g5 = some (.bool true,g'):=fun A hS B => Ie n (by omega) hcf A.wf (O4.keep w4 A hS).1 rfl B
  rcases (show w3 = 0 ∨ w3 = 1 by omega) with rfl | rfl
  ·obtain ⟨g5,k5,A5,R5,n5⟩:=EZ (o:=kk * 9 + 2) (vs:=[.int .i64 9]) w4 (Nat.le_refl _) b5 (by simp; omega)
   rw [lx _ _ _ (by omega)] at R5
   have no : ∀ s,s ≠ 7 → s ∉ [7]:=fun s hs => by simpa using hs
   have B:=xP.mk (wc:=bc) (ec:=ec) (fc:=fc) (X':={ X with kind:=9 }) w4 A5 b1 b2 b3 b4 b7 b8 b9 b11 hk2 (fun s hs => .inl (List.mem_singleton.1 hs)) (o:=2) (by omega) rfl c1 R5
    ⟨pa',pc',ia,ic,ta,tc,ra',rc',rfl,(c3.keep w4 A5 (no _ (by omega))).ri,(c8.keep w4 A5 (no _ (by omega))).rn (c6.keep w4 A5 (no _ (by omega))),ER.re (c10.keep w4 A5 (no _ (by omega))) (fun j x hx => by
     obtain ⟨aa,ac,q1,q2⟩:=c11 j x hx
     exact ⟨aa,ac,q1,q2.keep w4 A5 (no _ (by omega))⟩),(c12.keep w4 A5 (no _ (by omega))).ri⟩ bX (fun hb => by
     rcases hb.t with ⟨h,_⟩ | ⟨h,_⟩ | ⟨h,_⟩
     ·have h : (9 : Int) = 1:=h
      omega
     ·have h : (9 : Int) = 2:=h
      omega
     ·have h : (9 : Int) = 3:=h
      omega)
   obtain ⟨g',hg'⟩:=fin A5 (by simp) B
   unfold zc iv at *
   refine ⟨g',BW ?_⟩
   simp only [k1,ak,ae,an,au,ap,aq,cond_true,cond_false,c5 g1 K1,Bool.not_true,Bool.not_false,O1.rd,Nat.zero_add,Nat.add_zero,List.getElem?_cons_zero,List.getElem?_cons_succ,aj,Nat.reduceAdd,c9,e2,iV,iW,iX,jP,jQ,jR,ov,ow,ox,oy,oz,oA,oB,k3,k4,O4.rd,dl,ez,CK hnn.1 hnn.2,hkk,eb,Int.toNat_natCast,hw3,show aX ((0 : Nat) : Int) 0 = true from rfl,k5,hg']
  ·obtain ⟨g5,g6,a',k5,k6,A6,R6,G6,ea',n6⟩:=rj (m:=m) (m':=m) (by_:=56) w4 (Nat.le_refl _) hm4 [.int .i64 77,.int .i64 0,.slice none 0 0,.int .u64 0,.int .i64 0] c6 c7 rfl (by omega) (by omega)
   generalize upd τ3 g4.next (21 + 4 * kk) = τ6 at A6 R6
   have no : ∀ s,s ≠ 21 + 4 * kk → s ∉ [21 + 4 * kk]:=fun s hs => by simpa using hs
   have b56:=b5.keep w4 A6 (no _ (by omega))
   obtain ⟨g7,k7,A7,R7,n7⟩:=EZ (m:=m) (o:=kk * 9 + 1) (vs:=[.slice a' (X.insts.length + 1) aG]) A6.wf (Nat.le_refl _) b56 (by simp; omega)
   rw [lx _ _ _ (by omega)] at R7
   have A67 : Bt m τ3 τ6 g4 g7 [7,21 + 4 * kk]:=(A6.mono (fun s hs => by simp at hs ⊢; exact .inr hs)).trans w4 (A7.mono (fun s hs => by simp at hs ⊢; exact .inl hs))
   have no : ∀ s,s ≠ 7 → s ≠ 21 + 4 * kk → s ∉ [7,21 + 4 * kk]:=fun s h1 h2 => by simp; exact ⟨h1,h2⟩
   have eR : (X.insts ++ [(⟨77,0,[],0,0⟩ : bF)]).length = X.insts.length + 1:=by simp
   have I7:=(c8.keep w4 A67 (no _ (by omega) (by omega))).app1 c7.1
   have B:=xP.mk (wc:=bc) (ec:=ec) (fc:=fc) (X':={ X with insts:=X.insts ++ [⟨77,0,[],0,0⟩] }) w4 A67 b1 b2 b3 b4 b7 b8 b9 b11 hk2 (fun s hs => by simp at hs; omega) (o:=1) (v':=.slice a' (X.insts.length + 1) aG) (by omega) rfl c1 R7
    ⟨pa',pc',a',aG,ta,tc,ra',rc',by rw [eR]; rfl,(c3.keep w4 A67 (no _ (by omega) (by omega))).ri,I7.rn (R6.keep A6.wf A7 (by simp; omega)),ER.re (c10.keep w4 A67 (no _ (by omega) (by omega))) (fun j x hx => by
     obtain ⟨aa,ac,q1,q2⟩:=c11 j x hx
     exact ⟨aa,ac,q1,q2.keep w4 A67 (no _ (by omega) (by omega))⟩),(c12.keep w4 A67 (no _ (by omega) (by omega))).ri⟩ ⟨bX.1,by show (X.insts ++ [_]).length < 100; rw [eR]; omega,bX.2.2.1,bX.2.2.2.1,bX.2.2.2.2.1,fun x hx => by
     rcases List.mem_append.1 hx with h | h
     ·exact bX.2.2.2.2.2 x h
     ·rw [List.mem_singleton.1 h]
      decide⟩ (fun hb => by
     have:=hb.i ⟨77,0,[],0,0⟩ (by simp)
     exact absurd this (by decide))
   obtain ⟨g',hg'⟩:=fin A67 (by simp; omega) B
   have r5:=rd 1 _ (c1 1 _ rfl) (kk * 9 + 1) 0 (by omega)
   unfold zc iv at *
   refine ⟨g',BW ?_⟩
   simp only [k1,ak,ae,an,au,ap,aq,cond_true,cond_false,c5 g1 K1,Bool.not_true,Bool.not_false,O1.rd,Nat.zero_add,Nat.add_zero,List.getElem?_cons_zero,List.getElem?_cons_succ,aj,Nat.reduceAdd,c9,e2,iV,iW,iX,jP,jQ,jR,ov,ow,ox,oy,oz,oA,oB,k3,k4,O4.rd,dl,ez,CK hnn.1 hnn.2,hkk,eb,Int.toNat_natCast,hw3,show aX ((1 : Nat) : Int) 0 = false from rfl,r5,k5,k6,k7,hg']
open Go Go.Proofs Go.Proofs.YtjdomdndflfjdabGreatDoor Go.Proofs.YtjdomdndflfjdabGreatDoor.X
set_option maxRecDepth 100000
theorem CL {h : AH} (H : WF h) (cells : List Value) (z : Nat) : Kp h (h.newRo cells z) ∧ ∀ o i x,cells[o + i]? = some x → rdC (h.newRo cells z) ⟨h.next,o,none⟩ i = some x:=by
 have hb : ∀ β,(h.newRo cells z).blks.get β = if β = h.next then some ⟨cells,z,h.next,true⟩ else h.blks.get β:=fun β => Tr.get_set _ _ _ _
 have hw : WF (h.newRo cells z):=⟨fun β b e => by
  rw [hb] at e
  split at e
  ·rename_i hx
   injection e with e
   subst e
   exact Nat.le_of_eq hx.symm
  ·exact H.gle β b e,fun β hβ => by
  have hβ : h.next + 1 ≤ β:=hβ
  rw [hb,if_neg (by omega)]
  exact H.new β (by omega)⟩
 refine ⟨⟨hw,rfl,Nat.le_succ _,fun β hβ => ?_⟩,fun o i x hx => ?_⟩
 ·rw [hb,if_neg (by omega)]
  exact ⟨rfl,rfl⟩
 ·have hr : (h.newRo cells z).rd h.next = some ⟨cells,z,h.next,true⟩:=dp (by rw [hb,if_pos rfl]) (by
   show h.next ∈ (h.grps.get h.next).getD [h.next]
   rw [(H.new h.next (Nat.le_refl _)).2]
   exact List.mem_singleton.2 rfl)
  unfold X.rdC
  rw [hr]
  exact hx
section
variable {H : Type} {P : Program} {L : Type} {N z : Nat} {e t : TypeId} (Q : AH → List Value → L → Prop) (mono : ∀ {h g cs x},WF h → Kp h g → Q h cs x → Q g cs x) (len : ∀ {h cs x},Q h cs x → cs.length = z)
 (el : ∀ (d : DataW H),eP P N e d → ∀ h,WF h → ∃ cs x h',ed P N e d h = some (cs,h') ∧ Kp h h' ∧ Q h' cs x)
 include mono len el
theorem yi : ∀ (ds : List (DataW H)),(∀ d ∈ ds,eP P N e d) → ∀ h,WF h → ∃ (cells : List Value) (xs : List L) (h' : AH),ep (ed P N) (ds.map fun d => (e,d)) h = some (cells,h') ∧ Kp h h' ∧ xs.length = ds.length ∧ cells.length = ds.length * z ∧
  ∀ i x,xs[i]? = some x → ∃ cs,Q h' cs x ∧ ∀ k v,cs[k]? = some v → cells[i * z + k]? = some v
 | [],_,h,Hh => ⟨[],[],h,rfl,Kp.refl Hh,rfl,by simp,fun i x hx => by cases hx⟩
 | d :: ds,hd,h,Hh => by
  obtain ⟨c1,x1,h1,e1,K1,q1⟩:=el d (hd d (List.mem_cons_self ..)) h Hh
  obtain ⟨cells,xs,h2,e2,K2,l1,l2,q2⟩:=yi ds (fun x hx => hd x (List.mem_cons_of_mem _ hx)) h1 K1.wf
  have hz:=len q1
  refine ⟨c1 ++ cells,x1 :: xs,h2,?_,K1.trans K2,congrArg Nat.succ l1,by rw [List.length_append,hz,l2,List.length_cons,Nat.add_mul]; omega,fun i x hx => ?_⟩
  ·rw [List.map_cons]
   unfold ep
   simp only
   rw [e1,Option.bind_some]
   simp only
   rw [e2]
   rfl
  ·cases i with
   | zero =>
    injection hx with hx
    subst hx
    refine ⟨c1,mono K1.wf K2 q1,fun k v hv => ?_⟩
    rw [Nat.zero_mul,Nat.zero_add,List.getElem?_append_left (List.getElem?_eq_some_iff.1 hv).1]
    exact hv
   | succ i =>
    obtain ⟨cs,g1,g2⟩:=q2 i x hx
    refine ⟨cs,g1,fun k v hv => ?_⟩
    rw [List.getElem?_append_right (by rw [hz,Nat.add_mul]; omega),hz,show (i + 1) * z + k - z = i * z + k by rw [Nat.add_mul]; omega]
    exact g2 k v hv
theorem rC (ht : P.underlying t = some (.slice e)) (hz : P.cellsOf e = z) (h0 : 0 < z) (d : DataW H) (hd : eP P (N + 1) t d) (h : AH) (Hh : WF h) :
  ∃ (a : Option Addr) (n c : Nat) (xs : List L) (h' : AH),ed P (N + 1) t d h = some ([.slice a n c],h') ∧ Kp h h' ∧ n = xs.length ∧ n ≤ maxLen ∧ ∀ i x,xs[i]? = some x → ∃ cs,Q h' cs x ∧ At h' a z i cs:=by
 unfold eP at hd
 rw [ht] at hd
 rcases hd with rfl | ⟨xs,ys,rfl,hl,hx,hy⟩
 ·exact ⟨none,0,0,[],h,by unfold ed; rw [ht],Kp.refl Hh,rfl,Nat.zero_le _,fun i x hx => by cases hx⟩
 ·by_cases h00 : xs.length + ys.length = 0
  ·have hx0 : xs = []:=List.eq_nil_of_length_eq_zero (by omega)
   have hy0 : ys = []:=List.eq_nil_of_length_eq_zero (by omega)
   subst hx0 hy0
   exact ⟨some ⟨0,0,none⟩,0,0,[],h,by unfold ed; rw [ht]; rfl,Kp.refl Hh,rfl,Nat.zero_le _,fun i x hx => by cases hx⟩
  ·obtain ⟨cells,ns,h1,e1,K1,l1,l2,q⟩:=yi Q mono len el (xs ++ ys) (fun d hd => (List.mem_append.1 hd).elim (hx d) (hy d)) h Hh
   obtain ⟨K,S⟩:=CL K1.wf cells z
   have hlen : ns.length = xs.length + ys.length:=by rw [l1,List.length_append]
   refine ⟨some ⟨h1.next,0,none⟩,xs.length,xs.length + ys.length,ns.take xs.length,h1.newRo cells z,?_,K1.trans K,by rw [List.length_take]; omega,by omega,fun i x hx => ?_⟩
   ·unfold ed
    rw [ht]
    simp only
    rw [show Nat.beq (xs.length + ys.length) 0 = false from (by
     cases hb : Nat.beq (xs.length + ys.length) 0 with
     | false => rfl
     | true => exact absurd (Nat.eq_of_beq_eq_true hb) h00),hz,show Nat.beq z 0 = false from (by
     cases hb : Nat.beq z 0 with
     | false => rfl
     | true => have:=Nat.eq_of_beq_eq_true hb; omega)]
    have hO : Nat.ble aG (xs.length + ys.length) = false:=by
     cases hb : Nat.ble aG (xs.length + ys.length) with
     | false => rfl
     | true =>
      have h1:=Nat.le_of_ble_eq_true hb
      unfold maxLen at hl
      have : (aG : Nat) = 2 ^ 63:=rfl
      omega
    rw [hO,e1]
    rfl
   ·have hx : ns[i]? = some x:=by
     rw [List.getElem?_take] at hx
     split at hx
     ·exact hx
     ·cases hx
    obtain ⟨cs,g1,g2⟩:=q i x hx
    exact ⟨cs,mono K1.wf K g1,h1.next,0,rfl,fun k v hv => S _ _ _ (by rw [Nat.zero_add]; exact g2 k v hv)⟩
end
section
variable {H : Type}
theorem Mk : Tryz.prog.underlying 22 = some (.slice 95):=by kernel_rfl
theorem Ml : Tryz.prog.underlying 23 = some (.slice 5):=by kernel_rfl
theorem Mn : Tryz.prog.underlying 91 = some (.slice 102):=by kernel_rfl
theorem z5 : Tryz.prog.cellsOf 5 = 1:=by kernel_rfl
theorem Km : Tryz.prog.cellsOf 102 = 6:=by kernel_rfl
theorem Kn : Tryz.prog.cellsOf 95 = 9:=by kernel_rfl
theorem u5 : Tryz.prog.underlying 5 = some (.int .u8):=by kernel_rfl
theorem Mo : Tryz.prog.underlying 43 = some (.int .u64):=by kernel_rfl
theorem Mq : Tryz.prog.underlying 26 = some (.int .u16):=by kernel_rfl
theorem yj {n : Int} (h : (Lit.int .u8 n).wf = true) : U8 n:=by
 unfold Lit.wf at h
 rw [Bool.and_eq_true] at h
 have h1 : (0 : Int) ≤ n:=of_decide_eq_true h.1
 have h2 : n ≤ 255:=of_decide_eq_true h.2
 unfold U8
 omega
theorem Ko {n : Int} (h : (Lit.int .u16 n).wf = true) : 0 ≤ n ∧ n < 65536:=by
 unfold Lit.wf at h
 rw [Bool.and_eq_true] at h
 have h1 : (0 : Int) ≤ n:=of_decide_eq_true h.1
 have h2 : n ≤ 65535:=of_decide_eq_true h.2
 omega
theorem uy {M : Nat} {t : TypeId} {k : IntKind} (he : Tryz.prog.underlying t = some (.int k)) {d : DataW H} (hd : eP Tryz.prog M t d) (hM : 0 < M:=by omega) : ∃ n,d = .lit (.int k n) ∧ (Lit.int k n).wf = true ∧ ∀ h,ed Tryz.prog M t d h = some ([.int k n],h):=by
 obtain ⟨N,rfl⟩ : ∃ q,M = q + 1:=⟨M - 1,by omega⟩
 unfold eP at hd
 rw [he] at hd
 obtain ⟨n,rfl,hw⟩:=hd
 refine ⟨n,rfl,hw,fun h => ?_⟩
 unfold ed
 rw [he]
theorem IC (N : Nat) (d : DataW H) (hd : eP Tryz.prog (N + 2) 23 d) (h : AH) (Hh : WF h) : ∃ a n c l h',ed Tryz.prog (N + 2) 23 d h = some ([.slice a n c],h') ∧ Kp h h' ∧ n = List.length l ∧ RU h' a l:=by
 obtain ⟨a,n,c,l,h',e1,K,e2,_,q⟩:=rC (N:=N + 1) (e:=5) (z:=1) (fun _ cs (x : Int) => cs = [.int .u8 x] ∧ U8 x) (fun _ _ h => h) (fun h => by rw [h.1]; rfl) (fun d hd h Hh => by
  obtain ⟨n,rfl,hw,e⟩:=uy u5 hd
  exact ⟨_,n,h,e h,Kp.refl Hh,rfl,yj hw⟩) Ml z5 (by omega) d hd h Hh
 exact ⟨a,n,c,l,h',e1,K,e2,fun i x hx => by
  obtain ⟨cs,⟨rfl,hu⟩,A⟩:=q i x hx
  exact ⟨A,hu⟩⟩
theorem ID (d : DataW H) (hd : eP Tryz.prog 2 102 d) (h : AH) : ∃ x : jW,ed Tryz.prog 2 102 d h = some ([.int .u8 x.a,.int .u8 x.b,.int .u8 x.c,.int .u8 x.d,.int .u8 x.e,.int .u64 x.f],h) ∧ U8 x.a ∧ U8 x.b ∧ U8 x.c ∧ U8 x.d ∧ U8 x.e:=by
 have hd : ∃ xs,d = .agg xs ∧ oN (eP Tryz.prog 1) [5,5,5,5,5,43] xs:=hd
 obtain ⟨xs,rfl,x1,r1,rfl,t1,x2,r2,rfl,t2,x3,r3,rfl,t3,x4,r4,rfl,t4,x5,r5,rfl,t5,x6,r6,rfl,t6,hr⟩:=hd
 have hr : r6 = []:=hr
 subst hr
 obtain ⟨n1,rfl,w1,e1⟩:=uy u5 t1
 obtain ⟨n2,rfl,w2,e2⟩:=uy u5 t2
 obtain ⟨n3,rfl,w3,e3⟩:=uy u5 t3
 obtain ⟨n4,rfl,w4,e4⟩:=uy u5 t4
 obtain ⟨n5,rfl,w5,e5⟩:=uy u5 t5
 obtain ⟨n6,rfl,w6,e6⟩:=uy Mo t6
 refine ⟨⟨n1,n2,n3,n4,n5,n6⟩,?_,yj w1,yj w2,yj w3,yj w4,yj w5⟩
 have : ed Tryz.prog 2 102 (.agg [.lit (.int .u8 n1),.lit (.int .u8 n2),.lit (.int .u8 n3),.lit (.int .u8 n4),.lit (.int .u8 n5),.lit (.int .u64 n6)] : DataW H) h =
   ep (H:=H) (ed Tryz.prog 1) [(5,.lit (.int .u8 n1)),(5,.lit (.int .u8 n2)),(5,.lit (.int .u8 n3)),(5,.lit (.int .u8 n4)),(5,.lit (.int .u8 n5)),(43,.lit (.int .u64 n6))] h:=by kernel_rfl
 rw [this]
 simp only [ep,e1,e2,e3,e4,e5,e6,Option.bind_some,List.cons_append,List.nil_append]
theorem IE (d : DataW H) (hd : eP Tryz.prog 3 91 d) (h : AH) (Hh : WF h) : ∃ a n c l h',ed Tryz.prog 3 91 d h = some ([.slice a n c],h') ∧ Kp h h' ∧ n = List.length l ∧ RP h' a l:=by
 obtain ⟨a,n,c,l,h',e1,K,e2,_,q⟩:=rC (N:=2) (e:=102) (z:=6) (fun _ cs (x : jW) => cs = [.int .u8 x.a,.int .u8 x.b,.int .u8 x.c,.int .u8 x.d,.int .u8 x.e,.int .u64 x.f] ∧ U8 x.a ∧ U8 x.b ∧ U8 x.c ∧ U8 x.d ∧ U8 x.e) (fun _ _ h => h) (fun h => by rw [h.1]; rfl) (fun d hd h Hh => by
  obtain ⟨x,e,q⟩:=ID d hd h
  exact ⟨_,x,h,e,Kp.refl Hh,rfl,q⟩) Mn Km (by omega) d hd h Hh
 exact ⟨a,n,c,l,h',e1,K,e2,fun i x hx => by
  obtain ⟨cs,⟨rfl,hu⟩,A⟩:=q i x hx
  exact ⟨A,hu⟩⟩
def PQ (h : AH) (cs : List Value) (x : fF) : Prop:=∃ qa qc ia ic,cs = [.slice qa x.params.length qc,.slice ia x.insts.length ic,.int .u8 x.kind,.int .u8 x.t0,.int .u8 x.t1,.int .u8 x.k0,.int .u8 x.k1,.int .u8 x.k2,.int .u8 x.k3] ∧
 RU h qa x.params ∧ RP h ia x.insts ∧ U8 x.kind ∧ U8 x.t0 ∧ U8 x.t1 ∧ U8 x.k0 ∧ U8 x.k1 ∧ U8 x.k2 ∧ U8 x.k3
theorem RU.kp {h g : AH} (H : WF h) (K : Kp h g) {a : Option Addr} {l : List Int} (R : RU h a l) : RU g a l:=fun i x hx => ⟨(R i x hx).1.kp H K,(R i x hx).2⟩
theorem RP.kp {h g : AH} (H : WF h) (K : Kp h g) {a : Option Addr} {l : List jW} (R : RP h a l) : RP g a l:=fun i x hx => ⟨(R i x hx).1.kp H K,(R i x hx).2⟩
theorem RQ.kp {h g : AH} (H : WF h) (K : Kp h g) {a : Option Addr} {l : List fF} (R : RQ h a l) : RQ g a l:=fun i x hx => by
 obtain ⟨qa,qc,ia,ic,h1,h2,h3,h4⟩:=R i x hx
 exact ⟨qa,qc,ia,ic,h1.kp H K,h2.kp H K,h3.kp H K,h4⟩
theorem IF (d : DataW H) (hd : eP Tryz.prog 4 95 d) (h : AH) (Hh : WF h) : ∃ cs x h',ed Tryz.prog 4 95 d h = some (cs,h') ∧ Kp h h' ∧ PQ h' cs x:=by
 have hd : ∃ xs,d = .agg xs ∧ oN (eP Tryz.prog 3) [23,91,5,92,93] xs:=hd
 obtain ⟨xs,rfl,x1,r1,rfl,t1,x2,r2,rfl,t2,x3,r3,rfl,t3,x4,r4,rfl,t4,x5,r5,rfl,t5,hr⟩:=hd
 have hr : r5 = []:=hr
 subst hr
 obtain ⟨a1,n1,c1,l1,h1,e1,K1,rfl,R1⟩:=IC 1 x1 t1 h Hh
 obtain ⟨a2,n2,c2,l2,h2,e2,K2,rfl,R2⟩:=IE x2 t2 h1 K1.wf
 obtain ⟨n3,rfl,w3,e3⟩:=uy u5 t3
 have t4 : ∃ xs,x4 = .agg xs ∧ xs.length = 2 ∧ ∀ x ∈ xs,eP Tryz.prog 2 5 x:=t4
 obtain ⟨ys,rfl,hl4,t4⟩:=t4
 have t5 : ∃ xs,x5 = .agg xs ∧ xs.length = 4 ∧ ∀ x ∈ xs,eP Tryz.prog 2 5 x:=t5
 obtain ⟨zs,rfl,hl5,t5⟩:=t5
 match ys,hl4,t4 with
 | [y1,y2],_,t4 =>
 match zs,hl5,t5 with
 | [z1,z2,z3,z4],_,t5 =>
 obtain ⟨m1,rfl,v1,f1⟩:=uy u5 (t4 y1 (by simp))
 obtain ⟨m2,rfl,v2,f2⟩:=uy u5 (t4 y2 (by simp))
 obtain ⟨k1,rfl,u1,g1⟩:=uy u5 (t5 z1 (by simp))
 obtain ⟨k2,rfl,u2,g2⟩:=uy u5 (t5 z2 (by simp))
 obtain ⟨k3,rfl,u3,g3⟩:=uy u5 (t5 z3 (by simp))
 obtain ⟨k4,rfl,u4,g4⟩:=uy u5 (t5 z4 (by simp))
 refine ⟨_,⟨l1,l2,n3,m1,m2,k1,k2,k3,k4⟩,h2,?_,K1.trans K2,a1,c1,a2,c2,rfl,R1.kp K1.wf K2,R2,yj w3,yj v1,yj v2,yj u1,yj u2,yj u3,yj u4⟩
 have q1 : ∀ h,ed Tryz.prog 3 92 (.agg [.lit (.int .u8 m1),.lit (.int .u8 m2)] : DataW H) h = ep (H:=H) (ed Tryz.prog 2) [(5,.lit (.int .u8 m1)),(5,.lit (.int .u8 m2))] h:=fun h => by kernel_rfl
 have q2 : ∀ h,ed Tryz.prog 3 93 (.agg [.lit (.int .u8 k1),.lit (.int .u8 k2),.lit (.int .u8 k3),.lit (.int .u8 k4)] : DataW H) h = ep (H:=H) (ed Tryz.prog 2) [(5,.lit (.int .u8 k1)),(5,.lit (.int .u8 k2)),(5,.lit (.int .u8 k3)),(5,.lit (.int .u8 k4))] h:=fun h => by kernel_rfl
 have q3 : ed Tryz.prog 4 95 (.agg [x1,x2,.lit (.int .u8 n3),.agg [.lit (.int .u8 m1),.lit (.int .u8 m2)],.agg [.lit (.int .u8 k1),.lit (.int .u8 k2),.lit (.int .u8 k3),.lit (.int .u8 k4)]] : DataW H) h =
   ep (H:=H) (ed Tryz.prog 3) [(23,x1),(91,x2),(5,.lit (.int .u8 n3)),(92,.agg [.lit (.int .u8 m1),.lit (.int .u8 m2)]),(93,.agg [.lit (.int .u8 k1),.lit (.int .u8 k2),.lit (.int .u8 k3),.lit (.int .u8 k4)])] h:=by kernel_rfl
 rw [q3]
 simp only [ep,e1,e2,e3,q1,q2,f1,f2,g1,g2,g3,g4,Option.bind_some,List.cons_append,List.nil_append]
theorem IG (d : DataW H) (hd : eP Tryz.prog 5 22 d) (h : AH) (Hh : WF h) : ∃ a n c l h',ed Tryz.prog 5 22 d h = some ([.slice a n c],h') ∧ Kp h h' ∧ n = List.length l ∧ n ≤ maxLen ∧ RQ h' a l:=by
 obtain ⟨a,n,c,l,h',e1,K,e2,e3,q⟩:=rC (N:=4) (e:=95) (z:=9) PQ (fun H K h => by
  obtain ⟨qa,qc,ia,ic,e,h1,h2,h3⟩:=h
  exact ⟨qa,qc,ia,ic,e,h1.kp H K,h2.kp H K,h3⟩) (fun h => by
  obtain ⟨qa,qc,ia,ic,rfl,_⟩:=h
  rfl) (fun d hd h Hh => IF d hd h Hh) Mk Kn (by omega) d hd h Hh
 exact ⟨a,n,c,l,h',e1,K,e2,e3,fun i x hx => by
  obtain ⟨cs,⟨qa,qc,ia,ic,rfl,hu⟩,A⟩:=q i x hx
  exact ⟨qa,qc,ia,ic,A,hu⟩⟩
theorem oH (β : Nat) : gi.blks.get β = if β = 0 then some ⟨gU,0,0,true⟩ else none:=by
 show ((Tr.nil).set 0 ⟨gU,0,0,true⟩ : Tr bT).get β = _
 rw [Tr.get_set]
 rfl
theorem Eu : WF gi:=by
 refine ⟨fun β b hb => ?_,fun β hβ => ⟨?_,rfl⟩⟩
 ·rw [oH] at hb
  split at hb
  ·injection hb with hb
   subst hb
   exact Nat.zero_le _
  ·cases hb
 ·have hβ : 1 ≤ β:=hβ
  rw [oH,if_neg (by omega)]
theorem Ht : ∀ β b,gi.blks.get β = some b → (b.cells.all bq) = true:=fun β b hb => by
 rw [oH] at hb
 split at hb
 ·injection hb with hb
  subst hb
  show gU.all bq = true
  kernel_rfl
 ·cases hb
theorem Ev (d : DataW H) (hd : eP Tryz.prog 6 25 d) : ∃ pa pc parts ra rc RL h1,ed Tryz.prog 6 25 d gi = some ([.slice pa (List.length parts) pc,.slice ra (List.length RL) rc],h1) ∧ Kp gi h1 ∧ List.length parts ≤ maxLen ∧ RQ h1 pa parts ∧ RU h1 ra RL:=by
 have hd : ∃ xs,d = .agg xs ∧ oN (eP Tryz.prog 5) [22,23] xs:=hd
 obtain ⟨xs,rfl,x1,r1,rfl,t1,x2,r2,rfl,t2,hr⟩:=hd
 have hr : r2 = []:=hr
 subst hr
 obtain ⟨a1,n1,c1,l1,h1,e1,K1,rfl,hm,R1⟩:=IG x1 t1 gi Eu
 obtain ⟨a2,n2,c2,l2,h2,e2,K2,rfl,R2⟩:=IC 3 x2 t2 h1 K1.wf
 refine ⟨a1,c1,l1,a2,c2,l2,h2,?_,K1.trans K2,hm,R1.kp K1.wf K2,R2⟩
 have q3 : ed Tryz.prog 6 25 (.agg [x1,x2] : DataW H) gi = ep (H:=H) (ed Tryz.prog 5) [(22,x1),(23,x2)] gi:=by kernel_rfl
 rw [q3]
 simp only [ep,e1,e2,Option.bind_some,List.cons_append,List.nil_append]
 noncomputable def CF : FuncId → List Value → AH → Option (Value × AH):=qj Tryz.prog (jy (run Tryz.prog (maxLen + 3000)) 4 gi) (maxLen + 3000)
theorem Ew (ds : List (DataW H)) (hd : oN (eP Tryz.prog 6) Tryz.f3.params.toList ds) : ∃ avs h1 h2,gt Tryz.prog 6 Tryz.f3.params.toList ds gi = some (avs,h1) ∧ CF 3 avs h1 = some (.bool true,h2):=by
 have hd : oN (eP Tryz.prog 6) [25,5,26] ds:=hd
 obtain ⟨d1,r1,rfl,t1,d2,r2,rfl,t2,d3,r3,rfl,t3,hr⟩:=hd
 have hr : r3 = []:=hr
 subst hr
 obtain ⟨pa,pc,parts,ra,rc,RL,h1,e1,K,hm,RQ0,RU0⟩:=Ev d1 t1
 obtain ⟨wh,rfl,w2,e2⟩:=uy u5 t2
 obtain ⟨nn,rfl,w3,e3⟩:=uy Mq t3
 have ho : ∀ g,Kq h1 g → zQ gi g:=fun g Kg β hβ => by
  have q1:=K.old β hβ
  have q2:=Kg.old β (Nat.lt_of_lt_of_le hβ K.nxt)
  exact ⟨q2.1.trans q1.1,q2.2.trans q1.2⟩
 have hm' : parts.length ≤ 9223372036854775807:=hm
 obtain ⟨h2,q⟩:=Kl (maxLen + 3000) K.wf RQ0 (pc:=pc) RU0 (rc:=rc) (by omega) hm' (cf:=jy (run Tryz.prog (maxLen + 3000)) 4 gi) (fun f a h hf => by rw [zR hf,kw]) (fun g Kg => yC (ho g Kg)) wh nn (yj w2) (Ko w3)
 refine ⟨_,h1,h2,?_,by unfold CF; rw [← wC]; exact q⟩
 show gt Tryz.prog 6 [25,5,26] [d1,.lit (.int .u8 wh),.lit (.int .u16 nn)] gi = _
 unfold gt
 rw [e1,Option.bind_some]
 unfold gt
 simp only [e2,e3,Option.bind_some]
 kernel_rfl
end
end Go.Proofs.YtjdomdndflfjdabGreatDoor.Kb
