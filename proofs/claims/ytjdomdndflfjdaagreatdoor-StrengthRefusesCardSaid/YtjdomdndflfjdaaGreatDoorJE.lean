/- Joined texts: JE. -/
import Derived.KernelRfl
import Derived.Test.YtjdomdndflfjdaaGreatDoorJD
import Derived.Test.YtjdomdndflfjdaaGreatDoorRD
import Derived.Test.YtjdomdndflfjdaaGreatDoorXC
namespace Go.Proofs.YtjdomdndflfjdaaGreatDoor.Kb
open Go Go.Proofs Go.Proofs.YtjdomdndflfjdaaGreatDoor.X
set_option linter.unusedSimpArgs false
set_option linter.unusedVariables false
theorem EE {n : Int} (h0 : 0 ≤ n) (h1 : n < 65536) : aR .i64 n = n:=by
 unfold aR
 rw [IntKind.wrap_i64]
 omega
theorem Gr.some {a : Option Addr} {n c z : Nat} {cs : List Go.Value} (G : Gr a n c z cs) (hn : 0 < n) : aH ≤ c:=by
 rcases G.2.2 with h | ⟨_,h⟩
 ·exact h
 ·omega
theorem FN.un {m : Nat} {τ : Nat → Nat} {g : AH} {a : ByteArray} {b : Option Addr} {bn bc : Nat} {c : Option Addr} {cn cc : Nat} {d : Option Addr} {dn dc : Nat} {e : Option Addr} {en ec : Nat} {f : Option Addr} {fn fc : Nat} {WL EL : List Int} {LB : List bh}
  (F : FN m τ g (.agg #[.string a,.slice b bn bc,.slice c cn cc,.slice d dn dc,.slice e en ec,.slice f fn fc]) WL EL LB) : ∃ fcs,Go.Value.string a = im ∧ (bn = WL.length ∧ cn = 2 ∧ cc = 2 ∧ dn = 2 ∧ dc = 2 ∧ en = EL.length ∧ fn = LB.length) ∧
  Rw m τ 3 g b 1 (bY WL) ∧ Rw m τ 6 g c 5 om ∧ Rw m τ 6 g d 3 vn ∧ Rw m τ 12 g e 1 (bY EL) ∧ Rw m τ 7 g f 9 fcs ∧ BL m τ g fcs LB ∧ WL.length < 400 ∧ EL.length ≤ 3 ∧ 1 ≤ LB.length ∧ LB.length ≤ 5:=by
 obtain ⟨wa,wc,ma,sa,ea,ec',fa,fc',fcs,ev,b1,b2,b3,b4,⟨b5,b6⟩,b7,b8,b9,b10,b11⟩:=F
 injection ev with ev
 injection ev with ev
 obtain ⟨ea1,ev⟩:=List.cons.inj ev
 obtain ⟨ea2,ev⟩:=List.cons.inj ev
 obtain ⟨ea3,ev⟩:=List.cons.inj ev
 obtain ⟨ea4,ev⟩:=List.cons.inj ev
 obtain ⟨ea5,ev⟩:=List.cons.inj ev
 obtain ⟨ea6,ev⟩:=List.cons.inj ev
 injection ea2 with q1 q2 q3
 injection ea3 with q4' q5 q6
 injection ea4 with q7 q8 q9
 injection ea5 with q10 q11 q12
 injection ea6 with q13 q14 q15
 subst q1 q2 q3 q4' q5 q6 q7 q8 q9 q10 q11 q12 q13 q14 q15
 exact ⟨fcs,ea1,⟨rfl,rfl,rfl,rfl,rfl,rfl,rfl⟩,b1,b2,b3,b4,b5,b7,b8,b9,b10,b11⟩
theorem Rw.le {m : Nat} {τ : Nat → Nat} {k : Nat} {g : AH} {a : Option Addr} {z : Nat} {cs : List Go.Value} (H : WF g) (R : Rw m τ k g a z cs) (hc : 0 < cs.length) : m ≤ g.next ∧ ∃ β,a = Option.some ⟨β,0,none⟩:=by
 rcases R with ⟨_,e⟩ | ⟨β,G,e,r1,r2,r3,r4⟩
 ·rw [e,List.length_nil] at hc
  omega
 ·have h1:=H.lt r1
  have h2 : G ≤ β:=H.gle β _ r1
  exact ⟨by omega,β,e⟩
theorem IR.app1 {m : Nat} {τ : Nat → Nat} {g : AH} {cs : List Go.Value} {IL : List bG} (R : IR m τ g cs IL) (hl : cs.length = IL.length * 5) : IR m τ g (cs ++ [.int .i64 77,.int .i64 0,.slice none 0 0,.int .u64 0,.int .i64 0]) (IL ++ [⟨77,0,[],0,0⟩]) :=
 R.app hl ⟨77,0,[],0,0⟩ (aa:=none) (ac:=0) .nil
theorem MV (n : Nat) {h : AH} (H : WF h) {pa : Option Addr} {pc : Nat} {parts : List fC} (RQ0 : RQ h pa parts) {ra : Option Addr} {rc : Nat} {RL : List Int} (RU0 : RU h ra RL) (hn : parts.length + 2300 < n) (hx : parts.length ≤ 9223372036854775807)
  {cf : FuncId → List Go.Value → AH → Option (Go.Value × AH)} (hcf : ∀ f a h,f ≠ 4 → cf f a h = au Tryz.prog n f a h) (c5 : ∀ g,Kq h g → cf 4 [] g = some (.bool true,g)) (wh nn : Int) (hw : 0 ≤ wh ∧ wh < 256) (hnn : 0 ≤ nn ∧ nn < 65536) :
  ∃ g',Fp Tryz.prog cf n 3 [.agg #[.slice pa parts.length pc,.slice ra RL.length rc],.int .u8 wh,.int .u16 nn] h = some (.bool true,g'):=by
 have H0 : WF (setLow h h.next):=bR H _
 have K0 : Kq h (setLow h h.next):=Kq.refl H
 obtain ⟨g1,k1,A1,O1,_,n1,l1⟩:=bU (m:=h.next) (τ:=fun _ => 99) H0 (Nat.le_refl _) 99 0 [.slice pa parts.length pc,.slice ra RL.length rc]
 have K1:=K0.bt (Nat.le_refl _) A1
 rw [aF] at k1 n1
 have O1 : cz g1 h.next [.slice pa parts.length pc,.slice ra RL.length rc]:=O1.1
 have c9 : ∀ a h,cf 5 a h = au Tryz.prog n 5 a h:=fun a h => hcf 5 a h (by decide)
 obtain ⟨a,b,bn,bc,c,cn,cc,d,dn,dc,e,en,ec,f,fn,fc,r,g2,e2,w2,n2,hr⟩:=Js n A1.wf (RQ0.kq H K1) (pc:=pc) (RU0.kq H K1) (rc:=rc) (by omega) hx
 cases r with
 | false =>
  obtain ⟨g3,k3,A3,O3,_,n3,l3⟩:=bU (m:=0) (τ:=fun _ => 99) w2 (Nat.zero_le _) 98 0 zc
  obtain ⟨g4,k4,A4,O4,n4,l4⟩:=cM (o:=0) (vs:=[.string a,.slice b bn bc,.slice c cn cc,.slice d dn dc,.slice e en ec,.slice f fn fc]) A3.wf O3 (by simp [zc])
  obtain ⟨g',e1,_⟩:=Hu h g4 (.bool true)
  unfold zc at *
  refine ⟨g',D2 ?_⟩
  rw [q4]
  simp only [k1,an,ah,ap,aA,aq,az,cond_true,cond_false,c5 g1 K1,Bool.not_true,Bool.not_false,O1.rd,Nat.zero_add,Nat.add_zero,List.getElem?_cons_zero,List.getElem?_cons_succ,ak,Nat.reduceAdd,c9,e2,iM,iO,iP,jA,jB,jC,nQ,nR,nS,nT,nU,nV,nW,k3,k4,e1]
 | true =>
  obtain ⟨m,τ,WL,EL,LB,hm,F⟩:=hr rfl
  have F0:=F
  obtain ⟨fcs0,ea1,⟨rfl,rfl,rfl,rfl,rfl,rfl,rfl⟩,_⟩:=F0.un
  unfold im at ea1
  injection ea1 with ea1
  subst ea1
  obtain ⟨g3,k3,A3,O3,_,n3,l3⟩:=bU (m:=0) (τ:=τ) w2 (Nat.zero_le _) 98 0 zc
  have F3:=F.keep w2 A3 (by simp)
  generalize upd τ g2.next 98 = τ3 at A3 O3 F3
  obtain ⟨g4,k4,A4,O4,n4,l4⟩:=cM (o:=0) (vs:=[im,.slice b WL.length bc,.slice c 2 2,.slice d 2 2,.slice e EL.length ec,.slice f LB.length fc]) A3.wf O3 (by simp [zc])
  have F4:=F3.keep A3.wf A4 (by simp)
  have O4 : Ow 0 τ3 98 g4 g2.next [im,.slice b WL.length bc,.slice c 2 2,.slice d 2 2,.slice e EL.length ec,.slice f LB.length fc]:=O4
  have w4:=A4.wf
  obtain ⟨fcs,_,_,b1,b2,b3,b4,b5,b7,b8,b9,b10,b11⟩:=F4.un
  have hfl:=b7.1
  obtain ⟨hm4,β,rfl⟩:=b5.le w4 (by omega)
  obtain ⟨kk,hkk,hk2⟩:=i6 (k:=.i64) hnn.1 (show 0 < LB.length by omega)
  obtain ⟨X,hX⟩ : ∃ X,LB[kk]? = some X:=⟨_,List.getElem?_eq_getElem hk2⟩
  obtain ⟨cells,c1,pa',pc',ia,ic,ta,tc,ra',rc',ics,tcs,rfl,⟨c3,c4⟩,⟨c6,c7,c8⟩,⟨c10,c11⟩,⟨c12,c13⟩,d1,d2,d3,d4,d5,d6⟩:=b7.2 kk X hX
  have bX:=Ll b7 X (List.mem_of_getElem? hX)
  have ez : aY (LB.length : Int) 0 = false:=by
   unfold aY
   exact beq_eq_false_iff_ne.2 (by omega)
  have eb:=aM (i:=(kk : Int)) (n:=LB.length) (by omega) (by omega)
  obtain ⟨w3,hw3,hw4⟩:=i6 (k:=.u8) hw.1 (show 0 < 2 by omega)
  have hw3 : cm .u8 wh 2 = (w3 : Int):=hw3
  have rd:=fun (j : Nat) (v : Go.Value) (hv : fcs[kk * 9 + j]? = some v) (o i : Nat) (ho : o + i = kk * 9 + j) => (show rdC g4 ⟨β,o,none⟩ i = some v by
   obtain ⟨γ,e,h⟩:=b5.rd hv
   injection e with e
   injection e with e
   subst e
   exact h o i ho)
  have fin : ∀ {g5 : AH} {τ5 : Nat → Nat} {m0 : Nat} {S : List Nat},Bt m0 τ3 τ5 g4 g5 S → 98 ∉ S → xw g5 (.agg #[im,.slice b WL.length bc,.slice c 2 2,.slice d 2 2,.slice e EL.length ec,.slice (some ⟨β,0,none⟩) LB.length fc]) →
    ∃ g',D1 cf n h ⟨g2.next,0,none⟩ g5 = some (.bool true,g'):=fun A hS B => Lo n (by omega) hcf A.wf (O4.keep w4 A hS).1 rfl B
  rcases (show w3 = 0 ∨ w3 = 1 by omega) with rfl | rfl
  ·obtain ⟨g5,k5,A5,R5,n5⟩:=Hv (o:=kk * 9 + 2) (vs:=[.int .i64 9]) w4 (Nat.le_refl _) b5 (by simp; omega)
   rw [kT _ _ _ (by omega)] at R5
   have no : ∀ s,s ≠ 7 → s ∉ [7]:=fun s hs => by simpa using hs
   have B:=xw.mk (wc:=bc) (ec:=ec) (fc:=fc) (X':={ X with kind:=9 }) w4 A5 b1 b2 b3 b4 b7 b8 b9 b11 hk2 (fun s hs => .inl (List.mem_singleton.1 hs)) (o:=2) (by omega) rfl c1 R5
    ⟨pa',pc',ia,ic,ta,tc,ra',rc',rfl,(c3.keep w4 A5 (no _ (by omega))).ri,(c8.keep w4 A5 (no _ (by omega))).rn (c6.keep w4 A5 (no _ (by omega))),ER.re (c10.keep w4 A5 (no _ (by omega))) (fun j x hx => by
     obtain ⟨aa,ac,q1,q2⟩:=c11 j x hx
     exact ⟨aa,ac,q1,q2.keep w4 A5 (no _ (by omega))⟩),(c12.keep w4 A5 (no _ (by omega))).ri⟩ bX (fun hb => by
     rcases hb.t with ⟨h,_⟩ | ⟨h,_⟩ | ⟨h,_⟩
     ·have h : (9 : Int) = 1:=h
      omega
     ·have h : (9 : Int) = 2:=h
      omega
     ·have h : (9 : Int) = 3:=h
      omega)
   obtain ⟨g',hg'⟩:=fin A5 (by simp) B
   unfold zc im at *
   refine ⟨g',D2 ?_⟩
   rw [q4]
   simp only [k1,an,ah,ap,aA,aq,az,cond_true,cond_false,c5 g1 K1,Bool.not_true,Bool.not_false,O1.rd,Nat.zero_add,Nat.add_zero,List.getElem?_cons_zero,List.getElem?_cons_succ,ak,Nat.reduceAdd,c9,e2,iM,iO,iP,jA,jB,jC,nQ,nR,nS,nT,nU,nV,nW,k3,k4,O4.rd,dl,ez,EE hnn.1 hnn.2,hkk,eb,Int.toNat_natCast,hw3,show aY ((0 : Nat) : Int) 0 = true from rfl,k5,hg']
  ·obtain ⟨g5,g6,a',k5,k6,A6,R6,G6,ea',n6⟩:=qo (m:=m) (m':=m) (by_:=56) w4 (Nat.le_refl _) hm4 [.int .i64 77,.int .i64 0,.slice none 0 0,.int .u64 0,.int .i64 0] c6 c7 rfl (by omega) (by omega)
   generalize upd τ3 g4.next (21 + 4 * kk) = τ6 at A6 R6
   have no : ∀ s,s ≠ 21 + 4 * kk → s ∉ [21 + 4 * kk]:=fun s hs => by simpa using hs
   have b56:=b5.keep w4 A6 (no _ (by omega))
   obtain ⟨g7,k7,A7,R7,n7⟩:=Hv (m:=m) (o:=kk * 9 + 1) (vs:=[.slice a' (X.insts.length + 1) aH]) A6.wf (Nat.le_refl _) b56 (by simp; omega)
   rw [kT _ _ _ (by omega)] at R7
   have A67 : Bt m τ3 τ6 g4 g7 [7,21 + 4 * kk]:=(A6.mono (fun s hs => by simp at hs ⊢; exact .inr hs)).trans w4 (A7.mono (fun s hs => by simp at hs ⊢; exact .inl hs))
   have no : ∀ s,s ≠ 7 → s ≠ 21 + 4 * kk → s ∉ [7,21 + 4 * kk]:=fun s h1 h2 => by simp; exact ⟨h1,h2⟩
   have eR : (X.insts ++ [(⟨77,0,[],0,0⟩ : bG)]).length = X.insts.length + 1:=by simp
   have I7:=(c8.keep w4 A67 (no _ (by omega) (by omega))).app1 c7.1
   have B:=xw.mk (wc:=bc) (ec:=ec) (fc:=fc) (X':={ X with insts:=X.insts ++ [⟨77,0,[],0,0⟩] }) w4 A67 b1 b2 b3 b4 b7 b8 b9 b11 hk2 (fun s hs => by simp at hs; omega) (o:=1) (v':=.slice a' (X.insts.length + 1) aH) (by omega) rfl c1 R7
    ⟨pa',pc',a',aH,ta,tc,ra',rc',by rw [eR]; rfl,(c3.keep w4 A67 (no _ (by omega) (by omega))).ri,I7.rn (R6.keep A6.wf A7 (by simp; omega)),ER.re (c10.keep w4 A67 (no _ (by omega) (by omega))) (fun j x hx => by
     obtain ⟨aa,ac,q1,q2⟩:=c11 j x hx
     exact ⟨aa,ac,q1,q2.keep w4 A67 (no _ (by omega) (by omega))⟩),(c12.keep w4 A67 (no _ (by omega) (by omega))).ri⟩ ⟨bX.1,by show (X.insts ++ [_]).length < 100; rw [eR]; omega,bX.2.2.1,bX.2.2.2.1,bX.2.2.2.2.1,fun x hx => by
     rcases List.mem_append.1 hx with h | h
     ·exact bX.2.2.2.2.2 x h
     ·rw [List.mem_singleton.1 h]
      decide⟩ (fun hb => by
     have:=hb.i ⟨77,0,[],0,0⟩ (by simp)
     exact absurd this (by decide))
   obtain ⟨g',hg'⟩:=fin A67 (by simp; omega) B
   have r5:=rd 1 _ (c1 1 _ rfl) (kk * 9 + 1) 0 (by omega)
   unfold zc im at *
   refine ⟨g',D2 ?_⟩
   rw [q4]
   simp only [k1,an,ah,ap,aA,aq,az,cond_true,cond_false,c5 g1 K1,Bool.not_true,Bool.not_false,O1.rd,Nat.zero_add,Nat.add_zero,List.getElem?_cons_zero,List.getElem?_cons_succ,ak,Nat.reduceAdd,c9,e2,iM,iO,iP,jA,jB,jC,nQ,nR,nS,nT,nU,nV,nW,k3,k4,O4.rd,dl,ez,EE hnn.1 hnn.2,hkk,eb,Int.toNat_natCast,hw3,show aY ((1 : Nat) : Int) 0 = false from rfl,r5,k5,k6,k7,hg']
open Go Go.Proofs Go.Proofs.YtjdomdndflfjdaaGreatDoor Go.Proofs.YtjdomdndflfjdaaGreatDoor.X
set_option maxRecDepth 100000
theorem EF {h : AH} (H : WF h) (cells : List Value) (z : Nat) : Kp h (h.newRo cells z) ∧ ∀ o i x,cells[o + i]? = some x → rdC (h.newRo cells z) ⟨h.next,o,none⟩ i = some x:=by
 have hb : ∀ β,(h.newRo cells z).blks.get β = if β = h.next then some ⟨cells,z,h.next,true⟩ else h.blks.get β:=fun β => Tr.get_set _ _ _ _
 have hw : WF (h.newRo cells z):=⟨fun β b e => by
  rw [hb] at e
  split at e
  ·rename_i hx
   injection e with e
   subst e
   exact Nat.le_of_eq hx.symm
  ·exact H.gle β b e,fun β hβ => by
  have hβ : h.next + 1 ≤ β:=hβ
  rw [hb,if_neg (by omega)]
  exact H.new β (by omega)⟩
 refine ⟨⟨hw,rfl,Nat.le_succ _,fun β hβ => ?_⟩,fun o i x hx => ?_⟩
 ·rw [hb,if_neg (by omega)]
  exact ⟨rfl,rfl⟩
 ·have hr : (h.newRo cells z).rd h.next = some ⟨cells,z,h.next,true⟩:=dp (by rw [hb,if_pos rfl]) (by
   show h.next ∈ (h.grps.get h.next).getD [h.next]
   rw [(H.new h.next (Nat.le_refl _)).2]
   exact List.mem_singleton.2 rfl)
  unfold X.rdC
  rw [hr]
  exact hx
section
variable {H : Type} {P : Program} {L : Type} {N z : Nat} {e t : TypeId} (Q : AH → List Value → L → Prop) (mono : ∀ {h g cs x},WF h → Kp h g → Q h cs x → Q g cs x) (len : ∀ {h cs x},Q h cs x → cs.length = z)
 (el : ∀ (d : DataW H),eN P N e d → ∀ h,WF h → ∃ cs x h',d9 P N e d h = some (cs,h') ∧ Kp h h' ∧ Q h' cs x)
 include mono len el
theorem xL : ∀ (ds : List (DataW H)),(∀ d ∈ ds,eN P N e d) → ∀ h,WF h → ∃ (cells : List Value) (xs : List L) (h' : AH),ep (d9 P N) (ds.map fun d => (e,d)) h = some (cells,h') ∧ Kp h h' ∧ xs.length = ds.length ∧ cells.length = ds.length * z ∧
  ∀ i x,xs[i]? = some x → ∃ cs,Q h' cs x ∧ ∀ k v,cs[k]? = some v → cells[i * z + k]? = some v
 | [],_,h,Hh => ⟨[],[],h,rfl,Kp.refl Hh,rfl,by simp,fun i x hx => by cases hx⟩
 | d :: ds,hd,h,Hh => by
  obtain ⟨c1,x1,h1,e1,K1,q1⟩:=el d (hd d (List.mem_cons_self ..)) h Hh
  obtain ⟨cells,xs,h2,e2,K2,l1,l2,q2⟩:=xL ds (fun x hx => hd x (List.mem_cons_of_mem _ hx)) h1 K1.wf
  have hz:=len q1
  refine ⟨c1 ++ cells,x1 :: xs,h2,?_,K1.trans K2,congrArg Nat.succ l1,by rw [List.length_append,hz,l2,List.length_cons,Nat.add_mul]; omega,fun i x hx => ?_⟩
  ·rw [List.map_cons]
   unfold ep
   simp only
   rw [e1,Option.bind_some]
   simp only
   rw [e2]
   rfl
  ·cases i with
   | zero =>
    injection hx with hx
    subst hx
    refine ⟨c1,mono K1.wf K2 q1,fun k v hv => ?_⟩
    rw [Nat.zero_mul,Nat.zero_add,List.getElem?_append_left (List.getElem?_eq_some_iff.1 hv).1]
    exact hv
   | succ i =>
    obtain ⟨cs,g1,g2⟩:=q2 i x hx
    refine ⟨cs,g1,fun k v hv => ?_⟩
    rw [List.getElem?_append_right (by rw [hz,Nat.add_mul]; omega),hz,show (i + 1) * z + k - z = i * z + k by rw [Nat.add_mul]; omega]
    exact g2 k v hv
theorem qy (ht : P.underlying t = some (.slice e)) (hz : P.cellsOf e = z) (h0 : 0 < z) (d : DataW H) (hd : eN P (N + 1) t d) (h : AH) (Hh : WF h) :
  ∃ (a : Option Addr) (n c : Nat) (xs : List L) (h' : AH),d9 P (N + 1) t d h = some ([.slice a n c],h') ∧ Kp h h' ∧ n = xs.length ∧ n ≤ maxLen ∧ ∀ i x,xs[i]? = some x → ∃ cs,Q h' cs x ∧ At h' a z i cs:=by
 unfold eN at hd
 rw [ht] at hd
 rcases hd with rfl | ⟨xs,ys,rfl,hl,hx,hy⟩
 ·exact ⟨none,0,0,[],h,by unfold d9; rw [ht],Kp.refl Hh,rfl,Nat.zero_le _,fun i x hx => by cases hx⟩
 ·by_cases h00 : xs.length + ys.length = 0
  ·have hx0 : xs = []:=List.eq_nil_of_length_eq_zero (by omega)
   have hy0 : ys = []:=List.eq_nil_of_length_eq_zero (by omega)
   subst hx0 hy0
   exact ⟨some ⟨0,0,none⟩,0,0,[],h,by unfold d9; rw [ht]; rfl,Kp.refl Hh,rfl,Nat.zero_le _,fun i x hx => by cases hx⟩
  ·obtain ⟨cells,ns,h1,e1,K1,l1,l2,q⟩:=xL Q mono len el (xs ++ ys) (fun d hd => (List.mem_append.1 hd).elim (hx d) (hy d)) h Hh
   obtain ⟨K,S⟩:=EF K1.wf cells z
   have hlen : ns.length = xs.length + ys.length:=by rw [l1,List.length_append]
   refine ⟨some ⟨h1.next,0,none⟩,xs.length,xs.length + ys.length,ns.take xs.length,h1.newRo cells z,?_,K1.trans K,by rw [List.length_take]; omega,by omega,fun i x hx => ?_⟩
   ·unfold d9
    rw [ht]
    simp only
    rw [show Nat.beq (xs.length + ys.length) 0 = false from (by
     cases hb : Nat.beq (xs.length + ys.length) 0 with
     | false => rfl
     | true => exact absurd (Nat.eq_of_beq_eq_true hb) h00),hz,show Nat.beq z 0 = false from (by
     cases hb : Nat.beq z 0 with
     | false => rfl
     | true => have:=Nat.eq_of_beq_eq_true hb; omega)]
    have hO : Nat.ble aH (xs.length + ys.length) = false:=by
     cases hb : Nat.ble aH (xs.length + ys.length) with
     | false => rfl
     | true =>
      have h1:=Nat.le_of_ble_eq_true hb
      unfold maxLen at hl
      have : (aH : Nat) = 2 ^ 63:=rfl
      omega
    rw [hO,e1]
    rfl
   ·have hx : ns[i]? = some x:=by
     rw [List.getElem?_take] at hx
     split at hx
     ·exact hx
     ·cases hx
    obtain ⟨cs,g1,g2⟩:=q i x hx
    exact ⟨cs,mono K1.wf K g1,h1.next,0,rfl,fun k v hv => S _ _ _ (by rw [Nat.zero_add]; exact g2 k v hv)⟩
end
section
variable {H : Type}
theorem OH : Tryz.prog.underlying 22 = some (.slice 89):=by kernel_rfl
theorem OI : Tryz.prog.underlying 23 = some (.slice 5):=by kernel_rfl
theorem OJ : Tryz.prog.underlying 85 = some (.slice 96):=by kernel_rfl
theorem z5 : Tryz.prog.cellsOf 5 = 1:=by kernel_rfl
theorem MW : Tryz.prog.cellsOf 96 = 6:=by kernel_rfl
theorem MX : Tryz.prog.cellsOf 89 = 9:=by kernel_rfl
theorem u5 : Tryz.prog.underlying 5 = some (.int .u8):=by kernel_rfl
theorem OK : Tryz.prog.underlying 43 = some (.int .u64):=by kernel_rfl
theorem OL : Tryz.prog.underlying 26 = some (.int .u16):=by kernel_rfl
theorem xM {n : Int} (h : (Lit.int .u8 n).wf = true) : U8 n:=by
 unfold Lit.wf at h
 rw [Bool.and_eq_true] at h
 have h1 : (0 : Int) ≤ n:=of_decide_eq_true h.1
 have h2 : n ≤ 255:=of_decide_eq_true h.2
 unfold U8
 omega
theorem MY {n : Int} (h : (Lit.int .u16 n).wf = true) : 0 ≤ n ∧ n < 65536:=by
 unfold Lit.wf at h
 rw [Bool.and_eq_true] at h
 have h1 : (0 : Int) ≤ n:=of_decide_eq_true h.1
 have h2 : n ≤ 65535:=of_decide_eq_true h.2
 omega
theorem ud {M : Nat} {t : TypeId} {k : IntKind} (he : Tryz.prog.underlying t = some (.int k)) {d : DataW H} (hd : eN Tryz.prog M t d) (hM : 0 < M:=by omega) : ∃ n,d = .lit (.int k n) ∧ (Lit.int k n).wf = true ∧ ∀ h,d9 Tryz.prog M t d h = some ([.int k n],h):=by
 obtain ⟨N,rfl⟩ : ∃ q,M = q + 1:=⟨M - 1,by omega⟩
 unfold eN at hd
 rw [he] at hd
 obtain ⟨n,rfl,hw⟩:=hd
 refine ⟨n,rfl,hw,fun h => ?_⟩
 unfold d9
 rw [he]
theorem LG (N : Nat) (d : DataW H) (hd : eN Tryz.prog (N + 2) 23 d) (h : AH) (Hh : WF h) : ∃ a n c l h',d9 Tryz.prog (N + 2) 23 d h = some ([.slice a n c],h') ∧ Kp h h' ∧ n = List.length l ∧ RU h' a l:=by
 obtain ⟨a,n,c,l,h',e1,K,e2,_,q⟩:=qy (N:=N + 1) (e:=5) (z:=1) (fun _ cs (x : Int) => cs = [.int .u8 x] ∧ U8 x) (fun _ _ h => h) (fun h => by rw [h.1]; rfl) (fun d hd h Hh => by
  obtain ⟨n,rfl,hw,e⟩:=ud u5 hd
  exact ⟨_,n,h,e h,Kp.refl Hh,rfl,xM hw⟩) OI z5 (by omega) d hd h Hh
 exact ⟨a,n,c,l,h',e1,K,e2,fun i x hx => by
  obtain ⟨cs,⟨rfl,hu⟩,A⟩:=q i x hx
  exact ⟨A,hu⟩⟩
theorem LH (d : DataW H) (hd : eN Tryz.prog 2 96 d) (h : AH) : ∃ x : jD,d9 Tryz.prog 2 96 d h = some ([.int .u8 x.a,.int .u8 x.b,.int .u8 x.c,.int .u8 x.d,.int .u8 x.e,.int .u64 x.f],h) ∧ U8 x.a ∧ U8 x.b ∧ U8 x.c ∧ U8 x.d ∧ U8 x.e:=by
 have hd : ∃ xs,d = .agg xs ∧ oh (eN Tryz.prog 1) [5,5,5,5,5,43] xs:=hd
 obtain ⟨xs,rfl,x1,r1,rfl,t1,x2,r2,rfl,t2,x3,r3,rfl,t3,x4,r4,rfl,t4,x5,r5,rfl,t5,x6,r6,rfl,t6,hr⟩:=hd
 have hr : r6 = []:=hr
 subst hr
 obtain ⟨n1,rfl,w1,e1⟩:=ud u5 t1
 obtain ⟨n2,rfl,w2,e2⟩:=ud u5 t2
 obtain ⟨n3,rfl,w3,e3⟩:=ud u5 t3
 obtain ⟨n4,rfl,w4,e4⟩:=ud u5 t4
 obtain ⟨n5,rfl,w5,e5⟩:=ud u5 t5
 obtain ⟨n6,rfl,w6,e6⟩:=ud OK t6
 refine ⟨⟨n1,n2,n3,n4,n5,n6⟩,?_,xM w1,xM w2,xM w3,xM w4,xM w5⟩
 have : d9 Tryz.prog 2 96 (.agg [.lit (.int .u8 n1),.lit (.int .u8 n2),.lit (.int .u8 n3),.lit (.int .u8 n4),.lit (.int .u8 n5),.lit (.int .u64 n6)] : DataW H) h =
   ep (H:=H) (d9 Tryz.prog 1) [(5,.lit (.int .u8 n1)),(5,.lit (.int .u8 n2)),(5,.lit (.int .u8 n3)),(5,.lit (.int .u8 n4)),(5,.lit (.int .u8 n5)),(43,.lit (.int .u64 n6))] h:=by kernel_rfl
 rw [this]
 simp only [ep,e1,e2,e3,e4,e5,e6,Option.bind_some,List.cons_append,List.nil_append]
theorem LI (d : DataW H) (hd : eN Tryz.prog 3 85 d) (h : AH) (Hh : WF h) : ∃ a n c l h',d9 Tryz.prog 3 85 d h = some ([.slice a n c],h') ∧ Kp h h' ∧ n = List.length l ∧ RP h' a l:=by
 obtain ⟨a,n,c,l,h',e1,K,e2,_,q⟩:=qy (N:=2) (e:=96) (z:=6) (fun _ cs (x : jD) => cs = [.int .u8 x.a,.int .u8 x.b,.int .u8 x.c,.int .u8 x.d,.int .u8 x.e,.int .u64 x.f] ∧ U8 x.a ∧ U8 x.b ∧ U8 x.c ∧ U8 x.d ∧ U8 x.e) (fun _ _ h => h) (fun h => by rw [h.1]; rfl) (fun d hd h Hh => by
  obtain ⟨x,e,q⟩:=LH d hd h
  exact ⟨_,x,h,e,Kp.refl Hh,rfl,q⟩) OJ MW (by omega) d hd h Hh
 exact ⟨a,n,c,l,h',e1,K,e2,fun i x hx => by
  obtain ⟨cs,⟨rfl,hu⟩,A⟩:=q i x hx
  exact ⟨A,hu⟩⟩
def PQ (h : AH) (cs : List Value) (x : fC) : Prop:=∃ qa qc ia ic,cs = [.slice qa x.params.length qc,.slice ia x.insts.length ic,.int .u8 x.kind,.int .u8 x.t0,.int .u8 x.t1,.int .u8 x.k0,.int .u8 x.k1,.int .u8 x.k2,.int .u8 x.k3] ∧
 RU h qa x.params ∧ RP h ia x.insts ∧ U8 x.kind ∧ U8 x.t0 ∧ U8 x.t1 ∧ U8 x.k0 ∧ U8 x.k1 ∧ U8 x.k2 ∧ U8 x.k3
theorem RU.kp {h g : AH} (H : WF h) (K : Kp h g) {a : Option Addr} {l : List Int} (R : RU h a l) : RU g a l:=fun i x hx => ⟨(R i x hx).1.kp H K,(R i x hx).2⟩
theorem RP.kp {h g : AH} (H : WF h) (K : Kp h g) {a : Option Addr} {l : List jD} (R : RP h a l) : RP g a l:=fun i x hx => ⟨(R i x hx).1.kp H K,(R i x hx).2⟩
theorem RQ.kp {h g : AH} (H : WF h) (K : Kp h g) {a : Option Addr} {l : List fC} (R : RQ h a l) : RQ g a l:=fun i x hx => by
 obtain ⟨qa,qc,ia,ic,h1,h2,h3,h4⟩:=R i x hx
 exact ⟨qa,qc,ia,ic,h1.kp H K,h2.kp H K,h3.kp H K,h4⟩
theorem LJ (d : DataW H) (hd : eN Tryz.prog 4 89 d) (h : AH) (Hh : WF h) : ∃ cs x h',d9 Tryz.prog 4 89 d h = some (cs,h') ∧ Kp h h' ∧ PQ h' cs x:=by
 have hd : ∃ xs,d = .agg xs ∧ oh (eN Tryz.prog 3) [23,85,5,86,87] xs:=hd
 obtain ⟨xs,rfl,x1,r1,rfl,t1,x2,r2,rfl,t2,x3,r3,rfl,t3,x4,r4,rfl,t4,x5,r5,rfl,t5,hr⟩:=hd
 have hr : r5 = []:=hr
 subst hr
 obtain ⟨a1,n1,c1,l1,h1,e1,K1,rfl,R1⟩:=LG 1 x1 t1 h Hh
 obtain ⟨a2,n2,c2,l2,h2,e2,K2,rfl,R2⟩:=LI x2 t2 h1 K1.wf
 obtain ⟨n3,rfl,w3,e3⟩:=ud u5 t3
 have t4 : ∃ xs,x4 = .agg xs ∧ xs.length = 2 ∧ ∀ x ∈ xs,eN Tryz.prog 2 5 x:=t4
 obtain ⟨ys,rfl,hl4,t4⟩:=t4
 have t5 : ∃ xs,x5 = .agg xs ∧ xs.length = 4 ∧ ∀ x ∈ xs,eN Tryz.prog 2 5 x:=t5
 obtain ⟨zs,rfl,hl5,t5⟩:=t5
 match ys,hl4,t4 with
 | [y1,y2],_,t4 =>
 match zs,hl5,t5 with
 | [z1,z2,z3,z4],_,t5 =>
 obtain ⟨m1,rfl,v1,f1⟩:=ud u5 (t4 y1 (by simp))
 obtain ⟨m2,rfl,v2,f2⟩:=ud u5 (t4 y2 (by simp))
 obtain ⟨k1,rfl,u1,g1⟩:=ud u5 (t5 z1 (by simp))
 obtain ⟨k2,rfl,u2,g2⟩:=ud u5 (t5 z2 (by simp))
 obtain ⟨k3,rfl,u3,g3⟩:=ud u5 (t5 z3 (by simp))
 obtain ⟨k4,rfl,u4,g4⟩:=ud u5 (t5 z4 (by simp))
 refine ⟨_,⟨l1,l2,n3,m1,m2,k1,k2,k3,k4⟩,h2,?_,K1.trans K2,a1,c1,a2,c2,rfl,R1.kp K1.wf K2,R2,xM w3,xM v1,xM v2,xM u1,xM u2,xM u3,xM u4⟩
 have q1 : ∀ h,d9 Tryz.prog 3 86 (.agg [.lit (.int .u8 m1),.lit (.int .u8 m2)] : DataW H) h = ep (H:=H) (d9 Tryz.prog 2) [(5,.lit (.int .u8 m1)),(5,.lit (.int .u8 m2))] h:=fun h => by kernel_rfl
 have q2 : ∀ h,d9 Tryz.prog 3 87 (.agg [.lit (.int .u8 k1),.lit (.int .u8 k2),.lit (.int .u8 k3),.lit (.int .u8 k4)] : DataW H) h = ep (H:=H) (d9 Tryz.prog 2) [(5,.lit (.int .u8 k1)),(5,.lit (.int .u8 k2)),(5,.lit (.int .u8 k3)),(5,.lit (.int .u8 k4))] h:=fun h => by kernel_rfl
 have q3 : d9 Tryz.prog 4 89 (.agg [x1,x2,.lit (.int .u8 n3),.agg [.lit (.int .u8 m1),.lit (.int .u8 m2)],.agg [.lit (.int .u8 k1),.lit (.int .u8 k2),.lit (.int .u8 k3),.lit (.int .u8 k4)]] : DataW H) h =
   ep (H:=H) (d9 Tryz.prog 3) [(23,x1),(85,x2),(5,.lit (.int .u8 n3)),(86,.agg [.lit (.int .u8 m1),.lit (.int .u8 m2)]),(87,.agg [.lit (.int .u8 k1),.lit (.int .u8 k2),.lit (.int .u8 k3),.lit (.int .u8 k4)])] h:=by kernel_rfl
 rw [q3]
 simp only [ep,e1,e2,e3,q1,q2,f1,f2,g1,g2,g3,g4,Option.bind_some,List.cons_append,List.nil_append]
theorem LK (d : DataW H) (hd : eN Tryz.prog 5 22 d) (h : AH) (Hh : WF h) : ∃ a n c l h',d9 Tryz.prog 5 22 d h = some ([.slice a n c],h') ∧ Kp h h' ∧ n = List.length l ∧ n ≤ maxLen ∧ RQ h' a l:=by
 obtain ⟨a,n,c,l,h',e1,K,e2,e3,q⟩:=qy (N:=4) (e:=89) (z:=9) PQ (fun H K h => by
  obtain ⟨qa,qc,ia,ic,e,h1,h2,h3⟩:=h
  exact ⟨qa,qc,ia,ic,e,h1.kp H K,h2.kp H K,h3⟩) (fun h => by
  obtain ⟨qa,qc,ia,ic,rfl,_⟩:=h
  rfl) (fun d hd h Hh => LJ d hd h Hh) OH MX (by omega) d hd h Hh
 exact ⟨a,n,c,l,h',e1,K,e2,e3,fun i x hx => by
  obtain ⟨cs,⟨qa,qc,ia,ic,rfl,hu⟩,A⟩:=q i x hx
  exact ⟨qa,qc,ia,ic,A,hu⟩⟩
theorem oa (β : Nat) : gd.blks.get β = if β = 0 then some ⟨iQ,0,0,true⟩ else none:=by
 show ((Tr.nil).set 0 ⟨iQ,0,0,true⟩ : Tr bW).get β = _
 rw [Tr.get_set]
 rfl
theorem GG : WF gd:=by
 refine ⟨fun β b hb => ?_,fun β hβ => ⟨?_,rfl⟩⟩
 ·rw [oa] at hb
  split at hb
  ·injection hb with hb
   subst hb
   exact Nat.zero_le _
  ·cases hb
 ·have hβ : 1 ≤ β:=hβ
  rw [oa,if_neg (by omega)]
theorem JJ : ∀ β b,gd.blks.get β = some b → (b.cells.all bq) = true:=fun β b hb => by
 rw [oa] at hb
 split at hb
 ·injection hb with hb
  subst hb
  show iQ.all bq = true
  kernel_rfl
 ·cases hb
theorem GH (d : DataW H) (hd : eN Tryz.prog 6 25 d) : ∃ pa pc parts ra rc RL h1,d9 Tryz.prog 6 25 d gd = some ([.slice pa (List.length parts) pc,.slice ra (List.length RL) rc],h1) ∧ Kp gd h1 ∧ List.length parts ≤ maxLen ∧ RQ h1 pa parts ∧ RU h1 ra RL:=by
 have hd : ∃ xs,d = .agg xs ∧ oh (eN Tryz.prog 5) [22,23] xs:=hd
 obtain ⟨xs,rfl,x1,r1,rfl,t1,x2,r2,rfl,t2,hr⟩:=hd
 have hr : r2 = []:=hr
 subst hr
 obtain ⟨a1,n1,c1,l1,h1,e1,K1,rfl,hm,R1⟩:=LK x1 t1 gd GG
 obtain ⟨a2,n2,c2,l2,h2,e2,K2,rfl,R2⟩:=LG 3 x2 t2 h1 K1.wf
 refine ⟨a1,c1,l1,a2,c2,l2,h2,?_,K1.trans K2,hm,R1.kp K1.wf K2,R2⟩
 have q3 : d9 Tryz.prog 6 25 (.agg [x1,x2] : DataW H) gd = ep (H:=H) (d9 Tryz.prog 5) [(22,x1),(23,x2)] gd:=by kernel_rfl
 rw [q3]
 simp only [ep,e1,e2,Option.bind_some,List.cons_append,List.nil_append]
 noncomputable def CF : FuncId → List Value → AH → Option (Value × AH):=py Tryz.prog (jl (run Tryz.prog (maxLen + 3000)) 4 gd) (maxLen + 3000)
theorem GI (ds : List (DataW H)) (hd : oh (eN Tryz.prog 6) Tryz.f3.params.toList ds) : ∃ avs h1 h2,gm Tryz.prog 6 Tryz.f3.params.toList ds gd = some (avs,h1) ∧ CF 3 avs h1 = some (.bool true,h2):=by
 have hd : oh (eN Tryz.prog 6) [25,5,26] ds:=hd
 obtain ⟨d1,r1,rfl,t1,d2,r2,rfl,t2,d3,r3,rfl,t3,hr⟩:=hd
 have hr : r3 = []:=hr
 subst hr
 obtain ⟨pa,pc,parts,ra,rc,RL,h1,e1,K,hm,RQ0,RU0⟩:=GH d1 t1
 obtain ⟨wh,rfl,w2,e2⟩:=ud u5 t2
 obtain ⟨nn,rfl,w3,e3⟩:=ud OL t3
 have ho : ∀ g,Kq h1 g → zv gd g:=fun g Kg β hβ => by
  have q1:=K.old β hβ
  have q2:=Kg.old β (Nat.lt_of_lt_of_le hβ K.nxt)
  exact ⟨q2.1.trans q1.1,q2.2.trans q1.2⟩
 have hm' : parts.length ≤ 9223372036854775807:=hm
 obtain ⟨h2,q⟩:=MV (maxLen + 3000) K.wf RQ0 (pc:=pc) RU0 (rc:=rc) (by omega) hm' (cf:=jl (run Tryz.prog (maxLen + 3000)) 4 gd) (fun f a h hf => by rw [zw hf,j1]) (fun g Kg => yj (ho g Kg)) wh nn (xM w2) (MY w3)
 refine ⟨_,h1,h2,?_,by unfold CF; rw [← vY]; exact q⟩
 show gm Tryz.prog 6 [25,5,26] [d1,.lit (.int .u8 wh),.lit (.int .u16 nn)] gd = _
 unfold gm
 rw [e1,Option.bind_some]
 unfold gm
 simp only [e2,e3,Option.bind_some]
 kernel_rfl
end
end Go.Proofs.YtjdomdndflfjdaaGreatDoor.Kb
