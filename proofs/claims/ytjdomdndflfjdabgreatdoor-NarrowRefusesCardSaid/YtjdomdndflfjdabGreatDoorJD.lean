/- Joined texts: JD. -/
import Derived.Test.YtjdomdndflfjdabGreatDoorJC
import Derived.Test.YtjdomdndflfjdabGreatDoorJB
import Derived.Test.YtjdomdndflfjdabGreatDoorTC
namespace Go.Proofs.YtjdomdndflfjdabGreatDoor.Kb
open Go Go.Proofs Go.Proofs.YtjdomdndflfjdabGreatDoor.X
set_option linter.unusedSimpArgs false
set_option linter.unusedVariables false
theorem Hd {h h' : AH} {b o : Nat} {x y : Go.Value} (h1 : rdC h ⟨b,o,none⟩ 0 = some x) (h2 : rdC h' ⟨b,o,none⟩ 0 = some x) (h3 : rdC h ⟨b,o,none⟩ 1 = some y) (h4 : rdC h' ⟨b,o,none⟩ 1 = some y) (hx : uv x x = true) (hy : uv y y = true) : cF h h' ⟨b,o,none⟩ 2 = true:=by
 have e1 : fB h ⟨b,o,none⟩ 0 = some x:=h1
 have e2 : fB h' ⟨b,o,none⟩ 0 = some x:=h2
 have e3 : fB h ⟨b,o,none⟩ 1 = some y:=h3
 have e4 : fB h' ⟨b,o,none⟩ 1 = some y:=h4
 unfold cF cF cF
 rw [e1,e2,e3,e4]
 show (uv y y && (uv x x && true)) = true
 rw [hx,hy]
 rfl
theorem ER.keep {m : Nat} {τ τ' : Nat → Nat} {g g' : AH} {cs : List Go.Value} {TL : List fE} {S : List Nat} (H : WF g) (R : ER m τ g cs TL) (A : Bt m τ τ' g g' S) (h1 : 1 ∉ S) : ER m τ' g' cs TL:=fun i x hx => by
 obtain ⟨aa,ac,q1,q2⟩:=R i x hx
 exact ⟨aa,ac,q1,q2.keep H A h1⟩
theorem BL.keep {m : Nat} {τ τ' : Nat → Nat} {g g' : AH} {fcs : List Go.Value} {LB : List ba} {S : List Nat} (H : WF g) (R : BL m τ g fcs LB) (A : Bt m τ τ' g g' S) (h1 : 1 ∉ S) (hS : ∀ i,i < LB.length → 20 + 4 * i ∉ S ∧ 21 + 4 * i ∉ S ∧ 22 + 4 * i ∉ S) : BL m τ' g' fcs LB:=⟨R.1,fun i X hX => by
 obtain ⟨cells,c1,pa,pc,ia,ic,ta,tc,ra,rc,ics,tcs,c2,⟨c3,c4⟩,⟨c5,c6,c7⟩,⟨c8,c9⟩,⟨c10,c11⟩,c12⟩:=R.2 i X hX
 obtain ⟨s1,s2,s3⟩:=hS i (List.getElem?_eq_some_iff.1 hX).1
 exact ⟨cells,c1,pa,pc,ia,ic,ta,tc,ra,rc,ics,tcs,c2,⟨c3.keep H A s3,c4⟩,⟨c5.keep H A s2,c6,c7.keep H A h1⟩,⟨c8.keep H A h1,c9.keep H A h1⟩,⟨c10.keep H A s1,c11⟩,c12⟩⟩
theorem BL.app {m : Nat} {τ : Nat → Nat} {g : AH} {fcs : List Go.Value} {LB : List ba} (R : BL m τ g fcs LB) {cells : List Go.Value} (hc : cells.length = 9) {X : ba} (K : BK m τ g LB.length cells X) : BL m τ g (fcs ++ cells) (LB ++ [X]):=⟨by rw [List.length_append,R.1,hc,List.length_append,List.length_singleton]; omega,fun i Y hY => by
 have hl:=R.1
 rcases Nat.lt_or_ge i LB.length with h | h
 ·rw [List.getElem?_append_left h] at hY
  obtain ⟨cs,c1,c2⟩:=R.2 i Y hY
  refine ⟨cs,fun k v hv => ?_,c2⟩
  have:=c1 k v hv
  rw [List.getElem?_append_left (List.getElem?_eq_some_iff.1 this).1]
  exact this
 ·rw [List.getElem?_append_right h] at hY
  have hi : i = LB.length:=by
   rcases Nat.eq_or_lt_of_le h with e | e
   ·exact e.symm
   ·rw [List.getElem?_eq_none (by rw [List.length_singleton]; omega)] at hY
    cases hY
  subst hi
  rw [Nat.sub_self] at hY
  injection hY with hY
  subst hY
  refine ⟨cells,fun k v hv => ?_,K⟩
  rw [List.getElem?_append_right (by omega),show LB.length * 9 + k - fcs.length = k by omega]
  exact hv⟩
structure OF (h : AH) (τ : Nat → Nat) (g : AH) (p t : Nat) (pv rv : Go.Value) (ma sa ea : Option Addr) (EL : List Int) (w : Nat) (pr : Option Addr) (pcs : List Go.Value) (PL : List (List Int)) (fa : Option Addr) (fc : Nat) (fcs : List Go.Value) (LB : List ba) : Prop where
 f : FR h τ g p t pv rv ma sa ea EL
 r : Rw h.next τ 14 g pr 1 pcs
 q : PR h.next τ g w pcs PL
 b : Rw h.next τ 7 g fa 9 fcs
 a : Gr fa LB.length fc 9 fcs
 l : BL h.next τ g fcs LB
variable {h : AH} {τ τ' : Nat → Nat} {g g' : AH} {p t : Nat} {pv rv : Go.Value} {ma sa ea : Option Addr} {EL : List Int} {w : Nat} {pr : Option Addr} {pcs : List Go.Value} {PL : List (List Int)} {fa : Option Addr} {fc : Nat} {fcs : List Go.Value} {LB : List ba}
theorem OF.keep {S : List Nat} (X : OF h τ g p t pv rv ma sa ea EL w pr pcs PL fa fc fcs LB) (A : Bt h.next τ τ' g g' S) {w' : Nat} (hw : w ≤ w') (hS : ∀ k ∈ S,k ∈ [2,3,4,9,10,11,15,16,20 + 4 * LB.length,21 + 4 * LB.length]) : OF h τ' g' p t pv rv ma sa ea EL w' pr pcs PL fa fc fcs LB:=by
 have H:=X.f.wf
 have no : ∀ k,k ∉ [2,3,4,9,10,11,15,16,20 + 4 * LB.length,21 + 4 * LB.length] → k ∉ S:=fun k hk hs => hk (hS k hs)
 refine ⟨X.f.keep H A fun k hk => no k ?_,X.r.keep H A (no _ (by simp; omega)),X.q.keep H A hw fun i _ => no _ (by simp; omega),X.b.keep H A (no _ (by simp; omega)),X.a,X.l.keep H A (no _ (by simp; omega)) fun i hi => ⟨no _ (by simp; omega),no _ (by simp; omega),no _ (by simp; omega)⟩⟩
 simp only [List.mem_cons,List.not_mem_nil,or_false] at hk ⊢
 omega
structure IS (h : AH) (τ : Nat → Nat) (g : AH) (B p t : Nat) (pv rv : Go.Value) (ma sa ea : Option Addr) (ec : Nat) (EL : List Int) (pr : Option Addr) (pcs : List Go.Value) (PL : List (List Int)) (fa : Option Addr) (fc : Nat) (fcs : List Go.Value) (LB : List ba) (w0 d : Nat) (WL HV : List Int) (IL : List bF) (x : Nat) (xcs : List Go.Value) : Prop where
 b : BS h.next τ (21 + 4 * LB.length) g B iv (.slice ma 2 2) (.slice sa 2 2) (.slice ea EL.length ec) (.slice fa LB.length fc) WL HV IL
 o : OF h τ g p t pv rv ma sa ea EL WL.length pr pcs PL fa fc fcs LB
 x : Ow h.next τ 16 g x xcs
 w : WL.length ≤ w0 + d
 v : HV.length ≤ 4 + d
 i : IL.length ≤ d
 a : ∀ y ∈ IL,y.args.length ≤ 3
variable {B x ec w0 d : Nat} {WL HV : List Int} {IL : List bF} {xcs : List Go.Value}
theorem IS.step {WL' HV' : List Int} {IL' : List bF} {e : Nat} (X : IS h τ g B p t pv rv ma sa ea ec EL pr pcs PL fa fc fcs LB w0 d WL HV IL x xcs) (G : BG h.next τ τ' (21 + 4 * LB.length) g g' B iv (.slice ma 2 2) (.slice sa 2 2) (.slice ea EL.length ec) (.slice fa LB.length fc) WL HV IL e WL' HV' IL') :
  IS h τ' g' B p t pv rv ma sa ea ec EL pr pcs PL fa fc fcs LB w0 (d + e) WL' HV' IL' x xcs :=
 ⟨G.st,X.o.keep G.bt G.wl (by simp),X.x.keep X.b.wf G.bt (by simp; omega),by have:=X.w; have:=G.w; omega,by have:=X.v; have:=G.v; omega,by have:=X.i; have:=G.i; omega,G.a X.a⟩
theorem IS.loc {S : List Nat} (X : IS h τ g B p t pv rv ma sa ea ec EL pr pcs PL fa fc fcs LB w0 d WL HV IL x xcs) (A : Bt h.next τ τ' g g' S) (hS : ∀ k ∈ S,k ∈ [9,10,11,15,20 + 4 * LB.length]) : IS h τ' g' B p t pv rv ma sa ea ec EL pr pcs PL fa fc fcs LB w0 d WL HV IL x xcs :=
 ⟨X.b.keep A fun k hk hs => by
  have:=hS k hs
  simp only [List.mem_cons,List.not_mem_nil,or_false] at hk this
  omega,X.o.keep A (Nat.le_refl _) fun k hk => by
  have:=hS k hk
  simp only [List.mem_cons,List.not_mem_nil,or_false] at this ⊢
  omega,X.x.keep X.b.wf A fun hs => by
  have:=hS 16 hs
  simp only [List.mem_cons,List.not_mem_nil,or_false] at this
  omega,X.w,X.v,X.i,X.a⟩
structure S3 (h : AH) (τ : Nat → Nat) (g : AH) (B p t : Nat) (pv rv : Go.Value) (ma sa ea : Option Addr) (ec : Nat) (EL : List Int) (pr : Option Addr) (pcs : List Go.Value) (PL : List (List Int)) (fa : Option Addr) (fc : Nat) (fcs : List Go.Value) (LB : List ba) (WL : List Int) : Prop where
 b : ∃ kI HV IL,BS h.next τ kI g B iv (.slice ma 2 2) (.slice sa 2 2) (.slice ea EL.length ec) (.slice fa LB.length fc) WL HV IL
 o : OF h τ g p t pv rv ma sa ea EL WL.length pr pcs PL fa fc fcs LB
 w : WL.length ≤ 20 + 70 * LB.length
structure TS (h : AH) (τ : Nat → Nat) (g : AH) (i y : Nat) (kind co : Int) (ta : Option Addr) (tc : Nat) (tcs : List Go.Value) (TL : List fE) (ra : Option Addr) (rc : Nat) (RT : List Int) : Prop where
 c : Ow h.next τ 9 g y [.int .i64 kind,.int .i64 co,.slice ta TL.length tc,.slice ra RT.length rc]
 t : Rw h.next τ 1 g ta 2 tcs
 e : ER h.next τ g tcs TL
 r : Rw h.next τ (20 + 4 * i) g ra 1 (bU RT)
 a : Gr ra RT.length rc 1 (bU RT)
 n : TL.length ≤ 2 ∧ (∀ x ∈ TL,x.args.length ≤ 4) ∧ RT.length ≤ 3
section
variable {h : AH} {τ τ' : Nat → Nat} {g g' : AH} {p t : Nat} {pv rv : Go.Value} {ma sa ea : Option Addr} {EL : List Int} {w : Nat} {pr : Option Addr} {pcs : List Go.Value} {PL : List (List Int)} {fa : Option Addr} {fc : Nat} {fcs : List Go.Value} {LB : List ba}
variable {B x ec w0 d : Nat} {WL HV : List Int} {IL : List bF} {xcs : List Go.Value}
theorem TS.keep {i y : Nat} {kind co : Int} {ta : Option Addr} {tc : Nat} {tcs : List Go.Value} {TL : List fE} {ra : Option Addr} {rc : Nat} {RT : List Int} {S : List Nat} (H : WF g) (T : TS h τ g i y kind co ta tc tcs TL ra rc RT) (A : Bt h.next τ τ' g g' S) (hS : ∀ k ∈ [1,9,20 + 4 * i],k ∉ S) : TS h τ' g' i y kind co ta tc tcs TL ra rc RT :=
 ⟨T.c.keep H A (hS 9 (by simp)),T.t.keep H A (hS 1 (by simp)),T.e.keep H A (hS 1 (by simp)),T.r.keep H A (hS _ (by simp)),T.a,T.n⟩
theorem k7 (n m0 : Nat) {pn pc5 : Nat} (hpn : pn = PL.length) (hi : LB.length < PL.length) (hP5 : PL.length ≤ 5) (hd : d ≤ 70) (hw0 : w0 ≤ 20 + 70 * LB.length)
  (nx : ∀ (τ : Nat → Nat) (g : AH) (fa : Option Addr) (fc : Nat) (fcs : List Go.Value) (X : ba) (WL : List Int),S3 h τ g B p t pv rv ma sa ea ec EL pr pcs PL fa fc fcs (LB ++ [X]) WL → BO h (kG n m0 h ⟨p,0,none⟩ ⟨t,0,none⟩ ⟨B,0,none⟩ pr pn pc5 ((LB.length + 1 : Nat) : Int) g))
  (X : IS h τ g B p t pv rv ma sa ea ec EL pr pcs PL fa fc fcs LB w0 d WL HV IL x xcs) {y : Nat} {kind co : Int} {ta : Option Addr} {tc : Nat} {tcs : List Go.Value} {TL : List fE} {ra : Option Addr} {rc : Nat} {RT : List Int} (T : TS h τ g LB.length y kind co ta tc tcs TL ra rc RT) :
  BO h (oj n m0 h ⟨p,0,none⟩ ⟨t,0,none⟩ ⟨B,0,none⟩ pr pn pc5 (LB.length : Nat) ⟨y,0,none⟩ g):=by
 subst hpn
 have hw:=X.b.wf
 have hn : h.next ≤ g.next:=X.o.f.kq.nxt
 obtain ⟨L,hL⟩ : ∃ L,PL[LB.length]? = some L:=⟨_,List.getElem?_eq_getElem (by omega)⟩
 obtain ⟨la,lc,hpc,⟨hl1,hl2⟩,hl4,hlv⟩:=X.o.q _ L hL
 obtain ⟨β,hβ,hrd⟩:=X.o.r.rd hpc
 have hrd:=hrd (LB.length * 1) 0 (by omega)
 obtain ⟨wa,wc,va,vc,ia,ic,ics,O,⟨w1,w2⟩,⟨v1,v2⟩,i1,i2,i3⟩:=X.b.st
 have eb:=aK (i:=(LB.length : Int)) (n:=PL.length) (by omega) (by omega)
 obtain ⟨g1,g2,a',k1,k2,A2,R2,G2,_,n2⟩:=gx (m:=h.next) (by_:=136) hw hn [.slice la L.length lc,.slice ia IL.length ic,.int .i64 kind,.int .i64 co,.slice ta TL.length tc,.slice ra RT.length rc,.int .i64 0,.int .i64 0,.int .i64 0] X.o.b X.o.a rfl (by omega) (by omega)
 have O2:=O.keep hw A2 (by simp)
 obtain ⟨g3,k3,A3,O3,n3,l3⟩:=cM (o:=5) (vs:=[.slice a' (LB.length + 1) aG]) A2.wf O2 (by simp)
 have AA : Bt h.next τ (upd τ g.next 7) g g3 [7,2]:=Bt.trans hw (A2.mono (by simp)) (A3.mono (by simp))
 have eL : ∀ Y : ba,(LB ++ [Y]).length = LB.length + 1:=fun Y => by simp
 have W : BS h.next (upd τ g.next 7) (21 + 4 * LB.length) g3 B iv (.slice ma 2 2) (.slice sa 2 2) (.slice ea EL.length ec) (.slice a' (LB.length + 1) aG) WL HV IL :=
  ⟨A3.wf,AA.lo2 X.b.lo,⟨wa,wc,va,vc,ia,ic,ics,O3,⟨w1.keep hw AA (by simp),w2⟩,⟨v1.keep hw AA (by simp),v2⟩,i1.keep hw AA (by simp; omega),i2,i3.keep hw AA (by simp)⟩,X.b.hv,X.b.ki⟩
 have K : BK h.next (upd τ g.next 7) g3 LB.length [.slice la L.length lc,.slice ia IL.length ic,.int .i64 kind,.int .i64 co,.slice ta TL.length tc,.slice ra RT.length rc,.int .i64 0,.int .i64 0,.int .i64 0] ⟨L,IL,kind,co,TL,RT,0,0,0⟩ :=
  ⟨la,lc,ia,ic,ta,tc,ra,rc,ics,tcs,rfl,⟨hl1.keep hw AA (by simp; omega),hl2⟩,⟨i1.keep hw AA (by simp; omega),i2,i3.keep hw AA (by simp)⟩,⟨T.t.keep hw AA (by simp),T.e.keep hw AA (by simp)⟩,⟨T.r.keep hw AA (by simp; omega),T.a⟩,hl4,by have:=X.i; show IL.length ≤ 80; omega,T.n.1,T.n.2.2,T.n.2.1,X.a⟩
 have hk2 : ∀ k ∈ [6,8,12,17],k ∉ [7,2]:=by simp
 have S : S3 h (upd τ g.next 7) g3 B p t pv rv ma sa ea ec EL pr pcs PL a' aG (fcs ++ [.slice la L.length lc,.slice ia IL.length ic,.int .i64 kind,.int .i64 co,.slice ta TL.length tc,.slice ra RT.length rc,.int .i64 0,.int .i64 0,.int .i64 0]) (LB ++ [⟨L,IL,kind,co,TL,RT,0,0,0⟩]) WL :=
  ⟨⟨_,HV,IL,by rw [eL]; exact W⟩,⟨X.o.f.keep hw AA hk2,X.o.r.keep hw AA (by simp),X.o.q.keep hw AA (Nat.le_refl _) (by simp; omega),R2.keep A2.wf A3 (by simp),by rw [eL]; exact G2,BL.app (X.o.l.keep hw AA (by simp) (by simp; omega)) rfl K⟩,by have:=X.w; rw [eL]; omega⟩
 have nx:=nx _ g3 _ _ _ _ WL S
 subst hβ
 refine BO.imp BC ?_
 simp only [O.rd,T.c.rd,Nat.zero_add,Nat.add_zero,List.getElem?_cons_zero,List.getElem?_cons_succ,aj,Nat.reduceAdd,ak,ae,an,au,ap,aq,cond_true,cond_false,eb,Int.toNat_natCast,hrd,k1,k2,k3,dv (show LB.length < 9223372036854775807 by omega)]
 exact nx
end
section
variable {h : AH} {p t : Nat} {pv rv : Go.Value} {ma sa ea : Option Addr} {EL : List Int} {pr : Option Addr} {pcs : List Go.Value} {PL : List (List Int)} {fa : Option Addr} {fc : Nat} {fcs : List Go.Value} {LB : List ba}
variable {B x ec w0 : Nat} {qa ia : Option Addr} {qn qc iN ic : Nat} {kd t0 t1 c0 c1 c2 c3 : Int}
theorem k5 (n m0 : Nat) (hN : 1300 ≤ n) {pn pc5 : Nat} (hpn : pn = PL.length) (hi : LB.length < PL.length) (hP5 : PL.length ≤ 5) (hw0 : w0 ≤ 20 + 70 * LB.length) (hE : EL.length ≤ 3) (h64 : ∀ z ∈ EL,z ≤ 64)
  (nx : ∀ (τ : Nat → Nat) (g : AH) (fa : Option Addr) (fc : Nat) (fcs : List Go.Value) (X : ba) (WL : List Int),S3 h τ g B p t pv rv ma sa ea ec EL pr pcs PL fa fc fcs (LB ++ [X]) WL → BO h (kG n m0 h ⟨p,0,none⟩ ⟨t,0,none⟩ ⟨B,0,none⟩ pr pn pc5 ((LB.length + 1 : Nat) : Int) g)) :
  ∀ (j k m1 d : Nat) (τ : Nat → Nat) (g : AH) (WL HV : List Int) (IL : List bF) (y : Nat) (kind co : Int) (ta : Option Addr) (tc : Nat) (tcs : List Go.Value) (TL : List fE) (ra : Option Addr) (rc : Nat) (RT : List Int),j < m1 → k + j = EL.length → RT.length = k → d ≤ 60 + k →
   IS h τ g B p t pv rv ma sa ea ec EL pr pcs PL fa fc fcs LB w0 d WL HV IL x [.slice qa qn qc,.slice ia iN ic,.int .u8 kd,.int .u8 t0,.int .u8 t1,.int .u8 c0,.int .u8 c1,.int .u8 c2,.int .u8 c3] → TS h τ g LB.length y kind co ta tc tcs TL ra rc RT →
   BO h (oi n m1 m0 h ⟨p,0,none⟩ ⟨t,0,none⟩ ⟨B,0,none⟩ pr pn pc5 (LB.length : Nat) ⟨x,0,none⟩ ⟨y,0,none⟩ k g):=by
 intro j
 induction j with
 | zero =>
  intro k m1 d τ g WL HV IL y kind co ta tc tcs TL ra rc RT hj hk hRT hd X T
  obtain ⟨m1,rfl⟩ : ∃ q,m1 = q + 1:=⟨m1 - 1,by omega⟩
  obtain ⟨wa,wc,va,vc,ia',ic',ics,O,_⟩:=X.b.st
  have r:=k7 n m0 hpn hi hP5 (by omega) hw0 nx X T
  refine BO.imp t8 ?_
  simp only [O.rd,Nat.zero_add,Nat.add_zero,List.getElem?_cons_zero,List.getElem?_cons_succ,aj,Nat.reduceAdd,ak,ae,an,au,ap,aq,cond_true,cond_false,dl,dF (show ¬ (k : Int) < EL.length by omega)]
  exact r
 | succ j ih =>
  intro k m1 d τ g WL HV IL y kind co ta tc tcs TL ra rc RT hj hk hRT hd X T
  obtain ⟨m1,rfl⟩ : ∃ q,m1 = q + 1:=⟨m1 - 1,by omega⟩
  have hw:=X.b.wf
  have lw:=X.w
  have lv:=X.v
  have li:=X.i
  obtain ⟨wa,wc,va,vc,ia',ic',ics,O,_⟩:=X.b.st
  obtain ⟨z,hz⟩ : ∃ z,EL[k]? = some z:=⟨_,List.getElem?_eq_getElem (by omega)⟩
  have hz64:=h64 z (List.mem_of_getElem? hz)
  obtain ⟨β,o,p1,p2⟩:=X.o.f.ea.ri k z hz
  have p2:=p2 0 _ rfl
  have eb:=aK (i:=(k : Int)) (n:=EL.length) (by omega) (by omega)
  have nxt : ∀ (τ2 : Nat → Nat) (g2 : AH) (WL2 HV2 : List Int) (IL2 : List bF) (v : Int),IS h τ2 g2 B p t pv rv ma sa ea ec EL pr pcs PL fa fc fcs LB w0 (d + 1) WL2 HV2 IL2 x [.slice qa qn qc,.slice ia iN ic,.int .u8 kd,.int .u8 t0,.int .u8 t1,.int .u8 c0,.int .u8 c1,.int .u8 c2,.int .u8 c3] → TS h τ2 g2 LB.length y kind co ta tc tcs TL ra rc RT →
    ∃ g3 g4 a' g5,aF g2 [.int .i64 v] 1 = some (g2.next,g3) ∧ dg 1 8 (.slice ra RT.length rc) (.slice (some ⟨g2.next,0,none⟩) 1 1) g3 = some ((a',RT.length + 1,aG),g4) ∧ di g4 ⟨y,3,none⟩ [.slice a' (RT.length + 1) aG] = some g5 ∧ rdC g3 ⟨y,3,none⟩ 0 = some (.slice ra RT.length rc) ∧
     BO h (oi n m1 m0 h ⟨p,0,none⟩ ⟨t,0,none⟩ ⟨B,0,none⟩ pr pn pc5 (LB.length : Nat) ⟨x,0,none⟩ ⟨y,0,none⟩ ((k + 1 : Nat) : Int) g5):=by
   intro τ2 g2 WL2 HV2 IL2 v X2 T2
   have hw2:=X2.b.wf
   have hn2 : h.next ≤ g2.next:=X2.o.f.kq.nxt
   obtain ⟨g3,g4,a',k3,k4,A3,R4,G4,_,n4⟩:=gx (m:=h.next) (by_:=8) hw2 hn2 [.int .i64 v] T2.r T2.a rfl (by omega) (by omega)
   obtain ⟨g3',k3',A3',_⟩:=bP (m:=h.next) (τ:=τ2) hw2 hn2 (20 + 4 * LB.length) 1 [.int .i64 v]
   rw [k3] at k3'
   injection k3' with k3'
   injection k3' with _ k3'
   subst k3'
   have C3:=T2.c.keep hw2 A3' (by simp)
   have C4:=T2.c.keep hw2 A3 (by simp; omega)
   obtain ⟨g5,k5,A5,O5,n5,l5⟩:=cM (o:=3) (vs:=[.slice a' (RT.length + 1) aG]) A3.wf C4 (by simp)
   have eR : (RT ++ [v]).length = RT.length + 1:=by simp
   rw [gR] at R4 G4
   have AA : Bt h.next τ2 _ g2 g5 [20 + 4 * LB.length,9]:=Bt.trans hw2 (A3.mono (by simp)) (A5.mono (by simp))
   refine ⟨g3,g4,a',g5,k3,k4,k5,by rw [C3.rd]; rfl,?_⟩
   refine ih (k + 1) m1 (d + 1) _ g5 WL2 HV2 IL2 y kind co ta tc tcs TL a' aG (RT ++ [v]) (by omega) (by omega) (by omega) (by omega) (X2.loc AA (by simp)) ⟨by rw [eR]; exact O5,T2.t.keep hw2 AA (by simp; omega),T2.e.keep hw2 AA (by simp; omega),R4.keep A3.wf A5 (by simp; omega),by rw [eR]; exact G4,T2.n.1,T2.n.2.1,by omega⟩
  obtain ⟨a0,a1⟩:=H9 c0 (aQ .u8 k)
  obtain ⟨v0,g',r0,q⟩:=X.b.pick0 (by omega) n (by omega) z (aT .u8 c0 (aQ .u8 k)) hz64 a0 a1
  subst p1
  refine BO.imp t8 ?_
  rcases q with ⟨b1,b2⟩ | b1
  ·obtain ⟨g3,g4,a',g5,k3,k4,k5,k6,X5⟩:=nxt τ g WL HV IL v0 ⟨X.b,X.o,X.x,by omega,by omega,by omega,X.a⟩ T
   simp only [O.rd,T.c.rd,X.x.rd,Nat.zero_add,Nat.add_zero,List.getElem?_cons_zero,List.getElem?_cons_succ,aj,Nat.reduceAdd,ak,ae,an,au,ap,aq,cond_true,cond_false,dl,du (show (k : Int) < EL.length by omega),eb,Int.toNat_natCast,p2,r0,b1,b2,k3,k4,k5,dv (show k < 9223372036854775807 by omega)]
   exact X5
  ·obtain ⟨v,τ2,g2,WL2,HV2,IL2,r2,G2,_⟩:=pZ n (by omega) X.b z (aT .u8 c0 (aQ .u8 k)) hz64 a0 a1 (by omega)
   have T2:=T.keep hw G2.bt (by simp; omega)
   obtain ⟨g3,g4,a',g5,k3,k4,k5,k6,X5⟩:=nxt τ2 g2 WL2 HV2 IL2 v (X.step G2) T2
   have z0 : rdC g ⟨y,3,none⟩ 0 = some (.slice ra RT.length rc):=by rw [T.c.rd]; rfl
   have z2 : rdC g2 ⟨y,3,none⟩ 0 = some (.slice ra RT.length rc):=by rw [T2.c.rd]; rfl
   have s2:=gy z0 z2 (pY T.r _ _)
   have s3:=gy z0 k6 (pY T.r _ _)
   simp only [O.rd,T.c.rd,X.x.rd,Nat.zero_add,Nat.add_zero,List.getElem?_cons_zero,List.getElem?_cons_succ,aj,Nat.reduceAdd,ak,ae,an,au,ap,aq,cond_true,cond_false,dl,du (show (k : Int) < EL.length by omega),eb,Int.toNat_natCast,p2,r0,b1,r2,k3,k4,k5,s2,s3,Bool.and_true,dv (show k < 9223372036854775807 by omega)]
   exact X5
end
section
variable {h : AH} {p t : Nat} {pv rv : Go.Value} {ma sa ea : Option Addr} {EL : List Int} {pr : Option Addr} {pcs : List Go.Value} {PL : List (List Int)} {fa : Option Addr} {fc : Nat} {fcs : List Go.Value} {LB : List ba}
variable {B x ec w0 d : Nat} {τ : Nat → Nat} {g : AH} {WL HV : List Int} {IL : List bF} {xcs : List Go.Value}
theorem IS.low (X : IS h τ g B p t pv rv ma sa ea ec EL pr pcs PL fa fc fcs LB w0 d WL HV IL x xcs) (y : Nat) (hy : h.next ≤ y) : IS h τ (setLow g y) B p t pv rv ma sa ea ec EL pr pcs PL fa fc fcs LB w0 d WL HV IL x xcs :=
 ⟨X.b.low y hy,⟨⟨X.o.f.kq,X.o.f.p,X.o.f.t,X.o.f.ma,X.o.f.sa,X.o.f.ea⟩,X.o.r,X.o.q,X.o.b,X.o.a,X.o.l⟩,X.x,X.w,X.v,X.i,X.a⟩
theorem TS.low {i y : Nat} {kind co : Int} {ta : Option Addr} {tc : Nat} {tcs : List Go.Value} {TL : List fE} {ra : Option Addr} {rc : Nat} {RT : List Int} (T : TS h τ g i y kind co ta tc tcs TL ra rc RT) (z : Nat) : TS h τ (setLow g z) i y kind co ta tc tcs TL ra rc RT:=⟨T.c,T.t,T.e,T.r,T.a,T.n⟩
variable (H : WF h) {pa : Option Addr} {pc : Nat} {parts : List fF} (RQ0 : RQ h pa parts) (hp : 1 ≤ parts.length ∧ parts.length ≤ 5) (h4 : ∀ x ∈ parts,x.params.length ≤ 4)
 include H RQ0 hp h4
theorem IS.edge (X : IS h τ g B p t pv rv ma sa ea ec EL pr pcs PL fa fc fcs LB w0 d WL HV IL x xcs) (hl : w0 ≤ 400 ∧ d ≤ 70) (n : Nat) (hN : 1300 ≤ n) (ra : Option Addr) (rn rc : Nat) (to_ n3 : Int) (ht : U8 to_) :
  ∃ τ' g' WL' HV' IL' k ea' ec' AL,az Tryz.prog n 42 [.pointer (some ⟨B,0,none⟩),.agg #[.slice pa parts.length pc,.slice ra rn rc],.int .u8 to_,.int .u8 n3] g = some (.agg #[.int .i64 k,.slice ea' (List.length AL) ec'],g') ∧
   IS h τ' g' B p t pv rv ma sa ea ec EL pr pcs PL fa fc fcs LB w0 (d + 4) WL' HV' IL' x xcs ∧ Bt h.next τ τ' g g' [2,3,4,21 + 4 * LB.length] ∧ Rw h.next τ' 1 g' ea' 1 (bU AL) ∧ AL.length ≤ 4:=by
 have:=X.w
 have:=X.v
 have:=X.i
 obtain ⟨τ',g',WL',HV',IL',k,ea',ec',AL,r,G,K,R,hA⟩:=Ia n hN H (Nat.le_refl _) X.b X.o.f.kq (by omega) RQ0 (pc:=pc) hp h4 ra rn rc to_ n3 ht
 exact ⟨τ',g',WL',HV',IL',k,ea',ec',AL,r,X.step G,G.bt,R,hA⟩
 omit H RQ0 hp h4 in
theorem ER.one {m : Nat} {k : Int} {ea' : Option Addr} {ec' : Nat} {AL : List Int} (R : Rw m τ 1 g ea' 1 (bU AL)) : ER m τ g [.int .i64 k,.slice ea' AL.length ec'] [⟨k,AL⟩]:=fun i y hy => by
  match i,hy with
  | 0,hy =>
   injection hy with hy
   subst hy
   exact ⟨ea',ec',fun j v hv => by rwa [Nat.zero_mul,Nat.zero_add],R⟩
  | i + 1,hy => cases hy
 omit H RQ0 hp h4 in
theorem ER.two {m : Nat} {k k' : Int} {ea' ea2 : Option Addr} {ec' ec2 : Nat} {AL A2 : List Int} (R : Rw m τ 1 g ea' 1 (bU AL)) (R' : Rw m τ 1 g ea2 1 (bU A2)) : ER m τ g [.int .i64 k,.slice ea' AL.length ec',.int .i64 k',.slice ea2 A2.length ec2] [⟨k,AL⟩,⟨k',A2⟩]:=fun i y hy => by
  match i,hy with
  | 0,hy =>
   injection hy with hy
   subst hy
   refine ⟨ea',ec',fun j v hv => ?_,R⟩
   match j,hv with
   | 0,hv => exact hv
   | 1,hv => exact hv
   | j + 2,hv => cases hv
  | 1,hy =>
   injection hy with hy
   subst hy
   refine ⟨ea2,ec2,fun j v hv => ?_,R'⟩
   match j,hv with
   | 0,hv => exact hv
   | 1,hv => exact hv
   | j + 2,hv => cases hv
  | i + 2,hy => cases hy
theorem k6 (n m0 : Nat) (hN : 1300 ≤ n) {pn pc5 : Nat} (hpn : pn = PL.length) (hi : LB.length < PL.length) (hP5 : PL.length ≤ 5) (hw0 : w0 ≤ 20 + 70 * LB.length)
  (nx : ∀ (τ : Nat → Nat) (g : AH) (fa : Option Addr) (fc : Nat) (fcs : List Go.Value) (X : ba) (WL : List Int),S3 h τ g B p t (.slice pa parts.length pc) rv ma sa ea ec EL pr pcs PL fa fc fcs (LB ++ [X]) WL → BO h (kG n m0 h ⟨p,0,none⟩ ⟨t,0,none⟩ ⟨B,0,none⟩ pr pn pc5 ((LB.length + 1 : Nat) : Int) g))
  {ra : Option Addr} {rn rc : Nat} (hrv : rv = .slice ra rn rc) {qa ia : Option Addr} {qn qc iN ic : Nat} {kd t0 t1 c0 c1 c2 c3 : Int} (ht0 : U8 t0) (ht1 : U8 t1) (hc1 : U8 c1) (hd : d ≤ 60) (ki : Int)
  (X : IS h τ g B p t (.slice pa parts.length pc) rv ma sa ea ec EL pr pcs PL fa fc fcs LB w0 d WL HV IL x [.slice qa qn qc,.slice ia iN ic,.int .u8 kd,.int .u8 t0,.int .u8 t1,.int .u8 c0,.int .u8 c1,.int .u8 c2,.int .u8 c3]) {y : Nat} {co : Int} {tc rc' : Nat} (T : TS h τ g LB.length y 3 co none tc [] [] none rc' []) :
  BO h (BA n m0 h ⟨p,0,none⟩ ⟨t,0,none⟩ ⟨B,0,none⟩ pr pn pc5 (LB.length : Nat) ⟨x,0,none⟩ ⟨y,0,none⟩ ki g):=by
 subst hrv
 have hw:=X.b.wf
 have BOc : ∀ {c : Bool} {A Z : Option (Go.Value × AH)},BO h A → BO h Z → BO h (cond c A Z):=fun {c} {A Z} h1 h2 => by
  cases c
  ·exact h2
  ·exact h1
 have Jd : ∀ z : Int,∃ g1,di g ⟨y,0,none⟩ [.int .i64 z] = some g1 ∧ IS h τ g1 B p t (.slice pa parts.length pc) (.slice ra rn rc) ma sa ea ec EL pr pcs PL fa fc fcs LB w0 d WL HV IL x [.slice qa qn qc,.slice ia iN ic,.int .u8 kd,.int .u8 t0,.int .u8 t1,.int .u8 c0,.int .u8 c1,.int .u8 c2,.int .u8 c3] ∧ TS h τ g1 LB.length y z co none tc [] [] none rc' []:=fun z => by
  obtain ⟨g1,k1,A1,O1,n1,l1⟩:=cM (o:=0) (vs:=[.int .i64 z]) hw T.c (by simp)
  exact ⟨g1,k1,X.loc A1 (by simp),⟨O1,.nil,(fun i z hz => by cases hz),.nil,T.a,T.n⟩⟩
 refine BO.imp BB ?_
 refine BOc ?_ ?_
 ·obtain ⟨g1,k1,X1,T1⟩:=Jd 1
  obtain ⟨τ2,g2,WL2,HV2,IL2,k,ea',ec',AL,r2,X2,A2,R2,hA⟩:=X1.edge (pc:=pc) H RQ0 hp h4 (by omega) n hN ra rn rc t0 c0 ht0
  have T2:=T1.keep X1.b.wf A2 (by simp; omega)
  obtain ⟨g3,k3,A3,O3,R3,n3,l3⟩:=bP (m:=h.next) (τ:=τ2) X2.b.wf X2.o.f.kq.nxt 1 2 [.int .i64 k,.slice ea' AL.length ec']
  have T3:=T2.keep X2.b.wf A3 (by simp)
  have X3:=X2.loc A3 (by simp)
  obtain ⟨g4,k4,A4,O4,n4,l4⟩:=cM (o:=2) (vs:=[.slice (some ⟨g2.next,0,none⟩) 1 1]) X3.b.wf T3.c (by simp)
  have X4:=X3.loc A4 (by simp)
  have hw3:=X3.b.wf
  have r:=k7 n m0 hpn hi hP5 (by omega) hw0 nx X4 (y:=y) (kind:=1) (co:=co) (tc:=1) (TL:=[⟨k,AL⟩]) (rc:=rc') (RT:=[]) ⟨O4,R3.keep hw3 A4 (by simp),(ER.one (R2.keep X2.b.wf A3 (by simp))).keep hw3 A4 (by simp),.nil,T.a,by simp,by simp; omega,by simp⟩
  simp only [k1,X1.o.f.p.rd,X1.x.rd,Nat.zero_add,Nat.add_zero,List.getElem?_cons_zero,List.getElem?_cons_succ,aj,Nat.reduceAdd,ak,ae,an,au,ap,aq,cond_true,cond_false,r2,iV,iW,iX,jP,jQ,jR,k3,k4]
  exact r
 ·obtain ⟨g1,k1,X1,T1⟩:=Jd 2
  have:=X1.w
  have:=X1.v
  have:=X1.i
  obtain ⟨v,τ2,g2,WL2,HV2,IL2,r2,G2,_⟩:=pZ n (by omega) X1.b 1 c1 (by omega) hc1.1 hc1.2 (by omega)
  have X2:=X1.step G2
  have T2:=T1.keep X1.b.wf G2.bt (by simp; omega)
  obtain ⟨g3,k3,A3,O3,n3,l3⟩:=cM (o:=1) (vs:=[.int .i64 v]) X2.b.wf T2.c (by simp)
  have X3:=X2.loc A3 (by simp)
  have T3 : TS h τ2 g3 LB.length y 2 v none tc [] [] none rc' []:=⟨O3,.nil,(fun i z hz => by cases hz),.nil,T.a,T.n⟩
  obtain ⟨τ4,g4,WL4,HV4,IL4,k,ea',ec',AL,r4,X4,A4,R4,hA⟩:=X3.edge (pc:=pc) H RQ0 hp h4 (by omega) n hN ra rn rc t0 c2 ht0
  have T4:=T3.keep X3.b.wf A4 (by simp; omega)
  obtain ⟨g5,k5,A5,O5,_,n5,l5⟩:=bP (m:=h.next) (τ:=τ4) X4.b.wf X4.o.f.kq.nxt 15 0 [.int .i64 0,.slice none 0 0]
  have T5:=T4.keep X4.b.wf A5 (by simp)
  have X5:=X4.loc A5 (by simp)
  have R5:=R4.keep X4.b.wf A5 (by simp)
  obtain ⟨g6,k6,A6,O6,n6,l6⟩:=cM (o:=0) (vs:=[.int .i64 k,.slice ea' AL.length ec']) X5.b.wf O5 (by simp)
  have T6:=T5.keep X5.b.wf A6 (by simp; omega)
  have X6:=X5.loc A6 (by simp)
  have R6:=R5.keep X5.b.wf A6 (by simp)
  have O6 : Ow h.next (upd τ4 g4.next 15) 15 g6 g4.next [.int .i64 k,.slice ea' AL.length ec']:=O6
  have fin : ∀ (τ7 : Nat → Nat) (g7 : AH) (WL7 HV7 : List Int) (IL7 : List bF) (k' : Int) (ea2 : Option Addr) (ec2 : Nat) (A2 : List Int),IS h τ7 g7 B p t (.slice pa parts.length pc) (.slice ra rn rc) ma sa ea ec EL pr pcs PL fa fc fcs LB w0 (d + 1 + 4 + 4) WL7 HV7 IL7 x [.slice qa qn qc,.slice ia iN ic,.int .u8 kd,.int .u8 t0,.int .u8 t1,.int .u8 c0,.int .u8 c1,.int .u8 c2,.int .u8 c3] →
    TS h τ7 g7 LB.length y 2 v none tc [] [] none rc' [] → Rw h.next τ7 1 g7 ea' 1 (bU AL) → Rw h.next τ7 1 g7 ea2 1 (bU A2) → A2.length ≤ 4 →
    ∃ g8 g9,aF g7 [.int .i64 k,.slice ea' AL.length ec',.int .i64 k',.slice ea2 A2.length ec2] 2 = some (g7.next,g8) ∧ di g8 ⟨y,2,none⟩ [.slice (some ⟨g7.next,0,none⟩) 2 2] = some g9 ∧ BO h (oj n m0 h ⟨p,0,none⟩ ⟨t,0,none⟩ ⟨B,0,none⟩ pr pn pc5 (LB.length : Nat) ⟨y,0,none⟩ g9):=by
   intro τ7 g7 WL7 HV7 IL7 k' ea2 ec2 A2 X7 T7 RA RB hA2
   obtain ⟨g8,k8,A8,O8,R8,n8,l8⟩:=bP (m:=h.next) (τ:=τ7) X7.b.wf X7.o.f.kq.nxt 1 2 [.int .i64 k,.slice ea' AL.length ec',.int .i64 k',.slice ea2 A2.length ec2]
   have T8:=T7.keep X7.b.wf A8 (by simp)
   have X8:=X7.loc A8 (by simp)
   obtain ⟨g9,k9,A9,O9,n9,l9⟩:=cM (o:=2) (vs:=[.slice (some ⟨g7.next,0,none⟩) 2 2]) X8.b.wf T8.c (by simp)
   have X9:=X8.loc A9 (by simp)
   have hw8:=X8.b.wf
   refine ⟨g8,g9,k8,k9,k7 n m0 hpn hi hP5 (by omega) hw0 nx X9 (y:=y) (kind:=2) (co:=v) (tc:=2) (TL:=[⟨k,AL⟩,⟨k',A2⟩]) (rc:=rc') (RT:=[]) ⟨O9,R8.keep hw8 A9 (by simp),(ER.two (RA.keep X7.b.wf A8 (by simp)) (RB.keep X7.b.wf A8 (by simp))).keep hw8 A9 (by simp),.nil,T.a,by simp,by simp; omega,by simp⟩⟩
  have hlo6 : h.next ≤ g6.low:=X6.b.lo
  obtain ⟨τ7,g7,WL7,HV7,IL7,k',ea2,ec2,A2,r7,X7,B7,R7,hA2⟩:=(X6.low g6.next X6.o.f.kq.nxt).edge (pc:=pc) H RQ0 hp h4 (by omega) n hN ra rn rc t1 c3 ht1
  simp only [k1,X1.x.rd,X3.o.f.p.rd,X3.x.rd,X6.o.f.p.rd,X6.x.rd,O6.rd,Nat.zero_add,Nat.add_zero,List.getElem?_cons_zero,List.getElem?_cons_succ,aj,Nat.reduceAdd,ak,ae,an,au,ap,aq,cond_true,cond_false,r2,k3,r4,iV,iW,iX,jP,jQ,jR,k5,k6,im,List.cons_append,List.nil_append,r7]
  refine BOc ?_ ?_
  ·have H6 : WF (setLow g6 g6.next):=bO X6.b.wf _
   have T7 : TS h τ7 g7 LB.length y 2 v none tc [] [] none rc' []:=(T6.low g6.next).keep H6 B7 (by simp; omega)
   have RA : Rw h.next τ7 1 g7 ea' 1 (bU AL):=Rw.keep (g:=setLow g6 g6.next) H6 R6 B7 (by simp; omega)
   obtain ⟨g8,g9,k8,k9,r⟩:=fin τ7 (setLow g7 g6.low) WL7 HV7 IL7 k' ea2 ec2 A2 (X7.low _ hlo6) (T7.low _) RA R7 hA2
   simp only [k8,k9,ak,ae,an,au,ap,aq,cond_true,cond_false]
   exact r
  ·obtain ⟨τ8,g8,WL8,HV8,IL8,k2,ea3,ec3,A3',r8,X8,B8,R8,hA3⟩:=X6.edge (pc:=pc) H RQ0 hp h4 (by omega) n hN ra rn rc t1 c3 ht1
   have T8:=T6.keep X6.b.wf B8 (by simp; omega)
   have RA:=R6.keep X6.b.wf B8 (by simp; omega)
   have O8:=O6.keep X6.b.wf B8 (by simp; omega)
   obtain ⟨g9,g10,k9,k10,r⟩:=fin τ8 g8 WL8 HV8 IL8 k2 ea3 ec3 A3' X8 T8 RA R8 hA3
   have sc : cF g6 g8 ⟨g4.next,0,none⟩ 2 = true:=Hd (x:=.int .i64 k) (y:=.slice ea' AL.length ec') (by rw [O6.rd]; rfl) (by rw [O8.rd]; rfl) (by rw [O6.rd]; rfl) (by rw [O8.rd]; rfl) (xM _ _) (pY R6 _ _)
   simp only [r8,iV,iW,iX,jP,jQ,jR,ak,ae,an,au,ap,aq,cond_true,cond_false,k9,k10,sc,Bool.and_true]
   exact r
end
theorem BO.cnd {h : AH} {c : Bool} {A Z : Option (Go.Value × AH)} (h1 : BO h A) (h2 : BO h Z) : BO h (cond c A Z):=by
 cases c
 ·exact h2
 ·exact h1
section
variable {h : AH} {p t : Nat} {rv : Go.Value} {ma sa ea : Option Addr} {EL : List Int} {pr : Option Addr} {pcs : List Go.Value} {PL : List (List Int)} {fa : Option Addr} {fc : Nat} {fcs : List Go.Value} {LB : List ba}
variable {B x ec w0 : Nat}
variable (H : WF h) {pa : Option Addr} {pc : Nat} {parts : List fF} (RQ0 : RQ h pa parts) (hp : 1 ≤ parts.length ∧ parts.length ≤ 5) (h4 : ∀ x ∈ parts,x.params.length ≤ 4)
 include H RQ0 hp h4
theorem k4 (n m0 : Nat) (hN : 1400 ≤ n) {pn pc5 : Nat} (hpn : pn = PL.length) (hi : LB.length < PL.length) (hP5 : PL.length ≤ 5) (hw0 : w0 ≤ 20 + 70 * LB.length) (hE : EL.length ≤ 3) (h64 : ∀ z ∈ EL,z ≤ 64)
  (nx : ∀ (τ : Nat → Nat) (g : AH) (fa : Option Addr) (fc : Nat) (fcs : List Go.Value) (X : ba) (WL : List Int),S3 h τ g B p t (.slice pa parts.length pc) rv ma sa ea ec EL pr pcs PL fa fc fcs (LB ++ [X]) WL → BO h (kG n m0 h ⟨p,0,none⟩ ⟨t,0,none⟩ ⟨B,0,none⟩ pr pn pc5 ((LB.length + 1 : Nat) : Int) g))
  {ra : Option Addr} {rn rc : Nat} (hrv : rv = .slice ra rn rc) {qa ia : Option Addr} {qn qc ic : Nat} {PI : List jW} {kd t0 t1 c0 c1 c2 c3 : Int} (hk8 : U8 kd) (ht0 : U8 t0) (ht1 : U8 t1) (hc1 : U8 c1) (RP0 : RP h ia PI) (h12 : PI.length ≤ 12) :
  ∀ (j k m1 : Nat) (τ : Nat → Nat) (g : AH) (WL HV : List Int) (IL : List bF),j < m1 → k + j = PI.length →
   IS h τ g B p t (.slice pa parts.length pc) rv ma sa ea ec EL pr pcs PL fa fc fcs LB w0 (5 * k) WL HV IL x [.slice qa qn qc,.slice ia PI.length ic,.int .u8 kd,.int .u8 t0,.int .u8 t1,.int .u8 c0,.int .u8 c1,.int .u8 c2,.int .u8 c3] →
   BO h (xB n m1 m0 h ⟨p,0,none⟩ ⟨t,0,none⟩ ⟨B,0,none⟩ pr pn pc5 (LB.length : Nat) ⟨x,0,none⟩ k g):=by
 intro j
 induction j with
 | zero =>
  intro k m1 τ g WL HV IL hj hk X
  obtain ⟨m1,rfl⟩ : ∃ q,m1 = q + 1:=⟨m1 - 1,by omega⟩
  have hw:=X.b.wf
  obtain ⟨g1,k1,A1,O1,_,n1,l1⟩:=bP (m:=h.next) (τ:=τ) hw X.o.f.kq.nxt 9 0 [.int .i64 0,.int .i64 0,.slice none 0 0,.slice none 0 0]
  have X1:=X.loc A1 (by simp)
  obtain ⟨g2,k2,A2,O2,n2,l2⟩:=cM (o:=0) (vs:=[.int .i64 3,.int .i64 (-1),.slice none 0 0,.slice none 0 0]) X1.b.wf O1 (by simp)
  have X2:=X1.loc A2 (by simp)
  have T2 : TS h (upd τ g.next 9) g2 LB.length g.next 3 (-1) none 0 [] [] none 0 []:=⟨O2,.nil,(fun i z hz => by cases hz),.nil,.nil,by simp⟩
  have r5:=k5 n m0 (by omega) hpn hi hP5 hw0 hE h64 nx EL.length 0 n (5 * k) _ g2 WL HV IL g.next 3 (-1) none 0 [] [] none 0 [] (by omega) (by rw [Nat.zero_add]) rfl (by omega) X2 T2
  have r6:=k6 H RQ0 hp h4 n m0 (by omega) hpn hi hP5 hw0 nx hrv ht0 ht1 hc1 (by omega) (ce .i64 (aQ .i64 kd) 4) X2 T2
  refine BO.imp tZ ?_
  simp only [X.x.rd,X2.x.rd,X2.o.f.p.rd,Nat.zero_add,Nat.add_zero,List.getElem?_cons_zero,List.getElem?_cons_succ,aj,Nat.reduceAdd,ak,ae,an,au,ap,aq,cond_true,cond_false,dl,dF (show ¬ (k : Int) < PI.length by omega),k1,k2]
  exact BO.cnd r5 (BO.cnd r5 r6)
 | succ j ih =>
  intro k m1 τ g WL HV IL hj hk X
  obtain ⟨m1,rfl⟩ : ∃ q,m1 = q + 1:=⟨m1 - 1,by omega⟩
  have lw:=X.w
  have lv:=X.v
  have li:=X.i
  obtain ⟨y,hy⟩ : ∃ y,PI[k]? = some y:=⟨_,List.getElem?_eq_getElem (by omega)⟩
  obtain ⟨⟨β,o,p1,p2⟩,ya,yb,yc,yd,ye⟩:=(RP0.kq H X.o.f.kq) k y hy
  subst p1
  have e0:=p2 0 _ rfl
  have e1:=p2 1 _ rfl
  have e2:=p2 2 _ rfl
  have e3:=p2 3 _ rfl
  have e4:=p2 4 _ rfl
  have e5:=p2 5 _ rfl
  have eb:=aK (i:=(k : Int)) (n:=PI.length) (by omega) (by omega)
  obtain ⟨τ',g',WL',HV',IL',r,G,_⟩:=JQ n (by omega) X.b (by omega) X.o.f.ma y.a y.b y.c y.d y.e y.f ya yb yc yd ye
  have nx2:=ih (k + 1) m1 τ' g' WL' HV' IL' (by omega) (by omega) (by have:=X.step G; rwa [show 5 * k + 5 = 5 * (k + 1) by omega] at this)
  refine BO.imp tZ ?_
  simp only [X.x.rd,Nat.zero_add,Nat.add_zero,List.getElem?_cons_zero,List.getElem?_cons_succ,aj,Nat.reduceAdd,ak,ae,an,au,ap,aq,cond_true,cond_false,dl,du (show (k : Int) < PI.length by omega),eb,Int.toNat_natCast,e0,e1,e2,e3,e4,e5,r,dv (show k < 9223372036854775807 by omega)]
  exact nx2
end
section
variable {h : AH} {p t : Nat} {ma sa ea : Option Addr} {EL : List Int} {pr : Option Addr} {pcs : List Go.Value} {PL : List (List Int)}
variable {B ec : Nat}
variable (H : WF h) {pa : Option Addr} {pc : Nat} {parts : List fF} (RQ0 : RQ h pa parts) (hp : 1 ≤ parts.length ∧ parts.length ≤ 5) (h4 : ∀ x ∈ parts,x.params.length ≤ 4 ∧ x.insts.length ≤ 12)
 include H RQ0 hp h4
theorem LI (n : Nat) (hN : 1400 ≤ n) {pn pc5 : Nat} (hpn : pn = PL.length) (hPL : PL.length = parts.length) (hE : EL.length ≤ 3) (h64 : ∀ z ∈ EL,z ≤ 64) (ra : Option Addr) (rn rc : Nat) :
  ∀ (j m0 : Nat) (τ : Nat → Nat) (g : AH) (fa : Option Addr) (fc : Nat) (fcs : List Go.Value) (LB : List ba) (WL : List Int),j < m0 → LB.length + j = parts.length → S3 h τ g B p t (.slice pa parts.length pc) (.slice ra rn rc) ma sa ea ec EL pr pcs PL fa fc fcs LB WL →
   BO h (kG n m0 h ⟨p,0,none⟩ ⟨t,0,none⟩ ⟨B,0,none⟩ pr pn pc5 (LB.length : Nat) g):=by
 intro j
 induction j with
 | zero =>
  intro m0 τ g fa fc fcs LB WL hj hl S
  obtain ⟨m0,rfl⟩ : ∃ q,m0 = q + 1:=⟨m0 - 1,by omega⟩
  obtain ⟨kI,HV,IL,V⟩:=S.b
  have hw:=V.wf
  obtain ⟨wa,wc,va,vc,ia,ic,ics,O,⟨w1,w2⟩,_⟩:=V.st
  obtain ⟨g1,k1,A1,O1,n1,l1⟩:=cM (o:=0) (vs:=[iv,.slice wa WL.length wc,.slice ma 2 2,.slice sa 2 2,.slice ea EL.length ec,.slice fa LB.length fc]) hw S.o.f.t (by simp)
  obtain ⟨g',e1,q⟩:=EY h g1 (.agg #[iv,.slice wa WL.length wc,.slice ma 2 2,.slice sa 2 2,.slice ea EL.length ec,.slice fa LB.length fc])
  have key : BO h (some (ai h g1 (.agg #[iv,.slice wa WL.length wc,.slice ma 2 2,.slice sa 2 2,.slice ea EL.length ec,.slice fa LB.length fc]))):=by
   rw [e1]
   rcases q with ⟨_,q⟩ | ⟨y,rfl,q1,q2⟩
   ·rcases S.o.f.ma with ⟨_,e⟩ | ⟨β,G,e,_⟩
    ·cases e
    ·subst e
     simp [dA,bq] at q
   ·have F : FN h.next τ g1 (.agg #[iv,.slice wa WL.length wc,.slice ma 2 2,.slice sa 2 2,.slice ea EL.length ec,.slice fa LB.length fc]) WL EL LB:=by
     refine ⟨wa,wc,ma,sa,ea,ec,fa,fc,fcs,rfl,w1.keep hw A1 (by simp),S.o.f.ma.keep hw A1 (by simp),S.o.f.sa.keep hw A1 (by simp),S.o.f.ea.keep hw A1 (by simp),⟨S.o.b.keep hw A1 (by simp),S.o.a⟩,S.o.l.keep hw A1 (by simp) (by simp; omega),?_,hE,by omega,by omega⟩
     have:=S.w
     omega
    have K : Kq h g1:=S.o.f.kq.bt (Nat.le_refl _) A1
    exact ⟨τ,_,setLow g1 y,WL,EL,LB,rfl,bO A1.wf _,K,F⟩
  refine BO.imp tY ?_
  have ek : iv = Go.Value.string (ByteArray.mk (List.toArray [(OfNat.ofNat 102)])):=rfl
  rw [ek] at k1 key O1 O
  simp only [S.o.f.p.rd,O.rd,Nat.zero_add,Nat.add_zero,List.getElem?_cons_zero,List.getElem?_cons_succ,aj,Nat.reduceAdd,ak,ae,an,au,ap,aq,cond_true,cond_false,dl,dF (show ¬ (LB.length : Int) < parts.length by omega),k1,O1.rd,im,List.cons_append,List.nil_append]
  exact key
 | succ j ih =>
  intro m0 τ g fa fc fcs LB WL hj hl S
  obtain ⟨m0,rfl⟩ : ∃ q,m0 = q + 1:=⟨m0 - 1,by omega⟩
  obtain ⟨kI,HV,IL,V⟩:=S.b
  have hw:=V.wf
  obtain ⟨P,hP⟩ : ∃ P,parts[LB.length]? = some P:=⟨_,List.getElem?_eq_getElem (by omega)⟩
  obtain ⟨qa,qc,ia,ic,A,RU1,RP1,hu1,hu2,hu3,hu4,hu5,hu6,hu7⟩:=RQ0 _ P hP
  obtain ⟨A',_⟩ : At g pa 9 LB.length _ ∧ True:=⟨A.kq H S.o.f.kq,trivial⟩
  obtain ⟨β,o,p1,p2⟩:=A'
  have e0:=p2 0 _ rfl
  have e1:=p2 1 _ rfl
  have e2:=p2 2 _ rfl
  have e3:=p2 3 _ rfl
  have e4:=p2 4 _ rfl
  have e5:=p2 5 _ rfl
  have e6:=p2 6 _ rfl
  have e7:=p2 7 _ rfl
  have e8:=p2 8 _ rfl
  obtain ⟨L,hL⟩ : ∃ L,PL[LB.length]? = some L:=⟨_,List.getElem?_eq_getElem (by omega)⟩
  have eb:=aK (i:=(LB.length : Int)) (n:=parts.length) (by omega) (by omega)
  have eb2:=aK (i:=(LB.length : Int)) (n:=pn) (by omega) (by omega)
  obtain ⟨g1,k1,A1,O1,_,n1,l1⟩:=bP (m:=h.next) (τ:=τ) hw S.o.f.kq.nxt 16 0 [.slice none 0 0,.slice none 0 0,.int .u8 0,.int .u8 0,.int .u8 0,.int .u8 0,.int .u8 0,.int .u8 0,.int .u8 0]
  obtain ⟨g2,k2,A2,O2,n2,l2⟩:=cM (o:=0) (vs:=[.slice qa P.params.length qc,.slice ia P.insts.length ic,.int .u8 P.kind,.int .u8 P.t0,.int .u8 P.t1,.int .u8 P.k0,.int .u8 P.k1,.int .u8 P.k2,.int .u8 P.k3]) A1.wf O1 (by simp)
  have B2 : Bt h.next τ _ g g2 [16]:=Bt.trans hw (A1.mono (by simp)) A2
  have hn2 : h.next ≤ g2.next:=Nat.le_trans S.o.f.kq.nxt B2.nxt
  obtain ⟨g3,k3,A3,O3,R3,n3,l3⟩:=bP (m:=h.next) (τ:=upd τ g.next 16) B2.wf hn2 4 1 []
  have B3 : Bt h.next τ _ g g3 [16]:=Bt.trans hw B2 (A3.mono (by simp))
  have F3:=S.o.keep B3 (Nat.le_refl _) (by simp)
  obtain ⟨la,lc,hpc,⟨hl1,hl2⟩,hl4,hlv⟩:=F3.q _ L hL
  obtain ⟨β2,hβ2,hrd⟩:=F3.r.rd hpc
  have hrd:=hrd (LB.length * 1) 0 (by omega)
  have hn3 : h.next ≤ g3.next:=F3.f.kq.nxt
  obtain ⟨a',c',g4,τ4,k4',A4,R4,G4⟩:=D8 B3.wf hn3 R3 hl1 lc (by omega)
  have B4 : Bt h.next τ τ4 g g4 [16]:=Bt.trans hw B3 (A4.mono (by simp))
  obtain ⟨wa,wc,va,vc,ia',ic',ics,O,⟨w1,w2⟩,⟨v1,v2⟩,i1,i2,i3⟩:=V.st
  have O4:=O.keep hw B4 (by simp)
  obtain ⟨g5,k5',A5,O5,n5,l5⟩:=cM (o:=6) (vs:=[.slice a' L.length c']) B4.wf O4 (by simp)
  obtain ⟨g6,k6',A6,O6,n6,l6⟩:=cM (o:=7) (vs:=[.slice none 0 0]) A5.wf O5 (by simp [putAt])
  have B6 : Bt h.next τ τ4 g g6 [2,16]:=Bt.trans hw (Bt.trans hw (B4.mono (by simp)) (A5.mono (by simp))) (A6.mono (by simp))
  have R6:=(R4.keep B4.wf A5 (by simp)).keep A5.wf A6 (by simp)
  have X : IS h τ4 g6 B p t (.slice pa parts.length pc) (.slice ra rn rc) ma sa ea ec EL pr pcs PL fa fc fcs LB WL.length (5 * 0) WL L [] g.next [.slice qa P.params.length qc,.slice ia P.insts.length ic,.int .u8 P.kind,.int .u8 P.t0,.int .u8 P.t1,.int .u8 P.k0,.int .u8 P.k1,.int .u8 P.k2,.int .u8 P.k3] :=
   ⟨⟨A6.wf,B6.lo2 V.lo,⟨wa,wc,a',c',none,0,[],O6,⟨w1.keep hw B6 (by simp),w2⟩,⟨R6,G4⟩,.nil,.nil,.nil⟩,hlv,by omega⟩,S.o.keep B6 (Nat.le_refl _) (by simp),(((O2.keep A2.wf A3 (by simp)).keep A3.wf A4 (by simp)).keep A4.wf A5 (by simp)).keep A5.wf A6 (by simp),by omega,by omega,by simp,by simp⟩
  have hPm:=h4 P (List.mem_of_getElem? hP)
  have r:=k4 H RQ0 hp (fun x hx => (h4 x hx).1) n m0 hN hpn (by omega) (by omega) S.w hE h64 (fun τ g fa fc fcs Y WL S' => by
   have:=ih m0 τ g fa fc fcs (LB ++ [Y]) WL (by omega) (by simp; omega) S'
   rwa [List.length_append,List.length_singleton] at this) rfl hu1 hu2 hu3 hu5 RP1 hPm.2 P.insts.length 0 n τ4 g6 WL L [] (by omega) (by rw [Nat.zero_add]) X
  subst p1
  subst hβ2
  refine BO.imp tY ?_
  simp only [S.o.f.p.rd,Nat.zero_add,Nat.add_zero,List.getElem?_cons_zero,List.getElem?_cons_succ,aj,Nat.reduceAdd,ak,ae,an,au,ap,aq,cond_true,cond_false,dl,du (show (LB.length : Int) < parts.length by omega),eb,eb2,Int.toNat_natCast,e0,e1,e2,e3,e4,e5,e6,e7,e8,k1,k2,k3,hrd,k4',k5',k6']
  exact r
end
theorem He (N : Nat) (hN : 2100 ≤ N) {h : AH} (H : WF h) {pa : Option Addr} {pc : Nat} {parts : List fF} (RQ0 : RQ h pa parts) {ra : Option Addr} {rc : Nat} {RL : List Int} (RU0 : RU h ra RL) (hp : 1 ≤ parts.length ∧ parts.length ≤ 5) (hR : RL.length ≤ 3) (h4 : ∀ x ∈ parts,x.params.length ≤ 4 ∧ x.insts.length ≤ 12) :
  BO h (az Tryz.prog N 12 [.agg #[.slice pa parts.length pc,.slice ra RL.length rc]] h):=by
 obtain ⟨n,rfl⟩ : ∃ n,N = n + 1:=⟨N - 1,by omega⟩
 have H0 : WF (setLow h h.next):=bO H _
 have K0 : Kq h (setLow h h.next):=Kq.refl H
 obtain ⟨g1,k1,A1,O1,_,n1,l1⟩:=bP (m:=h.next) (τ:=fun _ => 0) H0 (Nat.le_refl _) 8 0 [.slice pa parts.length pc,.slice ra RL.length rc]
 have K1:=K0.bt (Nat.le_refl _) A1
 obtain ⟨g2,k2,A2,O2,_,n2,l2⟩:=bP (m:=h.next) (τ:=upd (fun _ => 0) (setLow h h.next).next 8) A1.wf A1.nxt 17 0 [.string (ByteArray.mk (List.toArray [])),.slice none 0 0,.slice none 0 0,.slice none 0 0,.slice none 0 0,.slice none 0 0]
 have Op2:=O1.keep A1.wf A2 (by simp)
 have m2 : h.next ≤ g2.next:=Nat.le_trans A1.nxt A2.nxt
 generalize upd (upd (fun _ => 0) (setLow h h.next).next 8) g1.next 17 = τ2 at A2 O2 Op2
 have K2:=K1.bt (Nat.le_refl _) A2
 have L2:=A2.lo2 (A1.lo2 (Nat.le_refl _))
 obtain ⟨g3,k3,A3,O3,_,n3,l3⟩:=bP (m:=h.next) (τ:=τ2) A2.wf m2 2 0 [.string (ByteArray.mk (List.toArray [])),.slice none 0 0,.slice none 0 0,.slice none 0 0,.slice none 0 0,.slice none 0 0,.slice none 0 0,.slice none 0 0]
 obtain ⟨g4,k4,A4,O4,n4,l4⟩:=cM (o:=0) (vs:=[iv,.slice none 0 0,.slice none 0 0,.slice none 0 0,.slice none 0 0,.slice none 0 0,.slice none 0 0,.slice none 0 0]) A3.wf O3 (by simp)
 have B4:=Bt.trans A2.wf (A3.mono (S':=[2]) (by simp)) A4
 have m4 : h.next ≤ g4.next:=Nat.le_trans m2 B4.nxt
 obtain ⟨g5,k5,A5,O5,R5,n5,l5⟩:=bP (m:=h.next) (τ:=upd τ2 g2.next 2) B4.wf m4 6 5 oR
 have C5:=O4.keep B4.wf A5 (by simp)
 obtain ⟨g6,k6,A6,O6,n6,l6⟩:=cM (o:=2) (vs:=[.slice (some ⟨g4.next,0,none⟩) 2 2]) A5.wf C5 (by simp [putAt])
 have B6:=Bt.trans A2.wf B4 (Bt.trans B4.wf (A5.mono (S':=[2]) (by simp)) A6)
 have R6:=R5.keep A5.wf A6 (by simp)
 have m6 : h.next ≤ g6.next:=Nat.le_trans m2 B6.nxt
 obtain ⟨g7,k7',A7,O7,R7,n7,l7⟩:=bP (m:=h.next) (τ:=upd (upd τ2 g2.next 2) g4.next 6) B6.wf m6 6 3 vL
 have C7:=O6.keep B6.wf A7 (by simp)
 obtain ⟨g8,k8,A8,O8,n8,l8⟩:=cM (o:=3) (vs:=[.slice (some ⟨g6.next,0,none⟩) 2 2]) A7.wf C7 (by simp [putAt])
 have B78:=Bt.trans B6.wf (A7.mono (S':=[2]) (by simp)) A8
 have B8:=Bt.trans A2.wf B6 B78
 have R8:=R6.keep B6.wf B78 (by simp)
 have S8:=R7.keep A7.wf A8 (by simp)
 generalize upd (upd (upd τ2 g2.next 2) g4.next 6) g6.next 6 = τ8 at B78 B8 R8 S8 O8
 have F8 : FR h τ8 g8 h.next g1.next (.slice pa parts.length pc) (.slice ra RL.length rc) (some ⟨g4.next,0,none⟩) (some ⟨g6.next,0,none⟩) none [] :=
  ⟨K2.bt (Nat.le_refl _) B8,Op2.keep A2.wf B8 (by simp),O2.keep A2.wf B8 (by simp),R8,S8,.nil⟩
 have r : BO h (pU n n h ⟨h.next,0,none⟩ ⟨g1.next,0,none⟩ ⟨g2.next,0,none⟩ (0 : Nat) g8):=by
  refine LG H RU0 n (by omega) hR (fun τ g EL ea ec hEl h64 F hlo O => ?_) RL.length 0 n τ8 g8 [] none 0 (by omega) (by rw [Nat.zero_add]) rfl (fun x hx => by cases hx) F8 (B8.lo2 L2) .nil O8
  have S : S2 h pa pc parts ra rc RL h.next g1.next g2.next (some ⟨g4.next,0,none⟩) (some ⟨g6.next,0,none⟩) ea ec EL τ g [] none 0 [] [] :=
   ⟨⟨F.wf,hlo,⟨none,0,none,0,none,0,[],O,⟨.nil,.nil⟩,⟨.nil,.nil⟩,.nil,.nil,.nil⟩,(fun x hx => by cases hx),by omega⟩,F,.nil,.nil,fun i L hL => by cases hL⟩
  refine LH H RQ0 RU0 n (by omega) (fun x hx => (h4 x hx).1) hp.2 (fun τ g WL pr pc5 pcs PL S hPL hWL => ?_) parts.length 0 n τ g [] none 0 [] [] (by omega) (by rw [Nat.zero_add]) rfl (by simp) S
  exact LI H RQ0 hp h4 n (by omega) hPL.symm hPL (by omega) h64 ra RL.length rc parts.length n τ g none 0 [] [] WL (by omega) (by simp) ⟨⟨21,[],[],S.b⟩,⟨S.f,S.r,S.q,.nil,.nil,⟨rfl,fun i X hX => by cases hX⟩⟩,by simpa using hWL⟩
 refine BO.imp Gz ?_
 rw [aD] at k1
 simp only [iv] at k4
 simp only [oR] at k5
 simp only [vL] at k7'
 simp only [k1,k2,k3,k4,k5,k6,k7',k8,Nat.zero_add,Nat.add_zero,List.getElem?_cons_zero,List.getElem?_cons_succ,aj,Nat.reduceAdd,ak,ae,an,au,ap,aq,cond_true,cond_false]
 exact r
theorem Rw.at {m : Nat} {τ : Nat → Nat} {k : Nat} {g : AH} {a : Option Addr} {z y i : Nat} {cs cells : List Go.Value} (R : Rw m τ k g a z cs) (h0 : 0 < cells.length) (hc : ∀ k v,cells[k]? = some v → cs[i * y + k]? = some v) : At g a y i cells:=by
 obtain ⟨β,e,_⟩:=R.rd (hc 0 _ (List.getElem?_eq_getElem h0))
 refine ⟨β,0,e,fun j v hv => ?_⟩
 obtain ⟨β',e',h⟩:=R.rd (hc j v hv)
 rw [e] at e'
 injection e' with e'
 injection e' with e'
 subst e'
 exact h _ _ (by omega)
theorem IR.rn {m : Nat} {τ : Nat → Nat} {k : Nat} {g : AH} {a : Option Addr} {cs : List Go.Value} {IL : List bF} (R : Rw m τ k g a 5 cs) (I : IR m τ g cs IL) : RN g a IL:=fun i x hx => by
 obtain ⟨aa,ac,q1,q2⟩:=I i x hx
 exact ⟨aa,ac,R.at (by simp) q1,q2.ri⟩
theorem ER.re {m : Nat} {τ : Nat → Nat} {k : Nat} {g : AH} {a : Option Addr} {cs : List Go.Value} {TL : List fE} (R : Rw m τ k g a 2 cs) (I : ER m τ g cs TL) : RE g a TL:=fun i x hx => by
 obtain ⟨aa,ac,q1,q2⟩:=I i x hx
 exact ⟨aa,ac,R.at (by simp) q1,q2.ri⟩
theorem BL.rb {m : Nat} {τ : Nat → Nat} {k : Nat} {g : AH} {a : Option Addr} {fcs : List Go.Value} {LB : List ba} (R : Rw m τ k g a 9 fcs) (I : BL m τ g fcs LB) : RB g a LB:=fun i X hX => by
 obtain ⟨cells,c1,pa,pc,ia,ic,ta,tc,ra,rc,ics,tcs,rfl,⟨c3,_⟩,⟨c5,_,c7⟩,⟨c8,c9⟩,⟨c10,_⟩,_⟩:=I.2 i X hX
 exact ⟨pa,pc,ia,ic,ta,tc,ra,rc,R.at (by simp) c1,c3.ri,c7.rn c5,c9.re c8,c10.ri⟩
theorem xN {m : Nat} {τ : Nat → Nat} {k : Nat} {g : AH} {a : Option Addr} (R : Rw m τ k g a 5 oR) : RA g a 2:=fun i hi => by
 match i,hi with
 | 0,_ => exact ⟨_,8,5,0,0,by decide,R.at (cells:=[.string (ByteArray.mk (List.toArray [(OfNat.ofNat 97)])),.int .i64 8,.int .i64 5,.int .i64 0,.int .i64 0]) (by simp) fun k v hv => by
   match k,hv with
   | 0,hv => exact hv
   | 1,hv => exact hv
   | 2,hv => exact hv
   | 3,hv => exact hv
   | 4,hv => exact hv
   | k + 5,hv => cases hv⟩
 | 1,_ => exact ⟨_,16,3,0,0,by decide,R.at (cells:=[.string (ByteArray.mk (List.toArray [(OfNat.ofNat 98)])),.int .i64 16,.int .i64 3,.int .i64 0,.int .i64 0]) (by simp) fun k v hv => by
   match k,hv with
   | 0,hv => exact hv
   | 1,hv => exact hv
   | 2,hv => exact hv
   | 3,hv => exact hv
   | 4,hv => exact hv
   | k + 5,hv => cases hv⟩
theorem xO {m : Nat} {τ : Nat → Nat} {k : Nat} {g : AH} {a : Option Addr} (R : Rw m τ k g a 3 vL) : RS g a 2:=fun i hi => by
 match i,hi with
 | 0,_ => exact ⟨_,8,false,by decide,R.at (cells:=[.string (ByteArray.mk (List.toArray [(OfNat.ofNat 105),(OfNat.ofNat 110)])),.int .i64 8,.bool false]) (by simp) fun k v hv => by
   match k,hv with
   | 0,hv => exact hv
   | 1,hv => exact hv
   | 2,hv => exact hv
   | k + 3,hv => cases hv⟩
 | 1,_ => exact ⟨_,8,true,by decide,R.at (cells:=[.string (ByteArray.mk (List.toArray [(OfNat.ofNat 111),(OfNat.ofNat 117),(OfNat.ofNat 116)])),.int .i64 8,.bool true]) (by simp) fun k v hv => by
   match k,hv with
   | 0,hv => exact hv
   | 1,hv => exact hv
   | 2,hv => exact hv
   | k + 3,hv => cases hv⟩
def old9 (τ : Nat → Nat) (m : Nat) : Nat → Nat:=fun x => if x < m then 99 else τ x
theorem Rw.old9 {m : Nat} {τ : Nat → Nat} {k : Nat} {g : AH} {a : Option Addr} {z : Nat} {cs : List Go.Value} (R : Rw m τ k g a z cs) : Rw m (Kb.old9 τ m) k g a z cs:=by
 rcases R with R | ⟨β,G,e,h1,h2,h3,h4⟩
 ·exact .inl R
 ·exact .inr ⟨β,G,e,h1,h2,h3,(if_neg (by omega)).trans h4⟩
theorem IR.old9 {m : Nat} {τ : Nat → Nat} {g : AH} {cs : List Go.Value} {IL : List bF} (R : IR m τ g cs IL) : IR m (Kb.old9 τ m) g cs IL:=fun i x hx => by
 obtain ⟨aa,ac,q1,q2⟩:=R i x hx
 exact ⟨aa,ac,q1,q2.old9⟩
theorem ER.old9 {m : Nat} {τ : Nat → Nat} {g : AH} {cs : List Go.Value} {IL : List fE} (R : ER m τ g cs IL) : ER m (Kb.old9 τ m) g cs IL:=fun i x hx => by
 obtain ⟨aa,ac,q1,q2⟩:=R i x hx
 exact ⟨aa,ac,q1,q2.old9⟩
theorem BL.old9 {m : Nat} {τ : Nat → Nat} {g : AH} {fcs : List Go.Value} {LB : List ba} (R : BL m τ g fcs LB) : BL m (Kb.old9 τ m) g fcs LB:=⟨R.1,fun i X hX => by
 obtain ⟨cells,c1,pa,pc,ia,ic,ta,tc,ra,rc,ics,tcs,c2,⟨c3,c4⟩,⟨c5,c6,c7⟩,⟨c8,c9⟩,⟨c10,c11⟩,c12⟩:=R.2 i X hX
 exact ⟨cells,c1,pa,pc,ia,ic,ta,tc,ra,rc,ics,tcs,c2,⟨c3.old9,c4⟩,⟨c5.old9,c6,c7.old9⟩,⟨c8.old9,c9.old9⟩,⟨c10.old9,c11⟩,c12⟩⟩
theorem FN.old9 {m : Nat} {τ : Nat → Nat} {g : AH} {v : Go.Value} {WL EL : List Int} {LB : List ba} (R : FN m τ g v WL EL LB) : FN m (Kb.old9 τ m) g v WL EL LB:=by
 obtain ⟨wa,wc,ma,sa,ea,ec,fa,fc,fcs,e,a1,a2,a3,a4,⟨a5,a6⟩,a7,a8⟩:=R
 exact ⟨wa,wc,ma,sa,ea,ec,fa,fc,fcs,e,a1.old9,a2.old9,a3.old9,a4.old9,⟨a5.old9,a6⟩,a7.old9,a8⟩
theorem FN.keep {m : Nat} {τ τ' : Nat → Nat} {g g' : AH} {v : Go.Value} {WL EL : List Int} {LB : List ba} {S : List Nat} {m0 : Nat} (H : WF g) (R : FN m τ g v WL EL LB) (A : Bt m0 τ τ' g g' S) (hS : ∀ k ∈ S,90 ≤ k) : FN m τ' g' v WL EL LB:=by
 obtain ⟨wa,wc,ma,sa,ea,ec,fa,fc,fcs,e,a1,a2,a3,a4,⟨a5,a6⟩,a7,a8,a9,a10,a11⟩:=R
 have no : ∀ k,k < 90 → k ∉ S:=fun k hk hs => by have:=hS k hs; omega
 refine ⟨wa,wc,ma,sa,ea,ec,fa,fc,fcs,e,a1.keep H A (no _ (by omega)),a2.keep H A (no _ (by omega)),a3.keep H A (no _ (by omega)),a4.keep H A (no _ (by omega)),⟨a5.keep H A (no _ (by omega)),a6⟩,⟨a7.1,fun i X hX => ?_⟩,a8,a9,a10,a11⟩
 have hi:=(List.getElem?_eq_some_iff.1 hX).1
 obtain ⟨cells,c1,pa,pc,ia,ic,ta,tc,ra,rc,ics,tcs,c2,⟨c3,c4⟩,⟨c5,c6,c7⟩,⟨c8,c9⟩,⟨c10,c11⟩,c12⟩:=a7.2 i X hX
 have n1:=no 1 (by omega)
 exact ⟨cells,c1,pa,pc,ia,ic,ta,tc,ra,rc,ics,tcs,c2,⟨c3.keep H A (no _ (by omega)),c4⟩,⟨c5.keep H A (no _ (by omega)),c6,fun j x hx => by
  obtain ⟨aa,ac,q1,q2⟩:=c7 j x hx
  exact ⟨aa,ac,q1,q2.keep H A n1⟩⟩,⟨c8.keep H A n1,fun j x hx => by
  obtain ⟨aa,ac,q1,q2⟩:=c9 j x hx
  exact ⟨aa,ac,q1,q2.keep H A n1⟩⟩,⟨c10.keep H A (no _ (by omega)),c11⟩,c12⟩
def VO (h : AH) (o : Option (Go.Value × AH)) : Prop:=∃ a b bn bc c cn cc d dn dc e en ec f fn fc r g',o = some (.tuple #[.agg #[.string a,.slice b bn bc,.slice c cn cc,.slice d dn dc,.slice e en ec,.slice f fn fc],.bool r],g') ∧ WF g' ∧ h.next ≤ g'.next ∧
 (r = true → ∃ m τ WL EL LB,h.next ≤ m ∧ FN m τ g' (.agg #[.string a,.slice b bn bc,.slice c cn cc,.slice d dn dc,.slice e en ec,.slice f fn fc]) WL EL LB)
theorem VO.imp {h : AH} {X Y : Option (Go.Value × AH)} (f : ∀ {r},X = some r → Y = some r) (x : VO h X) : VO h Y:=by
 obtain ⟨a,b,bn,bc,c,cn,cc,d,dn,dc,e,en,ec,f',fn,fc,r,g',e1,q⟩:=x
 exact ⟨a,b,bn,bc,c,cn,cc,d,dn,dc,e,en,ec,f',fn,fc,r,g',f e1,q⟩
theorem ov (a b c d e f : Go.Value) : gb 6 (.agg #[a,b,c,d,e,f]) = true:=rfl
theorem ow (a b c d e f : Go.Value) : db 0 (.agg #[a,b,c,d,e,f]) = some a:=rfl
theorem ox (a b c d e f : Go.Value) : db 1 (.agg #[a,b,c,d,e,f]) = some b:=rfl
theorem oy (a b c d e f : Go.Value) : db 2 (.agg #[a,b,c,d,e,f]) = some c:=rfl
theorem oz (a b c d e f : Go.Value) : db 3 (.agg #[a,b,c,d,e,f]) = some d:=rfl
theorem oA (a b c d e f : Go.Value) : db 4 (.agg #[a,b,c,d,e,f]) = some e:=rfl
theorem oB (a b c d e f : Go.Value) : db 5 (.agg #[a,b,c,d,e,f]) = some f:=rfl
theorem FN.low {m : Nat} {τ : Nat → Nat} {g : AH} {v : Go.Value} {WL EL : List Int} {LB : List ba} (F : FN m τ g v WL EL LB) (x : Nat) : FN m τ (setLow g x) v WL EL LB:=F
theorem FN.bl {m : Nat} {τ : Nat → Nat} {g : AH} {fcs : List Go.Value} {LB : List ba} (R : BL m τ g fcs LB) : ∀ B ∈ LB,B.params.length < 100 ∧ B.insts.length < 100 ∧ B.to.length < 100 ∧ B.rets.length < 100 ∧ (∀ x ∈ B.to,x.args.length < 100) ∧ ∀ x ∈ B.insts,x.args.length < 100:=fun B hB => by
 obtain ⟨i,hi⟩:=List.getElem?_of_mem hB
 obtain ⟨cells,c1,pa,pc,ia,ic,ta,tc,ra,rc,ics,tcs,c2,_,_,_,_,c3,c4,c5,c6,c7,c8⟩:=R.2 i B hi
 exact ⟨by omega,by omega,by omega,by omega,fun x hx => by have:=c7 x hx; omega,fun x hx => by have:=c8 x hx; omega⟩
theorem D9 (N : Nat) (hN : 600 ≤ N) {m : Nat} {τ : Nat → Nat} {g : AH} (H : WF g) {v : Go.Value} {WL EL : List Int} {LB : List ba} (F : FN m τ g v WL EL LB) : Bx g (az Tryz.prog N 6 [v] g):=by
 obtain ⟨n,rfl⟩ : ∃ n,N = n + 1:=⟨N - 1,by omega⟩
 obtain ⟨wa,wc,ma,sa,ea,ec,fa,fc,fcs,rfl,b1,b2,b3,b4,⟨b5,b6⟩,b7,b8,b9,b10,b11⟩:=F
 exact Cb H n (by omega) b1.ri rfl b8 b4.ri rfl (b7.rb b5) rfl (by omega) (xN b2) (xO b3) (FN.bl b7) (by omega) (by omega) (by omega) (by decide)
theorem Hf (N : Nat) {h : AH} (H : WF h) {pa : Option Addr} {pc : Nat} {parts : List fF} (RQ0 : RQ h pa parts) {ra : Option Addr} {rc : Nat} {RL : List Int} (RU0 : RU h ra RL) (hN : parts.length + 2200 < N) (hx : parts.length ≤ 9223372036854775807) :
  VO h (az Tryz.prog N 5 [.agg #[.slice pa parts.length pc,.slice ra RL.length rc]] h):=by
 obtain ⟨n,rfl⟩ : ∃ n,N = n + 1:=⟨N - 1,by omega⟩
 have H0 : WF (setLow h h.next):=bO H _
 obtain ⟨g1,k1,A1,O1,_,n1,l1⟩:=bP (m:=h.next) (τ:=fun _ => 99) H0 (Nat.le_refl _) 99 0 [.slice pa parts.length pc,.slice ra RL.length rc]
 obtain ⟨g2,k2,A2,O2,_,n2,l2⟩:=bP (m:=h.next) (τ:=upd (fun _ => 99) (setLow h h.next).next 99) A1.wf A1.nxt 99 0 [.string (ByteArray.mk (List.toArray [])),.slice none 0 0,.slice none 0 0,.slice none 0 0,.slice none 0 0,.slice none 0 0]
 have P2:=O1.1
 have K0 : Kq h (setLow h h.next):=Kq.refl H
 have K2 : Kq h g2:=(K0.bt (Nat.le_refl _) A1).bt (Nat.le_refl _) A2
 have Q2:=RQ0.kq H K2
 have U2:=RU0.kq H K2
 obtain ⟨r,hr,hf⟩:=JR n A2.wf Q2 (pc:=pc) ra RL.length rc (by omega) hx
 have O2':=O2.1
 have Op : cp g2 h.next [.slice pa parts.length pc,.slice ra RL.length rc]:=(O1.keep A1.wf A2 (by simp)).1
 refine VO.imp HR ?_
 rw [aD] at k1
 simp only [k1,k2,Op.rd,Nat.zero_add,Nat.add_zero,List.getElem?_cons_zero,List.getElem?_cons_succ,aj,Nat.reduceAdd,ak,ae,an,au,ap,aq,cond_true,cond_false,hr]
 cases r with
 | false =>
  obtain ⟨g3,k3,A3,O3,n3,l3⟩:=cM (o:=0) (vs:=[.string (ByteArray.mk (List.toArray [])),.slice none 0 0,.slice none 0 0,.slice none 0 0,.slice none 0 0,.slice none 0 0]) A2.wf O2 (by simp)
  obtain ⟨g',e1,q⟩:=EY h g3 (.tuple #[.agg #[.string (ByteArray.mk (List.toArray [])),.slice none 0 0,.slice none 0 0,.slice none 0 0,.slice none 0 0,.slice none 0 0],.bool false])
  simp only [Bool.not_false,ak,ae,an,au,ap,aq,cond_true,cond_false,k3,O3.rd,Nat.zero_add,Nat.add_zero,List.getElem?_cons_zero,List.getElem?_cons_succ,aj,Nat.reduceAdd,im,List.cons_append,List.nil_append]
  refine ⟨_,_,_,_,_,_,_,_,_,_,_,_,_,_,_,_,_,g',congrArg some e1,?_,?_,fun h => by cases h⟩
  ·rcases q with ⟨rfl,_⟩ | ⟨y,rfl,_⟩
   ·exact H
   ·exact bO A3.wf _
  ·rcases q with ⟨rfl,_⟩ | ⟨y,rfl,_⟩
   ·exact Nat.le_refl _
   ·exact Nat.le_trans A1.nxt (Nat.le_trans A2.nxt A3.nxt)
 | true =>
  obtain ⟨hf1,hf2,hf3⟩:=hf rfl
  obtain ⟨τ3,v3,g3,WL,EL,LB,e3,w3,K3,F3⟩:=He n (by omega) A2.wf Q2 (pc:=pc) U2 (rc:=rc) hf1 hf2 hf3
  have m3 : g2.next ≤ g3.next:=K3.nxt
  have O3 : cp g3 g1.next [.string (ByteArray.mk (List.toArray [])),.slice none 0 0,.slice none 0 0,.slice none 0 0,.slice none 0 0,.slice none 0 0]:=cp.kp (g:=setLow g3 g2.low) A2.wf K3 O2'
  have Op3 : cp g3 h.next [.slice pa parts.length pc,.slice ra RL.length rc]:=cp.kp (g:=setLow g3 g2.low) A2.wf K3 Op
  have F3:=F3.old9
  have O3 : Ow h.next (old9 τ3 g2.next) 99 g3 g1.next [.string (ByteArray.mk (List.toArray [])),.slice none 0 0,.slice none 0 0,.slice none 0 0,.slice none 0 0,.slice none 0 0]:=⟨O3,A1.nxt,if_pos (by omega)⟩
  generalize old9 τ3 g2.next = τ at F3 O3
  obtain ⟨g4,k4,A4,O4,_,n4,l4⟩:=bP (m:=g2.next) (τ:=τ) w3 m3 98 0 [.string (ByteArray.mk (List.toArray [])),.slice none 0 0,.slice none 0 0,.slice none 0 0,.slice none 0 0,.slice none 0 0]
  have F4:=F3.keep w3 A4 (by simp)
  have O3:=O3.keep w3 A4 (by simp)
  generalize upd τ g3.next 98 = τ4 at A4 F4 O3 O4
  obtain ⟨wa,wc,ma,sa,ea,ec,fa,fc,fcs,rfl,b1,b2,b3,b4,⟨b5,b6⟩,b7,b8,b9,b10,b11⟩:=F4
  obtain ⟨g5,k5,A5,O5,n5,l5⟩:=cM (o:=0) (vs:=[iv,.slice wa WL.length wc,.slice ma 2 2,.slice sa 2 2,.slice ea EL.length ec,.slice fa LB.length fc]) A4.wf O4 (by simp)
  have F5 : FN g2.next τ4 g5 (.agg #[iv,.slice wa WL.length wc,.slice ma 2 2,.slice sa 2 2,.slice ea EL.length ec,.slice fa LB.length fc]) WL EL LB:=FN.keep A4.wf ⟨wa,wc,ma,sa,ea,ec,fa,fc,fcs,rfl,b1,b2,b3,b4,⟨b5,b6⟩,b7,b8,b9,b10,b11⟩ A5 (by simp)
  have O3:=O3.keep A4.wf A5 (by simp)
  have O5 : Ow g2.next τ4 98 g5 g3.next [iv,.slice wa WL.length wc,.slice ma 2 2,.slice sa 2 2,.slice ea EL.length ec,.slice fa LB.length fc]:=O5
  have hv:=D9 n (by omega) (bO A5.wf g5.next) (F5.low g5.next)
  obtain ⟨r,hv⟩:=hv
  obtain ⟨g6,k6,A6,O6,n6,l6⟩:=cM (o:=0) (vs:=[iv,.slice wa WL.length wc,.slice ma 2 2,.slice sa 2 2,.slice ea EL.length ec,.slice fa LB.length fc]) A5.wf O3 (by simp)
  have F6:=F5.keep A5.wf A6 (by simp)
  have O6 : Ow h.next τ4 99 g6 g1.next [iv,.slice wa WL.length wc,.slice ma 2 2,.slice sa 2 2,.slice ea EL.length ec,.slice fa LB.length fc]:=O6
  obtain ⟨g',e1,q⟩:=EY h g6 (.tuple #[.agg #[iv,.slice wa WL.length wc,.slice ma 2 2,.slice sa 2 2,.slice ea EL.length ec,.slice fa LB.length fc],.bool r])
  have hp : dA (.tuple #[.agg #[iv,.slice wa WL.length wc,.slice ma 2 2,.slice sa 2 2,.slice ea EL.length ec,.slice fa LB.length fc],.bool r]) = false:=by
   obtain ⟨β,rfl⟩ : ∃ β,fa = some β:=by
    rcases b5 with ⟨_,e⟩ | ⟨β,_,e,_⟩
    ·have:=b7.1
     rw [e,List.length_nil] at this
     omega
    ·exact ⟨_,e⟩
   simp [dA,bq]
  unfold iv at *
  simp only [Bool.not_true,Bool.not_false,ak,ae,an,au,ap,aq,cond_true,cond_false,Op3.rd,O5.rd,O6.rd,Nat.zero_add,Nat.add_zero,List.getElem?_cons_zero,List.getElem?_cons_succ,aj,Nat.reduceAdd,e3,ov,ow,ox,oy,oz,oA,oB,k4,k5,hv,aH,aI,aE,Nat.beq_refl,k6]
  rcases q with ⟨rfl,q⟩ | ⟨y,rfl,_⟩
  ·rw [hp] at q
   cases q
  ·exact ⟨_,_,_,_,_,_,_,_,_,_,_,_,_,_,_,_,_,_,congrArg some e1,bO A6.wf _,Nat.le_trans A1.nxt (Nat.le_trans A2.nxt (Nat.le_trans m3 (Nat.le_trans A4.nxt (Nat.le_trans A5.nxt A6.nxt)))),fun _ => ⟨g2.next,τ4,WL,EL,LB,Nat.le_trans A1.nxt A2.nxt,F6.low _⟩⟩
theorem lx : ∀ (cs : List Go.Value) (o : Nat) (v : Go.Value),o < cs.length → putAt cs o [v] = cs.set o v
 | [],_,_,h => absurd h (Nat.not_lt_zero _)
 | c :: cs,0,v,_ => by
  rw [im]
  rfl
 | c :: cs,o + 1,v,h => by
  show c :: putAt cs o [v] = c :: cs.set o v
  rw [lx cs o v (by simpa using h)]
theorem EZ {m m' : Nat} {τ : Nat → Nat} {g : AH} (H : WF g) (hm : m ≤ m') {k β z o : Nat} {cs vs : List Go.Value} (R : Rw m' τ k g (some ⟨β,0,none⟩) z cs) (hf : o + vs.length ≤ cs.length) :
  ∃ g1,di g ⟨β,o,none⟩ vs = some g1 ∧ Bt m τ τ g g1 [k] ∧ Rw m' τ k g1 (some ⟨β,0,none⟩) z (putAt cs o vs) ∧ g1.next = g.next:=by
 obtain ⟨e,_⟩ | ⟨γ,G,e,r1,r2,r3,r4⟩:=R
 ·cases e
 injection e with e
 injection e with e
 subst e
 have hr : g.rd β = some ⟨cs,z,G,false⟩:=dp r1 r2
 obtain ⟨g1,hw⟩ : ∃ g1,g.wr β ⟨cs,z,G,false⟩ (putAt cs o vs) = some g1:=⟨_,rfl⟩
 obtain ⟨_,hnx,hblk,hgrp,_⟩:=dP hr hw
 have hM:=bH.wr H hr hw
 have hgl:=H.gle β _ r1
 have hgl : G ≤ β:=hgl
 have hw':=hw
 unfold AH.wr at hw'
 injection hw' with hw'
 have hlow : g1.low = cond (Nat.blt G g.low) G g.low:=by
  subst hw'
  rfl
 refine ⟨g1,?_,⟨hM.wf,Nat.le_of_eq hnx.symm,hM.low,fun h => ?_,fun _ _ => rfl,fun x b hb hS => ?_,fun x hx => ⟨?_,hgrp x (by show x ≠ G; omega)⟩⟩,.inr ⟨β,G,rfl,?_,?_,r3,r4⟩,hnx⟩
 ·unfold di
  simp only [hr,Option.bind_some,Nat.ble_eq_true_of_le hf,cond_true]
  exact hw
 ·rw [hlow]
  cases Nat.blt G g.low
  ·exact h
  ·show m ≤ G
   omega
 ·have h1 : b.grp ≠ G:=fun e => hS (by rw [e,r4]; exact List.mem_singleton.2 rfl)
  refine ⟨?_,hgrp b.grp h1⟩
  rw [hblk,if_neg (fun e => ?_)]
  ·exact hb
  ·subst e
   rw [r1] at hb
   injection hb with hb
   exact h1 (by rw [← hb])
 ·rw [hblk,if_neg (by omega)]
 ·rw [hblk,if_pos rfl]
 ·subst hw'
  show β ∈ ((match g.members G with | [_] => g.grps | _ => g.grps.set G [β]).get G).getD [G]
  split
  ·exact r2
  ·rw [Tr.get_set,if_pos rfl]
   exact List.mem_singleton.2 rfl
def xP (g : AH) (v : Go.Value) : Prop:=∃ (wa ma sa ea fa : Option Addr) (wc ec fc : Nat) (WL EL : List Int) (LB : List ba),v = .agg #[iv,.slice wa WL.length wc,.slice ma 2 2,.slice sa 2 2,.slice ea EL.length ec,.slice fa LB.length fc] ∧ RI g wa WL ∧ RA g ma 2 ∧ RS g sa 2 ∧ RI g ea EL ∧ RB g fa LB ∧ WL.length < 400 ∧ EL.length ≤ 3 ∧ LB.length ≤ 5 ∧
 (∀ B ∈ LB,B.params.length < 100 ∧ B.insts.length < 100 ∧ B.to.length < 100 ∧ B.rets.length < 100 ∧ (∀ x ∈ B.to,x.args.length < 100) ∧ ∀ x ∈ B.insts,x.args.length < 100) ∧ ¬ ∀ B ∈ LB,ux WL.length B
theorem xP.kq {g g' : AH} (H : WF g) (K : Kq g g') {v : Go.Value} (X : xP g v) : xP g' v:=by
 obtain ⟨wa,ma,sa,ea,fa,wc,ec,fc,WL,EL,LB,e,a1,a2,a3,a4,a5,q⟩:=X
 exact ⟨wa,ma,sa,ea,fa,wc,ec,fc,WL,EL,LB,e,a1.kq H K,a2.kq H K,a3.kq H K,a4.kq H K,a5.kq H K,q⟩
theorem xP.v0 (N : Nat) (hN : 600 ≤ N) {g : AH} (H : WF g) {v : Go.Value} (X : xP g v) : Bx g (az Tryz.prog N 6 [v] g):=by
 obtain ⟨n,rfl⟩ : ∃ n,N = n + 1:=⟨N - 1,by omega⟩
 obtain ⟨wa,ma,sa,ea,fa,wc,ec,fc,WL,EL,LB,rfl,a1,a2,a3,a4,a5,q1,q2,q3,q4,_⟩:=X
 exact Cb H n (by omega) a1 rfl q1 a4 rfl a5 rfl (by omega) a2 a3 q4 (by omega) (by omega) (by omega) (by decide)
theorem xP.vi (N : Nat) (hN : 700 ≤ N) {g : AH} (H : WF g) {v : Go.Value} (X : xP g v) : az Tryz.prog N 22 [v] g = some (.bool false,g):=by
 obtain ⟨wa,ma,sa,ea,fa,wc,ec,fc,WL,EL,LB,rfl,a1,a2,a3,a4,a5,q1,q2,q3,q4,q5⟩:=X
 obtain ⟨r,e,h⟩:=Ha H a1 rfl a5 rfl a4 rfl a2 a3 N hN ⟨q1,by omega,by omega,by omega,by omega⟩ q4
 cases r with
 | false => exact e
 | true => exact absurd (h rfl) q5
theorem Ib {m : Nat} {τ : Nat → Nat} {g : AH} {fcs : List Go.Value} {LB : List ba} (R : BL m τ g fcs LB) : ∀ B ∈ LB,B.params.length < 100 ∧ B.insts.length < 100 ∧ B.to.length < 100 ∧ B.rets.length < 100 ∧ (∀ x ∈ B.to,x.args.length < 100) ∧ ∀ x ∈ B.insts,x.args.length < 100:=fun B hB => by
 obtain ⟨i,hi⟩:=List.getElem?_of_mem hB
 obtain ⟨cells,c1,pa,pc,ia,ic,ta,tc,ra,rc,ics,tcs,c2,_,_,_,_,c3,c4,c5,c6,c7,c8⟩:=R.2 i B hi
 exact ⟨by omega,by omega,by omega,by omega,fun x hx => by have:=c7 x hx; omega,fun x hx => by have:=c8 x hx; omega⟩
theorem xP.mk {m m0 : Nat} {τ τ' : Nat → Nat} {g g' : AH} {S : List Nat} {wa ma sa ea fa : Option Addr} {wc ec fc : Nat} {WL EL : List Int} {LB : List ba} {fcs : List Go.Value} (H : WF g) (A : Bt m0 τ τ' g g' S)
  (b1 : Rw m τ 3 g wa 1 (bU WL)) (b2 : Rw m τ 6 g ma 5 oR) (b3 : Rw m τ 6 g sa 3 vL) (b4 : Rw m τ 12 g ea 1 (bU EL)) (b7 : BL m τ g fcs LB) (b8 : WL.length < 400) (b9 : EL.length ≤ 3) (b11 : LB.length ≤ 5)
  {kk : Nat} {X' : ba} (hk : kk < LB.length) (hS : ∀ s ∈ S,s = 7 ∨ s = 20 + 4 * kk ∨ s = 21 + 4 * kk ∨ s = 22 + 4 * kk ∨ 90 ≤ s) {o : Nat} {v' : Go.Value} {cells : List Go.Value} (ho : o < 9) (hl : cells.length = 9)
  (hc : ∀ j v,cells[j]? = some v → fcs[kk * 9 + j]? = some v) (R' : Rw m τ' 7 g' fa 9 (fcs.set (kk * 9 + o) v'))
  (new : ∃ pa pc ia ic ta tc ra rc,cells.set o v' = [.slice pa X'.params.length pc,.slice ia X'.insts.length ic,.int .i64 X'.kind,.int .i64 X'.cond,.slice ta X'.to.length tc,.slice ra X'.rets.length rc,.int .i64 X'.pipe,.int .i64 X'.unr,.int .i64 X'.line] ∧ RI g' pa X'.params ∧ RN g' ia X'.insts ∧ RE g' ta X'.to ∧ RI g' ra X'.rets)
  (hB' : X'.params.length < 100 ∧ X'.insts.length < 100 ∧ X'.to.length < 100 ∧ X'.rets.length < 100 ∧ (∀ x ∈ X'.to,x.args.length < 100) ∧ ∀ x ∈ X'.insts,x.args.length < 100) (hno : ¬ ux WL.length X') :
  xP g' (.agg #[iv,.slice wa WL.length wc,.slice ma 2 2,.slice sa 2 2,.slice ea EL.length ec,.slice fa LB.length fc]):=by
 have no : ∀ s,s < 90 → s ≠ 7 → s ≠ 20 + 4 * kk → s ≠ 21 + 4 * kk → s ≠ 22 + 4 * kk → s ∉ S:=fun s h1 h2 h3 h4 h5 hs => by
  have:=hS s hs
  omega
 have hfl : kk * 9 + o < fcs.length:=by
  rw [b7.1]
  omega
 refine ⟨wa,ma,sa,ea,fa,wc,ec,fc,WL,EL,LB.set kk X',by rw [List.length_set],(b1.keep H A (no _ (by omega) (by omega) (by omega) (by omega) (by omega))).ri,xN (b2.keep H A (no _ (by omega) (by omega) (by omega) (by omega) (by omega))),xO (b3.keep H A (no _ (by omega) (by omega) (by omega) (by omega) (by omega))),(b4.keep H A (no _ (by omega) (by omega) (by omega) (by omega) (by omega))).ri,fun i X hX => ?_,b8,b9,by rw [List.length_set]; exact b11,fun B hB => ?_,fun h => hno (h X' (List.mem_iff_getElem?.2 ⟨kk,List.getElem?_set_self hk⟩))⟩
 ·by_cases hik : kk = i
  ·subst hik
   rw [List.getElem?_set_self hk] at hX
   injection hX with hX
   subst hX
   obtain ⟨pa,pc,ia,ic,ta,tc,ra,rc,e,q⟩:=new
   refine ⟨pa,pc,ia,ic,ta,tc,ra,rc,R'.at (by simp) (fun j v hv => ?_),q⟩
   rw [← e] at hv
   by_cases hj : o = j
   ·subst hj
    rw [List.getElem?_set_self (by omega)] at hv
    rw [List.getElem?_set_self hfl]
    exact hv
   ·rw [List.getElem?_set_ne hj] at hv
    rw [List.getElem?_set_ne (by omega)]
    exact hc j v hv
  ·rw [List.getElem?_set_ne hik] at hX
   have hi:=(List.getElem?_eq_some_iff.1 hX).1
   obtain ⟨cs,c1,pa,pc,ia,ic,ta,tc,ra,rc,ics,tcs,rfl,⟨c3,_⟩,⟨c5,_,c7⟩,⟨c8,c9⟩,⟨c10,_⟩,_⟩:=b7.2 i X hX
   have n1:=no 1 (by omega) (by omega) (by omega) (by omega) (by omega)
   refine ⟨pa,pc,ia,ic,ta,tc,ra,rc,R'.at (by simp) (fun j v hv => ?_),(c3.keep H A (no _ (by omega) (by omega) (by omega) (by omega) (by omega))).ri,IR.rn (c5.keep H A (no _ (by omega) (by omega) (by omega) (by omega) (by omega))) (fun j x hx => by
    obtain ⟨aa,ac,q1,q2⟩:=c7 j x hx
    exact ⟨aa,ac,q1,q2.keep H A n1⟩),ER.re (c8.keep H A n1) (fun j x hx => by
    obtain ⟨aa,ac,q1,q2⟩:=c9 j x hx
    exact ⟨aa,ac,q1,q2.keep H A n1⟩),(c10.keep H A (no _ (by omega) (by omega) (by omega) (by omega) (by omega))).ri⟩
   have hj : j < 9:=(List.getElem?_eq_some_iff.1 hv).1
   rw [List.getElem?_set_ne (by omega)]
   exact c1 j v hv
 ·rcases List.mem_or_eq_of_mem_set hB with h | h
  ·exact Ib b7 B h
  ·rw [h]
   exact hB'
theorem Ic (N : Nat) (hN : 3 ≤ N) {h : AH} (H : WF h) : az Tryz.prog N 33 [.slice none 0 0,.slice none 0 0] h = some (.bool true,h):=by
 obtain ⟨n,rfl⟩ : ∃ n,N = n + 2:=⟨N - 2,by omega⟩
 have W:=Wk.start H
 have c : xH (n + 1) (n + 1) h none 0 0 none 0 0 (Int.ofNat 0) 0 (setLow h h.next) = some (.bool true,h):=by
  refine BU ?_
  rw [show bZ 0 (Int.ofNat 0) = false from rfl]
  simp only [ak,ae,an,au,ap,aq,cond_true,cond_false,dy W]
 refine GJ ?_
 rw [show gz (Int.ofNat 0) (Int.ofNat 0) = false from rfl]
 exact c
def zc : List Go.Value:=[.string (ByteArray.mk (List.toArray [])),.slice none 0 0,.slice none 0 0,.slice none 0 0,.slice none 0 0,.slice none 0 0]
theorem Id (N : Nat) (hN : 10 ≤ N) {h : AH} (H : WF h) : az Tryz.prog N 8 [.agg #[.string (ByteArray.mk (List.toArray [])),.slice none 0 0,.slice none 0 0,.slice none 0 0,.slice none 0 0,.slice none 0 0],.agg #[.string (ByteArray.mk (List.toArray [])),.slice none 0 0,.slice none 0 0,.slice none 0 0,.slice none 0 0,.slice none 0 0]] h = some (.bool true,h):=by
 obtain ⟨n,rfl⟩ : ∃ n,N = n + 2:=⟨N - 2,by omega⟩
 have W:=Wk.start H
 obtain ⟨g1,k1,F1,O1,l1,n1⟩:=cS (bO H h.next) zc 0
 have W1:=W.fr F1 l1 (fun y hy => Nat.le_of_eq (List.mem_singleton.1 hy).symm)
 obtain ⟨g2,k2,F2,O2,l2,n2⟩:=cS F1.wf zc 0
 have n1 : g1.next = h.next + 1:=n1
 have W2:=W1.fr F2 l2 (fun y hy => by rw [List.mem_singleton.1 hy]; omega)
 have O1 : cp g2 h.next zc:=O1.fr F2 (fun hx => by have:=List.mem_singleton.1 hx; rw [aD] at this; omega)
 rw [aD] at k1
 unfold zc at *
 have e0 : bZ 0 (Int.ofNat 0) = false:=rfl
 have c3 : xG (n + 1) (n + 1) h ⟨h.next,0,none⟩ ⟨g1.next,0,none⟩ (Int.ofNat 0) 0 g2 = some (.bool true,h):=by
  refine BT ?_
  rw [e0]
  simp only [ak,ae,an,au,ap,aq,cond_true,cond_false,dy W2]
 have c2 : BM (n + 1) (n + 1) h ⟨h.next,0,none⟩ ⟨g1.next,0,none⟩ (Int.ofNat 0) 0 g2 = some (.bool true,h):=by
  refine BQ ?_
  rw [e0]
  simp only [ak,ae,an,au,ap,aq,cond_true,cond_false,O1.rd,Nat.zero_add,Nat.add_zero,List.getElem?_cons_zero,List.getElem?_cons_succ,aj,Nat.reduceAdd,c3]
 have c1 : BJ (n + 1) (n + 1) h ⟨h.next,0,none⟩ ⟨g1.next,0,none⟩ (Int.ofNat 0) 0 g2 = some (.bool true,h):=by
  refine BP ?_
  rw [e0]
  simp only [ak,ae,an,au,ap,aq,cond_true,cond_false,O1.rd,Nat.zero_add,Nat.add_zero,List.getElem?_cons_zero,List.getElem?_cons_succ,aj,Nat.reduceAdd,c2]
 have c0 : BI (n + 1) h ⟨h.next,0,none⟩ ⟨g1.next,0,none⟩ g2 = some (.bool true,h):=by
  refine BN ?_
  simp only [ak,ae,an,au,ap,aq,cond_true,cond_false,O1.rd,Nat.zero_add,Nat.add_zero,List.getElem?_cons_zero,List.getElem?_cons_succ,aj,Nat.reduceAdd,c1]
 have i0:=Ic (n + 1) (by omega) W2.wf
 have ne : gz (Int.ofNat 0) (Int.ofNat 0) = false:=rfl
 refine GI ?_
 simp only [k1,ak,ae,an,au,ap,aq,cond_true,cond_false,k2,O1.rd,O2.rd,Nat.zero_add,Nat.add_zero,List.getElem?_cons_zero,List.getElem?_cons_succ,aj,Nat.reduceAdd,i0,ne,Bool.not_true,Bool.not_false,beq_self_eq_true,c0]
theorem Ck {g : AH} {β o : Nat} {cs : List Value} (O : cp g β cs) : vr g ⟨β,o,none⟩ = true:=by
 obtain ⟨z,h,_⟩:=O
 unfold vr
 rw [h]
 rfl
theorem vM {g : AH} {β γ o p : Nat} {cs ds : List Value} (O : cp g β cs) (O2 : cp g γ ds) (hne : γ ≠ β) : jT g ⟨β,o,none⟩ ⟨γ,p,none⟩ = true:=by
 obtain ⟨z,h,_⟩:=O
 obtain ⟨y,h2,_⟩:=O2
 unfold jT
 rw [h,h2]
 simp only
 cases hb : Nat.beq γ β with
 | false => rfl
 | true => exact absurd (Nat.eq_of_beq_eq_true hb) hne
theorem JS (N : Nat) (hN : 800 ≤ N) {g : AH} (H : WF g) {v : Go.Value} (X : xP g v) :
  ∃ g',az Tryz.prog N 7 [v] g = some (.tuple #[.agg #[.string (ByteArray.mk (List.toArray [])),.slice none 0 0,.slice none 0 0,.slice none 0 0,.slice none 0 0,.slice none 0 0],.agg #[.slice none 0 0]],g') ∧ WF g':=by
 obtain ⟨n,rfl⟩ : ∃ n,N = n + 1:=⟨N - 1,by omega⟩
 have X0:=X
 obtain ⟨wa,ma,sa,ea,fa,wc,ec,fc,WL,EL,LB,rfl,_⟩:=X
 have H0 : WF (setLow g g.next):=bO H _
 have K0 : Kq g (setLow g g.next):=Kq.refl H
 obtain ⟨g1,k1,A1,O1,_,n1,l1⟩:=bP (m:=g.next) (τ:=fun _ => 99) H0 (Nat.le_refl _) 99 0 [iv,.slice wa WL.length wc,.slice ma 2 2,.slice sa 2 2,.slice ea EL.length ec,.slice fa LB.length fc]
 have K1:=K0.bt (Nat.le_refl _) A1
 rw [aD] at k1 n1
 have hn1 : g.next ≤ g1.next:=by omega
 generalize upd (fun _ => 99) (setLow g g.next).next 99 = τ1 at A1 O1
 obtain ⟨g2,k2,A2,O2,_,n2,l2⟩:=bP (m:=g.next) (τ:=τ1) A1.wf hn1 98 0 zc
 have K2:=K1.bt (Nat.le_refl _) A2
 have O1:=O1.keep A1.wf A2 (by simp)
 generalize upd τ1 g1.next 98 = τ2 at A2 O1 O2
 obtain ⟨g3,k3,A3,O3,_,n3,l3⟩:=bP (m:=g.next) (τ:=τ2) A2.wf (by omega) 97 0 [.slice none 0 0]
 have K3:=K2.bt (Nat.le_refl _) A3
 have O1:=O1.keep A2.wf A3 (by simp)
 have O2:=O2.keep A2.wf A3 (by simp)
 generalize upd τ2 g2.next 97 = τ3 at A3 O1 O2 O3
 obtain ⟨g35,k35,A35,O35,_,n35,l35⟩:=bP (m:=g.next) (τ:=τ3) A3.wf (by omega) 96 0 [.slice none 0 0]
 have K35:=K3.bt (Nat.le_refl _) A35
 have O1:=O1.keep A3.wf A35 (by simp)
 have O2:=O2.keep A3.wf A35 (by simp)
 have O3:=O3.keep A3.wf A35 (by simp)
 generalize upd τ3 g3.next 96 = τ35 at A35 O1 O2 O3 O35
 have hv:=(X0.kq H K35).vi n (by omega) A35.wf
 have ha:=Ck (o:=0) O2.1
 have hb:=vM (o:=0) (p:=0) O2.1 O35.1 (by omega)
 obtain ⟨g4,k4,A4,O4,n4,l4⟩:=cM (o:=0) (vs:=zc) A35.wf O2 (by simp [zc])
 have O3:=O3.keep A35.wf A4 (by simp)
 obtain ⟨g5,k5,A5,O5,n5,l5⟩:=cM (o:=0) (vs:=[.slice none 0 0]) A4.wf O3 (by simp)
 have O4:=O4.keep A4.wf A5 (by simp)
 have O4 : Ow g.next τ35 98 g5 g1.next zc:=O4
 have O5 : Ow g.next τ35 97 g5 g2.next [.slice none 0 0]:=O5
 obtain ⟨g',e1,q⟩:=EY g g5 (.tuple #[.agg #[.string (ByteArray.mk (List.toArray [])),.slice none 0 0,.slice none 0 0,.slice none 0 0,.slice none 0 0,.slice none 0 0],.agg #[.slice none 0 0]])
 unfold zc iv at *
 refine ⟨g',HT ?_,?_⟩
 ·skip
  have O1 : Ow g.next τ35 99 g35 g.next _:=O1
  simp only [k1,ak,ae,an,au,ap,aq,cond_true,cond_false,k2,k3,k35,O1.rd,O35.rd,Nat.zero_add,Nat.add_zero,List.getElem?_cons_zero,List.getElem?_cons_succ,aj,Nat.reduceAdd,hv,Bool.not_true,Bool.not_false,ha,hb,k4,k5,O4.rd,O5.rd,e1]
 ·rcases q with ⟨rfl,_⟩ | ⟨y,rfl,_⟩
  ·exact H
  ·exact bO A5.wf _
theorem Ie (n : Nat) (hn : 900 ≤ n) {cf : FuncId → List Go.Value → AH → Option (Go.Value × AH)} (hcf : ∀ f a h,f ≠ 4 → cf f a h = az Tryz.prog n f a h) {g h0 : AH} (H : WF g) {B : Nat} {a1 a2 a3 a4 a5 : Option Addr} {b1 b2 b3 b4 b5 c1 c2 c3 c4 c5 : Nat} {cs : List Go.Value} (O : cp g B cs)
  (hcs : cs = [iv,.slice a1 b1 c1,.slice a2 b2 c2,.slice a3 b3 c3,.slice a4 b4 c4,.slice a5 b5 c5]) (X : xP g (.agg #[iv,.slice a1 b1 c1,.slice a2 b2 c2,.slice a3 b3 c3,.slice a4 b4 c4,.slice a5 b5 c5])) : ∃ g',BV cf n h0 ⟨B,0,none⟩ g = some (.bool true,g'):=by
 subst hcs
 have c7 : ∀ a h,cf 6 a h = az Tryz.prog n 6 a h:=fun a h => hcf 6 a h (by decide)
 have c6 : ∀ a h,cf 7 a h = az Tryz.prog n 7 a h:=fun a h => hcf 7 a h (by decide)
 have c10 : ∀ a h,cf 8 a h = az Tryz.prog n 8 a h:=fun a h => hcf 8 a h (by decide)
 obtain ⟨r,hr⟩:=X.v0 n (by omega) H
 cases r with
 | true =>
  obtain ⟨g',e1,_⟩:=EY h0 g (.bool true)
  unfold iv at *
  refine ⟨g',xI ?_⟩
  simp only [O.rd,Nat.zero_add,Nat.add_zero,List.getElem?_cons_zero,List.getElem?_cons_succ,aj,Nat.reduceAdd,ak,ae,an,au,ap,aq,cond_true,cond_false,c7,hr,e1]
 | false =>
  obtain ⟨g1,h6,H1⟩:=JS n (by omega) H X
  obtain ⟨g2,k2,A2,O2,_,n2,l2⟩:=bP (m:=0) (τ:=fun _ => 0) H1 (Nat.zero_le _) 98 0 zc
  generalize upd (fun _ => 0) g1.next 98 = τ2 at A2 O2
  obtain ⟨g3,k3,A3,O3,_,n3,l3⟩:=bP (m:=0) (τ:=τ2) A2.wf (Nat.zero_le _) 97 0 [.slice none 0 0]
  have O2:=O2.keep A2.wf A3 (by simp)
  generalize upd τ2 g2.next 97 = τ3 at A3 O2 O3
  obtain ⟨g4,k4,A4,O4,n4,l4⟩:=cM (o:=0) (vs:=zc) A3.wf O2 (by simp [zc])
  have O3:=O3.keep A3.wf A4 (by simp)
  obtain ⟨g5,k5,A5,O5,n5,l5⟩:=cM (o:=0) (vs:=[.slice none 0 0]) A4.wf O3 (by simp)
  have O4:=O4.keep A4.wf A5 (by simp)
  have O4 : Ow 0 τ3 98 g5 g1.next zc:=O4
  have O5 : Ow 0 τ3 97 g5 g2.next [.slice none 0 0]:=O5
  have hs:=Id n (by omega) A5.wf
  obtain ⟨g',e1,_⟩:=EY h0 g5 (.bool true)
  unfold zc iv at *
  refine ⟨g',xI ?_⟩
  simp only [O.rd,Nat.zero_add,Nat.add_zero,List.getElem?_cons_zero,List.getElem?_cons_succ,aj,Nat.reduceAdd,ak,ae,an,au,ap,aq,cond_true,cond_false,c7,c6,c10,hr,h6,iV,iW,iX,jP,jQ,jR,ov,ow,ox,oy,oz,oA,oB,show gb 1 (.agg #[.slice none 0 0]) = true from rfl,show db 0 (.agg #[.slice none 0 0]) = some (.slice none 0 0) from rfl,k2,k3,k4,k5,O4.rd,O5.rd,hs,show aX (Int.ofNat 0) 0 = true from rfl,e1]
end Go.Proofs.YtjdomdndflfjdabGreatDoor.Kb
