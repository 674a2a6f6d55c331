/- Joined texts: JB. -/
import Derived.KernelRfl
import Derived.Test.YtjdomdndflfjdabGreatDoorJA
namespace Go.Proofs.YtjdomdndflfjdabGreatDoor.Kb
open Go Go.Proofs Go.Proofs.YtjdomdndflfjdabGreatDoor.X
set_option linter.unusedSimpArgs false
set_option linter.unusedVariables false
theorem Cc (N : Nat) (hN : 1 ≤ N) (h : AH) (w : Int) : az Tryz.prog N 53 [.int .i64 w] h = some (.bool (bS 1 w && bS w 64),h):=by
 obtain ⟨n,rfl⟩ : ∃ n,N = n + 1:=⟨N - 1,by omega⟩
 refine Ga ?_
 cases bS 1 w <;> simp only [bu h,aH,aD,aI,aW,aE,aS,bA,bJ,Nat.beq_refl,aj,List.nil_append,List.cons_append,List.length_cons,List.length_nil,Nat.zero_add,Nat.add_zero,Nat.reduceAdd,ak,ae,an,au,ap,aq,cond_true,cond_false,aU,bp,aV,bB,bC,Bool.true_and,Bool.false_and]
theorem DZ (N : Nat) (hN : 2 ≤ N) (h : AH) (w : Int) : az Tryz.prog N 52 [.int .i64 w] h = some (.bool (!(bS 1 w && bS w 64)),h):=by
 obtain ⟨n,rfl⟩ : ∃ n,N = n + 1:=⟨N - 1,by omega⟩
 refine F9 ?_
 simp only [bu h,aH,aD,aI,aW,aE,aS,bA,bJ,Nat.beq_refl,aj,List.nil_append,List.cons_append,List.length_cons,List.length_nil,Nat.zero_add,Nat.add_zero,Nat.reduceAdd,Cc n (by omega),ak,ae,an,au,ap,aq,cond_true,cond_false,aU,bp,aV,bB,bC]
theorem GS (N : Nat) (h : AH) (H : WF h) (a : Option Addr) (m c : Nat) (L : List Int) (R : RI h a L) (hm : m = L.length) (hN : m + 4 < N) (hx : m < 9223372036854775807) : Ix h .i64 (az Tryz.prog N 84 [.slice a m c,.func (.func 52) #[] #[]] h):=by
 obtain ⟨n,rfl⟩ : ∃ n,N = n + 1:=⟨N - 1,by omega⟩
 have W:=Wk.start H
 have lp : ∀ (j i m0 : Nat),j < m0 → i + j = m → Ix h .i64 (xy n m0 h a m c m i (setLow h h.next)):=by
  intro j
  induction j with
  | zero =>
   intro i m0 hj hi
   obtain ⟨m0,rfl⟩ : ∃ q,m0 = q + 1:=⟨m0 - 1,by omega⟩
   refine Ix.imp tS ?_
   simp only [dl,dF (show ¬ (i : Int) < m by omega),cond_false,EN W]
   exact Ix.leaf
  | succ j ih =>
   intro i m0 hj hi
   obtain ⟨m0,rfl⟩ : ∃ q,m0 = q + 1:=⟨m0 - 1,by omega⟩
   obtain ⟨x,hx⟩ : ∃ x,L[i]? = some x:=⟨_,List.getElem?_eq_getElem (by omega)⟩
   obtain ⟨β1,o1,p1,p2⟩:=R.wk H W i x hx
   have p2:=p2 0 _ rfl
   have hh:=ih (i + 1) m0 (by omega) (by omega)
   refine Ix.imp tS ?_
   have eb:=aK (i:=(i : Int)) (n:=m) (by omega) (by omega)
   rw [p1] at hh ⊢
   simp only [dl,du (show (i : Int) < m by omega),ak,ae,an,au,ap,aq,cond_true,cond_false,eb,Int.toNat_natCast,aj,p2,DZ n (by omega),EN W,dv (show i < 9223372036854775807 by omega)]
   exact Ix.cnd (fun _ => Ix.leaf) (fun _ => hh)
 refine Ix.imp Gv ?_
 exact lp m 0 n (by omega) (by rw [Nat.zero_add])
theorem pX (N : Nat) (h : AH) (H : WF h) (a : Option Addr) (m c : Nat) (L : List Int) (R : RI h a L) (hm : m = L.length) (hN : m + 5 < N) (hx : m < 9223372036854775807) : Bx h (az Tryz.prog N 54 [.slice a m c,.func (.func 52) #[] #[]] h):=by
 obtain ⟨n,rfl⟩ : ∃ n,N = n + 1:=⟨N - 1,by omega⟩
 obtain ⟨r,hr⟩:=GS n (setLow h h.next) (H.setLow _) a m c L R hm (by omega) hx
 refine Bx.imp Gu ?_
 simp only [show (Value.func (Fn.func 52) (List.toArray []) (List.toArray [])) = (.func (.func 52) #[] #[]) from rfl,hr,ak,ae,an,au,ap,aq,cond_true,cond_false,dy (Wk.start H)]
 exact Bx.leaf
theorem GT (N : Nat) (hN : 1 ≤ N) (h : AH) (op : Int) : az Tryz.prog N 113 [.int .i64 op] h = some (.bool (bS 2 op && bS op 20),h):=by
 obtain ⟨n,rfl⟩ : ∃ n,N = n + 1:=⟨N - 1,by omega⟩
 refine Gl ?_
 cases bS 2 op <;> simp only [bu h,aH,aD,aI,aW,aE,aS,bA,bJ,Nat.beq_refl,aj,List.nil_append,List.cons_append,List.length_cons,List.length_nil,Nat.zero_add,Nat.add_zero,Nat.reduceAdd,ak,ae,an,au,ap,aq,cond_true,cond_false,aU,bp,aV,bB,bC,Bool.true_and,Bool.false_and]
theorem GU (N : Nat) (hN : 1 ≤ N) (h : AH) (op : Int) : az Tryz.prog N 115 [.int .i64 op] h = some (.bool (bS 15 op && bS op 20),h):=by
 obtain ⟨n,rfl⟩ : ∃ n,N = n + 1:=⟨N - 1,by omega⟩
 refine Gp ?_
 cases bS 15 op <;> simp only [bu h,aH,aD,aI,aW,aE,aS,bA,bJ,Nat.beq_refl,aj,List.nil_append,List.cons_append,List.length_cons,List.length_nil,Nat.zero_add,Nat.add_zero,Nat.reduceAdd,ak,ae,an,au,ap,aq,cond_true,cond_false,aU,bp,aV,bB,bC,Bool.true_and,Bool.false_and]
theorem GV (N : Nat) (hN : 2 ≤ N) (h : AH) (op : Int) : az Tryz.prog N 86 [.int .i64 op] h = some (.int .i64 (ar op),h):=by
 obtain ⟨n,rfl⟩ : ∃ n,N = n + 1:=⟨N - 1,by omega⟩
 have k1 : ∀ b,xm n h op b (loc h []) = some (.int .i64 (cond b 3 (cond (aX op 22 || (aX op 23 || (aX op 24 || aX op 27))) 1 (-1))),h):=fun b => by
  refine Bh ?_
  cases b <;> cases aX op 22 <;> cases aX op 23 <;> cases aX op 24 <;> cases aX op 27 <;> simp only [ak,ae,an,au,ap,aq,cond_true,cond_false,aU,bp,aV,bB,bC,Bool.true_or,Bool.false_or,Bool.or_true,Bool.or_false]
 have k0 : ∀ b,tN n h op b (loc h []) = some (.int .i64 (cond b 2 (cond (aX op 21 || aX op 26) 3 (cond (aX op 22 || (aX op 23 || (aX op 24 || aX op 27))) 1 (-1)))),h):=fun b => by
  refine Bg ?_
  simp only [k1]
  cases b <;> cases aX op 21 <;> simp only [ak,ae,an,au,ap,aq,cond_true,cond_false,aU,bp,aV,bB,bC,Bool.true_or,Bool.false_or]
 refine Gf ?_
 unfold ar
 simp only [bu h,aH,aD,aI,aW,aE,aS,bA,bJ,Nat.beq_refl,aj,List.nil_append,List.cons_append,List.length_cons,List.length_nil,Nat.zero_add,Nat.add_zero,Nat.reduceAdd,GT n (by omega),k0,ak,ae,an,au,ap,aq,cond_true,cond_false]
 cases aX op 1 <;> cases (bS 2 op && bS op 20) <;> cases aX op 25 <;> simp only [ak,ae,an,au,ap,aq,cond_true,cond_false,aU,bp,aV,bB,bC,Bool.true_or,Bool.false_or]
theorem rh (N : Nat) (hN : 1 ≤ N) (h : AH) (op : Int) : az Tryz.prog N 89 [.int .i64 op] h = some (.bool (gz op 26 && gz op 28),h):=by
 obtain ⟨n,rfl⟩ : ∃ n,N = n + 1:=⟨N - 1,by omega⟩
 refine Gj ?_
 cases gz op 26 <;> simp only [bu h,aH,aD,aI,aW,aE,aS,bA,bJ,Nat.beq_refl,aj,List.nil_append,List.cons_append,List.length_cons,List.length_nil,Nat.zero_add,Nat.add_zero,Nat.reduceAdd,ak,ae,an,au,ap,aq,cond_true,cond_false,aU,bp,aV,bB,bC,Bool.true_and,Bool.false_and]
theorem H2 (N : Nat) (hN : 2 ≤ N) (h : AH) (w : Int) : Ix h .u64 (az Tryz.prog N 121 [.int .i64 w] h):=by
 obtain ⟨n,rfl⟩ : ∃ n,N = n + 2:=⟨N - 2,by omega⟩
 have k : ∀ g,az Tryz.prog (n + 1) 136 [.int .i64 w] g = some (.int .i64 (fM (ge w 0) 64),g):=fun g => by
  refine DW ?_
  simp only [bu g,aU,bp,aV,bB,bC]
 obtain ⟨q0,q1⟩:=BZ w
 refine Ix.imp DU ?_
 simp only [bu h,aH,aD,aI,aW,aE,aS,bA,bJ,Nat.beq_refl,aj,List.nil_append,List.cons_append,List.length_cons,List.length_nil,Nat.zero_add,Nat.add_zero,Nat.reduceAdd,k,ak,ae,an,au,ap,aq,cond_true,cond_false,aU,bp,aV,bB,bC]
 refine Ix.cnd (fun _ => Ix.leaf) (fun _ => ?_)
 have e3 : fC .i64 64 (fM (ge w 0) 64) = 64 - fM (ge w 0) 64:=by
  unfold fC
  rw [IntKind.wrap_i64]
  omega
 rw [e3,dF (by omega)]
 exact Ix.leaf
theorem JI (N : Nat) (hN : 3 ≤ N) (h : AH) (w x : Int) : Ix h .u64 (az Tryz.prog N 93 [.int .i64 w,.int .u64 x] h):=by
 obtain ⟨n,rfl⟩ : ∃ n,N = n + 1:=⟨N - 1,by omega⟩
 obtain ⟨r,hr⟩:=H2 n (by omega) (loc h []) w
 refine Ix.imp Gn ?_
 simp only [bu h,aH,aD,aI,aW,aE,aS,bA,bJ,Nat.beq_refl,aj,List.nil_append,List.cons_append,List.length_cons,List.length_nil,Nat.zero_add,Nat.add_zero,Nat.reduceAdd,hr,ak,ae,an,au,ap,aq,cond_true,cond_false,aU,bp,aV,bB,bC]
 exact Ix.leaf
def Kq (h g : AH) : Prop:=Kp h (setLow g h.low)
theorem Kq.refl {h : AH} (H : WF h) : Kq h h:=Kp.refl H
theorem Kq.ch {h g g' : AH} {L : List Nat} (K : Kq h g) (F : Ch g g' L) (hL : ∀ x ∈ L,h.next ≤ x) : Kq h g' :=
 ⟨F.wf.setLow _,rfl,Nat.le_trans K.nxt F.nxt,fun β hβ => by
  have : β ∉ L:=fun hx => absurd (hL β hx) (by omega)
  exact ⟨(F.same β this).1.trans (K.old β hβ).1,(F.same β this).2.trans (K.old β hβ).2⟩⟩
theorem Kq.wk {h g g' : AH} (K : Kq h g) (W : Wk g g') : Kq h g' :=
 ⟨W.wf.setLow _,rfl,Nat.le_trans K.nxt W.nxt,fun β hβ => by
  have h1:=W.old β (Nat.lt_of_lt_of_le hβ K.nxt)
  exact ⟨h1.1.trans (K.old β hβ).1,h1.2.trans (K.old β hβ).2⟩⟩
theorem RI.kq {h g : AH} (H : WF h) (K : Kq h g) {a : Option Addr} {l : List Int} (R : RI h a l) : RI g a l:=RI.kp H K R
theorem RN.kq {h g : AH} (H : WF h) (K : Kq h g) {a : Option Addr} {l : List bF} (R : RN h a l) : RN g a l:=RN.kp H K R
theorem RE.kq {h g : AH} (H : WF h) (K : Kq h g) {a : Option Addr} {l : List fE} (R : RE h a l) : RE g a l:=RE.kp H K R
theorem RB.kq {h g : AH} (H : WF h) (K : Kq h g) {a : Option Addr} {l : List ba} (R : RB h a l) : RB g a l:=RB.kp H K R
theorem RS.kq {h g : AH} (H : WF h) (K : Kq h g) {a : Option Addr} {l : Nat} (R : RS h a l) : RS g a l:=RS.kp H K R
theorem RA.kq {h g : AH} (H : WF h) (K : Kq h g) {a : Option Addr} {l : Nat} (R : RA h a l) : RA g a l:=RA.kp H K R
theorem At.kq {h g : AH} (H : WF h) (K : Kq h g) {a : Option Addr} {z i : Nat} {cs : List Value} (A : At h a z i cs) : At g a z i cs:=At.kp H K A
structure CS (h0 g : AH) (cc0 : List Value) (bn C D E : Nat) : Prop where
 wf : WF g
 kq : Kq h0 g
 c : cp g C cc0
 d : ∃ l : List Bool,l.length = bn ∧ cp g D (l.map .bool)
 k : ∃ l : List Int,l.length = bn ∧ cp g E (l.map fun x => .int .i64 x)
 cd : h0.next ≤ C ∧ h0.next ≤ D ∧ h0.next ≤ E ∧ C ≠ D ∧ C ≠ E ∧ D ≠ E
theorem CS.fr {h0 g g' : AH} {cc0 : List Value} {bn C D E : Nat} {L : List Nat} (V : CS h0 g cc0 bn C D E) (F : Ch g g' L) (hL : ∀ x ∈ L,h0.next ≤ x ∧ x ≠ C ∧ x ≠ D ∧ x ≠ E) : CS h0 g' cc0 bn C D E :=
 ⟨F.wf,V.kq.ch F fun x hx => (hL x hx).1,V.c.fr F fun hx => (hL _ hx).2.1 rfl,V.d.imp fun _ q => ⟨q.1,q.2.fr F fun hx => (hL _ hx).2.2.1 rfl⟩,V.k.imp fun _ q => ⟨q.1,q.2.fr F fun hx => (hL _ hx).2.2.2 rfl⟩,V.cd⟩
theorem CS.lts {h0 g : AH} {cc0 : List Value} {bn C D E : Nat} (V : CS h0 g cc0 bn C D E) : C < g.next ∧ D < g.next ∧ E < g.next:=by
 obtain ⟨_,_,d⟩:=V.d
 obtain ⟨_,_,k⟩:=V.k
 exact ⟨V.c.lt V.wf,d.lt V.wf,k.lt V.wf⟩
theorem CS.wk {h0 g g' : AH} {cc0 : List Value} {bn C D E : Nat} (V : CS h0 g cc0 bn C D E) (W : Wk g g') : CS h0 g' cc0 bn C D E:=by
 obtain ⟨l1,l2,l3⟩:=V.lts
 have tr : ∀ {β cs},β < g.next → cp g β cs → cp g' β cs:=fun hb ⟨z,o1,o2⟩ => ⟨z,(W.old _ hb).1.trans o1,(W.old _ hb).2.trans o2⟩
 exact ⟨W.wf,V.kq.wk W,tr l1 V.c,V.d.imp fun _ q => ⟨q.1,tr l2 q.2⟩,V.k.imp fun _ q => ⟨q.1,tr l3 q.2⟩,V.cd⟩
theorem CS.low {h0 g : AH} {cc0 : List Value} {bn C D E : Nat} (V : CS h0 g cc0 bn C D E) (x : Nat) : CS h0 (setLow g x) cc0 bn C D E:=⟨V.wf.setLow x,V.kq,V.c,V.d,V.k,V.cd⟩
theorem GW {g : AH} {β : Nat} {l : List Int} (O : cp g β (l.map fun x => .int .i64 x)) : RI g (some ⟨β,0,none⟩) l:=fun i x hx => by
 refine ⟨β,0,rfl,fun k y hy => ?_⟩
 cases k with
 | succ k => cases hy
 | zero =>
  injection hy with hy
  subst hy
  rw [O.rd,Nat.add_zero,Nat.zero_add,Nat.mul_one,List.getElem?_map,hx]
  rfl
section
variable {h0 : AH} {s : ByteArray} {b : Option Addr} {bn bc : Nat} {c : Option Addr} {cn cc : Nat} {d : Option Addr} {dn dc : Nat} {e : Option Addr} {en ec : Nat} {f : Option Addr} {fn fc : Nat} {C D E : Nat}
theorem xJ (N : Nat) (hN : 200 ≤ N) {g : AH} (V : CS h0 g [.string s,.slice b bn bc,.slice c cn cc,.slice d dn dc,.slice e en ec,.slice f fn fc,.slice (some ⟨D,0,none⟩) bn bn,.slice (some ⟨E,0,none⟩) bn bn] bn C D E) (a : Option Addr) (m mc : Nat) (L : List Int) (R : RI g a L) (hm : m = L.length) (hL : L.length < 150) (bi : Int) :
  ∃ r,az Tryz.prog N 87 [.pointer (some ⟨C,0,none⟩),.slice a m mc,.int .i64 bi] g = some (.bool r,g) ∧ (r = true → ∀ x ∈ L,0 ≤ x ∧ x < bn):=by
 obtain ⟨n,rfl⟩ : ∃ n,N = n + 1:=⟨N - 1,by omega⟩
 have W:=Wk.start V.wf
 have V':=V.low g.next
 obtain ⟨ks,hk1,hk2⟩:=V'.k
 have RK:=GW hk2
 have R' : RI (setLow g g.next) a L:=R
 generalize hg : setLow g g.next = g' at *
 have lp : ∀ (j i m0 : Nat),j < m0 → i + j = m → ∃ r,xn n m0 g ⟨C,0,none⟩ bi a m mc m i g' = some (.bool r,g) ∧ (r = true → ∀ x ∈ L.drop i,0 ≤ x ∧ x < bn):=by
  intro j
  induction j with
  | zero =>
   intro i m0 hj hi
   obtain ⟨m0,rfl⟩ : ∃ q,m0 = q + 1:=⟨m0 - 1,by omega⟩
   refine ⟨true,tO ?_,fun _ x hx => ?_⟩
   ·rw [tP,dF (by omega)]
    simp only [ak,ae,an,au,ap,aq,cond_true,cond_false,dy W]
   ·rw [List.drop_of_length_le (by omega)] at hx
    cases hx
  | succ j ih =>
   intro i m0 hj hi
   obtain ⟨m0,rfl⟩ : ∃ q,m0 = q + 1:=⟨m0 - 1,by omega⟩
   obtain ⟨x,hx⟩ : ∃ x,L[i]? = some x:=⟨_,List.getElem?_eq_getElem (by omega)⟩
   obtain ⟨β1,o1,p1,p2⟩:=R' i x hx
   have p2:=p2 0 _ rfl
   have hd : L.drop i = x :: L.drop (i + 1):=by
    rw [List.drop_eq_getElem_cons (by omega)]
    rw [List.getElem?_eq_getElem (by omega)] at hx
    injection hx with hx
    rw [hx]
   obtain ⟨r,r1,r2⟩:=ih (i + 1) m0 (by omega) (by omega)
   have eb:=aK (i:=(i : Int)) (n:=m) (by omega) (by omega)
   have key : ∃ r,vE aF n m0 g ⟨C,0,none⟩ bi a m mc m i g' = some (.bool r,g) ∧ (r = true → ∀ x ∈ L.drop i,0 ≤ x ∧ x < bn):=by
    rw [tP]
    rw [p1] at r1 ⊢
    simp only [V'.c.rd,Nat.zero_add,Nat.add_zero,List.getElem?_cons_zero,List.getElem?_cons_succ,aj,Nat.reduceAdd,dl,du (show (i : Int) < m by omega),ak,ae,an,au,ap,aq,cond_true,cond_false,eb,Int.toNat_natCast,p2,dy W]
    cases h1 : bZ x 0 with
    | true => exact ⟨false,by simp only [ak,ae,an,au,ap,aq,cond_true,cond_false],fun h => by cases h⟩
    | false =>
     cases h2 : bS (bn : Int) x with
     | true => exact ⟨false,by simp only [ak,ae,an,au,ap,aq,cond_true,cond_false],fun h => by cases h⟩
     | false =>
      have x0:=ef h1
      have x1:=fP h2
      obtain ⟨v,hv⟩ : ∃ v,ks[x.toNat]? = some v:=⟨_,List.getElem?_eq_getElem (by omega)⟩
      obtain ⟨β2,o2,q1,q2⟩:=RK x.toNat v hv
      injection q1 with q1
      injection q1 with q3 q4
      subst q3
      subst q4
      have q2:=q2 0 _ rfl
      rw [Nat.zero_add] at q2
      simp only [ak,ae,an,au,ap,aq,cond_true,cond_false,aK (show 0 ≤ x by omega) (show x < bn by omega),q2]
      cases gz v (aT .i64 bi 1) with
      | true => exact ⟨false,by simp only [ak,ae,an,au,ap,aq,cond_true,cond_false],fun h => by cases h⟩
      | false =>
       refine ⟨r,?_,fun hr y hy => ?_⟩
       ·simp only [ak,ae,an,au,ap,aq,cond_true,cond_false]
        rw [dv (by omega)]
        exact r1
       ·rw [hd] at hy
        rcases List.mem_cons.1 hy with rfl | hy
        ·omega
        ·exact r2 hr y hy
   obtain ⟨r,z1,z2⟩:=key
   exact ⟨r,tO z1,z2⟩
 obtain ⟨r,r1,r2⟩:=lp m 0 n (by omega) (by rw [Nat.zero_add])
 refine ⟨r,Gg ?_,fun hr => r2 hr⟩
 rw [hg]
 exact r1
def Lw (g g' : AH) (D E : Nat) : Prop:=g'.low ≤ g.low ∧ ∀ L,L ≤ g.low → L ≤ g.next → L ≤ D → L ≤ E → L ≤ g'.low
theorem Lw.refl (g : AH) (D E : Nat) : Lw g g D E:=⟨Nat.le_refl _,fun _ h _ _ _ => h⟩
theorem Lw.trans {g g1 g2 : AH} {D E : Nat} (A : Lw g g1 D E) (B : Lw g1 g2 D E) (h : g.next ≤ g1.next) : Lw g g2 D E:=⟨Nat.le_trans B.1 A.1,fun L a b c d => B.2 L (A.2 L a b c d) (Nat.le_trans b h) c d⟩
theorem KD {h g : AH} {D E : Nat} (hl : ∀ L,L ≤ h.next → L ≤ D → L ≤ E → L ≤ g.low) (hn : h.next ≤ g.next) (r : Bool) : ∃ g',ai h g (.bool r) = (.bool r,g') ∧ (g' = h ∨ ∃ x,g' = setLow g x) ∧ Lw h g' D E:=by
 unfold ai
 cases h1 : Nat.beq g.low h.next with
 | true => exact ⟨h,rfl,.inl rfl,Lw.refl _ _ _⟩
 | false =>
  refine ⟨setLow g (cond (Nat.blt g.low h.next) (cond (Nat.blt g.low h.low) g.low h.low) h.low),rfl,.inr ⟨_,rfl⟩,?_,fun L a b c d => ?_⟩
  ·show cond (Nat.blt g.low h.next) (cond (Nat.blt g.low h.low) g.low h.low) h.low ≤ h.low
   cases Nat.blt g.low h.next with
   | false => exact Nat.le_refl _
   | true =>
    show cond (Nat.blt g.low h.low) g.low h.low ≤ h.low
    exact (cl _ _).2
  ·show L ≤ cond (Nat.blt g.low h.next) (cond (Nat.blt g.low h.low) g.low h.low) h.low
   have:=hl L b c d
   cases Nat.blt g.low h.next with
   | false => exact a
   | true =>
    show L ≤ cond (Nat.blt g.low h.low) g.low h.low
    cases Nat.blt g.low h.low with
    | false => exact a
    | true => exact this
theorem Cd {g : AH} (H : WF g) {β o : Nat} {cs vs : List Value} (O : cp g β cs) (hf : o + vs.length ≤ cs.length) :
  ∃ g',di g ⟨β,o,none⟩ vs = some g' ∧ Ch g g' [β] ∧ cp g' β (putAt cs o vs) ∧ g'.next = g.next ∧ (g'.low = g.low ∨ g'.low = β):=by
 obtain ⟨z,h1,h2⟩:=O
 have hr : g.rd β = some ⟨cs,z,β,false⟩:=dp h1 (by
  show β ∈ (g.grps.get β).getD [β]
  rw [h2]
  exact List.mem_singleton.2 rfl)
 have hm : g.members β = [β]:=by
  show (g.grps.get β).getD [β] = _
  rw [h2]
  rfl
 have hw : g.wr β ⟨cs,z,β,false⟩ (putAt cs o vs) = some { blks:=g.blks.set β ⟨putAt cs o vs,z,β,false⟩,grps:=g.grps,next:=g.next,low:=cond (Nat.blt β g.low) β g.low }:=by
  unfold AH.wr
  simp only [hm,cond_false]
 refine ⟨{ blks:=g.blks.set β ⟨putAt cs o vs,z,β,false⟩,grps:=g.grps,next:=g.next,low:=cond (Nat.blt β g.low) β g.low },?_,⟨fun γ hγ => ⟨Tr.set_ne (DH hγ),rfl⟩,Nat.le_refl _,(bH.wr H hr hw).wf⟩,⟨z,Tr.set_eq,h2⟩,rfl,?_⟩
 ·unfold di
  simp only [hr,Option.bind_some,Nat.ble_eq_true_of_le hf,cond_true]
  exact hw
 ·show cond (Nat.blt β g.low) β g.low = g.low ∨ cond (Nat.blt β g.low) β g.low = β
  cases Nat.blt β g.low
  ·exact .inl rfl
  ·exact .inr rfl
end
theorem JJ {l : List Bool} {i : Nat} {v : Bool} (h : i < l.length) : putAt (l.map Go.Value.bool) i [.bool v] = (l.set i v).map .bool:=by
 induction l generalizing i with
 | nil => cases h
 | cons x l ih =>
  cases i with
  | zero => rfl
  | succ i =>
   show .bool x :: putAt (l.map Go.Value.bool) i _ = _
   rw [ih (Nat.lt_of_succ_lt_succ h)]
   rfl
theorem JK {l : List Int} {i : Nat} {v : Int} (h : i < l.length) : putAt (l.map fun x => Go.Value.int .i64 x) i [.int .i64 v] = (l.set i v).map fun x => .int .i64 x:=by
 induction l generalizing i with
 | nil => cases h
 | cons x l ih =>
  cases i with
  | zero => rfl
  | succ i =>
   show .int .i64 x :: putAt (l.map fun x => Go.Value.int .i64 x) i _ = _
   rw [ih (Nat.lt_of_succ_lt_succ h)]
   rfl
theorem GX {g : AH} {β : Nat} {l : List Bool} (O : cp g β (l.map .bool)) {i : Nat} {x : Bool} (hx : l[i]? = some x) : rdC g ⟨β,i * 1,none⟩ 0 = some (.bool x):=by
 rw [O.rd,Nat.add_zero,Nat.mul_one,List.getElem?_map,hx]
 rfl
section
variable {h0 : AH} {s : ByteArray} {b : Option Addr} {bn bc : Nat} {c : Option Addr} {cn cc : Nat} {d : Option Addr} {dn dc : Nat} {e : Option Addr} {en ec : Nat} {f : Option Addr} {fn fc : Nat} {C D E : Nat}
theorem xK (N : Nat) (hN : 2 ≤ N) {g : AH} (V : CS h0 g [.string s,.slice b bn bc,.slice c cn cc,.slice d dn dc,.slice e en ec,.slice f fn fc,.slice (some ⟨D,0,none⟩) bn bn,.slice (some ⟨E,0,none⟩) bn bn] bn C D E) (v bi : Int) :
  ∃ r g',az Tryz.prog N 85 [.pointer (some ⟨C,0,none⟩),.int .i64 v,.int .i64 bi] g = some (.bool r,g') ∧ (r = true → 0 ≤ v ∧ v < bn) ∧ CS h0 g' [.string s,.slice b bn bc,.slice c cn cc,.slice d dn dc,.slice e en ec,.slice f fn fc,.slice (some ⟨D,0,none⟩) bn bn,.slice (some ⟨E,0,none⟩) bn bn] bn C D E ∧ Lw g g' D E ∧ g'.next = g.next ∧ Ch g g' [D,E]:=by
 obtain ⟨n,rfl⟩ : ∃ n,N = n + 1:=⟨N - 1,by omega⟩
 have W:=Wk.start V.wf
 have V':=V.low g.next
 obtain ⟨ds,hd1,hd2⟩:=V'.d
 obtain ⟨ks,hk1,hk2⟩:=V'.k
 obtain ⟨c1,c2,c3,c4,c5,c6⟩:=V.cd
 have hlow : (setLow g g.next).low = g.next:=rfl
 have hnxt : (setLow g g.next).next = g.next:=rfl
 have F0 : Ch g (setLow g g.next) [D,E]:=⟨fun _ _ => ⟨rfl,rfl⟩,Nat.le_refl _,W.wf⟩
 generalize hg : setLow g g.next = g1 at *
 have fal : ∀ {A : Option (Go.Value × AH)},A = some (.bool false,g) → ∃ r g',A = some (.bool r,g') ∧ (r = true → 0 ≤ v ∧ v < bn) ∧ CS h0 g' [.string s,.slice b bn bc,.slice c cn cc,.slice d dn dc,.slice e en ec,.slice f fn fc,.slice (some ⟨D,0,none⟩) bn bn,.slice (some ⟨E,0,none⟩) bn bn] bn C D E ∧ Lw g g' D E ∧ g'.next = g.next ∧ Ch g g' [D,E]:=fun h => ⟨false,g,h,(fun h => by cases h),V,Lw.refl _ _ _,rfl,Ch.refl V.wf _⟩
 have key : ∃ r g',Gd aF n ⟨C,0,none⟩ v bi g = some (.bool r,g') ∧ (r = true → 0 ≤ v ∧ v < bn) ∧ CS h0 g' [.string s,.slice b bn bc,.slice c cn cc,.slice d dn dc,.slice e en ec,.slice f fn fc,.slice (some ⟨D,0,none⟩) bn bn,.slice (some ⟨E,0,none⟩) bn bn] bn C D E ∧ Lw g g' D E ∧ g'.next = g.next ∧ Ch g g' [D,E]:=by
  rw [Lu,hg]
  simp only [V'.c.rd,Nat.zero_add,Nat.add_zero,List.getElem?_cons_zero,List.getElem?_cons_succ,aj,Nat.reduceAdd,ak,ae,an,au,ap,aq,cond_true,cond_false,dy W]
  cases h1 : bZ v 0 with
  | true => exact fal rfl
  | false =>
   simp only [ak,ae,an,au,ap,aq,cond_true,cond_false,dl]
   cases h2 : bS (bn : Int) v with
   | true => exact fal rfl
   | false =>
    have v0:=ef h1
    have v1:=fP h2
    have eb:=aK (show 0 ≤ v by omega) (show v < bn by omega)
    obtain ⟨x,hx⟩ : ∃ x,ds[v.toNat]? = some x:=⟨_,List.getElem?_eq_getElem (by omega)⟩
    have hrx:=GX hd2 hx
    simp only [ak,ae,an,au,ap,aq,cond_true,cond_false,eb,hrx]
    cases x with
    | true => exact fal rfl
    | false =>
     simp only [ak,ae,an,au,ap,aq,cond_true,cond_false]
     obtain ⟨g2,s1,s2,s3,s4,s5⟩:=Cd (o:=v.toNat * 1) (vs:=[.bool true]) V'.wf hd2 (by rw [List.length_map,List.length_cons,List.length_nil]; omega)
     have k2:=hk2.fr s2 (by rw [List.mem_singleton]; omega)
     have cc2:=V'.c.fr s2 (by rw [List.mem_singleton]; omega)
     obtain ⟨g3,t1,t2,t3,t4,t5⟩:=Cd (o:=v.toNat * 1) (vs:=[.int .i64 (aT .i64 bi 1)]) s2.wf k2 (by rw [List.length_map,List.length_cons,List.length_nil]; omega)
     rw [Nat.mul_one,JJ (by omega)] at s3
     rw [Nat.mul_one,JK (by omega)] at t3
     have d3:=s3.fr t2 (by rw [List.mem_singleton]; omega)
     have cc3:=cc2.fr t2 (by rw [List.mem_singleton]; omega)
     have F : Ch g1 g3 ([D] ++ [E]):=s2.trans t2
     obtain ⟨g4,e1,e2,e3⟩:=KD (h:=g) (g:=g3) (D:=D) (E:=E) (fun L a b c => by rcases t5 with t5 | t5 <;> rcases s5 with s5 | s5 <;> omega) (by omega) true
     have V3 : CS h0 g3 [.string s,.slice b bn bc,.slice c cn cc,.slice d dn dc,.slice e en ec,.slice f fn fc,.slice (some ⟨D,0,none⟩) bn bn,.slice (some ⟨E,0,none⟩) bn bn] bn C D E:=⟨t2.wf,(V'.kq.ch s2 (fun x hx => by rw [List.mem_singleton.1 hx]; omega)).ch t2 (fun x hx => by rw [List.mem_singleton.1 hx]; omega),cc3,⟨_,by rw [List.length_set]; exact hd1,d3⟩,⟨_,by rw [List.length_set]; exact hk1,t3⟩,V.cd⟩
     have F4 : Ch g g3 [D,E]:=⟨fun β hβ => by
      have q:=F.same β (fun hx => hβ (by simpa using hx))
      have q0:=F0.same β hβ
      exact ⟨q.1.trans q0.1,q.2.trans q0.2⟩,by omega,t2.wf⟩
     refine ⟨true,g4,Bf ?_,fun _ => ⟨by omega,by omega⟩,?_,e3,?_,?_⟩
     ·skip
      simp only [V'.c.rd,Nat.zero_add,Nat.add_zero,List.getElem?_cons_zero,List.getElem?_cons_succ,aj,Nat.reduceAdd,ak,ae,an,au,ap,aq,cond_true,cond_false,eb,s1,t1]
      exact congrArg some e1
     ·rcases e2 with rfl | ⟨x,rfl⟩
      ·exact V
      ·exact V3.low x
     ·rcases e2 with rfl | ⟨x,rfl⟩
      ·rfl
      ·show g3.next = g.next
       omega
     ·rcases e2 with rfl | ⟨x,rfl⟩
      ·exact Ch.refl V.wf _
      ·exact ⟨F4.same,F4.nxt,F4.wf.setLow x⟩
 obtain ⟨r,g',z1,z2⟩:=key
 exact ⟨r,g',Ge z1,z2⟩
end
def Tx (h : AH) (o : Option (Go.Value × AH)) : Prop:=∃ w b,o = some (.tuple #[.int .i64 w,.bool b],h)
theorem Tx.leaf {h : AH} {w : Int} {b : Bool} : Tx h (some (.tuple #[.int .i64 w,.bool b],h)):=⟨w,b,rfl⟩
theorem Tx.cnd {h : AH} {c : Bool} {A B : Option (Go.Value × AH)} (h1 : c = true → Tx h A) (h2 : c = false → Tx h B) : Tx h (cond c A B):=by
 cases c with
 | true => exact h1 rfl
 | false => exact h2 rfl
theorem Tx.imp {h : AH} {A B : Option (Go.Value × AH)} (f : ∀ {r},A = some r → B = some r) (x : Tx h A) : Tx h B:=by
 obtain ⟨w,r,e⟩:=x
 exact ⟨w,r,f e⟩
theorem IW {h g : AH} (W : Wk h g) (w : Int) (b : Bool) : ai h g (.tuple #[.int .i64 w,.bool b]) = (.tuple #[.int .i64 w,.bool b],h):=W.exit rfl
section
variable {h0 : AH} (H0 : WF h0) {s : ByteArray} {b : Option Addr} {bn bc : Nat} {c : Option Addr} {cn cc : Nat} {d : Option Addr} {dn dc : Nat} {e : Option Addr} {en ec : Nat} {f : Option Addr} {fn fc : Nat} {C D E : Nat}
 {op dest : Int} {ia : Option Addr} {m ic : Nat} {num mem : Int} (Rc : RA h0 c cn) (Rd : RS h0 d dn)
 include H0 Rc Rd
theorem D0 (N : Nat) (hN : 2 ≤ N) {g : AH} (V : CS h0 g [.string s,.slice b bn bc,.slice c cn cc,.slice d dn dc,.slice e en ec,.slice f fn fc,.slice (some ⟨D,0,none⟩) bn bn,.slice (some ⟨E,0,none⟩) bn bn] bn C D E) : Tx g (az Tryz.prog N 114 [.pointer (some ⟨C,0,none⟩),.agg #[.int .i64 op,.int .i64 dest,.slice ia m ic,.int .u64 num,.int .i64 mem]] g):=by
 obtain ⟨n,rfl⟩ : ∃ n,N = n + 1:=⟨N - 1,by omega⟩
 have W : Wk g (loc g [[.int .i64 op,.int .i64 dest,.slice ia m ic,.int .u64 num,.int .i64 mem]]):=dZ V.wf _
 have Oi:=cP V.wf [[.int .i64 op,.int .i64 dest,.slice ia m ic,.int .u64 num,.int .i64 mem]] 0 _ rfl
 have hl : aF (setLow g g.next) [.int .i64 op,.int .i64 dest,.slice ia m ic,.int .u64 num,.int .i64 mem] 0 = some (g.next,loc g [[.int .i64 op,.int .i64 dest,.slice ia m ic,.int .u64 num,.int .i64 mem]]):=by
  simp only [bu g,aS,List.length_nil,Nat.add_zero,List.nil_append]
 generalize hg : loc g [[.int .i64 op,.int .i64 dest,.slice ia m ic,.int .u64 num,.int .i64 mem]] = g1 at *
 have Oi : cp g1 g.next [.int .i64 op,.int .i64 dest,.slice ia m ic,.int .u64 num,.int .i64 mem]:=Oi
 have V1:=V.wk W
 have Rc1:=Rc.kq H0 V1.kq
 have Rd1:=Rd.kq H0 V1.kq
 have h3 : 0 ≤ mem → mem < dn → Tx g (Bq n g ⟨C,0,none⟩ ⟨g.next,0,none⟩ g1):=fun m0 m1 => by
  obtain ⟨s1,w1,b1,_,γ,o,q1,q2⟩:=Rd1 mem.toNat (by omega)
  have k1:=q2 1 _ rfl
  have eb:=aK m0 m1
  refine Tx.imp Bv ?_
  simp only [V1.c.rd,Oi.rd,Nat.zero_add,Nat.add_zero,List.getElem?_cons_zero,List.getElem?_cons_succ,aj,Nat.reduceAdd,ak,ae,an,au,ap,aq,cond_true,cond_false,q1,eb,vH k1,IW W]
  exact Tx.leaf
 have h2 : ∀ t,Tx g (xw n g ⟨C,0,none⟩ ⟨g.next,0,none⟩ t g1):=fun t => by
  refine Tx.imp Bu ?_
  simp only [V1.c.rd,Oi.rd,Nat.zero_add,Nat.add_zero,List.getElem?_cons_zero,List.getElem?_cons_succ,aj,Nat.reduceAdd,ak,ae,an,au,ap,aq,cond_true,cond_false,IW W]
  refine Tx.cnd (fun _ => ?_) (fun _ => Tx.leaf)
  refine Tx.cnd (fun _ => Tx.leaf) (fun e1 => ?_)
  refine Tx.cnd (fun _ => Tx.leaf) (fun e2 => ?_)
  have e1:=ef e1
  have e2:=fP e2
  rw [dl] at e2
  obtain ⟨s1,w1,b1,_,γ,o,q1,q2⟩:=Rd1 mem.toNat (by omega)
  have k2:=q2 2 _ rfl
  have eb:=aK (i:=mem) (n:=dn) (by omega) (by omega)
  simp only [q1,aq,eb,cond_true,aj,vH k2,ae]
  exact Tx.cnd (fun _ => Tx.leaf) (fun _ => h3 (by omega) (by omega))
 have h1 : 0 ≤ mem → mem < cn → Tx g (Bp n g ⟨C,0,none⟩ ⟨g.next,0,none⟩ g1):=fun m0 m1 => by
  obtain ⟨s1,w1,l1,k1,f1,_,γ,o,q1,q2⟩:=Rc1 mem.toNat (by omega)
  have k1:=q2 1 _ rfl
  have eb:=aK m0 m1
  refine Tx.imp Bs ?_
  simp only [V1.c.rd,Oi.rd,Nat.zero_add,Nat.add_zero,List.getElem?_cons_zero,List.getElem?_cons_succ,aj,Nat.reduceAdd,ak,ae,an,au,ap,aq,cond_true,cond_false,q1,eb,vH k1,IW W]
  exact Tx.leaf
 have h00 : ∀ k t,Tx g (xv n g ⟨C,0,none⟩ ⟨g.next,0,none⟩ k t g1):=fun k t => by
  refine Tx.imp Br ?_
  simp only [V1.c.rd,Oi.rd,Nat.zero_add,Nat.add_zero,List.getElem?_cons_zero,List.getElem?_cons_succ,aj,Nat.reduceAdd,ak,ae,an,au,ap,aq,cond_true,cond_false,IW W]
  refine Tx.cnd (fun _ => ?_) (fun _ => Tx.cnd (fun _ => h2 _) (fun _ => h2 _))
  refine Tx.cnd (fun _ => Tx.leaf) (fun e1 => ?_)
  refine Tx.cnd (fun _ => Tx.leaf) (fun e2 => ?_)
  have e1:=ef e1
  have e2:=fP e2
  rw [dl] at e2
  exact h1 (by omega) (by omega)
 refine Tx.imp Gm ?_
 rw [hl]
 simp only [Oi.rd,Nat.zero_add,Nat.add_zero,List.getElem?_cons_zero,List.getElem?_cons_succ,aj,Nat.reduceAdd,ak,ae,an,au,ap,aq,cond_true,cond_false]
 exact Tx.cnd (fun _ => h00 _ _) (fun _ => h00 _ _)
theorem D1 (N : Nat) (hN : 300 ≤ N) {g : AH} (V : CS h0 g [.string s,.slice b bn bc,.slice c cn cc,.slice d dn dc,.slice e en ec,.slice f fn fc,.slice (some ⟨D,0,none⟩) bn bn,.slice (some ⟨E,0,none⟩) bn bn] bn C D E) {WL IL : List Int} (RW : RI h0 b WL) (hb : bn = WL.length) (RL : RI g ia IL) (hm : m = IL.length) (hm3 : m ≤ 3) (hin : ∀ x ∈ IL,0 ≤ x ∧ x < bn) :
  Bx g (az Tryz.prog N 88 [.pointer (some ⟨C,0,none⟩),.agg #[.int .i64 op,.int .i64 dest,.slice ia m ic,.int .u64 num,.int .i64 mem]] g):=by
 obtain ⟨n,rfl⟩ : ∃ n,N = n + 1:=⟨N - 1,by omega⟩
 have W : Wk g (loc g [[.int .i64 op,.int .i64 dest,.slice ia m ic,.int .u64 num,.int .i64 mem]]):=dZ V.wf _
 have Oi:=cP V.wf [[.int .i64 op,.int .i64 dest,.slice ia m ic,.int .u64 num,.int .i64 mem]] 0 _ rfl
 have hl : aF (setLow g g.next) [.int .i64 op,.int .i64 dest,.slice ia m ic,.int .u64 num,.int .i64 mem] 0 = some (g.next,loc g [[.int .i64 op,.int .i64 dest,.slice ia m ic,.int .u64 num,.int .i64 mem]]):=by
  simp only [bu g,aS,List.length_nil,Nat.add_zero,List.nil_append]
 have hnx : (loc g [[.int .i64 op,.int .i64 dest,.slice ia m ic,.int .u64 num,.int .i64 mem]]).next = g.next + 1:=rfl
 generalize hg : loc g [[.int .i64 op,.int .i64 dest,.slice ia m ic,.int .u64 num,.int .i64 mem]] = g1 at *
 have Oi : cp g1 g.next [.int .i64 op,.int .i64 dest,.slice ia m ic,.int .u64 num,.int .i64 mem]:=Oi
 have V1:=V.wk W
 obtain ⟨mw,mb,hmem⟩:=D0 H0 Rc Rd n (by omega) V1 (op:=op) (dest:=dest) (ia:=ia) (m:=m) (ic:=ic) (num:=num) (mem:=mem)
 have tailB : ∀ (g2 : AH) (A : Nat) (x0 x1 x2 w : Int),Wk g g2 → cp g2 g.next [.int .i64 op,.int .i64 dest,.slice ia m ic,.int .u64 num,.int .i64 mem] → cp g2 A [.int .i64 x0,.int .i64 x1,.int .i64 x2] →
   (∀ t,Bx g (xt n g ⟨g.next,0,none⟩ mw w ⟨A,0,none⟩ op t g2)):=by
  intro g2 A x0 x1 x2 w W2 O2 OA t
  have h5 : Bx g (Bj n g ⟨g.next,0,none⟩ w ⟨A,0,none⟩ g2):=by
   refine Bx.imp Bo ?_
   simp only [O2.rd,OA.rd,Nat.zero_add,Nat.add_zero,List.getElem?_cons_zero,List.getElem?_cons_succ,aj,Nat.reduceAdd,ak,ae,an,au,ap,aq,cond_true,cond_false,GU n (by omega) g2,dy W2]
   repeat' first | exact Bx.leaf | (refine Bx.cnd (fun _ => ?_) (fun _ => ?_))
  refine Bx.imp Bn ?_
  simp only [O2.rd,OA.rd,Nat.zero_add,Nat.add_zero,List.getElem?_cons_zero,List.getElem?_cons_succ,aj,Nat.reduceAdd,ak,ae,an,au,ap,aq,cond_true,cond_false,dy W2]
  repeat' first | exact Bx.leaf | exact h5 | (refine Bx.cnd (fun _ => ?_) (fun _ => ?_))
 have h3 : ∀ (w : Int) (j i m0 : Nat) (g2 : AH) (A : Nat) (x0 x1 x2 : Int),j < m0 → i + j = m → Wk g g2 → g.next < A → cp g2 g.next [.int .i64 op,.int .i64 dest,.slice ia m ic,.int .u64 num,.int .i64 mem] → cp g2 A [.int .i64 x0,.int .i64 x1,.int .i64 x2] →
   Bx g (xr n m0 g ⟨C,0,none⟩ ⟨g.next,0,none⟩ mw w ⟨A,0,none⟩ ia m ic m i g2):=by
  intro w j
  induction j with
  | zero =>
   intro i m0 g2 A x0 x1 x2 hj hi W2 hA O2 OA
   obtain ⟨m0,rfl⟩ : ∃ q,m0 = q + 1:=⟨m0 - 1,by omega⟩
   have h4:=tailB g2 A x0 x1 x2 w W2 O2 OA
   obtain ⟨y,hy⟩:=JI n (by omega) (setLow g2 g2.next) w num
   refine Bx.imp tQ ?_
   simp only [O2.rd,OA.rd,Nat.zero_add,Nat.add_zero,List.getElem?_cons_zero,List.getElem?_cons_succ,aj,Nat.reduceAdd,ak,ae,an,au,ap,aq,cond_true,cond_false,dF (show ¬ (i : Int) < m by omega),hy,aH,aI,aE,Nat.beq_refl,dy W2]
   repeat' first | exact Bx.leaf | exact h4 _ | (refine Bx.cnd (fun _ => ?_) (fun _ => ?_))
  | succ j ih =>
   intro i m0 g2 A x0 x1 x2 hj hi W2 hA O2 OA
   obtain ⟨m0,rfl⟩ : ∃ q,m0 = q + 1:=⟨m0 - 1,by omega⟩
   have V2:=V.wk W2
   obtain ⟨x,hx⟩ : ∃ x,IL[i]? = some x:=⟨_,List.getElem?_eq_getElem (by omega)⟩
   obtain ⟨β1,o1,p1,p2⟩:=RL.wk V.wf W2 i x hx
   have p2:=p2 0 _ rfl
   obtain ⟨hx0,hx1⟩:=hin x (List.mem_of_getElem? hx)
   obtain ⟨y,hy⟩ : ∃ y,WL[x.toNat]? = some y:=⟨_,List.getElem?_eq_getElem (by omega)⟩
   obtain ⟨β2,o2,r1,r2⟩:=RW.kq H0 V2.kq x.toNat y hy
   have r2:=r2 0 _ rfl
   have hi3 : i < 3:=by omega
   obtain ⟨g',k1,k2,k3,k4,k5⟩:=ir (o:=i * 1) (vs:=[.int .i64 y]) W2.wf OA (by rw [W2.low]; omega) (by show i * 1 + 1 ≤ 3; omega)
   have W' : Wk g g':=W2.fr k2 k4 fun z hz => by rw [List.mem_singleton.1 hz]; omega
   have O':=O2.fr k2 (by rw [List.mem_singleton]; omega)
   obtain ⟨y0,y1,y2,hy3⟩ : ∃ y0 y1 y2 : Int,putAt [.int .i64 x0,.int .i64 x1,.int .i64 x2] (i * 1) [.int .i64 y] = [.int .i64 y0,.int .i64 y1,.int .i64 y2]:=by
    rcases (show i = 0 ∨ i = 1 ∨ i = 2 by omega) with rfl | rfl | rfl
    ·exact ⟨y,x1,x2,rfl⟩
    ·exact ⟨x0,y,x2,rfl⟩
    ·exact ⟨x0,x1,y,rfl⟩
   rw [hy3] at k3
   have hh:=ih (i + 1) m0 g' A y0 y1 y2 (by omega) (by omega) W' hA O' k3
   refine Bx.imp tQ ?_
   have eb:=aK (i:=(i : Int)) (n:=m) (by omega) (by omega)
   have eb2:=aK (i:=x) (n:=bn) hx0 hx1
   have eb3:=aK (i:=(i : Int)) (n:=3) (by omega) (by omega)
   rw [p1] at hh ⊢
   simp only [V2.c.rd,Nat.zero_add,Nat.add_zero,List.getElem?_cons_zero,List.getElem?_cons_succ,aj,Nat.reduceAdd,ak,ae,an,au,ap,aq,cond_true,cond_false,du (show (i : Int) < m by omega),eb,Int.toNat_natCast,p2,r1,eb2,r2,eb3,k1]
   rw [dv (by omega)]
   exact hh
 have h2 : ∀ w,Bx g (xq n g ⟨C,0,none⟩ ⟨g.next,0,none⟩ mw w g1):=fun w => by
  obtain ⟨g',k1,k2,k3,k4,k5⟩:=cS W.wf [.int .i64 0,.int .i64 0,.int .i64 0] 0
  have W' : Wk g g':=W.fr k2 k4 fun z hz => by rw [List.mem_singleton.1 hz]; omega
  have O':=Oi.fr k2 (by rw [List.mem_singleton]; omega)
  have hh:=h3 w m 0 n g' g1.next 0 0 0 (by omega) (by rw [Nat.zero_add]) W' (by omega) O' k3
  refine Bx.imp Bm ?_
  rw [k1]
  simp only [O'.rd,Nat.zero_add,Nat.add_zero,List.getElem?_cons_zero,List.getElem?_cons_succ,aj,Nat.reduceAdd,ak,ae,an,au,ap,aq,cond_true,cond_false,dl]
  exact hh
 have h1 : 0 ≤ dest → dest < bn → Bx g (Bi n g ⟨C,0,none⟩ ⟨g.next,0,none⟩ mw g1):=fun d0 d1 => by
  obtain ⟨y,hy⟩ : ∃ y,WL[dest.toNat]? = some y:=⟨_,List.getElem?_eq_getElem (by omega)⟩
  obtain ⟨β2,o2,r1,r2⟩:=RW.kq H0 V1.kq dest.toNat y hy
  have r2:=r2 0 _ rfl
  have eb:=aK d0 d1
  refine Bx.imp Bl ?_
  simp only [V1.c.rd,Oi.rd,Nat.zero_add,Nat.add_zero,List.getElem?_cons_zero,List.getElem?_cons_succ,aj,Nat.reduceAdd,ak,ae,an,au,ap,aq,cond_true,cond_false,r1,eb,r2]
  exact h2 _
 have h00 : Bx g (xp n g ⟨C,0,none⟩ ⟨g.next,0,none⟩ mw g1):=by
  refine Bx.imp Bk ?_
  simp only [V1.c.rd,Oi.rd,Nat.zero_add,Nat.add_zero,List.getElem?_cons_zero,List.getElem?_cons_succ,aj,Nat.reduceAdd,ak,ae,an,au,ap,aq,cond_true,cond_false,rh n (by omega) g1,dy W]
  refine Bx.cnd (fun _ => Bx.cnd (fun _ => Bx.leaf) (fun e1 => Bx.cnd (fun _ => Bx.leaf) (fun e2 => ?_))) (fun _ => Bx.cnd (fun _ => Bx.leaf) (fun _ => h2 _))
  have e1:=ef e1
  have e2:=fP e2
  rw [dl] at e2
  exact h1 (by omega) (by omega)
 refine Bx.imp Gi ?_
 rw [hl]
 simp only [Oi.rd,Nat.zero_add,Nat.add_zero,List.getElem?_cons_zero,List.getElem?_cons_succ,aj,Nat.reduceAdd,ak,ae,an,au,ap,aq,cond_true,cond_false,hmem,iV,iW,iX,dy W]
 repeat' first | exact Bx.leaf | exact h00 | (refine Bx.cnd (fun _ => ?_) (fun _ => ?_))
end
def Cx (h : AH) (Q : Prop) (o : Option (Go.Value × AH)) : Prop:=∃ r,o = some (.bool r,h) ∧ (r = true → Q)
theorem Cx.fl {h : AH} {Q : Prop} : Cx h Q (some (.bool false,h)):=⟨false,rfl,fun h => by cases h⟩
theorem Cx.leaf {h : AH} {Q : Prop} {b : Bool} (q : b = true → Q) : Cx h Q (some (.bool b,h)):=⟨b,rfl,q⟩
theorem Cx.cnd {h : AH} {Q : Prop} {c : Bool} {A B : Option (Go.Value × AH)} (h1 : c = true → Cx h Q A) (h2 : c = false → Cx h Q B) : Cx h Q (cond c A B):=by
 cases c with
 | true => exact h1 rfl
 | false => exact h2 rfl
theorem Cx.imp {h : AH} {Q : Prop} {A B : Option (Go.Value × AH)} (f : ∀ {r},A = some r → B = some r) (x : Cx h Q A) : Cx h Q B:=by
 obtain ⟨r,e,q⟩:=x
 exact ⟨r,f e,q⟩
section
variable {h0 : AH} (H0 : WF h0) {s : ByteArray} {b : Option Addr} {bn bc : Nat} {c : Option Addr} {cn cc : Nat} {d : Option Addr} {dn dc : Nat} {e : Option Addr} {en ec : Nat} {f : Option Addr} {fn fc : Nat} {C D E : Nat}
 {WL : List Int} (RW : RI h0 b WL) (hb : bn = WL.length)
 include H0 RW hb
theorem GY (N : Nat) (hN : 1 ≤ N) {g : AH} (V : CS h0 g [.string s,.slice b bn bc,.slice c cn cc,.slice d dn dc,.slice e en ec,.slice f fn fc,.slice (some ⟨D,0,none⟩) bn bn,.slice (some ⟨E,0,none⟩) bn bn] bn C D E) {P : Nat} (O : cp g P [.pointer (some ⟨C,0,none⟩)]) (v p : Int) (v0 : 0 ≤ v) (v1 : v < bn) : Bx g (az Tryz.prog N 135 [.int .i64 v,.int .i64 p,.pointer (some ⟨P,0,none⟩)] g):=by
 obtain ⟨n,rfl⟩ : ∃ n,N = n + 1:=⟨N - 1,by omega⟩
 have W:=Wk.start V.wf
 have V':=V.low g.next
 have O' : cp (setLow g g.next) P [.pointer (some ⟨C,0,none⟩)]:=O
 generalize hg : setLow g g.next = g1 at *
 obtain ⟨y,hy⟩ : ∃ y,WL[v.toNat]? = some y:=⟨_,List.getElem?_eq_getElem (by omega)⟩
 obtain ⟨β1,o1,p1,p2⟩:=RW.kq H0 V'.kq v.toNat y hy
 have p2:=p2 0 _ rfl
 refine Bx.imp DV ?_
 rw [hg]
 simp only [O'.rd,V'.c.rd,Nat.zero_add,Nat.add_zero,List.getElem?_cons_zero,List.getElem?_cons_succ,aj,Nat.reduceAdd,ak,ae,an,au,ap,aq,cond_true,cond_false,dy W]
 refine Bx.cnd (fun e1 => Bx.cnd (fun e2 => ?_) (fun _ => Bx.leaf)) (fun _ => Bx.leaf)
 have e1:=kH e1
 have e2:=lW e2
 rw [dl] at e2
 obtain ⟨z,hz⟩ : ∃ z,WL[p.toNat]? = some z:=⟨_,List.getElem?_eq_getElem (by omega)⟩
 obtain ⟨β2,o2,q1,q2⟩:=RW.kq H0 V'.kq p.toNat z hz
 have q2:=q2 0 _ rfl
 rw [p1] at q1
 injection q1 with q1
 injection q1 with q3 q4
 subst q3
 subst q4
 simp only [p1,aq,aK v0 v1,aK e1 e2,cond_true,aj,p2,q2,ak]
 exact Bx.leaf
theorem H3 (N : Nat) (hN : 1 ≤ N) {g : AH} (V : CS h0 g [.string s,.slice b bn bc,.slice c cn cc,.slice d dn dc,.slice e en ec,.slice f fn fc,.slice (some ⟨D,0,none⟩) bn bn,.slice (some ⟨E,0,none⟩) bn bn] bn C D E) {P : Nat} (O : cp g P [.pointer (some ⟨C,0,none⟩)]) (v p : Int) (v0 : 0 ≤ v) (v1 : v < bn) : Bx g (az Tryz.prog N 118 [.int .i64 v,.int .i64 p,.pointer (some ⟨P,0,none⟩)] g):=by
 obtain ⟨n,rfl⟩ : ∃ n,N = n + 1:=⟨N - 1,by omega⟩
 have W:=Wk.start V.wf
 have V':=V.low g.next
 have O' : cp (setLow g g.next) P [.pointer (some ⟨C,0,none⟩)]:=O
 generalize hg : setLow g g.next = g1 at *
 obtain ⟨y,hy⟩ : ∃ y,WL[v.toNat]? = some y:=⟨_,List.getElem?_eq_getElem (by omega)⟩
 obtain ⟨β1,o1,p1,p2⟩:=RW.kq H0 V'.kq v.toNat y hy
 have p2:=p2 0 _ rfl
 refine Bx.imp Gt ?_
 rw [hg]
 simp only [O'.rd,V'.c.rd,Nat.zero_add,Nat.add_zero,List.getElem?_cons_zero,List.getElem?_cons_succ,aj,Nat.reduceAdd,ak,ae,an,au,ap,aq,cond_true,cond_false,dy W,p1,aK v0 v1,p2]
 exact Bx.leaf
theorem GZ (N : Nat) {g : AH} (V : CS h0 g [.string s,.slice b bn bc,.slice c cn cc,.slice d dn dc,.slice e en ec,.slice f fn fc,.slice (some ⟨D,0,none⟩) bn bn,.slice (some ⟨E,0,none⟩) bn bn] bn C D E) {P : Nat} (O : cp g P [.pointer (some ⟨C,0,none⟩)]) (a : Option Addr) (m mc : Nat) (L : List Int) (R : RI g a L) (hm : m = L.length) (hL : ∀ x ∈ L,0 ≤ x ∧ x < bn) (t : Option Addr) (tn tc : Nat) (M : List Int) (S : RI g t M) (ht : tn = M.length) (hN : m + 4 < N) (hx : m < 9223372036854775807) :
  Bx g (az Tryz.prog N 117 [.slice a m mc,.slice t tn tc,.func (.func 135) #[] #[.pointer (some ⟨P,0,none⟩)]] g):=by
 obtain ⟨n,rfl⟩ : ∃ n,N = n + 1:=⟨N - 1,by omega⟩
 have W:=Wk.start V.wf
 have V':=V.low g.next
 have O' : cp (setLow g g.next) P [.pointer (some ⟨C,0,none⟩)]:=O
 have R' : RI (setLow g g.next) a L:=R
 have S' : RI (setLow g g.next) t M:=S
 generalize hg : setLow g g.next = g1 at *
 have lp : m = tn → ∀ (j i m0 : Nat),j < m0 → i + j = m → Bx g (Kb2.c95_0 n m0 g t tn tc ⟨P,0,none⟩ a m mc m i g1):=by
  intro hmt j
  induction j with
  | zero =>
   intro i m0 hj hi
   obtain ⟨m0,rfl⟩ : ∃ q,m0 = q + 1:=⟨m0 - 1,by omega⟩
   refine Bx.imp Kb2.c95_0_ok ?_
   rw [dF (by omega)]
   simp only [ak,ae,an,au,ap,aq,cond_true,cond_false,dy W]
   exact Bx.leaf
  | succ j ih =>
   intro i m0 hj hi
   obtain ⟨m0,rfl⟩ : ∃ q,m0 = q + 1:=⟨m0 - 1,by omega⟩
   obtain ⟨x,hx⟩ : ∃ x,L[i]? = some x:=⟨_,List.getElem?_eq_getElem (by omega)⟩
   obtain ⟨β1,o1,p1,p2⟩:=R' i x hx
   have p2:=p2 0 _ rfl
   obtain ⟨y,hy⟩ : ∃ x,M[i]? = some x:=⟨_,List.getElem?_eq_getElem (by omega)⟩
   obtain ⟨β2,o2,q1,q2⟩:=S' i y hy
   have q2:=q2 0 _ rfl
   obtain ⟨x0,x1⟩:=hL x (List.mem_of_getElem? hx)
   obtain ⟨r,hr⟩:=GY H0 RW hb n (by omega) V' O' x y x0 x1
   have hh:=ih (i + 1) m0 (by omega) (by omega)
   have eb:=aK (i:=(i : Int)) (n:=m) (by omega) (by omega)
   have eb2:=aK (i:=(i : Int)) (n:=tn) (by omega) (by omega)
   refine Bx.imp Kb2.c95_0_ok ?_
   rw [p1,q1] at hh ⊢
   simp only [du (show (i : Int) < m by omega),ak,ae,an,au,ap,aq,cond_true,cond_false,eb,eb2,Int.toNat_natCast,aj,p2,q2,hr,dy W,dv (show i < 9223372036854775807 by omega)]
   exact Bx.cnd (fun _ => Bx.leaf) (fun _ => hh)
 refine Bx.imp Kb2.t95_ok ?_
 rw [hg,dl,dl,dy W]
 exact Bx.cnd (fun _ => Bx.leaf) (fun e1 => lp (by have:=pW e1; omega) m 0 n (by omega) (by rw [Nat.zero_add]))
theorem G7 (N : Nat) {g : AH} (V : CS h0 g [.string s,.slice b bn bc,.slice c cn cc,.slice d dn dc,.slice e en ec,.slice f fn fc,.slice (some ⟨D,0,none⟩) bn bn,.slice (some ⟨E,0,none⟩) bn bn] bn C D E) {P : Nat} (O : cp g P [.pointer (some ⟨C,0,none⟩)]) (a : Option Addr) (m mc : Nat) (L : List Int) (R : RI g a L) (hm : m = L.length) (hL : ∀ x ∈ L,0 ≤ x ∧ x < bn) (t : Option Addr) (tn tc : Nat) (M : List Int) (S : RI g t M) (ht : tn = M.length) (hN : m + 4 < N) (hx : m < 9223372036854775807) :
  Bx g (az Tryz.prog N 117 [.slice a m mc,.slice t tn tc,.func (.func 118) #[] #[.pointer (some ⟨P,0,none⟩)]] g):=by
 obtain ⟨n,rfl⟩ : ∃ n,N = n + 1:=⟨N - 1,by omega⟩
 have W:=Wk.start V.wf
 have V':=V.low g.next
 have O' : cp (setLow g g.next) P [.pointer (some ⟨C,0,none⟩)]:=O
 have R' : RI (setLow g g.next) a L:=R
 have S' : RI (setLow g g.next) t M:=S
 generalize hg : setLow g g.next = g1 at *
 have lp : m = tn → ∀ (j i m0 : Nat),j < m0 → i + j = m → Bx g (c95_0 n m0 g t tn tc ⟨P,0,none⟩ a m mc m i g1):=by
  intro hmt j
  induction j with
  | zero =>
   intro i m0 hj hi
   obtain ⟨m0,rfl⟩ : ∃ q,m0 = q + 1:=⟨m0 - 1,by omega⟩
   refine Bx.imp c95_0_ok ?_
   rw [dF (by omega)]
   simp only [ak,ae,an,au,ap,aq,cond_true,cond_false,dy W]
   exact Bx.leaf
  | succ j ih =>
   intro i m0 hj hi
   obtain ⟨m0,rfl⟩ : ∃ q,m0 = q + 1:=⟨m0 - 1,by omega⟩
   obtain ⟨x,hx⟩ : ∃ x,L[i]? = some x:=⟨_,List.getElem?_eq_getElem (by omega)⟩
   obtain ⟨β1,o1,p1,p2⟩:=R' i x hx
   have p2:=p2 0 _ rfl
   obtain ⟨y,hy⟩ : ∃ x,M[i]? = some x:=⟨_,List.getElem?_eq_getElem (by omega)⟩
   obtain ⟨β2,o2,q1,q2⟩:=S' i y hy
   have q2:=q2 0 _ rfl
   obtain ⟨x0,x1⟩:=hL x (List.mem_of_getElem? hx)
   obtain ⟨r,hr⟩:=H3 H0 RW hb n (by omega) V' O' x y x0 x1
   have hh:=ih (i + 1) m0 (by omega) (by omega)
   have eb:=aK (i:=(i : Int)) (n:=m) (by omega) (by omega)
   have eb2:=aK (i:=(i : Int)) (n:=tn) (by omega) (by omega)
   refine Bx.imp c95_0_ok ?_
   rw [p1,q1] at hh ⊢
   simp only [du (show (i : Int) < m by omega),ak,ae,an,au,ap,aq,cond_true,cond_false,eb,eb2,Int.toNat_natCast,aj,p2,q2,hr,dy W,dv (show i < 9223372036854775807 by omega)]
   exact Bx.cnd (fun _ => Bx.leaf) (fun _ => hh)
 refine Bx.imp t95_ok ?_
 rw [hg,dl,dl,dy W]
 exact Bx.cnd (fun _ => Bx.leaf) (fun e1 => lp (by have:=pW e1; omega) m 0 n (by omega) (by rw [Nat.zero_add]))
theorem H4 (N : Nat) (hN : 300 ≤ N) {g : AH} (V : CS h0 g [.string s,.slice b bn bc,.slice c cn cc,.slice d dn dc,.slice e en ec,.slice f fn fc,.slice (some ⟨D,0,none⟩) bn bn,.slice (some ⟨E,0,none⟩) bn bn] bn C D E) {LB : List ba} (RK : RB h0 f LB) (hf : fn = LB.length) (kb : Int) {ua : Option Addr} {un uc : Nat} {UL : List Int} (RU : RI g ua UL) (hu : un = UL.length) (hu1 : UL.length < 100) (bi : Int) :
  Bx g (az Tryz.prog N 116 [.pointer (some ⟨C,0,none⟩),.agg #[.int .i64 kb,.slice ua un uc],.int .i64 bi] g):=by
 obtain ⟨n,rfl⟩ : ∃ n,N = n + 1:=⟨N - 1,by omega⟩
 have W : Wk g (loc g [[.pointer (some ⟨C,0,none⟩)],[.int .i64 kb,.slice ua un uc]]):=dZ V.wf _
 have O3:=cP V.wf [[.pointer (some ⟨C,0,none⟩)],[.int .i64 kb,.slice ua un uc]] 0 _ rfl
 have O4:=cP V.wf [[.pointer (some ⟨C,0,none⟩)],[.int .i64 kb,.slice ua un uc]] 1 _ rfl
 have hl1 : aF (setLow g g.next) [.pointer (some ⟨C,0,none⟩)] 0 = some (g.next,loc g [[.pointer (some ⟨C,0,none⟩)]]):=by
  simp only [bu g,aS,List.length_nil,Nat.add_zero,List.nil_append]
 have hl2 : aF (loc g [[.pointer (some ⟨C,0,none⟩)]]) [.int .i64 kb,.slice ua un uc] 0 = some (g.next + 1,loc g [[.pointer (some ⟨C,0,none⟩)],[.int .i64 kb,.slice ua un uc]]):=by
  simp only [aS,List.length_cons,List.length_nil,Nat.zero_add,List.cons_append,List.nil_append]
 generalize hg : loc g [[.pointer (some ⟨C,0,none⟩)],[.int .i64 kb,.slice ua un uc]] = g1 at *
 have O3 : cp g1 g.next [.pointer (some ⟨C,0,none⟩)]:=O3
 have V1:=V.wk W
 have RU1:=RU.wk V.wf W
 obtain ⟨r,r1,r2⟩:=xJ n (by omega) V1 ua un uc UL RU1 hu (by omega) bi
 have h94 : r = true → 0 ≤ kb → kb < fn → Bx g (Bw n g ⟨g.next,0,none⟩ ⟨g.next + 1,0,none⟩ g1):=fun hr k0 k1 => by
  obtain ⟨B,hB⟩ : ∃ B,LB[kb.toNat]? = some B:=⟨_,List.getElem?_eq_getElem (by omega)⟩
  obtain ⟨pa,pc,ia,ic,ta,tc,ra,rc,⟨β,o,A1,A2⟩,RP,_⟩:=RK.kq H0 V1.kq _ _ hB
  have A2:=A2 0 _ rfl
  obtain ⟨q,hq⟩:=GZ H0 RW hb n V1 O3 ua un uc UL RU1 hu (r2 hr) pa B.params.length pc B.params RP rfl (by omega) (by omega)
  refine Bx.imp By ?_
  simp only [O3.rd,O4.rd,V1.c.rd,Nat.zero_add,Nat.add_zero,List.getElem?_cons_zero,List.getElem?_cons_succ,aj,Nat.reduceAdd,ak,ae,an,au,ap,aq,cond_true,cond_false,A1,aK k0 k1,A2]
  rw [show (Value.func (Fn.func 135) (List.toArray []) (List.toArray [(.pointer (some ⟨g.next,0,none⟩))])) = (.func (.func 135) #[] #[.pointer (some ⟨g.next,0,none⟩)]) from rfl,hq]
  simp only [ak,ae,an,au,ap,aq,cond_true,cond_false,dy W]
  exact Bx.leaf
 refine Bx.imp Gq ?_
 rw [hl1]
 simp only [aq,hl2]
 simp only [O3.rd,O4.rd,V1.c.rd,Nat.zero_add,Nat.add_zero,List.getElem?_cons_zero,List.getElem?_cons_succ,aj,Nat.reduceAdd,ak,ae,an,au,ap,aq,cond_true,cond_false,r1,dy W]
 refine Bx.cnd (fun _ => Bx.leaf) (fun e1 => Bx.cnd (fun _ => Bx.leaf) (fun e2 => Bx.cnd (fun _ => Bx.leaf) (fun e3 => ?_)))
 have e1:=ef e1
 have e2:=fP e2
 rw [dl] at e2
 exact h94 (by simpa using e3) (by omega) (by omega)
end
def JL (bn : Nat) (kd : Int) (RL : List Int) : Prop:=(kd = 1 ∧ RL = []) ∨ (kd = 2 ∧ RL = []) ∨ (kd = 3 ∧ ∀ x ∈ RL,0 ≤ x ∧ x < bn)
section
variable {h0 : AH} (H0 : WF h0) {s : ByteArray} {b : Option Addr} {bn bc : Nat} {c : Option Addr} {cn cc : Nat} {d : Option Addr} {dn dc : Nat} {e : Option Addr} {en ec : Nat} {f : Option Addr} {fn fc : Nat} {C D E : Nat}
 {WL : List Int} (RW : RI h0 b WL) (hb : bn = WL.length) {LB : List ba} {EL : List Int} (RK : RB h0 f LB) (hf : fn = LB.length) (RR : RI h0 e EL) (he : en = EL.length)
 include H0 RW hb RK hf RR he
theorem H5 (N : Nat) (hN : 400 ≤ N) {g : AH} (V : CS h0 g [.string s,.slice b bn bc,.slice c cn cc,.slice d dn dc,.slice e en ec,.slice f fn fc,.slice (some ⟨D,0,none⟩) bn bn,.slice (some ⟨E,0,none⟩) bn bn] bn C D E) (kd cd : Int) {ta : Option Addr} {tn tc : Nat} {TL : List fE} (RT' : RE g ta TL) (ht : tn = TL.length) (htn : TL.length < 100) (hta : ∀ x ∈ TL,x.args.length < 100)
  {ra : Option Addr} {rn rc : Nat} {RL : List Int} (RQ : RI g ra RL) (hr : rn = RL.length) (hrn : RL.length < 100) (bi : Int) :
  Cx g (JL bn kd RL) (az Tryz.prog N 90 [.pointer (some ⟨C,0,none⟩),.agg #[.int .i64 kd,.int .i64 cd,.slice ta tn tc,.slice ra rn rc],.int .i64 bi] g):=by
 obtain ⟨n,rfl⟩ : ∃ n,N = n + 1:=⟨N - 1,by omega⟩
 have W0 : Wk g (loc g [[.pointer (some ⟨C,0,none⟩)],[.int .i64 kd,.int .i64 cd,.slice ta tn tc,.slice ra rn rc]]):=dZ V.wf _
 have O30:=cP V.wf [[.pointer (some ⟨C,0,none⟩)],[.int .i64 kd,.int .i64 cd,.slice ta tn tc,.slice ra rn rc]] 0 _ rfl
 have O40:=cP V.wf [[.pointer (some ⟨C,0,none⟩)],[.int .i64 kd,.int .i64 cd,.slice ta tn tc,.slice ra rn rc]] 1 _ rfl
 have hl1 : aF (setLow g g.next) [.pointer (some ⟨C,0,none⟩)] 0 = some (g.next,loc g [[.pointer (some ⟨C,0,none⟩)]]):=by
  simp only [bu g,aS,List.length_nil,Nat.add_zero,List.nil_append]
 have hl2 : aF (loc g [[.pointer (some ⟨C,0,none⟩)]]) [.int .i64 kd,.int .i64 cd,.slice ta tn tc,.slice ra rn rc] 0 = some (g.next + 1,loc g [[.pointer (some ⟨C,0,none⟩)],[.int .i64 kd,.int .i64 cd,.slice ta tn tc,.slice ra rn rc]]):=by
  simp only [aS,List.length_cons,List.length_nil,Nat.zero_add,List.cons_append,List.nil_append]
 have hnx : (loc g [[.pointer (some ⟨C,0,none⟩)],[.int .i64 kd,.int .i64 cd,.slice ta tn tc,.slice ra rn rc]]).next = g.next + 2:=rfl
 generalize hg : loc g [[.pointer (some ⟨C,0,none⟩)],[.int .i64 kd,.int .i64 cd,.slice ta tn tc,.slice ra rn rc]] = g1 at *
 have O30 : cp g1 g.next [.pointer (some ⟨C,0,none⟩)]:=O30
 have lp : ∀ (j i m0 : Nat) (g2 : AH),j < m0 → i + j = tn → Wk g g2 → cp g2 g.next [.pointer (some ⟨C,0,none⟩)] → cp g2 (g.next + 1) [.int .i64 kd,.int .i64 cd,.slice ta tn tc,.slice ra rn rc] → g.next + 2 ≤ g2.next →
   Cx g (JL bn kd RL) (xu n m0 g bi ⟨g.next,0,none⟩ ⟨g.next + 1,0,none⟩ ta tn tc tn i g2):=by
  intro j
  induction j with
  | zero =>
   intro i m0 g2 hj hi W O3 O4 hx
   obtain ⟨m0,rfl⟩ : ∃ q,m0 = q + 1:=⟨m0 - 1,by omega⟩
   have V2:=V.wk W
   obtain ⟨g3,k1,k2,k3,k4,k5⟩:=cS W.wf [.int .i64 cd] 1
   have W3 : Wk g g3:=W.fr k2 k4 fun z hz => by rw [List.mem_singleton.1 hz]; omega
   have V3:=V.wk W3
   have O33:=O3.fr k2 (by rw [List.mem_singleton]; omega)
   have O43:=O4.fr k2 (by rw [List.mem_singleton]; omega)
   have RC : RI (setLow g3 g3.next) (some ⟨g2.next,0,none⟩) [cd]:=fun i x hx => by
    cases i with
    | succ i => cases hx
    | zero =>
     injection hx with hx
     subst hx
     refine ⟨_,_,rfl,fun k y hy => ?_⟩
     cases k with
     | succ k => cases hy
     | zero =>
      injection hy with hy
      subst hy
      exact (show rdC g3 ⟨g2.next,0 + 0 * 1,none⟩ 0 = some (.int .i64 cd) from by rw [k3.rd]; rfl)
   obtain ⟨q,q1,q2⟩:=xJ n (by omega) (V3.low g3.next) (some ⟨g2.next,0,none⟩) 1 1 [cd] RC rfl (by show 1 < 150; decide) bi
   have RQ2 : RI (setLow g2 g2.next) ra RL:=RQ.wk V.wf W
   obtain ⟨r,r1,r2⟩:=xJ n (by omega) (V2.low g2.next) ra rn rc RL RQ2 hr (by omega) bi
   refine Cx.imp tR ?_
   rw [dF (by omega)]
   simp only [O3.rd,O4.rd,Nat.zero_add,Nat.add_zero,List.getElem?_cons_zero,List.getElem?_cons_succ,aj,Nat.reduceAdd,ak,ae,an,au,ap,aq,cond_true,cond_false,dy W]
   refine Cx.cnd (fun e1 => ?_) (fun _ => Cx.cnd (fun e1 => ?_) (fun _ => Cx.cnd (fun e1 => ?_) (fun _ => Cx.fl)))
   ·refine Cx.cnd (fun _ => Cx.cnd (fun _ => Cx.leaf fun e2 => .inl ⟨pV e1,?_⟩) (fun _ => Cx.fl)) (fun _ => Cx.fl)
    have:=pV e2
    rw [dl] at this
    exact List.eq_nil_of_length_eq_zero (by omega)
   ·refine Cx.cnd (fun _ => Cx.cnd (fun e2 => ?_) (fun _ => Cx.fl)) (fun _ => Cx.fl)
    have e2:=pV e2
    rw [dl] at e2
    simp only [k1,aq,q1,ae,aH,aI,aE,Nat.beq_refl,cond_true,dy W3]
    refine Cx.cnd (fun e3 => ?_) (fun _ => Cx.fl)
    obtain ⟨c0,c1⟩:=q2 e3 cd (List.mem_singleton.2 rfl)
    obtain ⟨y,hy⟩ : ∃ y,WL[cd.toNat]? = some y:=⟨_,List.getElem?_eq_getElem (by omega)⟩
    obtain ⟨β1,o1,p1,p2⟩:=RW.kq H0 V3.kq cd.toNat y hy
    have p2:=p2 0 _ rfl
    simp only [O33.rd,O43.rd,V3.c.rd,Nat.zero_add,Nat.add_zero,List.getElem?_cons_zero,List.getElem?_cons_succ,aj,Nat.reduceAdd,ak,ae,an,au,ap,aq,cond_true,cond_false,p1,aK c0 c1,p2,dy W3]
    exact Cx.leaf fun _ => .inr (.inl ⟨pV e1,List.eq_nil_of_length_eq_zero (by omega)⟩)
   ·refine Cx.cnd (fun _ => Cx.cnd (fun _ => ?_) (fun _ => Cx.fl)) (fun _ => Cx.fl)
    simp only [r1,ak,ae,an,au,ap,aq,cond_true,cond_false,aH,aI,aE,Nat.beq_refl,O3.rd,O4.rd,V2.c.rd,Nat.zero_add,Nat.add_zero,List.getElem?_cons_zero,List.getElem?_cons_succ,aj,Nat.reduceAdd,dy W]
    refine Cx.cnd (fun e3 => ?_) (fun _ => Cx.fl)
    obtain ⟨q,hq⟩:=G7 H0 RW hb n V2 O3 ra rn rc RL (RQ.wk V.wf W) hr (r2 e3) e en ec EL (RR.kq H0 V2.kq) he (by omega) (by omega)
    rw [show (Value.func (Fn.func 118) (List.toArray []) (List.toArray [(.pointer (some ⟨g.next,0,none⟩))])) = (.func (.func 118) #[] #[.pointer (some ⟨g.next,0,none⟩)]) from rfl,hq]
    simp only [ak,ae,an,au,ap,aq,cond_true,cond_false,dy W]
    exact Cx.leaf fun _ => .inr (.inr ⟨pV e1,r2 e3⟩)
  | succ j ih =>
   intro i m0 g2 hj hi W O3 O4 hx
   obtain ⟨m0,rfl⟩ : ∃ q,m0 = q + 1:=⟨m0 - 1,by omega⟩
   obtain ⟨x,hx2⟩ : ∃ x,TL[i]? = some x:=⟨_,List.getElem?_eq_getElem (by omega)⟩
   obtain ⟨aa,ac,A,RX⟩:=RT' i x hx2
   obtain ⟨β1,o1,p1,p2⟩:=A.wk V.wf W
   have p3:=p2 1 _ rfl
   have p2:=p2 0 _ rfl
   obtain ⟨g3,k1,F1,O1,l1,n1⟩:=cS W.wf [.int .i64 0,.slice none 0 0] 0
   obtain ⟨g4,k2,F2,O2,l2,n2⟩:=ir (o:=0) (vs:=[.int .i64 x.block,.slice aa x.args.length ac]) F1.wf O1 (by rw [l1,W.low]; exact W.nxt) (Nat.le_refl _)
   have O2 : cp g4 g2.next [.int .i64 x.block,.slice aa x.args.length ac]:=O2
   have F12:=F1.trans F2
   have hm : ∀ z ∈ [g2.next] ++ [g2.next],z = g2.next:=fun z hz => by simpa using hz
   have W4 : Wk g g4:=W.fr F12 (l2.trans l1) fun z hz => by rw [hm z hz]; omega
   have O34:=O3.fr F12 (fun hz => by have:=hm _ hz; omega)
   have O44:=O4.fr F12 (fun hz => by have:=hm _ hz; omega)
   have V4:=V.wk W4
   obtain ⟨r,hr⟩:=H4 H0 RW hb n (by omega) V4 RK hf x.block (RX.wk V.wf W4) (uc:=ac) rfl (hta x (List.mem_of_getElem? hx2)) bi
   have hh:=ih (i + 1) m0 g4 (by omega) (by omega) W4 O34 O44 (by omega)
   refine Cx.imp tR ?_
   have eb:=aK (i:=(i : Int)) (n:=tn) (by omega) (by omega)
   rw [p1] at hh ⊢
   simp only [du (show (i : Int) < tn by omega),ak,ae,an,au,ap,aq,cond_true,cond_false,eb,Int.toNat_natCast,aj,p2,p3,k1,k2,O34.rd,O2.rd,Nat.zero_add,Nat.add_zero,List.getElem?_cons_zero,List.getElem?_cons_succ,aj,Nat.reduceAdd,hr,dy W4,dv (show i < 9223372036854775807 by omega)]
   exact Cx.cnd (fun _ => Cx.fl) (fun _ => hh)
 have hh:=lp tn 0 n g1 (by omega) (by rw [Nat.zero_add]) W0 O30 O40 (by omega)
 refine Cx.imp Gk ?_
 rw [hl1]
 simp only [aq,hl2,O40.rd,Nat.zero_add,Nat.add_zero,List.getElem?_cons_zero,List.getElem?_cons_succ,aj,Nat.reduceAdd,ak,ae,an,au,ap,aq,cond_true,cond_false,dl]
 exact hh
end
def Fq (g g' : AH) (D E : Nat) : Prop:=∀ β,β < g.next → β ≠ D → β ≠ E → g'.blks.get β = g.blks.get β ∧ g'.grps.get β = g.grps.get β
theorem Fq.refl (g : AH) (D E : Nat) : Fq g g D E:=fun _ _ _ _ => ⟨rfl,rfl⟩
theorem Fq.trans {g g1 g2 : AH} {D E : Nat} (A : Fq g g1 D E) (B : Fq g1 g2 D E) (h : g.next ≤ g1.next) : Fq g g2 D E:=fun β h1 h2 h3 =>
 ⟨(B β (by omega) h2 h3).1.trans (A β h1 h2 h3).1,(B β (by omega) h2 h3).2.trans (A β h1 h2 h3).2⟩
theorem Fq.ch {g g' : AH} {D E : Nat} {L : List Nat} (F : Ch g g' L) (h : ∀ x ∈ L,g.next ≤ x ∨ x = D ∨ x = E) : Fq g g' D E:=fun β h1 h2 h3 => F.same β fun hx => by
 rcases h β hx with q | q | q <;> omega
structure ux (bn : Nat) (B : ba) : Prop where
 t : JL bn B.kind B.rets
 i : ∀ x ∈ B.insts,ar x.op = x.args.length
 p : ∀ x ∈ B.params,0 ≤ x ∧ x < bn
section
variable {h0 : AH} {s : ByteArray} {b : Option Addr} {bn bc : Nat} {c : Option Addr} {cn cc : Nat} {d : Option Addr} {dn dc : Nat} {e : Option Addr} {en ec : Nat} {f : Option Addr} {fn fc : Nat} {C D E : Nat}
def Dx (h0 g : AH) (cc0 : List Value) (bn C D E : Nat) (Q : Prop) (o : Option (Go.Value × AH)) : Prop :=
 ∃ r g',o = some (.bool r,g') ∧ (r = true → Q) ∧ CS h0 g' cc0 bn C D E ∧ Lw g g' D E ∧ g.next ≤ g'.next ∧ Fq g g' D E
theorem Dx.cnd {h0 g : AH} {cc0 : List Value} {bn C D E : Nat} {Q : Prop} {c : Bool} {A B : Option (Go.Value × AH)} (h1 : c = true → Dx h0 g cc0 bn C D E Q A) (h2 : c = false → Dx h0 g cc0 bn C D E Q B) : Dx h0 g cc0 bn C D E Q (cond c A B):=by
 cases c with
 | true => exact h1 rfl
 | false => exact h2 rfl
theorem Dx.imp {h0 g : AH} {cc0 : List Value} {bn C D E : Nat} {Q : Prop} {A B : Option (Go.Value × AH)} (f : ∀ {r},A = some r → B = some r) (x : Dx h0 g cc0 bn C D E Q A) : Dx h0 g cc0 bn C D E Q B:=by
 obtain ⟨r,g',e,q⟩:=x
 exact ⟨r,g',f e,q⟩
structure FS (h0 g g2 : AH) (cc0 : List Value) (bn C D E : Nat) : Prop where
 v : CS h0 g2 cc0 bn C D E
 l : ∀ L,L ≤ g.next → L ≤ D → L ≤ E → L ≤ g2.low
 u : g2.low ≤ g.next
 n : g.next ≤ g2.next
 q : Fq g g2 D E
theorem FS.exit {g g2 : AH} {cc0 : List Value} {Q : Prop} (V : CS h0 g cc0 bn C D E) (F : FS h0 g g2 cc0 bn C D E) {r : Bool} (hq : r = true → Q) : Dx h0 g cc0 bn C D E Q (some (ai g g2 (.bool r))):=by
 obtain ⟨g',e1,e2,e3⟩:=KD F.l F.n r
 refine ⟨r,g',congrArg some e1,hq,?_,e3,?_,?_⟩
 ·rcases e2 with rfl | ⟨x,rfl⟩
  ·exact V
  ·exact F.v.low x
 ·rcases e2 with rfl | ⟨x,rfl⟩
  ·exact Nat.le_refl _
  ·exact F.n
 ·rcases e2 with rfl | ⟨x,rfl⟩
  ·exact Fq.refl _ _ _
  ·exact F.q
theorem FS.call {g g2 g3 : AH} {cc0 : List Value} (F : FS h0 g g2 cc0 bn C D E) (V : CS h0 g3 cc0 bn C D E) (l : Lw g2 g3 D E) (n : g2.next ≤ g3.next) (q : Fq g2 g3 D E) : FS h0 g g3 cc0 bn C D E :=
 ⟨V,fun L a b c => l.2 L (F.l L a b c) (Nat.le_trans a F.n) b c,Nat.le_trans l.1 F.u,Nat.le_trans F.n n,F.q.trans q F.n⟩
theorem FS.new {g g2 g3 : AH} {cc0 : List Value} {L : List Nat} (F : FS h0 g g2 cc0 bn C D E) (H : Ch g2 g3 L) (hL : ∀ x ∈ L,g2.next ≤ x) (hl : g3.low = g2.low) : FS h0 g g3 cc0 bn C D E:=by
 obtain ⟨l1,l2,l3⟩:=F.v.lts
 have hc:=F.v.cd
 have hk:=F.v.kq.nxt
 have hk : h0.next ≤ g2.next:=hk
 exact ⟨F.v.fr H fun x hx => by have:=hL x hx; omega,fun L a b c => by rw [hl]; exact F.l L a b c,by rw [hl]; exact F.u,Nat.le_trans F.n H.nxt,F.q.trans (Fq.ch H fun x hx => .inl (hL x hx)) F.n⟩
variable (H0 : WF h0) {WL : List Int} (RW : RI h0 b WL) (hb : bn = WL.length) {LB : List ba} {EL : List Int} (RK : RB h0 f LB) (hf : fn = LB.length) (RR : RI h0 e EL) (he : en = EL.length) (Rc : RA h0 c cn) (Rd : RS h0 d dn)
 include H0 RW hb RK hf RR he Rc Rd
theorem G8 (N : Nat) (hN : 500 ≤ N) {g : AH} (V : CS h0 g [.string s,.slice b bn bc,.slice c cn cc,.slice d dn dc,.slice e en ec,.slice f fn fc,.slice (some ⟨D,0,none⟩) bn bn,.slice (some ⟨E,0,none⟩) bn bn] bn C D E) (B : ba) (hB : B.params.length < 100 ∧ B.insts.length < 100 ∧ B.to.length < 100 ∧ B.rets.length < 100 ∧ (∀ x ∈ B.to,x.args.length < 100) ∧ ∀ x ∈ B.insts,x.args.length < 100)
  {pa pc ia ic ta tc ra rc} (RP : RI h0 pa B.params) (RN0 : RN h0 ia B.insts) (RE0 : RE h0 ta B.to) (RR0 : RI h0 ra B.rets) (bi : Int) :
  Dx h0 g [.string s,.slice b bn bc,.slice c cn cc,.slice d dn dc,.slice e en ec,.slice f fn fc,.slice (some ⟨D,0,none⟩) bn bn,.slice (some ⟨E,0,none⟩) bn bn] bn C D E (ux bn B) (az Tryz.prog N 55 [.pointer (some ⟨C,0,none⟩),.agg #[.slice pa B.params.length pc,.slice ia B.insts.length ic,.int .i64 B.kind,.int .i64 B.cond,.slice ta B.to.length tc,.slice ra B.rets.length rc,.int .i64 B.pipe,.int .i64 B.unr,.int .i64 B.line],.int .i64 bi] g):=by
 obtain ⟨n,rfl⟩ : ∃ n,N = n + 1:=⟨N - 1,by omega⟩
 obtain ⟨q1,q2,q3,q4,q5,q6⟩:=hB
 obtain ⟨c1,c2,c3,c4,c5,c6⟩:=V.cd
 have hlt:=V.lts
 have h2 : (∀ x ∈ B.params,0 ≤ x ∧ x < bn) → ∀ (j i m0 : Nat) (g2 : AH),j < m0 → i + j = B.insts.length → FS h0 g g2 [.string s,.slice b bn bc,.slice c cn cc,.slice d dn dc,.slice e en ec,.slice f fn fc,.slice (some ⟨D,0,none⟩) bn bn,.slice (some ⟨E,0,none⟩) bn bn] bn C D E → cp g2 g.next [.slice pa B.params.length pc,.slice ia B.insts.length ic,.int .i64 B.kind,.int .i64 B.cond,.slice ta B.to.length tc,.slice ra B.rets.length rc,.int .i64 B.pipe,.int .i64 B.unr,.int .i64 B.line] →
   (∀ x ∈ B.insts.take i,ar x.op = x.args.length) → Dx h0 g [.string s,.slice b bn bc,.slice c cn cc,.slice d dn dc,.slice e en ec,.slice f fn fc,.slice (some ⟨D,0,none⟩) bn bn,.slice (some ⟨E,0,none⟩) bn bn] bn C D E (ux bn B) (tK n m0 g ⟨C,0,none⟩ bi ⟨g.next,0,none⟩ ia B.insts.length ic B.insts.length i g2):=by
  intro hp j
  induction j with
  | zero =>
   intro i m0 g2 hj hi F OX ht
   obtain ⟨m0,rfl⟩ : ∃ q,m0 = q + 1:=⟨m0 - 1,by omega⟩
   obtain ⟨r,r1,r2⟩:=H5 H0 RW hb RK hf RR he n (by omega) F.v B.kind B.cond (RE0.kq H0 F.v.kq) rfl q3 q5 (RR0.kq H0 F.v.kq) rfl q4 bi (tc:=tc) (rc:=rc)
   have hx:=F.exit V (r:=r) (Q:=ux bn B) fun hr => ⟨r2 hr,fun x hx => ht x (by rw [show i = B.insts.length by omega,List.take_length]; exact hx),hp⟩
   refine Dx.imp tM ?_
   rw [dF (by omega)]
   simp only [OX.rd,Nat.zero_add,Nat.add_zero,List.getElem?_cons_zero,List.getElem?_cons_succ,aj,Nat.reduceAdd,ak,ae,an,au,ap,aq,cond_true,cond_false,r1]
   exact hx
  | succ j ih =>
   intro i m0 g2 hj hi F OX ht
   obtain ⟨m0,rfl⟩ : ∃ q,m0 = q + 1:=⟨m0 - 1,by omega⟩
   obtain ⟨x,hx⟩ : ∃ x,B.insts[i]? = some x:=⟨_,List.getElem?_eq_getElem (by omega)⟩
   have hxm:=q6 x (List.mem_of_getElem? hx)
   obtain ⟨aa,ac,A,RX⟩:=RN0 i x hx
   obtain ⟨β1,o1,p1,p2⟩:=A.kq H0 F.v.kq
   have e0:=p2 0 _ rfl
   have e1:=p2 1 _ rfl
   have e2:=p2 2 _ rfl
   have e3:=p2 3 _ rfl
   have e4:=p2 4 _ rfl
   have hXl:=OX.lt F.v.wf
   obtain ⟨g3,k1,F1,O1,l1,n1⟩:=cS F.v.wf [.int .i64 0,.int .i64 0,.slice none 0 0,.int .u64 0,.int .i64 0] 0
   obtain ⟨g4,k2,F2,O2,l2,n2⟩:=ir (o:=0) (vs:=[.int .i64 x.op,.int .i64 x.dest,.slice aa x.args.length ac,.int .u64 x.num,.int .i64 x.mem]) F1.wf O1 (by rw [l1]; have:=F.u; have:=F.n; omega) (Nat.le_refl _)
   have O2 : cp g4 g2.next [.int .i64 x.op,.int .i64 x.dest,.slice aa x.args.length ac,.int .u64 x.num,.int .i64 x.mem]:=O2
   have F12:=F1.trans F2
   have hm : ∀ z ∈ [g2.next] ++ [g2.next],z = g2.next:=fun z hz => by simpa using hz
   have F4 : FS h0 g g4 [.string s,.slice b bn bc,.slice c cn cc,.slice d dn dc,.slice e en ec,.slice f fn fc,.slice (some ⟨D,0,none⟩) bn bn,.slice (some ⟨E,0,none⟩) bn bn] bn C D E:=F.new F12 (fun z hz => Nat.le_of_eq (hm z hz).symm) (l2.trans l1)
   have OX4:=OX.fr F12 (fun hz => by have:=hm _ hz; omega)
   have V4:=F4.v
   obtain ⟨r,r1,r2⟩:=xJ n (by omega) (V4.low g4.next) aa x.args.length ac x.args (RX.kq H0 (V4.low g4.next).kq) rfl (by omega) bi
   have hw : ar x.op = x.args.length → r = true → Bx (setLow g4 g4.next) (az Tryz.prog n 88 [.pointer (some ⟨C,0,none⟩),.agg #[.int .i64 x.op,.int .i64 x.dest,.slice aa x.args.length ac,.int .u64 x.num,.int .i64 x.mem]] (setLow g4 g4.next)):=fun ha hr => by
    have:=EK x.op
    exact D1 H0 Rc Rd n (by omega) (V4.low g4.next) RW hb (RX.kq H0 (V4.low g4.next).kq) rfl (by omega) (r2 hr)
   obtain ⟨dr,g5,d1,d2,d3,d4,d5,d6⟩:=xK n (by omega) V4 x.dest bi
   have F5 : FS h0 g g5 [.string s,.slice b bn bc,.slice c cn cc,.slice d dn dc,.slice e en ec,.slice f fn fc,.slice (some ⟨D,0,none⟩) bn bn,.slice (some ⟨E,0,none⟩) bn bn] bn C D E:=F4.call d3 d4 (by omega) (Fq.ch d6 fun z hz => by simp only [List.mem_cons,List.not_mem_nil,or_false] at hz; exact .inr hz)
   have OX5:=OX4.fr d6 (by simp only [List.mem_cons,List.not_mem_nil,or_false]; omega)
   have ht' : ar x.op = x.args.length → ∀ y ∈ B.insts.take (i + 1),ar y.op = y.args.length:=fun ha y hy => by
    rw [List.take_add_one,hx] at hy
    rcases List.mem_append.1 hy with hy | hy
    ·exact ht y hy
    ·rw [List.mem_singleton.1 hy]
     exact ha
   have nx4:=fun ha => ih (i + 1) m0 g4 (by omega) (by omega) F4 OX4 (ht' ha)
   have nx5:=fun ha => ih (i + 1) m0 g5 (by omega) (by omega) F5 OX5 (ht' ha)
   have no4:=F4.exit V (r:=false) (Q:=ux bn B) fun h => by cases h
   have no5:=F5.exit V (r:=false) (Q:=ux bn B) fun h => by cases h
   refine Dx.imp tM ?_
   have eb:=aK (i:=(i : Int)) (n:=B.insts.length) (by omega) (by omega)
   rw [p1] at nx4 nx5 ⊢
   simp only [du (show (i : Int) < B.insts.length by omega),ak,ae,an,au,ap,aq,cond_true,cond_false,eb,Int.toNat_natCast,aj,e0,e1,e2,e3,e4,k1,k2,O2.rd,Nat.zero_add,Nat.add_zero,List.getElem?_cons_zero,List.getElem?_cons_succ,aj,Nat.reduceAdd,GV n (by omega),r1,aH,aD,aI,aE,Nat.beq_refl,dl,d1,rh n (by omega),dv (show i < 9223372036854775807 by omega)]
   refine Dx.cnd (fun _ => no4) (fun e5 => ?_)
   have ha:=pW e5
   refine Dx.cnd (fun _ => no4) (fun e6 => ?_)
   obtain ⟨w,hw⟩:=hw ha (by simpa using e6)
   simp only [hw,ak,ae,an,au,ap,aq,cond_true,cond_false,aH,aD,aI,aE,Nat.beq_refl,O2.rd,Nat.zero_add,Nat.add_zero,List.getElem?_cons_zero,List.getElem?_cons_succ,aj,Nat.reduceAdd,rh n (by omega),d1]
   refine Dx.cnd (fun _ => no4) (fun _ => Dx.cnd (fun _ => Dx.cnd (fun _ => no5) (fun _ => nx5 ha)) (fun _ => nx4 ha))
 have h1 : ∀ (j i m0 : Nat) (g2 : AH),j < m0 → i + j = B.params.length → FS h0 g g2 [.string s,.slice b bn bc,.slice c cn cc,.slice d dn dc,.slice e en ec,.slice f fn fc,.slice (some ⟨D,0,none⟩) bn bn,.slice (some ⟨E,0,none⟩) bn bn] bn C D E → cp g2 g.next [.slice pa B.params.length pc,.slice ia B.insts.length ic,.int .i64 B.kind,.int .i64 B.cond,.slice ta B.to.length tc,.slice ra B.rets.length rc,.int .i64 B.pipe,.int .i64 B.unr,.int .i64 B.line] →
   (∀ x ∈ B.params.take i,0 ≤ x ∧ x < bn) → Dx h0 g [.string s,.slice b bn bc,.slice c cn cc,.slice d dn dc,.slice e en ec,.slice f fn fc,.slice (some ⟨D,0,none⟩) bn bn,.slice (some ⟨E,0,none⟩) bn bn] bn C D E (ux bn B) (xk n m0 g ⟨C,0,none⟩ bi ⟨g.next,0,none⟩ pa B.params.length pc B.params.length i g2):=by
  intro j
  induction j with
  | zero =>
   intro i m0 g2 hj hi F OX ht
   obtain ⟨m0,rfl⟩ : ∃ q,m0 = q + 1:=⟨m0 - 1,by omega⟩
   have hh:=h2 (fun x hx => ht x (by rw [show i = B.params.length by omega,List.take_length]; exact hx)) B.insts.length 0 n g2 (by omega) (by rw [Nat.zero_add]) F OX (fun x hx => by cases hx)
   refine Dx.imp tL ?_
   rw [dF (by omega)]
   simp only [OX.rd,Nat.zero_add,Nat.add_zero,List.getElem?_cons_zero,List.getElem?_cons_succ,aj,Nat.reduceAdd,ak,ae,an,au,ap,aq,cond_true,cond_false,dl]
   exact hh
  | succ j ih =>
   intro i m0 g2 hj hi F OX ht
   obtain ⟨m0,rfl⟩ : ∃ q,m0 = q + 1:=⟨m0 - 1,by omega⟩
   obtain ⟨x,hx⟩ : ∃ x,B.params[i]? = some x:=⟨_,List.getElem?_eq_getElem (by omega)⟩
   obtain ⟨β1,o1,p1,p2⟩:=RP.kq H0 F.v.kq i x hx
   have p2:=p2 0 _ rfl
   obtain ⟨dr,g5,d1,d2,d3,d4,d5,d6⟩:=xK n (by omega) F.v x bi
   have F5 : FS h0 g g5 [.string s,.slice b bn bc,.slice c cn cc,.slice d dn dc,.slice e en ec,.slice f fn fc,.slice (some ⟨D,0,none⟩) bn bn,.slice (some ⟨E,0,none⟩) bn bn] bn C D E:=F.call d3 d4 (by omega) (Fq.ch d6 fun z hz => by simp only [List.mem_cons,List.not_mem_nil,or_false] at hz; exact .inr hz)
   have OX5:=OX.fr d6 (by simp only [List.mem_cons,List.not_mem_nil,or_false]; omega)
   have no5:=F5.exit V (r:=false) (Q:=ux bn B) fun h => by cases h
   have nx5:=fun (hd : dr = true) => ih (i + 1) m0 g5 (by omega) (by omega) F5 OX5 fun y hy => by
    rw [List.take_add_one,hx] at hy
    rcases List.mem_append.1 hy with hy | hy
    ·exact ht y hy
    ·rw [List.mem_singleton.1 hy]
     exact d2 hd
   refine Dx.imp tL ?_
   have eb:=aK (i:=(i : Int)) (n:=B.params.length) (by omega) (by omega)
   rw [p1] at nx5 ⊢
   simp only [du (show (i : Int) < B.params.length by omega),ak,ae,an,au,ap,aq,cond_true,cond_false,eb,Int.toNat_natCast,aj,p2,d1,dv (show i < 9223372036854775807 by omega)]
   exact Dx.cnd (fun _ => no5) (fun e1 => nx5 (by simpa using e1))
 have W : Wk g (loc g [[.slice pa B.params.length pc,.slice ia B.insts.length ic,.int .i64 B.kind,.int .i64 B.cond,.slice ta B.to.length tc,.slice ra B.rets.length rc,.int .i64 B.pipe,.int .i64 B.unr,.int .i64 B.line]]):=dZ V.wf _
 have OX:=cP V.wf [[.slice pa B.params.length pc,.slice ia B.insts.length ic,.int .i64 B.kind,.int .i64 B.cond,.slice ta B.to.length tc,.slice ra B.rets.length rc,.int .i64 B.pipe,.int .i64 B.unr,.int .i64 B.line]] 0 _ rfl
 have hl1 : aF (setLow g g.next) [.slice pa B.params.length pc,.slice ia B.insts.length ic,.int .i64 B.kind,.int .i64 B.cond,.slice ta B.to.length tc,.slice ra B.rets.length rc,.int .i64 B.pipe,.int .i64 B.unr,.int .i64 B.line] 0 = some (g.next,loc g [[.slice pa B.params.length pc,.slice ia B.insts.length ic,.int .i64 B.kind,.int .i64 B.cond,.slice ta B.to.length tc,.slice ra B.rets.length rc,.int .i64 B.pipe,.int .i64 B.unr,.int .i64 B.line]]):=by
  simp only [bu g,aS,List.length_nil,Nat.add_zero,List.nil_append]
 generalize hg : loc g [[.slice pa B.params.length pc,.slice ia B.insts.length ic,.int .i64 B.kind,.int .i64 B.cond,.slice ta B.to.length tc,.slice ra B.rets.length rc,.int .i64 B.pipe,.int .i64 B.unr,.int .i64 B.line]] = g1 at *
 have OX : cp g1 g.next [.slice pa B.params.length pc,.slice ia B.insts.length ic,.int .i64 B.kind,.int .i64 B.cond,.slice ta B.to.length tc,.slice ra B.rets.length rc,.int .i64 B.pipe,.int .i64 B.unr,.int .i64 B.line]:=OX
 have F1 : FS h0 g g1 [.string s,.slice b bn bc,.slice c cn cc,.slice d dn dc,.slice e en ec,.slice f fn fc,.slice (some ⟨D,0,none⟩) bn bn,.slice (some ⟨E,0,none⟩) bn bn] bn C D E:=⟨V.wk W,fun L a _ _ => by rw [W.low]; exact a,Nat.le_of_eq W.low,W.nxt,fun β hb _ _ => W.old β hb⟩
 have hh:=h1 B.params.length 0 n g1 (by omega) (by rw [Nat.zero_add]) F1 OX (fun x hx => by cases hx)
 have no1:=F1.exit V (r:=false) (Q:=ux bn B) fun h => by cases h
 have h00 : Dx h0 g [.string s,.slice b bn bc,.slice c cn cc,.slice d dn dc,.slice e en ec,.slice f fn fc,.slice (some ⟨D,0,none⟩) bn bn,.slice (some ⟨E,0,none⟩) bn bn] bn C D E (ux bn B) (Bc n g ⟨C,0,none⟩ bi ⟨g.next,0,none⟩ g1):=by
  refine Dx.imp Bd ?_
  simp only [OX.rd,Nat.zero_add,Nat.add_zero,List.getElem?_cons_zero,List.getElem?_cons_succ,aj,Nat.reduceAdd,ak,ae,an,au,ap,aq,cond_true,cond_false,dl]
  exact hh
 refine Dx.imp Gb ?_
 rw [hl1]
 simp only [OX.rd,Nat.zero_add,Nat.add_zero,List.getElem?_cons_zero,List.getElem?_cons_succ,aj,Nat.reduceAdd,ak,ae,an,au,ap,aq,cond_true,cond_false]
 repeat' first | exact no1 | exact h00 | (refine Dx.cnd (fun _ => ?_) (fun _ => ?_))
end
theorem Ce (N : Nat) (hN : 100 ≤ N) {h : AH} (H : WF h) (s : ByteArray) : Bx h (az Tryz.prog N 50 [.string s] h):=by
 obtain ⟨n,rfl⟩ : ∃ n,N = n + 1:=⟨N - 1,by omega⟩
 have W:=Wk.start H
 have H0 : WF (setLow h h.next):=bO H _
 obtain ⟨g,k1,F1,O1,l1,n1⟩:=cS H0 (cV s) 1
 have W1:=W.fr F1 l1 (fun y hy => Nat.le_of_eq (List.mem_singleton.1 hy).symm)
 have k1 : (AH.new (setLow h h.next) (cV s) 1).2 = g:=by
  rw [eM] at k1
  injection k1 with k1
  exact congrArg Prod.snd k1
 have O1 : cp g h.next (cV s):=O1
 have hlen : (cV s).length = s.size:=by
  unfold cV
  rw [List.length_map]
  rfl
 have lp : ∀ (j i m0 : Nat),j < m0 → i + j = s.size → s.size ≤ 64 → Bx h (tG n m0 h (some ⟨h.next,0,none⟩) s.size 9223372036854775808 s.size i g):=by
  intro j
  induction j with
  | zero =>
   intro i m0 hj hi h6
   obtain ⟨m0,rfl⟩ : ∃ q,m0 = q + 1:=⟨m0 - 1,by omega⟩
   refine Bx.imp tH ?_
   rw [dF (by omega)]
   simp only [ak,ae,an,au,ap,aq,cond_true,cond_false,dy W1]
   exact Bx.leaf
  | succ j ih =>
   intro i m0 hj hi h6
   obtain ⟨m0,rfl⟩ : ∃ q,m0 = q + 1:=⟨m0 - 1,by omega⟩
   obtain ⟨b,hb⟩ : ∃ b,s.data.toList[i]? = some b:=⟨_,List.getElem?_eq_getElem (by have : s.data.toList.length = s.size:=rfl; omega)⟩
   have hc : (cV s)[i]? = some (.int .u8 b.toNat):=by
    unfold cV
    rw [List.getElem?_map,hb]
    rfl
   have eb:=aK (i:=(i : Int)) (n:=s.size) (by omega) (by omega)
   have nx:=ih (i + 1) m0 (by omega) (by omega) h6
   have k2 : ∀ (c : Int) (l : Bool),Bx h (lV n m0 h i c l (some ⟨h.next,0,none⟩) s.size 9223372036854775808 s.size i g):=fun c l => by
    refine Bx.imp Bb ?_
    simp only [dy W1,dv (show i < 9223372036854775807 by omega)]
    refine Bx.cnd (fun _ => Bx.cnd (fun _ => Bx.leaf) (fun _ => Bx.cnd (fun _ => Bx.leaf) (fun _ => Bx.cnd (fun _ => Bx.leaf) (fun _ => nx)))) (fun _ => nx)
   refine Bx.imp tH ?_
   rw [du (by omega)]
   simp only [ak,ae,an,au,ap,aq,cond_true,cond_false,eb,Int.toNat_natCast,Nat.mul_one,aj,O1.rd,Nat.zero_add,Nat.add_zero,hc]
   repeat' first | exact k2 _ _ | (refine Bx.cnd (fun _ => ?_) (fun _ => ?_))
 refine Bx.imp FY ?_
 simp only [dy W,dl]
 refine Bx.cnd (fun _ => Bx.leaf) (fun _ => Bx.cnd (fun _ => Bx.leaf) (fun e => ?_))
 have h6:=ef e
 refine Bx.imp Ba ?_
 rw [k1]
 simp only [dl,aD]
 exact lp s.size 0 n (by omega) (by rw [Nat.zero_add]) (by omega)
def SB : List Go.Value → Prop
 | [] => True
 | .string _ :: .bool _ :: r => SB r
 | _ => False
theorem SB.app : ∀ {cs : List Go.Value},SB cs → ∀ (s : ByteArray) (b : Bool),SB (cs ++ [.string s,.bool b])
 | [],_,_,_ => trivial
 | .string _ :: .bool _ :: r,h,s,b => SB.app (cs:=r) h s b
theorem SB.put : ∀ {cs : List Go.Value},SB cs → ∀ (i : Nat) (b : Bool),2 * i + 1 < cs.length → SB (putAt cs (2 * i + 1) [.bool b])
 | .string _ :: .bool _ :: r,h,0,b,_ => by
  show SB (.string _ :: .bool b :: List.drop 0 r)
  exact h
 | .string _ :: .bool _ :: r,h,i + 1,b,hl => by
  have:=SB.put (cs:=r) h i b (by simp only [List.length_cons] at hl; omega)
  show SB (putAt (.string _ :: .bool _ :: r) (2 * (i + 1) + 1) [.bool b])
  rw [show 2 * (i + 1) + 1 = (2 * i + 1) + 1 + 1 by omega]
  exact this
theorem SB.find {P : Program} {kt : TypeId} (hk : P.underlying kt = some .string) (s : ByteArray) : ∀ {cs : List Go.Value},SB cs → ∀ j,cG P kt (.string s) cs j = some none ∨ ∃ i b,cG P kt (.string s) cs j = some (some (j + i,.bool b)) ∧ 2 * i + 1 < cs.length
 | [],_,j => .inl rfl
 | .string k :: .bool v :: r,h,j => by
  have e : lB P kt (.string s) (.string k) = some (s.data.toList == k.data.toList):=by
   unfold lB
   rw [hk]
   rfl
  have e2 : cG P kt (.string s) (.string k :: .bool v :: r) j = cond (s.data.toList == k.data.toList) (some (some (j,.bool v))) (cG P kt (.string s) r (j + 1)):=by
   show (lB P kt (.string s) (.string k)).bind _ = _
   rw [e]
   rfl
  rw [e2]
  cases s.data.toList == k.data.toList with
  | true => exact .inr ⟨0,v,rfl,by simp⟩
  | false =>
   rcases SB.find hk s (cs:=r) h (j + 1) with q | ⟨i,b,q1,q2⟩
   ·exact .inl q
   ·exact .inr ⟨i + 1,b,by rw [cond_false,q1,show j + 1 + i = j + (i + 1) by omega],by simp only [List.length_cons]; omega⟩
def Mp (g : AH) (β : Nat) (cs : List Go.Value) : Prop:=(∃ z,g.blks.get β = some ⟨cs,z,β,false⟩) ∧ g.grps.get β = some []
theorem Mp.mp {g : AH} {β : Nat} {cs : List Go.Value} (M : Mp g β cs) : ∃ z,g.mp β = some ⟨cs,z,β,false⟩:=by
 obtain ⟨⟨z,h1⟩,h2⟩:=M
 refine ⟨z,?_⟩
 unfold AH.mp
 rw [h1]
 show (match g.grps.get β with | some [] => some _ | _ => none) = _
 rw [h2]
theorem Mp.fr {g g' : AH} {β : Nat} {cs : List Go.Value} {l : List Nat} (M : Mp g β cs) (F : Ch g g' l) (h : β ∉ l) : Mp g' β cs :=
 ⟨M.1.imp fun _ q => (F.same β h).1.trans q,(F.same β h).2.trans M.2⟩
theorem H7 : Tryz.prog.underlying 151 = some (.map 9 4):=by kernel_rfl
theorem u9 : Tryz.prog.underlying 9 = some .string:=by kernel_rfl
theorem z4 : lC Tryz.prog 4 = some (.bool false):=by kernel_rfl
theorem H8 (s : ByteArray) : dL Tryz.prog 9 (.string s) = true:=by
 unfold dL
 rw [u9]
theorem D2 {g : AH} {β : Nat} {cs : List Go.Value} (M : Mp g β cs) (S : SB cs) (s : ByteArray) : ∃ b,sG Tryz.prog 151 (.map (some β)) (.string s) false g = some (.bool b):=by
 obtain ⟨z,hm⟩:=M.mp
 unfold sG
 rw [H7]
 simp only [Option.bind_some,H8,cond_true,z4]
 have e : gA g (.map (some β)) = some cs:=by
  show (g.mp β).map _ = _
  rw [hm]
  rfl
 rw [e]
 rcases S.find u9 s 0 with q | ⟨i,b,q,_⟩
 ·exact ⟨false,by rw [Option.bind_some,q]; rfl⟩
 ·exact ⟨b,by rw [Option.bind_some,q]; rfl⟩
theorem G9 {g : AH} (H : WF g) {β : Nat} {cs : List Go.Value} (M : Mp g β cs) (S : SB cs) (s : ByteArray) (v : Bool) : ∃ g' cs',Aa Tryz.prog 151 (.map (some β)) (.string s) (.bool v) g = some g' ∧ Ch g g' [β] ∧ Mp g' β cs' ∧ SB cs' ∧ g'.next = g.next ∧ g'.low = cond (Nat.blt β g.low) β g.low:=by
 obtain ⟨z,hm⟩:=M.mp
 obtain ⟨⟨z0,hb⟩,hg⟩:=M
 have set : ∀ ds : List Go.Value,Ch g (g.setMap β ⟨cs,z,β,false⟩ ds) [β] ∧ Mp (g.setMap β ⟨cs,z,β,false⟩ ds) β ds:=fun ds =>
  ⟨⟨fun γ hγ => ⟨Tr.set_ne (DH hγ),rfl⟩,Nat.le_refl _,(bH.setMap H hm ds).wf⟩,⟨z,Tr.set_eq⟩,hg⟩
 unfold Aa
 rw [H7]
 simp only [Option.bind_some,hm,H8,Bool.true_and]
 rcases S.find u9 s 0 with q | ⟨i,b,q,hi⟩
 ·refine ⟨g.setMap β ⟨cs,z,β,false⟩ (cs ++ [.string s,.bool v]),_,?_,(set _).1,(set _).2,S.app s v,rfl,rfl⟩
  rw [show fy (.bool v) = true from rfl,cond_true,q]
  rfl
 ·refine ⟨g.setMap β ⟨cs,z,β,false⟩ (putAt cs (2 * i + 1) [.bool v]),_,?_,(set _).1,(set _).2,S.put i v hi,rfl,rfl⟩
  rw [show fy (.bool v) = true from rfl,cond_true,q,Nat.zero_add]
  rfl
theorem JM (N : Nat) (hN : 110 ≤ N) {g : AH} (H : WF g) {β c : Nat} {cs : List Go.Value} (M : Mp g β cs) (S : SB cs) (O : cp g c [.map (some β)]) (hl : g.low ≤ β) (hn : β < g.next) (s : ByteArray) :
  ∃ r g' cs',az Tryz.prog N 82 [.string s,.pointer (some ⟨c,0,none⟩)] g = some (.bool r,g') ∧ Ch g g' [β] ∧ Mp g' β cs' ∧ SB cs' ∧ g'.low = g.low ∧ g'.next = g.next:=by
 obtain ⟨n,rfl⟩ : ∃ n,N = n + 1:=⟨N - 1,by omega⟩
 have H0 : WF (setLow g g.next):=bO H _
 have O0 : cp (setLow g g.next) c [.map (some β)]:=O
 obtain ⟨b,hb⟩:=D2 (g:=setLow g g.next) M S s
 obtain ⟨g1,cs',k1,F1,M1,S1,n1,l1⟩:=G9 H0 (g:=setLow g g.next) M S s true
 obtain ⟨r,hr⟩:=Ce n (by omega) F1.wf s
 have l1 : g1.low = cond (Nat.blt β g.next) β g.next:=l1
 rw [show Nat.blt β g.next = true from Nat.ble_eq_true_of_le hn] at l1
 have l1 : g1.low = β:=l1
 have ex : ∀ b : Bool,ai g g1 (.bool b) = (.bool b,setLow g1 g.low):=fun b => by
  unfold ai
  have e1 : Nat.beq g1.low g.next = false:=by
   cases e : Nat.beq g1.low g.next with
   | false => rfl
   | true =>
    have:=Nat.eq_of_beq_eq_true e
    omega
  have e2 : Nat.blt g1.low g.next = true:=Nat.ble_eq_true_of_le (by omega)
  have e3 : cond (Nat.blt g1.low g.low) g1.low g.low = g.low:=by
   have : Nat.blt g1.low g.low = false:=by
    cases e : Nat.blt g1.low g.low with
    | false => rfl
    | true =>
     have : g1.low + 1 ≤ g.low:=Nat.le_of_ble_eq_true e
     omega
   rw [this]
   rfl
  rw [e1,e2]
  show (Go.Value.bool b,setLow g1 (cond (Nat.blt g1.low g.low) g1.low g.low)) = _
  rw [e3]
 have F2 : Ch g (setLow g1 g.low) [β]:=⟨F1.same,F1.nxt,bO F1.wf _⟩
 have key : ∃ r,Gw aF n s ⟨c,0,none⟩ g = some (.bool r,setLow g1 g.low):=by
  rw [LA]
  simp only [O0.rd,Nat.zero_add,Nat.add_zero,List.getElem?_cons_zero,List.getElem?_cons_succ,aj,Nat.reduceAdd,ak,ae,an,au,ap,aq,cond_true,cond_false,hb,sE,k1,hr,ex]
  cases b with
  | true => exact ⟨false,rfl⟩
  | false => exact ⟨r,rfl⟩
 obtain ⟨r,hr⟩:=key
 exact ⟨r,_,cs',Gx hr,F2,M1,S1,rfl,n1⟩
theorem Cf (N : Nat) (hN : 1 ≤ N) {h : AH} (H : WF h) (a : ByteArray) (b c d e : Int) : Bx h (az Tryz.prog N 83 [.agg #[.string a,.int .i64 b,.int .i64 c,.int .i64 d,.int .i64 e]] h):=by
 obtain ⟨n,rfl⟩ : ∃ n,N = n + 1:=⟨N - 1,by omega⟩
 have W : Wk h (loc h [[.string a,.int .i64 b,.int .i64 c,.int .i64 d,.int .i64 e]]):=dZ H _
 have O:=cP H [[.string a,.int .i64 b,.int .i64 c,.int .i64 d,.int .i64 e]] 0 _ rfl
 have hl1 : aF (setLow h h.next) [.string a,.int .i64 b,.int .i64 c,.int .i64 d,.int .i64 e] 0 = some (h.next,loc h [[.string a,.int .i64 b,.int .i64 c,.int .i64 d,.int .i64 e]]):=by
  simp only [bu h,aS,List.length_nil,Nat.add_zero,List.nil_append]
 generalize loc h [[.string a,.int .i64 b,.int .i64 c,.int .i64 d,.int .i64 e]] = g at *
 have O : cp g h.next [.string a,.int .i64 b,.int .i64 c,.int .i64 d,.int .i64 e]:=O
 have k : ∀ x y,Bx h (xl n h ⟨h.next,0,none⟩ x y g):=fun x y => by
  refine Bx.imp Be ?_
  simp only [O.rd,Nat.zero_add,Nat.add_zero,List.getElem?_cons_zero,List.getElem?_cons_succ,aj,Nat.reduceAdd,ak,ae,an,au,ap,aq,cond_true,cond_false,dy W]
  repeat' first | exact Bx.leaf | (refine Bx.cnd (fun _ => ?_) (fun _ => ?_))
 refine Bx.imp Gc ?_
 rw [hl1]
 simp only [O.rd,Nat.zero_add,Nat.add_zero,List.getElem?_cons_zero,List.getElem?_cons_succ,aj,Nat.reduceAdd,ak,ae,an,au,ap,aq,cond_true,cond_false,dy W]
 repeat' first | exact Bx.leaf | exact k _ _ | (refine Bx.cnd (fun _ => ?_) (fun _ => ?_))
theorem y8 {g : AH} (H : WF g) : Ch g (AH.newMap g) [g.next] ∧ Mp (AH.newMap g) g.next [] ∧ (AH.newMap g).low = g.low ∧ (AH.newMap g).next = g.next + 1 :=
 ⟨⟨fun γ hγ => ⟨Tr.set_ne (DH hγ),Tr.set_ne (DH hγ)⟩,Nat.le_succ _,(bH.newMap H).wf⟩,⟨⟨0,Tr.set_eq⟩,Tr.set_eq⟩,rfl,rfl⟩
section
variable (s : ByteArray) (b : Option Addr) (bn bc : Nat) (c : Option Addr) (cn cc : Nat) (d : Option Addr) (dn dc : Nat) (e : Option Addr) (en ec : Nat) (f : Option Addr) (fn fc : Nat)
structure MS (h g : AH) (cs0 : List Go.Value) (p β q : Nat) : Prop where
 w : Wk h g
 op : cp g p cs0
 m : ∃ cs,Mp g β cs ∧ SB cs
 oq : cp g q [.map (some β)]
 n : h.next ≤ β ∧ β < g.next ∧ p ≠ β ∧ q ≠ β
theorem MS.wf {h g : AH} {cs0 : List Go.Value} {p β q : Nat} (X : MS h g cs0 p β q) : WF g:=X.w.wf
theorem MS.fr {h g g' : AH} {cs0 : List Go.Value} {p β q : Nat} {l : List Nat} (X : MS h g cs0 p β q) (F : Ch g g' l) (hl : g'.low = g.low) (hh : ∀ x ∈ l,g.next ≤ x) : MS h g' cs0 p β q:=by
 have hp:=X.op.lt X.wf
 have hq:=X.oq.lt X.wf
 have hn:=X.w.nxt
 obtain ⟨n1,n2,n3,n4⟩:=X.n
 refine ⟨X.w.fr F hl fun x hx => by have:=hh x hx; omega,X.op.fr F fun hx => by have:=hh _ hx; omega,X.m.imp fun cs q => ⟨q.1.fr F fun hx => by have:=hh _ hx; omega,q.2⟩,X.oq.fr F fun hx => by have:=hh _ hx; omega,n1,Nat.lt_of_lt_of_le n2 F.nxt,n3,n4⟩
theorem MS.name {h g : AH} {cs0 : List Go.Value} {p β q : Nat} (X : MS h g cs0 p β q) (n : Nat) (hn : 110 ≤ n) (s : ByteArray) {x : Nat} {xcs : List Go.Value} (O : cp g x xcs) (hx : x ≠ β) :
  ∃ r g',az Tryz.prog n 82 [.string s,.pointer (some ⟨q,0,none⟩)] g = some (.bool r,g') ∧ MS h g' cs0 p β q ∧ cp g' x xcs ∧ g'.next = g.next:=by
 obtain ⟨n1,n2,n3,n4⟩:=X.n
 obtain ⟨cs,M,S⟩:=X.m
 obtain ⟨r,g',cs',k,F,M',S',l,nx⟩:=JM n hn X.wf M S X.oq (by rw [X.w.low]; exact n1) n2 s
 have hm : ∀ z ∈ [β],z = β:=fun z hz => List.mem_singleton.1 hz
 exact ⟨r,g',k,⟨X.w.fr F l (fun z hz => by rw [hm z hz]; exact n1),X.op.fr F (fun hz => n3 (hm _ hz)),⟨cs',M',S'⟩,X.oq.fr F (fun hz => n4 (hm _ hz)),n1,by omega,n3,n4⟩,O.fr F (fun hz => hx (hm _ hz)),nx⟩
end
section
variable {h : AH} {s : ByteArray} {b : Option Addr} {bn bc : Nat} {c : Option Addr} {cn cc : Nat} {d : Option Addr} {dn dc : Nat} {e : Option Addr} {en ec : Nat} {f : Option Addr} {fn fc : Nat}
variable (H : WF h) (Rc : RA h c cn) (Rd : RS h d dn)
 include H Rc Rd
theorem JN (N : Nat) (hN : 300 ≤ N) (hc : cn ≤ 100) (hd : dn ≤ 100) : Bx h (az Tryz.prog N 51 [.agg #[.string s,.slice b bn bc,.slice c cn cc,.slice d dn dc,.slice e en ec,.slice f fn fc]] h):=by
 obtain ⟨n,rfl⟩ : ∃ n,N = n + 1:=⟨N - 1,by omega⟩
 have H0 : WF (setLow h h.next):=bO H _
 have l1 : ∀ (j i m0 p β q : Nat) (g : AH),j < m0 → i + j = dn → MS h g [.string s,.slice b bn bc,.slice c cn cc,.slice d dn dc,.slice e en ec,.slice f fn fc] p β q → Bx h (xj n m0 h ⟨p,0,none⟩ ⟨q,0,none⟩ d dn dc dn i g):=by
  intro j
  induction j with
  | zero =>
   intro i m0 p β q g hj hi X
   obtain ⟨m0,rfl⟩ : ∃ q,m0 = q + 1:=⟨m0 - 1,by omega⟩
   refine Bx.imp tJ ?_
   rw [dF (by omega)]
   simp only [X.op.rd,Nat.zero_add,Nat.add_zero,List.getElem?_cons_zero,List.getElem?_cons_succ,aj,Nat.reduceAdd,ak,ae,an,au,ap,aq,cond_true,cond_false,dy X.w]
   repeat' first | exact Bx.leaf | (refine Bx.cnd (fun _ => ?_) (fun _ => ?_))
  | succ j ih =>
   intro i m0 p β q g hj hi X
   obtain ⟨m0,rfl⟩ : ∃ q,m0 = q + 1:=⟨m0 - 1,by omega⟩
   obtain ⟨nm,w,o,hsz,A⟩:=(Rd.kq H ((Kq.refl H).wk X.w)) i (by omega)
   obtain ⟨β1,o1,p1,p2⟩:=A
   have e0:=p2 0 _ rfl
   have e1:=vH (p2 1 _ rfl)
   have e2:=vH (p2 2 _ rfl)
   have d1:=p2 1 _ rfl
   have d2:=p2 2 _ rfl
   have eb:=aK (i:=(i : Int)) (n:=dn) (by omega) (by omega)
   obtain ⟨g1,k1,F1,O1,lo1,nx1⟩:=cS X.wf [.string (ByteArray.mk (List.toArray [])),.int .i64 0,.bool false] 0
   have X1:=X.fr F1 lo1 (fun z hz => Nat.le_of_eq (List.mem_singleton.1 hz).symm)
   obtain ⟨g2,k2,F2,O2,lo2,nx2⟩:=ir (o:=0) (vs:=[.string nm,.int .i64 w,.bool o]) X1.wf O1 (by rw [X1.w.low]; exact X.w.nxt) (by simp)
   have hm : ∀ z ∈ [g.next] ++ [g.next],z = g.next:=fun z hz => by simpa using hz
   have X2:=X.fr (F1.trans F2) (lo2.trans lo1) (fun z hz => Nat.le_of_eq (hm z hz).symm)
   obtain ⟨r,g3,k3,X3,O3,nx3⟩:=X2.name n (by omega) nm O2 (by have:=X.n.2.1; omega)
   have nxt:=ih (i + 1) m0 p β q g3 (by omega) (by omega) X3
   subst p1
   refine Bx.imp tJ ?_
   rw [du (by omega)]
   have O2 : cp g2 g.next [.string nm,.int .i64 w,.bool o]:=O2
   simp only [ak,ae,an,au,ap,aq,cond_true,cond_false,eb,Int.toNat_natCast,aj,Nat.zero_add,Nat.add_zero,List.getElem?_cons_zero,List.getElem?_cons_succ,aj,Nat.reduceAdd,e0,e1,e2,d1,d2,k1,k2,O2.rd,k3,O3.rd,Cc n (by omega),dy X3.w,dv (show i < 9223372036854775807 by omega)]
   refine Bx.cnd (fun _ => Bx.leaf) (fun _ => Bx.cnd (fun _ => Bx.leaf) (fun _ => nxt))
 have l0 : ∀ (j i m0 p β q : Nat) (g : AH),j < m0 → i + j = cn → MS h g [.string s,.slice b bn bc,.slice c cn cc,.slice d dn dc,.slice e en ec,.slice f fn fc] p β q → Bx h (xi n m0 h ⟨p,0,none⟩ ⟨q,0,none⟩ c cn cc cn i g):=by
  intro j
  induction j with
  | zero =>
   intro i m0 p β q g hj hi X
   obtain ⟨m0,rfl⟩ : ∃ q,m0 = q + 1:=⟨m0 - 1,by omega⟩
   have r:=l1 dn 0 n p β q g (by omega) (by rw [Nat.zero_add]) X
   refine Bx.imp tI ?_
   rw [dF (by omega)]
   simp only [X.op.rd,Nat.zero_add,Nat.add_zero,List.getElem?_cons_zero,List.getElem?_cons_succ,aj,Nat.reduceAdd,ak,ae,an,au,ap,aq,cond_true,cond_false,dl]
   exact r
  | succ j ih =>
   intro i m0 p β q g hj hi X
   obtain ⟨m0,rfl⟩ : ∃ q,m0 = q + 1:=⟨m0 - 1,by omega⟩
   obtain ⟨nm,w,l,k,f',hsz,A⟩:=(Rc.kq H ((Kq.refl H).wk X.w)) i (by omega)
   obtain ⟨β1,o1,p1,p2⟩:=A
   have e0:=p2 0 _ rfl
   have e1:=vH (p2 1 _ rfl)
   have e2:=vH (p2 2 _ rfl)
   have e3:=vH (p2 3 _ rfl)
   have e4:=vH (p2 4 _ rfl)
   have d1:=p2 1 _ rfl
   have d2:=p2 2 _ rfl
   have d3:=p2 3 _ rfl
   have d4:=p2 4 _ rfl
   have eb:=aK (i:=(i : Int)) (n:=cn) (by omega) (by omega)
   obtain ⟨g1,k1,F1,O1,lo1,nx1⟩:=cS X.wf [.string (ByteArray.mk (List.toArray [])),.int .i64 0,.int .i64 0,.int .i64 0,.int .i64 0] 0
   have X1:=X.fr F1 lo1 (fun z hz => Nat.le_of_eq (List.mem_singleton.1 hz).symm)
   obtain ⟨g2,k2,F2,O2,lo2,nx2⟩:=ir (o:=0) (vs:=[.string nm,.int .i64 w,.int .i64 l,.int .i64 k,.int .i64 f']) X1.wf O1 (by rw [X1.w.low]; exact X.w.nxt) (by simp)
   have hm : ∀ z ∈ [g.next] ++ [g.next],z = g.next:=fun z hz => by simpa using hz
   have X2:=X.fr (F1.trans F2) (lo2.trans lo1) (fun z hz => Nat.le_of_eq (hm z hz).symm)
   obtain ⟨r,g3,k3,X3,O3,nx3⟩:=X2.name n (by omega) nm O2 (by have:=X.n.2.1; omega)
   have nxt:=ih (i + 1) m0 p β q g3 (by omega) (by omega) X3
   obtain ⟨r4,k4⟩:=Cf n (by omega) X3.wf nm w l k f'
   subst p1
   refine Bx.imp tI ?_
   rw [du (by omega)]
   have O2 : cp g2 g.next [.string nm,.int .i64 w,.int .i64 l,.int .i64 k,.int .i64 f']:=O2
   have O3 : cp g3 g.next [.string nm,.int .i64 w,.int .i64 l,.int .i64 k,.int .i64 f']:=O3
   simp only [ak,ae,an,au,ap,aq,cond_true,cond_false,eb,Int.toNat_natCast,aj,Nat.zero_add,Nat.add_zero,List.getElem?_cons_zero,List.getElem?_cons_succ,aj,Nat.reduceAdd,e0,e1,e2,e3,e4,d1,d2,d3,d4,k1,k2,O2.rd,k3,O3.rd,Cc n (by omega),k4,dy X3.w,dv (show i < 9223372036854775807 by omega)]
   repeat' first | exact Bx.leaf | exact nxt | (refine Bx.cnd (fun _ => ?_) (fun _ => ?_))
 obtain ⟨g1,k1,F1,O1,lo1,nx1⟩:=cS H0 [.string s,.slice b bn bc,.slice c cn cc,.slice d dn dc,.slice e en ec,.slice f fn fc] 0
 obtain ⟨F2,M2,lo2,nx2⟩:=y8 F1.wf
 obtain ⟨g3,k3,F3,O3,lo3,nx3⟩:=cS F2.wf [.map none] 0
 have W0:=Wk.start H
 have nx1 : g1.next = h.next + 1:=nx1
 have W1 : Wk h g1:=W0.fr F1 lo1 (fun z hz => Nat.le_of_eq (List.mem_singleton.1 hz).symm)
 have W2:=W1.fr F2 lo2 (fun z hz => by rw [List.mem_singleton.1 hz]; omega)
 have W3:=W2.fr F3 lo3 (fun z hz => by rw [List.mem_singleton.1 hz]; omega)
 obtain ⟨g4,k4,F4,O4,lo4,nx4⟩:=ir (o:=0) (vs:=[.map (some g1.next)]) W3.wf O3 (by rw [W3.low]; omega) (by simp)
 have W4:=W3.fr F4 lo4 (fun z hz => by rw [List.mem_singleton.1 hz]; omega)
 have O1 : cp g1 h.next [.string s,.slice b bn bc,.slice c cn cc,.slice d dn dc,.slice e en ec,.slice f fn fc]:=O1
 have one : ∀ {a b : Nat},a ≠ b → a ∉ [b]:=fun hne hx => hne (List.mem_singleton.1 hx)
 have X : MS h g4 [.string s,.slice b bn bc,.slice c cn cc,.slice d dn dc,.slice e en ec,.slice f fn fc] h.next g1.next (AH.newMap g1).next :=
  ⟨W4,((O1.fr F2 (one (by omega))).fr F3 (one (by omega))).fr F4 (one (by omega)),⟨[],(M2.fr F3 (one (by omega))).fr F4 (one (by omega)),trivial⟩,O4,by omega,by omega,by omega,by omega⟩
 have r:=l0 cn 0 n _ _ _ g4 (by omega) (by rw [Nat.zero_add]) X
 refine Bx.imp F7 ?_
 rw [aD] at k1
 simp only [k1,k3,k4,ak,ae,an,au,ap,aq,cond_true,cond_false,X.op.rd,Nat.zero_add,Nat.add_zero,List.getElem?_cons_zero,List.getElem?_cons_succ,aj,Nat.reduceAdd,dl]
 exact r
end
theorem ET (v : Go.Value) : ∀ n,ei [v] n = List.replicate n v
 | 0 => rfl
 | n + 1 => by
  show [v] ++ ei [v] n = _
  rw [ET v n]
  rfl
section
variable {h : AH} {s : ByteArray} {b : Option Addr} {bn bc : Nat} {c : Option Addr} {cn cc : Nat} {d : Option Addr} {dn dc : Nat} {e : Option Addr} {en ec : Nat} {f : Option Addr} {fn fc : Nat}
variable (H : WF h) {WL : List Int} (RW : RI h b WL) (hb : bn = WL.length) {LB : List ba} {EL : List Int} (RK : RB h f LB) (hf : fn = LB.length) (RR : RI h e EL) (he : en = EL.length) (Rc : RA h c cn) (Rd : RS h d dn)
 include H RW hb RK hf RR he Rc Rd
theorem Ha (N : Nat) (hN : 700 ≤ N) (h1 : bn < 400 ∧ fn < 400 ∧ en < 400 ∧ cn ≤ 100 ∧ dn ≤ 100) (hB : ∀ B ∈ LB,B.params.length < 100 ∧ B.insts.length < 100 ∧ B.to.length < 100 ∧ B.rets.length < 100 ∧ (∀ x ∈ B.to,x.args.length < 100) ∧ ∀ x ∈ B.insts,x.args.length < 100) :
  Cx h (∀ B ∈ LB,ux bn B) (az Tryz.prog N 22 [.agg #[.string s,.slice b bn bc,.slice c cn cc,.slice d dn dc,.slice e en ec,.slice f fn fc]] h):=by
 obtain ⟨n,rfl⟩ : ∃ n,N = n + 1:=⟨N - 1,by omega⟩
 have H0 : WF (setLow h h.next):=bO H _
 have lp : ∀ (j i m0 C D E : Nat) (g : AH),j < m0 → i + j = fn → CS h g [.string s,.slice b bn bc,.slice c cn cc,.slice d dn dc,.slice e en ec,.slice f fn fc,.slice (some ⟨D,0,none⟩) bn bn,.slice (some ⟨E,0,none⟩) bn bn] bn C D E → g.low = h.next → (∀ B ∈ LB.take i,ux bn B) → Cx h (∀ B ∈ LB,ux bn B) (xh n m0 h ⟨C,0,none⟩ f fn fc fn i g):=by
  intro j
  induction j with
  | zero =>
   intro i m0 C D E g hj hi V hl ht
   obtain ⟨m0,rfl⟩ : ∃ q,m0 = q + 1:=⟨m0 - 1,by omega⟩
   have W : Wk h g:=⟨V.wf,hl,V.kq.nxt,V.kq.old⟩
   refine Cx.imp tF ?_
   rw [dF (by omega)]
   simp only [ak,ae,an,au,ap,aq,cond_true,cond_false,dy W]
   exact Cx.leaf fun _ x hx => ht x (by rw [show i = LB.length by omega,List.take_length]; exact hx)
  | succ j ih =>
   intro i m0 C D E g hj hi V hl ht
   obtain ⟨m0,rfl⟩ : ∃ q,m0 = q + 1:=⟨m0 - 1,by omega⟩
   obtain ⟨X,hX⟩ : ∃ X,LB[i]? = some X:=⟨_,List.getElem?_eq_getElem (by omega)⟩
   obtain ⟨pa,pc,ia,ic,ta,tc,ra,rc,A0,RP,RN0,RE0,RR0⟩:=RK i X hX
   obtain ⟨β1,o1,p1,p2⟩:=A0.kq H V.kq
   have e0:=p2 0 _ rfl
   have e1:=p2 1 _ rfl
   have e2:=p2 2 _ rfl
   have e3:=p2 3 _ rfl
   have e4:=p2 4 _ rfl
   have e5:=p2 5 _ rfl
   have e6:=p2 6 _ rfl
   have e7:=p2 7 _ rfl
   have e8:=p2 8 _ rfl
   have eb:=aK (i:=(i : Int)) (n:=fn) (by omega) (by omega)
   obtain ⟨c1,c2,c3,c4,c5,c6⟩:=V.cd
   obtain ⟨l1,l2,l3⟩:=V.lts
   have hn:=V.kq.nxt
   have hn : h.next ≤ g.next:=hn
   obtain ⟨g1,k1,F1,O1,lo1,nx1⟩:=cS V.wf [.slice none 0 0,.slice none 0 0,.int .i64 0,.int .i64 0,.slice none 0 0,.slice none 0 0,.int .i64 0,.int .i64 0,.int .i64 0] 0
   obtain ⟨g2,k2,F2,O2,lo2,nx2⟩:=ir (o:=0) (vs:=[.slice pa X.params.length pc,.slice ia X.insts.length ic,.int .i64 X.kind,.int .i64 X.cond,.slice ta X.to.length tc,.slice ra X.rets.length rc,.int .i64 X.pipe,.int .i64 X.unr,.int .i64 X.line]) F1.wf O1 (by rw [lo1,hl]; exact hn) (by simp)
   have O2 : cp g2 g.next [.slice pa X.params.length pc,.slice ia X.insts.length ic,.int .i64 X.kind,.int .i64 X.cond,.slice ta X.to.length tc,.slice ra X.rets.length rc,.int .i64 X.pipe,.int .i64 X.unr,.int .i64 X.line]:=O2
   have V2:=V.fr (F1.trans F2) (fun z hz => by
    have : z = g.next:=by simpa using hz
    omega)
   have hl2 : g2.low = h.next:=(lo2.trans lo1).trans hl
   obtain ⟨r,g3,r1,r2,V3,L3,n3,_⟩:=G8 H RW hb RK hf RR he Rc Rd n (by omega) V2 X (hB X (List.mem_of_getElem? hX)) (pc:=pc) (ic:=ic) (tc:=tc) (rc:=rc) RP RN0 RE0 RR0 i
   have hl3 : g3.low = h.next:=by
    have q1:=L3.1
    have q2:=L3.2 h.next (by omega) (by omega) c2 c3
    omega
   have W3 : Wk h g3:=⟨V3.wf,hl3,V3.kq.nxt,V3.kq.old⟩
   have nx:=fun (hr : r = true) => ih (i + 1) m0 C D E g3 (by omega) (by omega) V3 hl3 fun y hy => by
    rw [List.take_add_one,hX] at hy
    rcases List.mem_append.1 hy with hy | hy
    ·exact ht y hy
    ·rw [List.mem_singleton.1 hy]
     exact r2 hr
   subst p1
   refine Cx.imp tF ?_
   rw [du (by omega)]
   simp only [ak,ae,an,au,ap,aq,cond_true,cond_false,eb,Int.toNat_natCast,aj,Nat.zero_add,Nat.add_zero,List.getElem?_cons_zero,List.getElem?_cons_succ,aj,Nat.reduceAdd,e0,e1,e2,e3,e4,e5,e6,e7,e8,k1,k2,O2.rd,r1,dy W3,dv (show i < 9223372036854775807 by omega)]
   exact Cx.cnd (fun _ => Cx.fl) (fun e1 => nx (by simpa using e1))
 have W : Wk h (loc h [[.string s,.slice b bn bc,.slice c cn cc,.slice d dn dc,.slice e en ec,.slice f fn fc]]):=dZ H _
 have O:=cP H [[.string s,.slice b bn bc,.slice c cn cc,.slice d dn dc,.slice e en ec,.slice f fn fc]] 0 _ rfl
 have hl1 : aF (setLow h h.next) [.string s,.slice b bn bc,.slice c cn cc,.slice d dn dc,.slice e en ec,.slice f fn fc] 0 = some (h.next,loc h [[.string s,.slice b bn bc,.slice c cn cc,.slice d dn dc,.slice e en ec,.slice f fn fc]]):=by
  simp only [bu h,aS,List.length_nil,Nat.add_zero,List.nil_append]
 generalize loc h [[.string s,.slice b bn bc,.slice c cn cc,.slice d dn dc,.slice e en ec,.slice f fn fc]] = g1 at *
 have O : cp g1 h.next [.string s,.slice b bn bc,.slice c cn cc,.slice d dn dc,.slice e en ec,.slice f fn fc]:=O
 have K1:=(Kq.refl H).wk W
 obtain ⟨r1,q1⟩:=Ce n (by omega) W.wf s
 obtain ⟨r2,q2⟩:=JN (s:=s) (b:=b) (bn:=bn) (bc:=bc) (cc:=cc) (dc:=dc) (e:=e) (en:=en) (ec:=ec) (f:=f) (fn:=fn) (fc:=fc) W.wf (Rc.kq H K1) (Rd.kq H K1) n (by omega) h1.2.2.2.1 h1.2.2.2.2
 obtain ⟨r3,q3⟩:=pX n g1 W.wf b bn bc WL (RW.kq H K1) hb (by omega) (by omega)
 obtain ⟨r4,q4⟩:=pX n g1 W.wf e en ec EL (RR.kq H K1) he (by omega) (by omega)
 obtain ⟨g2,k2,F2,O2,lo2,nx2⟩:=cS W.wf (List.replicate bn (.bool false)) 1
 obtain ⟨g3,k3,F3,O3,lo3,nx3⟩:=cS F2.wf (List.replicate bn (.int .i64 0)) 1
 obtain ⟨g4,k4,F4,O4,lo4,nx4⟩:=cS F3.wf [.string s,.slice b bn bc,.slice c cn cc,.slice d dn dc,.slice e en ec,.slice f fn fc,.slice (some ⟨g1.next,0,none⟩) bn bn,.slice (some ⟨g2.next,0,none⟩) bn bn] 0
 have hn1:=W.nxt
 have one : ∀ {a b : Nat},a ≠ b → a ∉ [b]:=fun hne hx => hne (List.mem_singleton.1 hx)
 have sg : ∀ {a b : Nat},h.next ≤ b → a ∈ [b] → h.next ≤ a:=fun hb hx => by rw [List.mem_singleton.1 hx]; exact hb
 have D4 : cp g4 g1.next (List.replicate bn (.bool false)):=(O2.fr F3 (one (show g1.next ≠ g2.next by omega))).fr F4 (one (show g1.next ≠ g3.next by omega))
 have E4 : cp g4 g2.next (List.replicate bn (.int .i64 0)):=O3.fr F4 (one (show g2.next ≠ g3.next by omega))
 have K4 : Kq h g4:=((K1.ch F2 fun x hx => sg hn1 hx).ch F3 fun x hx => sg (show h.next ≤ g2.next by omega) hx).ch F4 fun x hx => sg (show h.next ≤ g3.next by omega) hx
 have V : CS h g4 [.string s,.slice b bn bc,.slice c cn cc,.slice d dn dc,.slice e en ec,.slice f fn fc,.slice (some ⟨g1.next,0,none⟩) bn bn,.slice (some ⟨g2.next,0,none⟩) bn bn] bn g3.next g1.next g2.next :=
  ⟨F4.wf,K4,O4,⟨List.replicate bn false,List.length_replicate,by rw [List.map_replicate]; exact D4⟩,⟨List.replicate bn 0,List.length_replicate,by rw [List.map_replicate]; exact E4⟩,⟨by omega,hn1,by omega,by omega,by omega,by omega⟩⟩
 have hl4 : g4.low = h.next:=by rw [lo4,lo3,lo2,W.low]
 have r:=lp fn 0 n g3.next g1.next g2.next g4 (by omega) (by rw [Nat.zero_add]) V hl4 (fun x hx => by cases hx)
 have r11 : Cx h (∀ B ∈ LB,ux bn B) (AX n h ⟨h.next,0,none⟩ g1):=by
  have O' : cp g2 h.next [.string s,.slice b bn bc,.slice c cn cc,.slice d dn dc,.slice e en ec,.slice f fn fc]:=O.fr F2 (one (show h.next ≠ g1.next by have:=O.lt W.wf; omega))
  refine Cx.imp AZ ?_
  have b1 : bS 0 (bn : Int) = true:=y6 (by omega)
  have b2 : bS (bn : Int) bn = true:=y6 (by omega)
  have b3 : bS ((bn : Int) * 1) 140737488355328 = true:=y6 (by omega)
  have b4 : bZ (bn : Int) 9223372036854775808 = true:=du (by omega)
  have b5 : bS ((bn : Int) * 8) 140737488355328 = true:=y6 (by omega)
  have O4' : cp g4 g3.next [.string s,.slice b bn bc,.slice c cn cc,.slice d dn dc,.slice e en ec,.slice f fn fc,.slice (some ⟨g1.next,0,none⟩) bn bn,.slice (some ⟨g2.next,0,none⟩) bn bn]:=O4
  have O5 : cp g4 h.next [.string s,.slice b bn bc,.slice c cn cc,.slice d dn dc,.slice e en ec,.slice f fn fc]:=(O'.fr F3 (one (show h.next ≠ g2.next by have:=O.lt W.wf; omega))).fr F4 (one (show h.next ≠ g3.next by have:=O.lt W.wf; omega))
  simp only [O.rd,Nat.zero_add,Nat.add_zero,List.getElem?_cons_zero,List.getElem?_cons_succ,aj,Nat.reduceAdd,ak,ae,an,au,ap,aq,cond_true,cond_false,dl,b1,b2,b3,b4,b5,Bool.and_true,ET,Int.toNat_natCast,k2,k3,k4,O'.rd,O5.rd]
  exact r
 have r10 : Cx h (∀ B ∈ LB,ux bn B) (AW n h ⟨h.next,0,none⟩ g1):=by
  refine Cx.imp AY ?_
  simp only [O.rd,Nat.zero_add,Nat.add_zero,List.getElem?_cons_zero,List.getElem?_cons_succ,aj,Nat.reduceAdd,ak,ae,an,au,ap,aq,cond_true,cond_false,show (Value.func (Fn.func 52) (List.toArray []) (List.toArray [])) = (.func (.func 52) #[] #[]) from rfl,q3,q4,dy W]
  exact Cx.cnd (fun _ => Cx.fl) (fun _ => Cx.cnd (fun _ => Cx.fl) (fun _ => r11))
 refine Cx.imp FX ?_
 rw [hl1]
 simp only [O.rd,Nat.zero_add,Nat.add_zero,List.getElem?_cons_zero,List.getElem?_cons_succ,aj,Nat.reduceAdd,ak,ae,an,au,ap,aq,cond_true,cond_false,q1,q2,dy W]
 repeat' first | exact Cx.fl | exact r10 | (refine Cx.cnd (fun _ => ?_) (fun _ => ?_))
end
end Go.Proofs.YtjdomdndflfjdabGreatDoor.Kb
