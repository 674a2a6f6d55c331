/- Joined texts: XD. -/
import Derived.LoopN
import Derived.Lib.AppendZerosOnto
import Derived.Test.YtjdomdndflfjdabGreatDoorXB
namespace Go.Proofs.YtjdomdndflfjdabGreatDoor.X
open Go
variable {P : Program} {G nt : Nat} {cf : FuncId → List Value → AH → Option (Value × AH)} {ops : Array Oper} {es : Nat → Tr Value} {hs : Nat → AH}
def fb (ops : Array Oper) (j : Nat) : Prop:=cE ops.toList j = false
def EB (P : Program) (cf : FuncId → List Value → AH → Option (Value × AH)) (es : Nat → Tr Value) (hs : Nat → AH) (ops : Array Oper) (x p : Nat) (o : Oper) : Prop :=
 aY ops o (es x) = true → ∃ v,bY P cf o.op (es x) (hs p) = some (v,hs p) ∧ es (x + 1) = aZ (es x) o.dst v
structure rY (P : Program) (cf : FuncId → List Value → AH → Option (Value × AH)) (G nt : Nat) (ops : Array Oper) (p : Nat) (es : Nat → Tr Value) (hs : Nat → AH) (base : Nat) (ι0 : bL) (w0 : World) (listed : Array Bool) (ι : bL) (a : Act) (w : World) : Prop where
 rel : bV ι base (hs p) w
 tmp : ∀ t,(∃ j o,d9 listed j ∧ ops.toList[j]? = some o ∧ o.dst = some t ∧ aA ι (((es (j + 1)).get t).getD undef) (a.tmps.getD t undef)) ∨
  ((∀ j o,d9 listed j → ops.toList[j]? = some o → o.dst ≠ some t) ∧ aA ι (((es 0).get t).getD undef) (a.tmps.getD t undef))
 dfr : a.defers = []
 glb : oX G ι
 siz : nt ≤ a.tmps.size
 low : ∀ j,d9 listed j → fb ops j → j < p
 pen : ∀ j,j < p → fb ops j → d9 listed j
 ext : ej (hs 0).next w0 ι0 ι
 kep : cv base ι0 w0 w
 nxt : (hs 0).next ≤ (hs p).next
section
variable {base p : Nat} {ι0 ι : bL} {w0 w : World} {listed : Array Bool} {a : Act}
theorem rY.read (T : js P cf ops 0 es hs) (hC : eJ ops.toList = true) (I : rY P cf G nt ops p es hs base ι0 w0 listed ι a w) (hc : yv ops listed) {i : Nat} (hi : i ∈ Region.ready .any ops listed) {o : Oper} (ho : ops.toList[i]? = some o)
  {t : Tmp} (ht : t ∈ iR ops.toList o) : aA ι (((es i).get t).getD undef) (a.tmps.getD t undef):=by
 have hil:=(List.getElem?_eq_some_iff.1 ho).1
 have hsure:=Ff hC ho ht
 rcases I.tmp t with ⟨j,o',hl,ho',hd,hv⟩ | ⟨hno,hv⟩
 ·have hjl:=(List.getElem?_eq_some_iff.1 ho').1
  rcases hsure j o' ho' hd with rfl | ⟨h1,_⟩ | ⟨_,h2⟩
  ·exact absurd hl (cB hi).2
  ·have e : (es i).get t = (es (j + 1)).get t:=T.envLe (by omega) (by omega) fun j' o'' h3 h4 e1 e2 => by
    have:=uM hC j j' o' o'' t ho' e1 hd e2
    omega
   rw [e]
   exact hv
  ·exact absurd (hc j hl i h2) (cB hi).2
 ·have e : (es i).get t = (es 0).get t:=T.envLe (Nat.zero_le _) (by omega) fun j o' _ h2 e1 e2 => by
   rcases hsure j o' e1 e2 with rfl | ⟨_,h3⟩ | ⟨h3,_⟩
   ·omega
   ·exact hno j o' (dJ hc hi j h3) e1 e2
   ·omega
  rw [e]
  exact hv
theorem rY.next (I : rY P cf G nt ops p es hs base ι0 w0 listed ι a w) {i p' : Nat} (hsz : i < listed.size) {o : Oper} (ho : ops.toList[i]? = some o) (hdst : ∀ t,o.dst = some t → t < nt)
  {v vc : Value} (hes : es (i + 1) = aZ (es i) o.dst v) {ι1 : bL} {w1 : World} (hvr : aA ι1 v vc) (R1 : bV ι1 base (hs p') w1) (E1 : ej (hs p).next w ι ι1) (K1 : cv base ι w w1) (N1 : (hs p).next ≤ (hs p').next)
  (hip : fb ops i → i < p') (hpp : p ≤ p') (hpen : ∀ j,p ≤ j → j < p' → fb ops j → j = i) : rY P cf G nt ops p' es hs base ι0 w0 (listed.setIfInBounds i true) ι1 (a.put o.dst vc) w1:=by
 have s1 : gX ι ι1:=E1.sub fun β k e => (I.rel.dom β k e).1
 have lm : ∀ j,d9 listed j → d9 (listed.setIfInBounds i true) j:=fun j h => (dW hsz).2 (.inl h)
 have li : d9 (listed.setIfInBounds i true) i:=(dW hsz).2 (.inr rfl)
 refine ⟨R1,fun t => ?_,by rw [f0]; exact I.dfr,I.glb.mono s1,by rw [iQ]; exact I.siz,fun j hj hjl => ?_,fun j hj hjl => ?_,I.ext.trans E1 I.nxt I.kep.1,I.kep.trans I.ext K1,Nat.le_trans I.nxt N1⟩
 ·by_cases hd : o.dst = some t
  ·refine .inl ⟨i,o,li,ho,hd,?_⟩
   rw [na hd (Nat.lt_of_lt_of_le (hdst t hd) I.siz),hes,hd]
   have : ((aZ (es i) (some t) v).get t).getD undef = v:=by
    show (((es i).set t v).get t).getD undef = v
    rw [Tr.get_set,if_pos rfl]
    rfl
   rw [this]
   exact hvr
  ·rw [lh hd]
   rcases I.tmp t with ⟨j,o',hl,ho',hd',hv⟩ | ⟨hno,hv⟩
   ·exact .inl ⟨j,o',lm j hl,ho',hd',hv.mono s1⟩
   ·refine .inr ⟨fun j o' hl ho' => ?_,hv.mono s1⟩
    rcases (dW hsz).1 hl with hl | rfl
    ·exact hno j o' hl ho'
    ·rw [ho] at ho'
     injection ho' with ho'
     exact ho' ▸ hd
 ·rcases (dW hsz).1 hj with hl | rfl
  ·exact Nat.lt_of_lt_of_le (I.low j hl hjl) hpp
  ·exact hip hjl
 ·rcases Nat.lt_or_ge j p with hl | hl
  ·exact lm j (I.pen j hl hjl)
  ·exact hpen j hl hj hjl ▸ li
def rZ (P : Program) (ops : Array Oper) : Prop:=∀ o ∈ ops.toList,∀ s d x,o.op = .convert s d x → cD P d = false
theorem se {s d : TypeId} {x : Operand} (hd : cD P d = false) {e : Tr Value} {h h1 : AH} {v : Value} (hv : bY P cf (.convert s d x) e h = some (v,h1)) (g : AH) : bY P cf (.convert s d x) e g = some (v,g):=by
 unfold bY at hv ⊢
 simp only [hd,cond_false] at hv ⊢
 obtain ⟨v',h2,h3⟩:=Option.map_eq_some_iff.1 hv
 rw [h2]
 rw [← (Prod.mk.inj h3).1]
 rfl
theorem nj {o : Op} (ho : oV o = true) {e : Tr Value} {g : AH} : bY P cf o e g = fS P o e g:=by
 unfold oV at ho
 split at ho
 ·rfl
 ·cases ho
theorem pi {o : Op} (ho : oV o = true) {e : Tr Value} {h h1 : AH} {v : Value} (hv : bY P cf o e h = some (v,h1)) : h1 = h:=by
 rw [nj ho] at hv
 unfold oV at ho
 split at ho
 ·unfold fS at hv
  obtain ⟨d,_,hv⟩:=Option.bind_eq_some_iff.1 hv
  split at hv
  ·obtain ⟨_,hv⟩:=ah hv
   obtain ⟨z,_,hv⟩:=Option.bind_eq_some_iff.1 hv
   obtain ⟨cs,_,hv⟩:=Option.bind_eq_some_iff.1 hv
   obtain ⟨r,_,hv⟩:=Option.map_eq_some_iff.1 hv
   exact (Prod.mk.inj hv).2.symm
  ·cases hv
 ·cases ho
theorem pj {o : Oper} (hp : ∀ s d x,o.op = .convert s d x → cD P d = false) (hs' : eG o = true) {e : Tr Value} {h h1 : AH} {v : Value} (hv : bY P cf o.op e h = some (v,h1)) : h1 = h:=by
 unfold eG at hs'
 rcases Bool.or_eq_true _ _ ▸ hs' with hs' | hs'
 ·have:=ii hs' hv h
  rw [hv] at this
  exact (Prod.mk.inj (Option.some.inj this)).2
 rcases Bool.or_eq_true _ _ ▸ hs' with hs' | hs'
 ·unfold zn at hs'
  split at hs'
  ·rename_i s d x ho
   rw [ho] at hv
   have:=se (hp s d x ho) hv h
   rw [hv] at this
   exact (Prod.mk.inj (Option.some.inj this)).2
  ·cases hs'
 ·rw [Bool.and_eq_true] at hs'
  rcases Bool.or_eq_true _ _ ▸ hs'.1 with h2 | h2
  ·unfold oT at h2
   split at h2
   ·rename_i t τ ho
    rw [ho] at hv
    obtain ⟨v',_,h3⟩:=Option.map_eq_some_iff.1 (show (cK P t (ev e (.tmp τ)) h).map (fun v => (v,h)) = some (v,h1) from hv)
    exact (Prod.mk.inj h3).2.symm
   ·cases h2
  ·exact pi h2 hv
theorem sf {o : Oper} (hp : ∀ s d x,o.op = .convert s d x → cD P d = false) (hs' : eG o = true) {e e1 : Tr Value} {h h1 : AH} (hv : dq P cf ops o e h = some (e1,h1)) : h1 = h:=by
 unfold dq at hv
 rcases aN hv with hv | hv
 ·obtain ⟨⟨v,h2⟩,hp',hv1⟩:=Option.bind_eq_some_iff.1 hv
  rw [← pj hp hs' hp']
  exact (Prod.mk.inj (Option.some.inj hv1)).2.symm
 ·exact (Prod.mk.inj (Option.some.inj hv)).2.symm
theorem lj {l : List Oper} {x : Nat} {o : Oper} (ho : l[x]? = some o) : cE l x = eG o:=by
 unfold cE
 rw [ho]
theorem js.chain (hpl : rZ P ops) (T : js P cf ops 0 es hs) (p : Nat) : ∀ d,p + d ≤ ops.toList.length → (∀ j,p ≤ j → j < p + d → ¬ fb ops j) → hs (p + d) = hs p
 | 0,_,_ => rfl
 | d + 1,hl,hno => by
  have hlt : p + d < ops.toList.length:=by omega
  have ho:=List.getElem?_eq_getElem hlt
  have h1:=hno (p + d) (by omega) (by omega)
  have h1 : eG (ops.toList[p + d]) = true:=by
   unfold fb at h1
   rw [lj ho] at h1
   simpa using h1
  have:=sf (hpl _ (List.mem_of_getElem? ho)) h1 (T.lst (p + d) _ (Nat.zero_le _) hlt ho)
  exact this.trans (js.chain hpl T p d (by omega) fun j h1 h2 => hno j h1 (by omega))
theorem js.chainLe (hpl : rZ P ops) (T : js P cf ops 0 es hs) {p q : Nat} (h : p ≤ q) (hq : q ≤ ops.toList.length) (hno : ∀ j,p ≤ j → j < q → ¬ fb ops j) : hs q = hs p:=by
 have:=js.chain hpl T p (q - p) (by omega) fun j h1 h2 => hno j h1 (by omega)
 rwa [show p + (q - p) = q by omega] at this
theorem De {j : Nat} (h : fb ops j) : j < ops.toList.length:=by
 rcases Nat.lt_or_ge j ops.toList.length with hl | hl
 ·exact hl
 ·unfold fb cE at h
  rw [List.getElem?_eq_none hl] at h
  cases h
theorem rY.done (hpl' : rZ P ops) (T : js P cf ops 0 es hs) (hC : eJ ops.toList = true) (I : rY P cf G nt ops p es hs base ι0 w0 listed ι a w) (hp : p ≤ ops.toList.length) (hall : ∀ j,j < ops.size → d9 listed j) : eH P G nt ι0 base (hs 0) w0 (es ops.toList.length) (hs ops.toList.length) a w:=by
 have hpe : hs ops.toList.length = hs p:=js.chainLe hpl' T hp (Nat.le_refl _) fun j h1 h2 hl => by
  have:=I.low j (hall j (by rw [← Array.length_toList]; exact h2)) hl
  omega
 rw [hpe]
 refine ⟨ι,⟨I.rel,fun t => ?_,I.dfr,I.glb,I.siz⟩,I.ext,I.kep,I.nxt⟩
 rcases I.tmp t with ⟨j,o',hl,ho',hd,hv⟩ | ⟨hno,hv⟩
 ·have hjl:=(List.getElem?_eq_some_iff.1 ho').1
  have e : (es ops.toList.length).get t = (es (j + 1)).get t:=T.envLe (by omega) (Nat.le_refl _) fun j' o'' h3 h4 e1 e2 => by
   have:=uM hC j j' o' o'' t ho' e1 hd e2
   omega
  rw [e]
  exact hv
 ·have e : (es ops.toList.length).get t = (es 0).get t:=T.envLe (Nat.zero_le _) (Nat.le_refl _) fun j o' _ h2 e1 e2 => hno j o' (hall j (by rw [← Array.length_toList]; exact h2)) e1 e2
  rw [e]
  exact hv
end
theorem yw (hN : bW P = true) (hcf : bw P G cf) (hfn : cr P cf) (hC : eJ ops.toList = true) (hok : ops.toList.all (cy nt G) = true) {base : Nat} {ι0 : bL} {w0 : World} {Q : Exit → Act → World → Prop} (hpl' : rZ P ops) (T : js P cf ops 0 es hs)
  (hord : ∀ j x,fb ops j → x < j → fb ops x → x ∈ zj ops j)
  (hsaf : ∀ x o,ops.toList[x]? = some o → ¬ fb ops x → ∀ p,p ≤ ops.toList.length → (∀ y,fb ops y → y ∈ zj ops x → y < p) → (∀ y,y < p → fb ops y → x ∉ zj ops y) → EB P cf es hs ops x p o)
  (hq : ∀ a' w',eH P G nt ι0 base (hs 0) w0 (es ops.toList.length) (hs ops.toList.length) a' w' → Q .normal a' w') :
  ∀ (fuel p : Nat) {listed : Array Bool} {ι : bL} {w : World} {a : Act},listed.size = ops.size → vW listed.toList ≤ fuel → yv ops listed → p ≤ ops.toList.length → rY P cf G nt ops p es hs base ι0 w0 listed ι a w → wpAny P .any ops Q fuel listed a w:=by
 intro fuel
 induction fuel with
 | zero =>
  intro p listed ι w a hz hc hcl hpl I
  have hall:=mq hz (by omega)
  exact ⟨pg hall,hq a w (I.done hpl' T hC hpl hall)⟩
 | succ fuel ih =>
  intro p listed ι w a hz hc hcl hpl I
  refine ⟨fun hr => hq a w (I.done hpl' T hC hpl (ib hz (Dc hC) hr)),fun i hi => ?_⟩
  obtain ⟨o,ho,ho'⟩:=f7 hi
  obtain ⟨hsz,hnl⟩:=cB hi
  have hil:=(List.getElem?_eq_some_iff.1 ho').1
  have hoo : cy nt G o = true:=List.all_eq_true.1 hok o (List.mem_of_getElem? ho')
  have hrd : ∀ t ∈ iR ops.toList o,aA ι (((es i).get t).getD undef) (a.tmps.getD t undef):=fun t ht' => I.read T hC hcl hi ho' ht'
  have hz' : (listed.setIfInBounds i true).size = ops.size:=by rw [Array.size_setIfInBounds]; exact hz
  have hops : ∀ x ∈ o.op.operands.toList,aA ι (ev (es i) x) (a.eval x):=fun x hx => by
   have hxo:=List.all_eq_true.1 (hJ hoo) x hx
   cases x with
   | tmp t => exact hrd t (List.mem_append_left _ (gp hx))
   | const v => exact dQ hxo
   | global g =>
    obtain ⟨k,h1,h2,h3⟩:=I.glb g (Nat.le_of_ble_eq_true hxo)
    exact (bh.ptr _ _ ⟨rfl,rfl,k,h1,h2.symm,by rw [h3]; rfl⟩).v
   | func f => exact (bj.func (.func f) #[] #[] #[] #[] trivial trivial).v
  have cont : ∀ p',(fb ops i → i < p') → p ≤ p' → p' ≤ ops.toList.length → (∀ j,p ≤ j → j < p' → fb ops j → j = i) → (hs p).next ≤ (hs p').next →
    (aY ops o (es i) = false → es (i + 1) = aZ (es i) o.dst undef ∧ hs p' = hs p) → (aY ops o (es i) = true → ∃ v,bY P cf o.op (es i) (hs p) = some (v,hs p') ∧ es (i + 1) = aZ (es i) o.dst v) →
    wpOp P ops Q i (fun a' w' => wpAny P .any ops Q fuel (listed.setIfInBounds i true) a' w') a w:=fun p' hip hpp hpl' hpen hnx hw0 hw1 => by
   unfold wpOp
   rw [ho]
   simp only
   rw [ig hrd]
   cases hw : aY ops o (es i) with
   | false =>
    obtain ⟨g1,g2⟩:=hw0 hw
    rw [if_neg (by decide)]
    exact ih p' hz' (ga hi hc) (f9 hcl hi) hpl' (I.next hsz ho' (dh hoo) g1 (ι1:=ι) (w1:=w) aA.undef (g2 ▸ I.rel) (ej.refl _ _ _) (cv.refl _ _ _) hnx hip hpp hpen)
   | true =>
    obtain ⟨v,g1,g2⟩:=hw1 hw
    rw [if_pos rfl]
    left
    refine fZ hN hcf hfn I.rel I.glb hops g1 fun vc ι1 w1 hvr R1 E1 K1 N1 => ?_
    exact ih p' hz' (ga hi hc) (f9 hcl hi) hpl' (I.next hsz ho' (dh hoo) g2 hvr R1 E1 K1 N1 hip hpp hpen)
  have hst:=T.lst i o (Nat.zero_le _) hil ho'
  unfold dq at hst
  by_cases hlo : fb ops i
  ·have hpi : p ≤ i:=by
    rcases Nat.lt_or_ge i p with hl | hl
    ·exact absurd (I.pen i hl hlo) hnl
    ·exact hl
   have hno : ∀ j,p ≤ j → j < i → ¬ fb ops j:=fun j h1 h2 h3 => by
    have:=I.low j (dJ hcl hi j (hord i j hlo h2 h3)) h3
    omega
   have hch : hs i = hs p:=js.chainLe hpl' T hpi (by omega) hno
   refine cont (i + 1) (fun _ => Nat.lt_succ_self _) (by omega) (by omega) (fun j h1 h2 h3 => ?_) ?_ (fun hw => ?_) (fun hw => ?_)
   ·rcases Nat.lt_or_ge j i with hl | hl
    ·exact absurd h3 (hno j h1 hl)
    ·omega
   ·rw [← hch]
    exact T.nx i o (Nat.zero_le _) hil ho'
   ·rw [hw] at hst
    obtain ⟨h1,h2⟩:=Prod.mk.inj (Option.some.inj hst)
    exact ⟨h1.symm,h2.symm.trans hch⟩
   ·rw [hw] at hst
    obtain ⟨⟨v,h1⟩,hp,hst⟩:=Option.bind_eq_some_iff.1 hst
    obtain ⟨h2,h3⟩:=Prod.mk.inj (Option.some.inj hst)
    refine ⟨v,?_,h2.symm⟩
    rw [← hch,hp]
    exact congrArg (fun x => some (v,x)) h3
  ·have hS:=hsaf i o ho' hlo p hpl (fun y h1 h2 => I.low y (dJ hcl hi y h2) h1) (fun y h1 h2 h3 => hnl (hcl y (I.pen y h1 h2) i h3))
   refine cont p (fun h => absurd h hlo) (Nat.le_refl _) hpl (fun j h1 h2 _ => absurd h2 (by omega)) (Nat.le_refl _) (fun hw => ?_) hS
   rw [hw] at hst
   obtain ⟨h1,_⟩:=Prod.mk.inj (Option.some.inj hst)
   exact ⟨h1.symm,rfl⟩
theorem ju (l : List Oper) : ∀ (n x : Nat),x < n → cE l x = false → Nat.testBit (fj l n) x = true
 | 0,x,h,_ => absurd h (Nat.not_lt_zero _)
 | n + 1,x,h,hx => by
  unfold fj
  rcases Nat.lt_or_ge x n with hl | hl
  ·have:=ju l n x hl hx
   cases cE l n with
   | true => exact this
   | false =>
    show Nat.testBit (1 <<< n ||| fj l n) x = true
    rw [Nat.testBit_or,this,Bool.or_true]
  ·have : x = n:=by omega
   subst this
   rw [hx]
   show Nat.testBit (1 <<< x ||| fj l x) x = true
   rw [Nat.testBit_or,Nat.one_shiftLeft,Nat.testBit_two_pow_self,Bool.true_or]
theorem yx {a m x : Nat} (h : Fb a m = true) (hx : Nat.testBit a x = true) : Nat.testBit m x = true:=by
 have h : a &&& m = a:=Nat.eq_of_beq_eq_true h
 rw [← h,Nat.testBit_and,Bool.and_eq_true] at hx
 exact hx.2
theorem vZ {a b : Addr} (h : rH a b = true) : a = b:=by
 unfold rH at h
 rw [Bool.and_eq_true,Bool.and_eq_true,Bool.and_eq_true] at h
 obtain ⟨h1,h2,h3,h4⟩:=h
 obtain ⟨a1,a2,a3⟩:=a
 obtain ⟨b1,b2,b3⟩:=b
 have e1 : a1 = b1:=Nat.eq_of_beq_eq_true h1
 have e2 : a2 = b2:=Nat.eq_of_beq_eq_true h2
 subst e1
 subst e2
 cases a3 with
 | some _ => cases h3
 | none =>
  cases b3 with
  | some _ => cases h4
  | none => rfl
theorem uO {x y : Value} (h : uv x y = true) : x = y:=by
 unfold uv at h
 split at h
 ·rw [Bool.and_eq_true] at h
  rw [of_decide_eq_true h.1,of_decide_eq_true h.2]
 ·rw [eq_of_beq h]
 ·rfl
 ·rw [vZ h]
 ·rw [Bool.and_eq_true] at h
  rw [Nat.eq_of_beq_eq_true h.1,Nat.eq_of_beq_eq_true h.2]
 ·rw [Bool.and_eq_true,Bool.and_eq_true] at h
  rw [vZ h.1,Nat.eq_of_beq_eq_true h.2.1,Nat.eq_of_beq_eq_true h.2.2]
 ·rfl
 ·rw [Nat.eq_of_beq_eq_true h]
 ·rfl
 ·rfl
 ·cases h
theorem nk {h h' : AH} {a : Addr} : ∀ {k : Nat},cF h h' a k = true → ∀ i,i < k → ∃ x,fB h a i = some x ∧ fB h' a i = some x
 | 0,_,i,hi => absurd hi (Nat.not_lt_zero _)
 | k + 1,hc,i,hi => by
  unfold cF at hc
  rw [Bool.and_eq_true] at hc
  rcases Nat.lt_or_ge i k with hl | hl
  ·exact nk hc.2 i hl
  ·have : i = k:=by omega
   subst this
   have h1:=hc.1
   unfold Kt at h1
   split at h1
   ·rename_i x y hx hy
    exact ⟨x,hx,by rw [hy,uO h1]⟩
   ·cases h1
theorem si {cs ds : List Value} {o k : Nat} (hk : k ≠ 0) (h : ∀ i,i < k → ∃ x,cs[o + i]? = some x ∧ ds[o + i]? = some x) : cj cs o k = cj ds o k:=by
 have len : ∀ l : List Value,(∀ i,i < k → ∃ x,l[o + i]? = some x) → o + k ≤ l.length:=fun l hl => by
  obtain ⟨x,hx⟩:=hl (k - 1) (by omega)
  have:=(List.getElem?_eq_some_iff.1 hx).1
  omega
 have h1:=len cs fun i hi => (h i hi).imp fun _ q => q.1
 have h2:=len ds fun i hi => (h i hi).imp fun _ q => q.2
 unfold cj
 rw [Nat.ble_eq_true_of_le h1,Nat.ble_eq_true_of_le h2]
 have : (cs.drop o).take k = (ds.drop o).take k:=by
  apply List.ext_getElem?
  intro i
  rw [List.getElem?_take,List.getElem?_take]
  split
  ·rename_i hi
   obtain ⟨x,q1,q2⟩:=h i hi
   rw [List.getElem?_drop,List.getElem?_drop,q1,q2]
  ·rfl
 rw [this]
theorem np {t : TypeId} {a : Addr} {h h' : AH} {v : Value} (hk : gE P t ≠ 0) (hs' : cF h h' a (gE P t) = true) (hv : cK P t (.pointer (some a)) h = some v) : cK P t (.pointer (some a)) h' = some v:=by
 have hc:=nk hs'
 have cell : ∀ (g : AH) (i : Nat) (x : Value),fB g a i = some x → a.spot = none ∧ ∃ b,g.rd a.block = some b ∧ b.cells[a.off + i]? = some x:=fun g i x hx => by
  unfold fB at hx
  split at hx
  ·rename_i hsp
   obtain ⟨b,h1,h2⟩:=Option.bind_eq_some_iff.1 hx
   exact ⟨hsp,b,h1,h2⟩
  ·cases hx
 obtain ⟨x0,q1,q2⟩:=hc 0 (by omega)
 obtain ⟨hsp,b,hb,_⟩:=cell h 0 x0 q1
 obtain ⟨_,b',hb',_⟩:=cell h' 0 x0 q2
 have hcells : ∀ i,i < gE P t → ∃ x,b.cells[a.off + i]? = some x ∧ b'.cells[a.off + i]? = some x:=fun i hi => by
  obtain ⟨x,r1,r2⟩:=hc i hi
  obtain ⟨_,c,h1,h2⟩:=cell h i x r1
  obtain ⟨_,c',h1',h2'⟩:=cell h' i x r2
  rw [hb] at h1
  rw [hb'] at h1'
  injection h1 with h1
  injection h1' with h1'
  subst h1
  subst h1'
  exact ⟨x,h2,h2'⟩
 have hv : (h.rd a.block).bind (fun b => match a.spot with | none => dw P t b.cells a.off | some _ => none) = some v:=hv
 show (h'.rd a.block).bind (fun b => match a.spot with | none => dw P t b.cells a.off | some _ => none) = some v
 rw [hb,hsp] at hv
 rw [hb',hsp]
 have hv : dw P t b.cells a.off = some v:=hv
 show dw P t b'.cells a.off = some v
 unfold dw at hv ⊢
 obtain ⟨ag,ha,hv⟩:=Option.bind_eq_some_iff.1 hv
 rw [ha]
 rw [Option.bind_some]
 cases ag with
 | true =>
  obtain ⟨s,hs1,hv⟩:=Option.bind_eq_some_iff.1 hv
  have hks : gE P t = s:=by
   unfold gE
   rw [ha]
   simp only
   rw [hs1]
   rfl
  rw [hks] at hcells hk
  show ((bv P t).bind fun s => (cj b'.cells a.off s).map fun l => Value.agg l.toArray) = some v
  rw [hs1,Option.bind_some,← si hk hcells]
  exact hv
 | false =>
  have hks : gE P t = 1:=by
   unfold gE
   rw [ha]
  rw [hks] at hcells
  obtain ⟨x,r1,r2⟩:=hcells 0 (by omega)
  rw [Nat.add_zero] at r1 r2
  have hv : b.cells[a.off]? = some v:=hv
  show b'.cells[a.off]? = some v
  rw [r1] at hv
  rw [r2]
  exact hv
theorem nq : ∀ (l : List Oper) {e e' : Tr Value} {h h' : AH} {H H' : List AH},gD P cf ops l e h H = some (e',h',H') →
  ∃ (es : Nat → Tr Value) (hs : Nat → AH),es 0 = e ∧ hs 0 = h ∧ (∀ (k : Nat) (o : Oper),k < l.length → l[k]? = some o → dq P cf ops o (es k) (hs k) = some (es (k + 1),hs (k + 1))) ∧ e' = es l.length ∧ h' = hs l.length ∧ H'.length = H.length + l.length + 1 ∧ (∀ k,k < H.length → H'[k]? = H[k]?) ∧ ∀ k,k ≤ l.length → H'[H.length + k]? = some (hs k)
 | [],e,e',h,h',H,H',hv => by
  injection hv with hv
  injection hv with h1 hv
  injection hv with h2 h3
  subst h1
  subst h2
  subst h3
  refine ⟨fun _ => e,fun _ => h,rfl,rfl,fun k _ hk => absurd hk (Nat.not_lt_zero _),rfl,rfl,by simp,fun k hk => List.getElem?_append_left hk,fun k hk => ?_⟩
  have : k = 0:=by simpa using hk
  subst this
  rw [Nat.add_zero,List.getElem?_append_right (Nat.le_refl _),Nat.sub_self]
  rfl
 | o :: l,e,e',h,h',H,H',hv => by
  have hv' : cond (aY ops o e) ((bY P cf o.op e h).bind fun p => gD P cf ops l (aZ e o.dst p.1) p.2 (H ++ [h])) (gD P cf ops l (aZ e o.dst undef) h (H ++ [h])) = some (e',h',H'):=hv
  have key : ∃ e1 h1,dq P cf ops o e h = some (e1,h1) ∧ gD P cf ops l e1 h1 (H ++ [h]) = some (e',h',H'):=by
   unfold dq
   cases hw : aY ops o e with
   | true =>
    rw [hw] at hv'
    obtain ⟨⟨v,h1⟩,hp,hv1⟩:=Option.bind_eq_some_iff.1 hv'
    exact ⟨_,_,by rw [cond_true,hp]; rfl,hv1⟩
   | false =>
    rw [hw] at hv'
    exact ⟨_,_,rfl,hv'⟩
  obtain ⟨e1,h1,hs1,hv1⟩:=key
  obtain ⟨es,hs,g1,g2,g3,g4,g5,g6,g7,g8⟩:=nq l hv1
  have hl : (H ++ [h]).length = H.length + 1:=by simp
  refine ⟨fun k => match k with | 0 => e | k + 1 => es k,fun k => match k with | 0 => h | k + 1 => hs k,rfl,rfl,fun k o' hk ho' => ?_,g4,g5,by rw [g6,hl,List.length_cons]; omega,fun k hk => ?_,fun k hk => ?_⟩
  ·cases k with
   | zero =>
    injection ho' with ho'
    subst ho'
    show dq P cf ops o e h = some (es 0,hs 0)
    rw [g1,g2]
    exact hs1
   | succ k => exact g3 k o' (Nat.lt_of_succ_lt_succ hk) ho'
  ·rw [g7 k (by omega),List.getElem?_append_left hk]
  ·cases k with
   | zero =>
    rw [Nat.add_zero,g7 _ (by omega),List.getElem?_append_right (Nat.le_refl _),Nat.sub_self]
    rfl
   | succ k =>
    have:=g8 k (by simpa using hk)
    rw [hl] at this
    rw [show H.length + (k + 1) = H.length + 1 + k by omega]
    exact this
theorem lk {l : List Oper} {ms : List Nat} {e : Tr Value} {H : List AH} : ∀ (r : List Oper) (n : Nat),me P l ms e H n r = true → ∀ (x : Nat) (o : Oper),r[x]? = some o → lE P l ms e H (n + x) o = true
 | [],_,_,_,_,h => by cases h
 | o :: r,n,h,x,o1,ho => by
  unfold me at h
  rw [Bool.and_eq_true] at h
  cases x with
  | zero =>
   injection ho with ho
   subst ho
   exact h.1
  | succ x =>
   have:=lk r (n + 1) h.2 x o1 ho
   rwa [show n + 1 + x = n + (x + 1) by omega] at this
theorem nr {l : List Oper} {ms : List Nat} {x : Nat} {h : AH} {a : Addr} {k : Nat} : ∀ (H : List AH) (p : Nat),oW l ms x h a k p H = true → ∀ (d : Nat) (g : AH),H[d]? = some g → lD l ms x (p + d) = true → cF h g a k = true
 | [],_,_,_,_,h,_ => by cases h
 | g0 :: H,p,hc,d,g,hd,hn => by
  unfold oW at hc
  cases d with
  | zero =>
   injection hd with hd
   subst hd
   rw [Nat.add_zero] at hn
   rw [hn] at hc
   rw [cond_true,Bool.and_eq_true] at hc
   exact hc.1
  | succ d =>
   have hr : oW l ms x h a k (p + 1) H = true:=by
    cases hnp : lD l ms x p with
    | true =>
     rw [hnp,cond_true,Bool.and_eq_true] at hc
     exact hc.2
    | false =>
     rw [hnp] at hc
     exact hc
   exact nr H (p + 1) hr d g hd (by rwa [show p + 1 + d = p + (d + 1) by omega])
theorem nu {o : Op} {e : Tr Value} {v : Value} {l : List Oper} {ms : List Nat} {x : Nat} : ∀ (H : List AH) (p : Nat),iC P o e v l ms x p H = true → ∀ (d : Nat) (g : AH),H[d]? = some g → lD l ms x (p + d) = true → ∃ q,fS P o e g = some q ∧ uv v q.1 = true
 | g :: r,p,h,d,g',hg,hn => by
  unfold iC at h
  cases d with
  | zero =>
   injection hg with hg
   subst hg
   rw [Nat.add_zero] at hn
   rw [hn] at h
   have h : ((match fS P o e g with | some q => uv v q.1 | none => false) && iC P o e v l ms x (p + 1) r) = true:=h
   rw [Bool.and_eq_true] at h
   cases hm : fS P o e g with
   | none =>
    rw [hm] at h
    cases h.1
   | some q =>
    rw [hm] at h
    exact ⟨q,rfl,h.1⟩
  | succ d =>
   have h' : iC P o e v l ms x (p + 1) r = true:=by
    cases hc : lD l ms x p with
    | true =>
     rw [hc] at h
     have h : (_ && iC P o e v l ms x (p + 1) r) = true:=h
     rw [Bool.and_eq_true] at h
     exact h.2
    | false =>
     rw [hc] at h
     exact h
   exact nu r (p + 1) h' d g' hg (by rw [show p + 1 + d = p + (d + 1) by omega]; exact hn)
 | [],_,_,_,_,hg,_ => by cases hg
theorem sj {l : List Oper} {a b : Nat} (h : HB l a b = true) : ∀ y,a ≤ y → y < b → y < l.length → cE l y = true:=by
 intro y h1 h2 hl
 have:=List.all_eq_true.1 h y (List.mem_range.2 hl)
 rcases Bool.or_eq_true _ _ ▸ this with h3 | h3
 ·exact h3
 ·rcases Bool.or_eq_true _ _ ▸ h3 with h4 | h4
  ·have : y + 1 ≤ a:=Nat.le_of_ble_eq_true h4
   omega
  ·have:=Nat.le_of_ble_eq_true h4
   omega
theorem pk {t : Nat} {l : List Oper} (h : CV t l = true) : ∀ o ∈ l,o.dst ≠ some t:=fun o ho e => by
 have:=List.all_eq_true.1 h o ho
 rw [e] at this
 have this : (!(Nat.beq t t)) = true:=this
 rw [Nat.beq_refl] at this
 cases this
theorem v7 (hm : P.follows .mixedOrders = true) (hN : bW P = true) (hcf : bw P G cf) (hfn : cr P cf) (hml : bm cf) (hC : gH ops = true) (hok : ops.toList.all (cy nt G) = true) (id : Nat) (ι : bL) (base : Nat) (h : AH) (w : World) (e e' : Tr Value) (h' : AH) (a : Act) (S : St P G nt ι base h w e a) (hv : fk P cf ops e h = some (e',h')) :
  (Code.region id ops true).wp P (fun ex a' w' => ex = .normal ∧ eH P G nt ι base h w e' h' a' w') a w:=by
 obtain ⟨hW,H,hH,hck⟩:=ke hv
 obtain ⟨es,hs,rfl,rfl,g3,rfl,rfl,g6,_,g8⟩:=nq _ hH
 have g8 : ∀ k,k ≤ ops.toList.length → H[k]? = some (hs k):=fun k hk => by
  have:=g8 k hk
  rwa [List.length_nil,Nat.zero_add] at this
 have T : js P cf ops 0 es hs:=⟨fun k _ hk => absurd hk (Nat.not_lt_zero _),fun k o _ hk ho => g3 k o hk ho,hml,fun k hk => by
  obtain rfl : k = 0:=by omega
  exact S.rel.wf⟩
 have hms:=eA ops.toList MB.nil
 have hpl' : rZ P ops:=fun o ho s d x hop => by
  obtain ⟨j,hj⟩:=List.mem_iff_getElem?.1 ho
  have:=lk _ 0 hck j o hj
  unfold lE at this
  rw [hop] at this
  simpa using this
 have hst : ∀ j o,ops.toList[j]? = some o → (eG o || Fb (fj ops.toList j) (((cH ops.toList [])[j]?).getD 0)) = true ∧ ∀ t τ,o.op = .load t (.tmp τ) → CV τ (ops.toList.drop j) = true:=fun j o ho => by
  have:=List.all_eq_true.1 hW j (List.mem_range.2 (List.getElem?_eq_some_iff.1 ho).1)
  unfold uB at this
  rw [ho] at this
  simp only at this
  rw [Bool.and_eq_true] at this
  refine ⟨this.1,fun t τ hop => ?_⟩
  have h2:=this.2
  rw [hop] at h2
  exact h2
 have hst' : ∀ j o,ops.toList[j]? = some o → ∀ t m i ok,o.op = .lookup t m i ok → rG m (ops.toList.drop j) = true ∧ rG i (ops.toList.drop j) = true:=fun j o ho t m i ok hop => by
  have:=List.all_eq_true.1 hW j (List.mem_range.2 (List.getElem?_eq_some_iff.1 ho).1)
  unfold uB at this
  rw [ho] at this
  simp only at this
  rw [Bool.and_eq_true] at this
  have h2:=this.2
  rw [hop] at h2
  rw [← Bool.and_eq_true]
  exact h2
 have hord : ∀ j x,fb ops j → x < j → fb ops x → x ∈ zj ops j:=fun j x hj hx hxl => by
  have hjl:=De hj
  have ho:=List.getElem?_eq_getElem hjl
  have h1:=(hst j _ ho).1
  have hj' : eG _ = false:=(lj ho).symm.trans hj
  rw [hj',Bool.false_or] at h1
  exact hms.2 _ _ (yx h1 (ju _ _ _ hx hxl))
 have nbit : ∀ y x,x ∉ zj ops y → gC (((cH ops.toList [])[y]?).getD 0) x = false:=fun y x hn => by
  cases hb : gC (((cH ops.toList [])[y]?).getD 0) x with
  | false => rfl
  | true => exact absurd (hms.2 _ _ (gJ hb)) hn
 have hsaf : ∀ x o,ops.toList[x]? = some o → ¬ fb ops x → ∀ p,p ≤ ops.toList.length → (∀ y,fb ops y → y ∈ zj ops x → y < p) → (∀ y,y < p → fb ops y → x ∉ zj ops y) → EB P cf es hs ops x p o:=by
  intro x o ho hx p hp h1 h2 hw
  have hxl:=(List.getElem?_eq_some_iff.1 ho).1
  have hxs : eG o = true:=by
   unfold fb at hx
   rw [lj ho] at hx
   simpa using hx
  have hstep:=T.lst x o (Nat.zero_le _) hxl ho
  unfold dq at hstep
  rw [hw] at hstep
  obtain ⟨⟨v,h0⟩,hop,hstep⟩:=Option.bind_eq_some_iff.1 hstep
  obtain ⟨he,_⟩:=Prod.mk.inj (Option.some.inj hstep)
  refine ⟨v,?_,he.symm⟩
  have hxs':=hxs
  unfold eG at hxs'
  rcases Bool.or_eq_true _ _ ▸ hxs' with hf | hld
  ·exact ii hf hop (hs p)
  rcases Bool.or_eq_true _ _ ▸ hld with hcv | hld
  ·unfold zn at hcv
   split at hcv
   ·rename_i s d y hopc
    have:=hpl' o (List.mem_of_getElem? ho) s d y hopc
    rw [hopc] at hop ⊢
    exact se this hop (hs p)
   ·cases hcv
  rw [Bool.and_eq_true] at hld
  have hh0 : h0 = hs x:=pj (fun s d y hc => hpl' o (List.mem_of_getElem? ho) s d y hc) hxs hop
  subst hh0
  have hp0 : ∀ p,p ≤ ops.toList.length → ∃ p0,p0 ≤ p ∧ (p0 = 0 ∨ fb ops (p0 - 1)) ∧ ∀ y,p0 ≤ y → y < p → ¬ fb ops y:=by
   intro p
   induction p with
   | zero => exact fun _ => ⟨0,Nat.le_refl _,.inl rfl,fun y h1 h2 => absurd h2 (Nat.not_lt_zero _)⟩
   | succ p ih =>
    intro hp
    by_cases hl : fb ops p
    ·exact ⟨p + 1,Nat.le_refl _,.inr hl,fun y h1 h2 => by omega⟩
    ·obtain ⟨p0,q1,q2,q3⟩:=ih (by omega)
     refine ⟨p0,by omega,q2,fun y h1 h2 => ?_⟩
     rcases Nat.lt_or_ge y p with h | h
     ·exact q3 y h1 h
     ·obtain rfl : y = p:=by omega
      exact hl
  obtain ⟨p0,q1,q2,q3⟩:=hp0 p hp
  have hpp : hs p = hs p0:=js.chainLe hpl' T q1 hp q3
  rw [hpp]
  cases hn : lD ops.toList (cH ops.toList []) x p0 with
  | false =>
   have hx2 : (HB ops.toList x p0 && HB ops.toList p0 x) = true:=by
    unfold lD at hn
    have e1 : (Nat.beq p0 0 || !(cE ops.toList (p0 - 1))) = true:=by
     rcases q2 with rfl | q2
     ·rfl
     ·rw [show cE ops.toList (p0 - 1) = false from q2,Bool.not_false,Bool.or_true]
    have e2 : uC ops.toList (cH ops.toList []) x p0 = true:=by
     unfold uC
     refine List.all_eq_true.2 fun y hy => ?_
     cases hsy : cE ops.toList y with
     | true => rfl
     | false =>
      rw [Bool.false_or]
      cases hb : Nat.blt y p0 with
      | true =>
       have : y + 1 ≤ p0:=Nat.le_of_ble_eq_true hb
       show (!(gC _ x)) = true
       rw [nbit y x (h2 y (by omega) hsy)]
       rfl
      | false =>
       show (!(gC _ y)) = true
       rw [nbit x y fun hm' => ?_]
       ·rfl
       ·have hyp:=h1 y hsy hm'
        have hy0 : p0 ≤ y:=by
         rcases Nat.lt_or_ge y p0 with hlt | hge
         ·rw [show Nat.blt y p0 = true from Nat.ble_eq_true_of_le hlt] at hb
          cases hb
         ·exact hge
        exact q3 y hy0 hyp hsy
    rw [e1,e2,Bool.true_and,Bool.and_true] at hn
    simpa using hn
   rw [Bool.and_eq_true] at hx2
   have : hs p0 = hs x:=by
    rcases Nat.le_total x p0 with hle | hle
    ·exact js.chainLe hpl' T hle (by omega) fun j h1 h2 h3 => by
      have:=sj hx2.1 j h1 h2 (by omega)
      rw [show cE ops.toList j = false from h3] at this
      cases this
    ·exact (js.chainLe hpl' T hle (by omega) fun j h1 h2 h3 => by
      have:=sj hx2.2 j h1 h2 (by omega)
      rw [show cE ops.toList j = false from h3] at this
      cases this).symm
   rw [this]
   exact hop
  | true =>
   have hc1:=lk _ 0 hck x o ho
   rw [Nat.zero_add] at hc1
   rcases Bool.or_eq_true _ _ ▸ hld.1 with hl | hl
   ·unfold oT at hl
    split at hl
    ·rename_i t τ hopt
     have hwr:=(hst x o ho).2 t τ hopt
     have hev : (es ops.toList.length).get τ = (es x).get τ:=T.envLe (by omega) (Nat.le_refl _) fun j o' hj1 hj2 ho' =>
      pk hwr o' (List.mem_iff_getElem?.2 ⟨j - x,by rw [List.getElem?_drop,show x + (j - x) = j by omega]; exact ho'⟩)
     have hld : ∀ g : AH,bY P cf o.op (es x) g = (cK P t (((es x).get τ).getD undef) g).map fun v => (v,g):=fun g => by
      rw [hopt]
      rfl
     rw [hld] at hop
     obtain ⟨v',hv1,hv2⟩:=Option.map_eq_some_iff.1 hop
     obtain ⟨rfl,_⟩:=Prod.mk.inj hv2
     rw [hld]
     unfold lE at hc1
     rw [hopt] at hc1
     simp only at hc1
     rw [hev] at hc1
     cases hg : (es x).get τ with
     | none => rw [hg] at hv1; cases hv1
     | some y =>
      rw [hg] at hv1 hc1
      simp only [Option.getD_some] at hv1 ⊢
      cases y with
      | pointer ad =>
       cases ad with
       | none => cases hv1
       | some ad =>
        simp only at hc1
        rw [g8 x (by omega)] at hc1
        simp only at hc1
        rw [Bool.and_eq_true] at hc1
        have hk : gE P t ≠ 0:=fun e => by
         rw [e] at hc1
         cases hc1.1
        rw [np hk (nr _ 0 hc1.2 p0 _ (g8 p0 (by omega)) (by rwa [Nat.zero_add])) hv1]
        rfl
      | _ => cases hv1
    ·cases hl
   ·rw [nj hl] at hop ⊢
    have hl':=hl
    unfold oV at hl
    split at hl
    ·rename_i t m i ok hopt
     have hwr:=(hst' x o ho) t m i ok hopt
     have same : ∀ y : Operand,rG y (ops.toList.drop x) = true → ev (es ops.toList.length) y = ev (es x) y:=fun y hy => by
      cases y with
      | tmp τ =>
       have hev : (es ops.toList.length).get τ = (es x).get τ:=T.envLe (by omega) (Nat.le_refl _) fun j o' hj1 hj2 ho' =>
        pk hy o' (List.mem_iff_getElem?.2 ⟨j - x,by rw [List.getElem?_drop,show x + (j - x) = j by omega]; exact ho'⟩)
       show ((es ops.toList.length).get τ).getD undef = ((es x).get τ).getD undef
       rw [hev]
      | _ => rfl
     have hmv : ∀ g : AH,fS P (.lookup t m i ok) (es ops.toList.length) g = fS P (.lookup t m i ok) (es x) g:=fun g => by
      unfold fS
      simp only [same m hwr.1,same i hwr.2]
     rw [hopt] at hop ⊢
     unfold lE at hc1
     rw [hopt] at hc1
     simp only at hc1
     rw [g8 x (by omega)] at hc1
     simp only at hc1
     rw [hmv,hop] at hc1
     simp only at hc1
     obtain ⟨q,g1,g2⟩:=nu _ 0 hc1 p0 _ (g8 p0 (by omega)) (by rwa [Nat.zero_add])
     rw [hmv] at g1
     obtain ⟨qv,qh⟩:=q
     have : qh = hs p0:=pi (cf:=cf) (o:=.lookup t m i ok) rfl (by rw [nj rfl]; exact g1)
     rw [g1,this,uO g2]
    ·cases hl
 have hno : ∀ j,¬ d9 (Array.replicate ops.size false) j:=fun j hj => by
  unfold d9 at hj
  rw [Array.getD_eq_getD_getElem?,Array.getElem?_replicate] at hj
  split at hj <;> cases hj
 refine wp_region_any hm (yw hN hcf hfn hC hok (ι0:=ι) (w0:=w) (base:=base) hpl' T hord hsaf (fun a' w' p => ⟨rfl,p⟩) ops.size 0 (ι:=ι) (by simp) ?_ (fun j hj => absurd hj (hno j)) (Nat.zero_le _) ⟨⟨S.rel.blk,S.rel.esz,S.rel.own,S.rel.gle,S.rel.dis,S.rel.dom,S.rel.new,S.rel.grp,S.rel.bas,S.rel.has,S.rel.map⟩,fun t => .inr ⟨fun j o hj => absurd hj (hno j),S.env t⟩,S.dfr,S.glb,S.siz,fun j hj => absurd hj (hno j),fun j hj => absurd hj (Nat.not_lt_zero _),ej.refl _ _ _,⟨Nat.le_refl _,fun _ _ _ => rfl,rfl,rfl⟩,Nat.le_refl _⟩)
 rw [Array.toList_replicate]
 generalize ops.size = n
 induction n with
 | zero => exact Nat.le_refl _
 | succ n ih =>
  rw [List.replicate_succ]
  exact Nat.succ_le_succ ih
def zy (P : Program) (G nt : Nat) (cf : FuncId → List Value → AH → Option (Value × AH)) (ops : Array Oper) : Prop :=
 ∀ (id : Nat) (ι : bL) (base : Nat) (h : AH) (w : World) (e e' : Tr Value) (h' : AH) (a : Act),St P G nt ι base h w e a → bI P cf ops (fk P cf ops e h) 0 ops.toList e h = some (e',h') →
  (Code.region id ops true).wp P (fun ex a' w' => ex = .normal ∧ eH P G nt ι base h w e' h' a' w') a w
theorem Df (hm : P.follows .mixedOrders = true) (hN : bW P = true) (hcf : bw P G cf) (hfn : cr P cf) (hml : bm cf) (hC : gH ops = true) (hok : ops.toList.all (cy nt G) = true) : zy P G nt cf ops:=by
 intro id ι base h w e e' h' a S hv
 rcases dU _ hv with hv | hv
 ·exact rX hm hN hcf hfn hml hC hok id ι base h w e e' h' a S hv
 ·exact v7 hm hN hcf hfn hml hC hok id ι base h w e e' h' a S hv
variable {P : Program}
theorem km (ρ : Operand → Value) (o : Oper) (af : Array Edge) : execOp ρ { o with after:=af } = execOp ρ o:=by
 obtain ⟨dst,op,ty,pos,a0,g⟩:=o
 cases op <;> rfl
theorem zA {o : Oper} {af : Array Edge} {a : Act} {w : World} {K : Act → World → Prop} {Q : Exit → Act → World → Prop} (h : ({ o with after:=af } : Oper).wp P a w K Q) : o.wp P a w K Q:=by
 unfold Oper.wp at h ⊢
 rw [km] at h
 exact h
theorem uP {o : Oper} {af : Array Edge} {a : Act} {w : World} (h : ({ o with after:=af } : Oper).asks P a w) : o.asks P a w:=by
 unfold Oper.asks at h ⊢
 rw [km] at h
 exact h
structure EC (ops ops' : Array Oper) (π : Nat → Nat) : Prop where
 size : ops'.size = ops.size
 lt : ∀ j,j < ops.size → π j < ops.size
 inj : ∀ i j,i < ops.size → j < ops.size → π i = π j → i = j
 sur : ∀ i,i < ops.size → ∃ j,j < ops.size ∧ π j = i
 op : ∀ j o',ops'[j]? = some o' → ∃ o,ops[π j]? = some o ∧ o' = { o with after:=o'.after } ∧ o.guard = none ∧
  (∀ e ∈ o.after,Region.binds .any e = true → ∃ e' ∈ o'.after,Region.binds .any e' = true ∧ e'.on < ops.size ∧ π e'.on = e.on) ∧
  (∀ e' ∈ o'.after,Region.binds .any e' = true → e'.on < ops.size ∧ ∃ e ∈ o.after,Region.binds .any e = true ∧ e.on = π e'.on)
theorem v8 {l : Array Bool} {i j : Nat} (hi : i < l.size) : d9 (l.setIfInBounds i true) j ↔ (j = i ∨ d9 l j):=by
 unfold d9
 simp only [Array.getD_eq_getD_getElem?,Array.getElem?_setIfInBounds]
 by_cases h : i = j
 ·subst h
  simp [hi]
 ·rw [if_neg h]
  constructor
  ·exact fun q => .inr q
  ·rintro (q | q)
   ·exact absurd q.symm h
   ·exact q
theorem uQ {ops ops' : Array Oper} {Q : Exit → Act → World → Prop} {π : Nat → Nat} (hp : EC ops ops' π) : ∀ (fuel : Nat) (listed listed' : Array Bool) (a : Act) (w : World),listed.size = ops.size → listed'.size = ops.size →
  (∀ j,j < ops.size → (d9 listed' j ↔ d9 listed (π j))) → wpAny P .any ops' Q fuel listed' a w → wpAny P .any ops Q fuel listed a w:=by
 intro fuel
 have rd : ∀ (listed listed' : Array Bool),listed.size = ops.size → listed'.size = ops.size → (∀ j,j < ops.size → (d9 listed' j ↔ d9 listed (π j))) → ∀ j,j < ops.size → (j ∈ Region.ready .any ops' listed' ↔ π j ∈ Region.ready .any ops listed):=by
  intro listed listed' h1 h2 hl j hj
  rw [mem_ready,mem_ready]
  have hj' : j < ops'.size:=by rw [hp.size]; exact hj
  obtain ⟨o,ho,heq,hg,e1,e2⟩:=hp.op j ops'[j] (Array.getElem?_eq_getElem hj')
  constructor
  ·rintro ⟨q1,o',ho',q2⟩
   rw [Array.getElem?_eq_getElem hj'] at ho'
   injection ho' with ho'
   subst ho'
   refine ⟨?_,o,ho,fun e he hb => ?_⟩
   ·have:=(hl j hj)
    unfold d9 at this
    have hd : ∀ (l : Array Bool) (i : Nat),i < l.size → l.getD i true = l.getD i false:=fun l i hi => by simp [Array.getD_eq_getD_getElem?,Array.getElem?_eq_getElem hi]
    rw [hd _ _ (by omega)] at q1
    rw [hd _ _ (by have:=hp.lt j hj; omega)]
    cases hc : listed.getD (π j) false with
    | false => rfl
    | true =>
     rw [this.2 hc] at q1
     cases q1
   ·obtain ⟨e',he',hb',hlt,hπ⟩:=e1 e he hb
    rw [← hπ]
    exact (hl _ hlt).1 (q2 e' he' hb')
  ·rintro ⟨q1,o1,ho1,q2⟩
   rw [ho] at ho1
   injection ho1 with ho1
   subst ho1
   refine ⟨?_,ops'[j],Array.getElem?_eq_getElem hj',fun e' he' hb' => ?_⟩
   ·have:=(hl j hj)
    unfold d9 at this
    have hd : ∀ (l : Array Bool) (i : Nat),i < l.size → l.getD i true = l.getD i false:=fun l i hi => by simp [Array.getD_eq_getD_getElem?,Array.getElem?_eq_getElem hi]
    rw [hd _ _ (by have:=hp.lt j hj; omega)] at q1
    rw [hd _ _ (by omega)]
    cases hc : listed'.getD j false with
    | false => rfl
    | true =>
     rw [this.1 hc] at q1
     cases q1
   ·obtain ⟨hlt,e,he,hb,hπ⟩:=e2 e' he' hb'
    exact (hl _ hlt).2 (hπ ▸ q2 e he hb)
 have nl : ∀ (listed listed' : Array Bool),listed.size = ops.size → listed'.size = ops.size → (∀ j,j < ops.size → (d9 listed' j ↔ d9 listed (π j))) → Region.ready .any ops listed = [] → Region.ready .any ops' listed' = []:=by
  intro listed listed' h1 h2 hl hr
  cases hc : Region.ready .any ops' listed' with
  | nil => rfl
  | cons j r =>
   have hm : j ∈ Region.ready .any ops' listed':=by rw [hc]; exact List.mem_cons_self
   obtain ⟨o,ho,_⟩:=f7 hm
   have hj : j < ops.size:=by
    rw [← hp.size]
    exact (Array.getElem?_eq_some_iff.1 ho).1
   have:=(rd listed listed' h1 h2 hl j hj).1 hm
   rw [hr] at this
   cases this
 induction fuel with
 | zero =>
  intro listed listed' a w h1 h2 hl h
  have h : Region.ready .any ops' listed' = [] ∧ Q .normal a w:=h
  refine ⟨?_,h.2⟩
  cases hc : Region.ready .any ops listed with
  | nil => rfl
  | cons i r =>
   have hm : i ∈ Region.ready .any ops listed:=by rw [hc]; exact List.mem_cons_self
   obtain ⟨o,ho,_⟩:=f7 hm
   obtain ⟨j,hj,rfl⟩:=hp.sur i (Array.getElem?_eq_some_iff.1 ho).1
   have:=(rd listed listed' h1 h2 hl j hj).2 hm
   rw [h.1] at this
   cases this
 | succ fuel ih =>
  intro listed listed' a w h1 h2 hl h
  obtain ⟨q1,q2⟩:=h
  refine ⟨fun hr => q1 (nl listed listed' h1 h2 hl hr),fun i hi => ?_⟩
  obtain ⟨o,ho,_⟩:=f7 hi
  obtain ⟨j,hj,rfl⟩:=hp.sur i (Array.getElem?_eq_some_iff.1 ho).1
  have hj' : j < ops'.size:=by rw [hp.size]; exact hj
  have q:=q2 j ((rd listed listed' h1 h2 hl j hj).2 hi)
  obtain ⟨o1,ho1,heq,hg,_⟩:=hp.op j ops'[j] (Array.getElem?_eq_getElem hj')
  have hk : ∀ a w,wpAny P .any ops' Q fuel (listed'.setIfInBounds j true) a w → wpAny P .any ops Q fuel (listed.setIfInBounds (π j) true) a w:=fun a w hh =>
   ih _ _ a w (by rw [Array.size_setIfInBounds]; exact h1) (by rw [Array.size_setIfInBounds]; exact h2) (fun k hk => by
    rw [v8 (by omega),v8 (by have:=hp.lt j hj; omega),hl k hk]
    constructor
    ·rintro (rfl | q)
     ·exact .inl rfl
     ·exact .inr q
    ·rintro (q | q)
     ·exact .inl (hp.inj _ _ hk hj q)
     ·exact .inr q) hh
  unfold wpOp at q ⊢
  rw [Array.getElem?_eq_getElem hj'] at q
  rw [ho1]
  simp only at q ⊢
  generalize ops'[j] = o' at q heq
  have hw : ∀ y,Region.wanted o1 y = true:=fun y => by
   unfold Region.wanted
   rw [hg]
  have hw' : ∀ y,Region.wanted o' y = true:=fun y => by
   unfold Region.wanted
   rw [heq]
   simp only [hg]
  rw [if_pos (hw' _)] at q
  rw [if_pos (hw _)]
  rw [heq] at q
  rcases q with q | ⟨q,r⟩
  ·exact .inl (Oper.wp_mono hk (zA q))
  ·exact .inr ⟨uP q,r⟩
variable {ι : bL} {base : Nat} {h : AH} {w : World}
theorem bV.late (R : bV ι base h w) {γ : Nat} (hn : ι γ = none) {cells : List Value} {z : Nat} (hb : h.blks.get γ = some ⟨cells,z,γ,false⟩) (hg : h.grps.get γ = none) (hlt : γ < h.next) {ds : Array Value} (hc : aM (bj ι) cells (ds.toList.take cells.length)) {el : TypeId} {fz : Nat × Nat} (hfz : FZ z fz ds.size) {w' : World}
  (hsz : w'.heap.size = w.heap.size + 1) (hold : ∀ i,i < w.heap.size → w'.heap[i]? = w.heap[i]?) (hnew : w'.heap[w.heap.size]? = some (.cells ds el fz)) (hO : w'.os = w.os ∧ w'.output = w.output) {n : Nat} (hnγ : n ≤ γ) :
  ∃ ι' : bL,ι' γ = some ⟨w.heap.size,0,z,ds.size⟩ ∧ (∀ β,β ≠ γ → ι' β = ι β) ∧ bV ι' base h w' ∧ ej n w ι ι' ∧ cv base ι w w':=by
 let ι' : bL:=fun β => if β = γ then some ⟨w.heap.size,0,z,ds.size⟩ else ι β
 have hι1 : ι' γ = some ⟨w.heap.size,0,z,ds.size⟩:=if_pos rfl
 have hι2 : ∀ β,β ≠ γ → ι' β = ι β:=fun β e => if_neg e
 have hsub : gX ι ι':=fun β k e => (hι2 β (fun q => by rw [q,hn] at e; cases e)).trans e
 have one : ∀ {β : Nat} {b : bT},h.blks.get β = some b → β = γ → b = ⟨cells,z,γ,false⟩:=fun {β b} hq e => by
  subst e
  rw [hb] at hq
  injection hq with hq
  exact hq.symm
 refine ⟨ι',hι1,hι2,⟨fun β b k hr hk => ?_,fun β b k hq hk => ?_,fun β b k hq hk hro => ?_,R.gle,fun β β' b b' k k' hr hr' hk hk' hgg hro => ?_,fun β k hk => ?_,R.new,R.grp,Nat.le_trans R.bas (by omega),fun β k hk => ?_,fun β b k hq hk hm => ?_⟩,⟨fun β hβ => hι2 β (by omega),fun β k hk => ?_⟩,by omega,fun b hb _ => hold b hb,hO⟩
 ·by_cases e : β = γ
  ·have hq:=one (aR hr).1 e
   subst e hq
   rw [hι1] at hk
   injection hk with hk
   subst hk
   exact ⟨ds,el,fz,hnew,rfl,fun _ => ⟨hfz,R.bas⟩,ds.toList.take cells.length,rfl,hc.mono fun _ _ => bj.mono hsub⟩
  ·rw [hι2 β e] at hk
   obtain ⟨cs,el',fz,g1,g2,g3,l,g4,g5⟩:=R.blk β b k hr hk
   exact ⟨cs,el',fz,by rw [hold _ (R.dom β k hk).2]; exact g1,g2,g3,l,g4,g5.mono fun _ _ => bj.mono hsub⟩
 ·by_cases e : β = γ
  ·have hq:=one hq e
   subst e hq
   rw [hι1] at hk
   injection hk with hk
   subst hk
   rfl
  ·rw [hι2 β e] at hk
   exact R.esz β b k hq hk
 ·by_cases e : β = γ
  ·subst e
   rw [hι1] at hk
   injection hk with hk
   subst hk
   exact R.bas
  ·rw [hι2 β e] at hk
   exact R.own β b k hq hk hro
 ·by_cases e : β = γ
  ·subst e
   rw [hι1] at hk
   injection hk with hk
   subst hk
   by_cases e' : β' = β
   ·subst e'
    rw [hr] at hr'
    injection hr' with hr'
    exact absurd (congrArg bT.grp hr') hgg
   ·rw [hι2 β' e'] at hk'
    exact fun e => absurd (R.dom β' k' hk').2 (by rw [← e]; exact Nat.lt_irrefl _)
  ·rw [hι2 β e] at hk
   by_cases e' : β' = γ
   ·subst e'
    rw [hι1] at hk'
    injection hk' with hk'
    subst hk'
    exact fun e => absurd (R.dom β k hk).2 (by rw [e]; exact Nat.lt_irrefl _)
   ·rw [hι2 β' e'] at hk'
    exact R.dis β β' b b' k k' hr hr' hk hk' hgg hro
 ·by_cases e : β = γ
  ·subst e
   rw [hι1] at hk
   injection hk with hk
   subst hk
   exact ⟨hlt,by rw [hsz]; exact Nat.lt_succ_self _⟩
  ·rw [hι2 β e] at hk
   obtain ⟨g1,g2⟩:=R.dom β k hk
   exact ⟨g1,by omega⟩
 ·by_cases e : β = γ
  ·subst e
   exact ⟨_,hb⟩
  ·rw [hι2 β e] at hk
   exact R.has β k hk
 ·by_cases e : β = γ
  ·have hq:=one hq e
   subst e hq
   have hm : h.grps.get β = some []:=hm
   rw [hg] at hm
   cases hm
  ·rw [hι2 β e] at hk
   obtain ⟨q1,es,q2,q3⟩:=R.map β b k hq hk hm
   exact ⟨q1,es,by rw [hold _ (R.dom β k hk).2]; exact q2,q3.mono hsub⟩
 ·by_cases e : β = γ
  ·subst e
   rw [hι1] at hk
   injection hk with hk
   subst hk
   exact .inr (Nat.le_refl _)
  ·rw [hι2 β e] at hk
   exact .inl ⟨β,k,hk,rfl⟩
variable {P : Program} {G nt : Nat} {cf : FuncId → List Value → AH → Option (Value × AH)} {ops : Array Oper} {s : Nat} {es : Nat → Tr Value} {hs : Nat → AH}
theorem mh {ι : bL} {base : Nat} {h : AH} {w : World} (R : bV ι base h w) {t el : TypeId} (hd : P.underlying t = some (.slice el)) {s n : Nat} (hs : bv P el = some s) {z : Value} (hz : cU P el = some z) {zs : List Value} (hzs : aJ z = some zs)
  (hc : (Nat.ble (n * s) 16777216 && (Nat.beq zs.length s && (zs.all bq && Nat.ble n 9223372036854775807))) = true) {ps : List (Nat × Value)} {ps' : Array (Nat × Value)} {cs : List Value} (hf : gj (fun i => some (i * s,s)) (ei zs n) ps = some cs)
  (hp : aM (fun (p q : Nat × Value) => p.1 = q.1 ∧ aA ι p.2 q.2) ps ps'.toList) {γ m : Nat} (hn : ι γ = none) (hb : h.blks.get γ = some ⟨cs,s,γ,false⟩) (hg : h.grps.get γ = none) (hlt : γ < h.next) (hm : m ≤ γ) :
  ∃ vc ι' w',(Instr.buildSlice t n ps').run P w = .ok vc w' ∧ aA ι' (.slice (some ⟨γ,0,none⟩) n n) vc ∧ bV ι' base h w' ∧ (∀ β,β ≠ γ → ι' β = ι β) ∧ ej m w ι ι' ∧ cv base ι w w':=by
 simp only [Bool.and_eq_true] at hc
 obtain ⟨c1,c2,c3,c4⟩:=hc
 have c1:=Nat.le_of_ble_eq_true c1
 have c2:=Nat.eq_of_beq_eq_true c2
 have c4:=Nat.le_of_ble_eq_true c4
 have hz1:=mM (n:=n) c2
 have hz2:=mN (n:=n) hzs c2
 obtain ⟨r,hr1,hr2⟩:=fp ps ps'.toList _ _ cs (iI (eo (ι:=ι) c3) n) hp hf
 obtain ⟨ι',h5,h6,h1,h2,h3⟩:=R.late hn hb hg hlt (ds:=r) (by rw [hr2.length_eq,List.take_length]; exact hr2) (el:=el) (FZ.zero _ _) (w':={ w with heap:=w.heap.push (.cells r el) }) (by show (w.heap.push _).size = _; rw [Array.size_push]) (fun i hi => by show (w.heap.push _)[i]? = _; rw [Array.getElem?_push,if_neg (Nat.ne_of_lt hi)]) (by show (w.heap.push _)[w.heap.size]? = _; rw [Array.getElem?_push,if_pos rfl]) ⟨rfl,rfl⟩ hm
 refine ⟨_,ι',_,?_,dI (h:={ blks:=.nil,grps:=.nil,next:=γ,low:=0 }) (w0:=w) h5 (Nat.le_refl n) (.inl ⟨by unfold aG; omega,rfl⟩),h1,h6,h2,h3⟩
 have hng : ¬ (n * s > 2 ^ 24):=by omega
 by_cases h0 : n * s = 0
 ·simp only [Instr.buildSlice,Sem.run_bind,run_underlying hd,Result.andThen_ok,bG hs,if_neg hng,if_pos h0,Sem.run_pure,hz1 h0,hr1]
  simp [newRow]
 ·simp only [Instr.buildSlice,Sem.run_bind,run_underlying hd,Result.andThen_ok,bG hs,if_neg hng,if_neg h0,d7 hz,Sem.run_pure,hz2,hr1]
  simp [newRow]
def IN : List Value → List Value → Bool
 | [],[] => true
 | x :: l,y :: r => uv x y && IN l r
 | _,_ => false
theorem zB : ∀ {l r : List Value},IN l r = true → l = r
 | [],[],_ => rfl
 | x :: l,y :: r,h => by
  unfold IN at h
  rw [Bool.and_eq_true] at h
  rw [uO h.1,zB h.2]
 | [],_ :: _,h => by cases h
 | _ :: _,[],h => by cases h
def zC (h h1 : AH) (γ : Nat) : Bool:=match h.blks.get γ,h1.blks.get γ with
 | some b,some b1 => IN b.cells b1.cells && (Nat.beq b.esz b1.esz && (Nat.beq b.grp b1.grp && (!b1.ro && (h1.grps.get γ).isNone)))
 | _,_ => false
theorem uR {h h1 : AH} {γ : Nat} (hs : zC h h1 γ = true) {b : bT} (hb : h.blks.get γ = some b) (hro : b.ro = false) : h1.blks.get γ = some b ∧ h1.grps.get γ = none:=by
 unfold zC at hs
 rw [hb] at hs
 cases h2 : h1.blks.get γ with
 | none =>
  rw [h2] at hs
  cases hs
 | some b1 =>
  rw [h2] at hs
  simp only [Bool.and_eq_true] at hs
  obtain ⟨q1,q2,q3,q4,q5⟩:=hs
  obtain ⟨c,z,g,ro⟩:=b
  obtain ⟨c1,z1,g1,ro1⟩:=b1
  have r1 : c = c1:=zB q1
  have r2 : z = z1:=Nat.eq_of_beq_eq_true q2
  have r3 : g = g1:=Nat.eq_of_beq_eq_true q3
  have r4 : ro1 = false:=by simpa using q4
  have r5 : ro = false:=hro
  subst r1 r2 r3 r4 r5
  exact ⟨rfl,Option.isNone_iff_eq_none.1 q5⟩
def zD (P : Program) (l : List Oper) (s : Nat) (e : Tr Value) (h h1 : AH) (m x : Nat) : Bool:=gC m x || (match l[x]? with
 | some o => dG o.op || (o.guard.isNone && (match o.op with
  | .load t (.tmp τ) => Ez τ s x (l.drop x) && (match e.get τ with
   | some (.pointer (some a)) => !(Nat.beq (gE P t) 0) && cF h h1 a (gE P t)
   | _ => false)
  | .buildSlice _ _ _ => (match o.dst with
   | some d => (match e.get d with
    | some (.slice (some a) _ _) => zC h h1 a.block
    | _ => false)
   | none => false)
  | _ => false))
 | none => false)
def v9 (P : Program) (l : List Oper) (s : Nat) (e : Tr Value) (h h1 : AH) : Bool :=
 j0 (eF l s) (s + 1) 0 (cH l []) && (List.range s).all (zD P l s e h h1 (((cH l [])[s]?).getD 0))
theorem zE {h h' : AH} (H : WF h) (S : f4 h h') {β : Nat} {b : bT} (hr : h.rd β = some b) : h'.rd β = some b:=by
 obtain ⟨q1,q2⟩:=aR hr
 have hb:=H.lt q1
 have hg:=H.gle β b q1
 refine dp ((S.old β hb).1.trans q1) ?_
 unfold AH.members at q2 ⊢
 rw [(S.old b.grp (by omega)).2]
 exact q2
theorem yy (hC : eJ ops.toList = true) (T : js P cf ops s es hs) (hsm : ∀ x,x ≤ s → f4 (hs x) (hs s)) {base : Nat} (hsl : s < ops.toList.length) (hF : v9 P ops.toList s (es s) (hs s) (hs (s + 1)) = true) : nb P cf G base ops s es hs:=by
 unfold v9 at hF
 rw [Bool.and_eq_true] at hF
 obtain ⟨hA,hX⟩:=hF
 have hm:=eA ops.toList MB.nil
 have hl : (dj ops.toList []).length = ops.toList.length:=eK ops.toList []
 intro j hsj hj x hx
 rcases Nat.lt_or_ge s j with hlt | hge
 ·rcases hZ _ _ _ 0 hA j (by rw [hm.1,hl]; exact hj) (by omega) x (by omega) with h1 | h1
  ·exact .inl (hm.2 j x h1)
  ·obtain ⟨q1,o,q2,q3⟩:=d8 _ _ _ h1
   exact .inr ⟨q1,o,q2,.inl q3⟩
 ·obtain rfl : j = s:=by omega
  have hx1:=List.all_eq_true.1 hX x (List.mem_range.2 hx)
  unfold zD at hx1
  rcases Bool.or_eq_true _ _ ▸ hx1 with h1 | h1
  ·exact .inl (hm.2 j x (gJ h1))
  have ho : ops.toList[x]? = some (ops.toList[x]'(by omega)):=List.getElem?_eq_getElem (by omega)
  generalize ops.toList[x]'(by omega) = o at ho
  rw [ho] at h1
  simp only at h1
  rcases Bool.or_eq_true _ _ ▸ h1 with h1 | h1
  ·exact .inr ⟨hx,o,ho,.inl h1⟩
  rw [Bool.and_eq_true] at h1
  obtain ⟨hg,h1⟩:=h1
  have hg:=Option.isNone_iff_eq_none.1 hg
  refine .inr ⟨hx,o,ho,.inr ⟨rfl,?_⟩⟩
  have hw : ∀ e,aY ops o e = true:=fun e => by
   unfold aY
   rw [hg]
  have hst:=T.fst x o hx ho
  unfold eI at hst
  rw [hw] at hst
  obtain ⟨odst,oop,oty,opos,oaf,ogd⟩:=o
  simp only at h1 hg
  cases oop with
  | load t ad =>
   cases ad with
   | tmp τ =>
    simp only at h1
    rw [Bool.and_eq_true] at h1
    obtain ⟨hnw,h1⟩:=h1
    have he : (es j).get τ = (es x).get τ:=T.envLe (by omega) (by omega) fun k o' hk1 hk2 ho' =>
     nf _ _ hnw (k - x) o' (by rw [List.getElem?_drop,show x + (k - x) = k by omega]; exact ho') (by omega)
    rw [he] at h1
    have hst : ((bY P cf (.load t (.tmp τ)) (es x) (hs x)).bind fun p => some (aZ (es x) odst p.1,p.2)) = some (es (x + 1),hs (x + 1)):=hst
    obtain ⟨⟨v,h2⟩,hp,hst⟩:=Option.bind_eq_some_iff.1 hst
    obtain ⟨he1,he2⟩:=Prod.mk.inj (Option.some.inj hst)
    have hp' : ((cK P t (((es x).get τ).getD undef) (hs x)).map fun v => (v,hs x)) = some (v,h2):=hp
    obtain ⟨v',hv',hp2⟩:=Option.map_eq_some_iff.1 hp'
    obtain ⟨rfl,rfl⟩:=Prod.mk.inj hp2
    split at h1
    ·rename_i a ha
     rw [Bool.and_eq_true] at h1
     obtain ⟨hk,hsc⟩:=h1
     have hk : gE P t ≠ 0:=fun e => by rw [e] at hk; cases hk
     rw [ha] at hv'
     have hv' : cK P t (.pointer (some a)) (hs x) = some v':=hv'
     have hv1 : cK P t (.pointer (some a)) (hs j) = some v':=nh hv' fun b hb => zE (T.wf0 x (by omega)) (hsm x (by omega)) hb
     have hv2:=np hk hsc hv1
     refine .inl fun p hp _ => ⟨v',?_,he1.symm⟩
     show ((cK P t (((es x).get τ).getD undef) (hs p)).map fun v => (v,hs p)) = _
     rw [ha]
     have hvp : cK P t (.pointer (some a)) (hs p) = some v':=by
      rcases hp with hp | hp
      ·rw [hp]
       exact hv1
      ·rw [hp]
       exact hv2
     show ((cK P t (.pointer (some a)) (hs p)).map _) = _
     rw [hvp]
     rfl
    ·cases h1
   | const v => cases h1
   | global g => cases h1
   | func f => cases h1
  | buildSlice t n ps =>
   simp only at h1
   cases odst with
   | none => cases h1
   | some d =>
    simp only at h1
    have hst : ((bY P cf (.buildSlice t n ps) (es x) (hs x)).bind fun p => some (aZ (es x) (some d) p.1,p.2)) = some (es (x + 1),hs (x + 1)):=hst
    obtain ⟨⟨v,h2⟩,hp,hst⟩:=Option.bind_eq_some_iff.1 hst
    obtain ⟨he1,he2⟩:=Prod.mk.inj (Option.some.inj hst)
    have hp : ((P.underlying t).bind fun d => match d with
     | .slice el => (bv P el).bind fun s => (cU P el).bind fun z => (aJ z).bind fun zs => cond (Nat.ble (n * s) 16777216 && (Nat.beq zs.length s && (zs.all bq && Nat.ble n 9223372036854775807)))
       ((gj (fun i => some (i * s,s)) (ei zs n) (ps.toList.map fun p => (p.1,ev (es x) p.2))).map fun cs => (Value.slice (some ⟨(hs x).next,0,none⟩) n n,((hs x).new cs s).2)) none
     | _ => none) = some (v,h2):=hp
    obtain ⟨dd,hd,hp⟩:=Option.bind_eq_some_iff.1 hp
    cases dd with
    | slice el =>
     obtain ⟨sz,hsz,hp⟩:=Option.bind_eq_some_iff.1 hp
     obtain ⟨z,hz,hp⟩:=Option.bind_eq_some_iff.1 hp
     obtain ⟨zs,hzs,hp⟩:=Option.bind_eq_some_iff.1 hp
     obtain ⟨hc,hp⟩:=ah hp
     obtain ⟨cs,hcs,hp⟩:=Option.map_eq_some_iff.1 hp
     obtain ⟨rfl,rfl⟩:=Prod.mk.inj hp
     have hval : (es j).get d = some (.slice (some ⟨(hs x).next,0,none⟩) n n):=by
      have e1 : (es (x + 1)).get d = some (.slice (some ⟨(hs x).next,0,none⟩) n n):=by
       rw [← he1]
       show ((es x).set d _).get d = _
       rw [Tr.get_set,if_pos rfl]
      rw [← e1]
      refine T.envLe (by omega) (by omega) fun k o' hk1 hk2 ho' hdd => ?_
      have:=uM hC x k _ o' d ho ho' rfl hdd
      omega
     rw [hval] at h1
     simp only at h1
     have hx2 : hs (x + 1) = ((hs x).new cs sz).2:=he2.symm
     have wfx : WF (hs x):=T.wf0 x (by omega)
     have hnx : (hs (x + 1)).next = (hs x).next + 1:=by rw [hx2]; rfl
     have hbx : (hs (x + 1)).blks.get (hs x).next = some ⟨cs,sz,(hs x).next,false⟩:=by
      rw [hx2]
      show ((hs x).blks.set (hs x).next _).get (hs x).next = _
      rw [Tr.get_set,if_pos rfl]
     have hgx : (hs (x + 1)).grps.get (hs x).next = none:=by
      rw [hx2]
      exact (wfx.new _ (Nat.le_refl _)).2
     have hsame:=hsm (x + 1) (by omega)
     obtain ⟨o1,o2⟩:=hsame.old (hs x).next (by omega)
     have hb0:=o1.trans hbx
     have hg0:=o2.trans hgx
     obtain ⟨hb1,hg1⟩:=uR h1 hb0 rfl
     have hn0 : (hs x).next < (hs j).next:=by
      have:=hsame.nxt
      omega
     have hn1 : (hs j).next ≤ (hs (j + 1)).next:=T.nx j _ (Nat.le_refl _) hsl (List.getElem?_eq_getElem hsl)
     have h0x : (hs 0).next ≤ (hs x).next:=by
      have chain : ∀ k,k ≤ j → (hs 0).next ≤ (hs k).next:=fun k => by
       induction k with
       | zero => exact fun _ => Nat.le_refl _
       | succ k ih =>
        intro hk
        have:=ih (by omega)
        have hk2:=f5 T.mld (T.wf0 k (by omega)) (T.fst k _ (by omega) (List.getElem?_eq_getElem (by omega)))
        have:=hk2.2.2.nxt
        omega
      exact chain x (by omega)
     refine .inr ⟨hw _,_,he1.symm,fun p hp ι w a R _ hops hι next Q hn => ?_⟩
     have hB : (hs p).blks.get (hs x).next = some ⟨cs,sz,(hs x).next,false⟩ ∧ (hs p).grps.get (hs x).next = none ∧ (hs x).next < (hs p).next:=by
      rcases hp with hp | hp
      ·rw [hp]
       exact ⟨hb0,hg0,hn0⟩
      ·rw [hp]
       exact ⟨hb1,hg1,by omega⟩
     obtain ⟨vc,ι',w',r1,r2,r3,r4,r5,r6⟩:=mh R hd hsz hz hzs hc hcs (ps':=ps.map fun p => (p.1,a.eval p.2)) (by
      rw [Array.toList_map]
      refine jc _ fun p hp => hops p.2 ?_
      simp only [Op.operands,List.mem_map]
      exact ⟨p,hp,rfl⟩) (hι _ (Nat.le_refl _) (by omega)) hB.1 hB.2.1 hB.2.2 h0x
     have hsub : gX ι ι':=fun β k e => (r4 β (fun q => by
      rw [q,hι _ (Nat.le_refl _) (by omega)] at e
      cases e)).trans e
     refine dR (v:=vc) (w':=w') ?_ (hn vc ι' w' r2 r3 hsub r5 (fun β => ?_) r6)
     ·show (do pure (Next.value (← Instr.buildSlice t n (ps.map fun p => (p.1,a.eval p.2)))) : Sem Next).run P w = _
      simp [r1]
     ·by_cases e : β = (hs x).next
      ·exact .inr (by omega)
      ·exact .inl (r4 β e)
    | _ => cases hp
  | _ => cases h1
theorem yz (hN : bW P = true) (hcf : bw P G cf) (hfn : cr P cf) (hC : eJ ops.toList = true) (hok : ops.toList.all (cy nt G) = true) {base : Nat} {Q : Exit → Act → World → Prop} (T : rD P cf ops s es hs) (ht : ∀ ES HS,js P cf ops s ES HS → (∀ x,x ≤ s → f4 (HS x) (HS s)) → (∀ x,x ≤ s → WF (HS x)) → ES s = es s → HS s = hs s → nb P cf G base ops s ES HS)
  {e' : Tr Value} {h' : AH} (hv : cz P cf ops (ops.toList.drop s) (es s) (hs s) = some (e',h')) {ι0 : bL} {w0 : World} (hq : ∀ a' w',eH P G nt ι0 base (hs 0) w0 e' h' a' w' → Q .normal a' w') :
  ∀ (fuel : Nat) {listed : Array Bool} {ι : bL} {w : World} {a : Act},listed.size = ops.size → vW listed.toList ≤ fuel → yv ops listed → vY G nt ops s es hs base ι0 w0 listed ι a w → wpAny P .any ops Q fuel listed a w:=by
 intro fuel
 obtain ⟨es2,hs2,g1,g2,g3,g4⟩:=jK _ hv
 let ES : Nat → Tr Value:=fun j => if j ≤ s then es j else es2 (j - s)
 let HS : Nat → AH:=fun j => if j ≤ s then hs j else hs2 (j - s)
 have hsl:=T.len
 have eS : ∀ j,j ≤ s → ES j = es j ∧ HS j = hs j:=fun j hj => ⟨if_pos hj,if_pos hj⟩
 have eT : ∀ d,ES (s + d) = es2 d ∧ HS (s + d) = hs2 d:=fun d => by
  rcases Nat.eq_zero_or_pos d with rfl | hd
  ·exact ⟨(eS s (Nat.le_refl _)).1.trans g1.symm,(eS s (Nat.le_refl _)).2.trans g2.symm⟩
  ·refine ⟨(if_neg (by omega)).trans ?_,(if_neg (by omega)).trans ?_⟩ <;> rw [Nat.add_sub_cancel_left]
 have hdl : (ops.toList.drop s).length = ops.toList.length - s:=List.length_drop
 have TT : js P cf ops s ES HS:=⟨fun k o hk ho => by
   rw [(eS k (by omega)).1,(eS k (by omega)).2,(eS (k + 1) (by omega)).1,(eS (k + 1) (by omega)).2]
   exact T.stp k o hk ho,fun k o hk hkl ho => by
   have:=g3 (k - s) o (by rw [hdl]; omega) (by rw [List.getElem?_drop,show s + (k - s) = k by omega]; exact ho)
   rw [← (eT (k - s)).1,← (eT (k - s)).2,← (eT (k - s + 1)).1,← (eT (k - s + 1)).2,show s + (k - s) = k by omega,show s + (k - s + 1) = k + 1 by omega] at this
   exact this,T.mld,fun k hk => by
   rw [(eS k hk).2]
   exact T.wf k hk⟩
 have hee : (e',h') = (ES ops.toList.length,HS ops.toList.length):=by
  rw [g4,hdl]
  have:=eT (ops.toList.length - s)
  rw [show s + (ops.toList.length - s) = ops.toList.length by omega] at this
  rw [this.1,this.2]
 obtain ⟨he1,he2⟩:=Prod.mk.inj hee
 have hTP : nb P cf G base ops s ES HS:=by
  refine ht ES HS TT (fun x hx => ?_) (fun x hx => ?_) (eS s (Nat.le_refl _)).1 (eS s (Nat.le_refl _)).2
  ·rw [(eS x hx).2,(eS s (Nat.le_refl _)).2]
   exact T.sameLe hx (Nat.le_refl _)
  ·rw [(eS x hx).2]
   exact T.wf x hx
 have full : ∀ (fuel : Nat) {listed : Array Bool} {ι : bL} {w : World} {a : Act},listed.size = ops.size → vW listed.toList ≤ fuel → yv ops listed → vY G nt ops s es hs base ι0 w0 listed ι a w → (∀ j o,j < s → ops.toList[j]? = some o → d9 listed j ∨ dG o.op = true ∨ (Dd P cf ops s ES HS j o ∨ HC P G base ops s ES HS j o)) → wpAny P .any ops Q fuel listed a w:=by
  intro fuel listed ι w a hz hc hcl I hall
  refine rW hN hcf hfn hC hok (ι0:=ι0) (w0:=w0) (base:=base) TT hTP (fun a' w' p => hq a' w' ?_) fuel s (ι:=jm (hs s).next ι) hz hc hcl (Nat.le_refl _) hsl ⟨?_,fun t => ?_,I.dfr,I.glb.mono (e9 (T.sameLe (Nat.zero_le _) (Nat.le_refl _)).nxt ι),I.siz,I.low,fun j o hj ho hnl => ⟨hj,(hall j o hj ho).resolve_left hnl |>.imp_right fun q => ⟨.inl rfl,q⟩⟩,?_,I.kep,?_,Nat.le_refl _,fun j hj => ?_,fun j hj hnl β h1 h2 => ?_⟩
  ·rw [he1,he2,← (eS 0 (Nat.zero_le _)).2]
   exact p
  ·rw [(eS s (Nat.le_refl _)).2]
   exact I.rel s (Nat.le_refl _)
  ·rcases I.tmp t with ⟨j,o',hj,hl,ho',hd,hv'⟩ | ⟨hno,hv'⟩
   ·refine .inl ⟨j,o',hl,ho',hd,?_⟩
    rw [(eS (j + 1) (by omega)).1]
    exact hv'.mono (e9 (T.sameLe (by omega) (Nat.le_refl _)).nxt ι)
   ·refine .inr ⟨hno,?_⟩
    rw [(eS 0 (by omega)).1]
    exact hv'.mono (e9 (T.sameLe (Nat.zero_le _) (Nat.le_refl _)).nxt ι)
  ·rw [(eS 0 (by omega)).2]
   have n0:=(T.sameLe (Nat.zero_le s) (Nat.le_refl _)).nxt
   refine ⟨fun β hb => ?_,fun β k e => I.ext.img β k (cZ e).2⟩
   show (if β < (hs s).next then ι β else none) = _
   rw [if_pos (by omega)]
   exact I.ext.old β hb
  ·rw [(eS 0 (by omega)).2,(eS s (Nat.le_refl _)).2]
   exact (T.sameLe (Nat.zero_le s) (Nat.le_refl _)).nxt
  ·rw [(eS j (by omega)).2,(eS (j + 1) (by omega)).2,(eS s (Nat.le_refl _)).2]
   exact ⟨(T.sameLe (Nat.le_succ j) (by omega)).nxt,(T.sameLe (by omega) (Nat.le_refl _)).nxt⟩
  ·rw [(eS j (by omega)).2] at h1
   rw [(eS (j + 1) (by omega)).2] at h2
   cases hx : jm (hs s).next ι β with
   | none => rfl
   | some q =>
    exfalso
    rcases I.dom β q (cZ hx).2 with h3 | ⟨i,hi,hl,h3,h4⟩
    ·have:=(T.sameLe (Nat.zero_le j) (by omega : j ≤ s)).nxt
     omega
    ·rcases Nat.lt_trichotomy i j with h | h | h
     ·have:=(T.sameLe (show i + 1 ≤ j by omega) (by omega)).nxt
      omega
     ·exact hnl (h ▸ hl)
     ·have:=(T.sameLe (show j + 1 ≤ i by omega) (by omega)).nxt
      omega
 rw [Array.length_toList] at hsl
 induction fuel with
 | zero =>
  intro listed ι w a hz hc hcl I
  exact full 0 hz hc hcl I fun j o hj _ => .inl (mq hz (by omega) j (by omega))
 | succ fuel ih =>
  intro listed ι w a hz hc hcl I
  refine ⟨fun hr => (full (fuel + 1) hz hc hcl I fun j o hj _ => .inl (ib hz (Dc hC) hr j (by omega))).1 hr,fun i hi => ?_⟩
  rcases Nat.lt_or_ge i s with his | his
  ·refine I.step hN hcf hfn T hC hok hcl hi his fun ι' a' w' I' => ih (by rw [Array.size_setIfInBounds]; exact hz) (ga hi hc) (f9 hcl hi) I'
  ·refine (full (fuel + 1) hz hc hcl I fun j o hj ho => ?_).2 i hi
   obtain ⟨hsz,hnl⟩:=cB hi
   rcases hTP i his (by rw [Array.length_toList]; omega) j (by omega) with h1 | ⟨_,o2,h1,h2⟩
   ·exact .inl (dJ hcl hi j h1)
   ·rw [ho] at h1
    injection h1 with h1
    subst h1
    exact .inr (h2.imp_right fun q => q.2)
variable {P : Program} {G nt : Nat} {cf : FuncId → List Value → AH → Option (Value × AH)}
def nv (P : Program) (cf : FuncId → List Value → AH → Option (Value × AH)) (ops : Array Oper) : Nat → List Oper → Tr Value → AH → Option (Tr Value × AH)
 | _,[],e,h => some (e,h)
 | i,o :: r,e,h => match eI P cf ops o e h with
  | some p => nv P cf ops (i + 1) r p.1 p.2
  | none => (bY P cf o.op e h).bind fun q => cond (aY ops o e && v9 P ops.toList i e h q.2) (cz P cf ops (o :: r) e h) none
theorem lO {ops : Array Oper} : ∀ (l : List Oper) {i : Nat} {e : Tr Value} {h : AH} {r : Tr Value × AH},nv P cf ops i l e h = some r →
  ∃ (s : Nat) (es : Nat → Tr Value) (hs : Nat → AH),s ≤ l.length ∧ es 0 = e ∧ hs 0 = h ∧ (∀ (k : Nat) (o : Oper),k < s → l[k]? = some o → eI P cf ops o (es k) (hs k) = some (es (k + 1),hs (k + 1))) ∧
   cz P cf ops (l.drop s) (es s) (hs s) = some r ∧ (s = l.length ∨ ∃ o q,l[s]? = some o ∧ bY P cf o.op (es s) (hs s) = some q ∧ aY ops o (es s) = true ∧ v9 P ops.toList (i + s) (es s) (hs s) q.2 = true)
 | [],i,e,h,r,hv => by
  injection hv with hv
  subst hv
  exact ⟨0,fun _ => e,fun _ => h,Nat.le_refl _,rfl,rfl,fun k _ hk => absurd hk (Nat.not_lt_zero _),rfl,.inl rfl⟩
 | o :: l,i,e,h,r,hv => by
  unfold nv at hv
  split at hv
  ·rename_i p hp
   obtain ⟨e1,h1⟩:=p
   obtain ⟨s,es,hs,g1,g2,g3,g4,g5,g6⟩:=lO l hv
   refine ⟨s + 1,fun k => match k with | 0 => e | k + 1 => es k,fun k => match k with | 0 => h | k + 1 => hs k,Nat.succ_le_succ g1,rfl,rfl,fun k o' hk ho' => ?_,g5,?_⟩
   ·cases k with
    | zero =>
     injection ho' with ho'
     subst ho'
     show eI P cf ops o e h = some (es 0,hs 0)
     rw [g2,g3]
     exact hp
    | succ k => exact g4 k o' (Nat.lt_of_succ_lt_succ hk) ho'
   ·rcases g6 with g6 | ⟨o',q,g6,g7,g8,g9⟩
    ·exact .inl (congrArg Nat.succ g6)
    ·refine .inr ⟨o',q,g6,g7,g8,?_⟩
     rw [show i + (s + 1) = i + 1 + s by omega]
     exact g9
  ·obtain ⟨q,hq,hv⟩:=Option.bind_eq_some_iff.1 hv
   obtain ⟨hc,hv⟩:=ah hv
   rw [Bool.and_eq_true] at hc
   exact ⟨0,fun _ => e,fun _ => h,Nat.zero_le _,rfl,rfl,fun k _ hk => absurd hk (Nat.not_lt_zero _),hv,.inr ⟨o,q,rfl,hq,hc.1,hc.2⟩⟩
theorem nw (hcf : bm cf) {ops : Array Oper} : ∀ (l : List Oper) {i : Nat} {e : Tr Value} {h : AH} {r : Tr Value × AH},WF h → nv P cf ops i l e h = some r → bH h r.2
 | [],i,e,h,r,H,hv => by
  injection hv with hv
  subst hv
  exact .refl H
 | o :: l,i,e,h,r,H,hv => by
  unfold nv at hv
  split at hv
  ·rename_i p hp
   have M:=(f5 hcf H hp).1
   exact M.trans (nw hcf l M.wf hv)
  ·obtain ⟨q,hq,hv⟩:=Option.bind_eq_some_iff.1 hv
   obtain ⟨hc,hv⟩:=ah hv
   exact ew hcf _ H hv
theorem yA (hN : bW P = true) (hcf : bw P G cf) (hfn : cr P cf) (hml : bm cf) {ops : Array Oper} (hC : gH ops = true) (hok : ops.toList.all (cy nt G) = true) (ι : bL) (base : Nat) (h : AH) (w : World) (e e' : Tr Value) (h' : AH) (a : Act) (S : St P G nt ι base h w e a) (hv : nv P cf ops 0 ops.toList e h = some (e',h'))
  {Q : Exit → Act → World → Prop} (hq : ∀ a' w',eH P G nt ι base h w e' h' a' w' → Q .normal a' w') : wpAny P .any ops Q ops.size (Array.replicate ops.size false) a { w with drawn:=w.drawn + 1 }:=by
 obtain ⟨s,es,hs,g1,rfl,rfl,g4,g5,g6⟩:=lO _ hv
 rw [Nat.zero_add] at g6
 have T : rD P cf ops s es hs:=⟨hml,S.rel.wf,g1,g4⟩
 have ht : ∀ ES HS,js P cf ops s ES HS → (∀ x,x ≤ s → f4 (HS x) (HS s)) → (∀ x,x ≤ s → WF (HS x)) → ES s = es s → HS s = hs s → nb P cf G base ops s ES HS:=by
  intro ES HS TT hsm hwf hE hH
  rcases g6 with g6 | ⟨o,q,g6,g7,g8,g9⟩
  ·intro j hsj hj
   omega
  ·have hsl:=(List.getElem?_eq_some_iff.1 g6).1
   refine yy hC TT hsm hsl ?_
   have hst:=TT.lst s o (Nat.le_refl _) hsl g6
   unfold dq at hst
   rw [hE,g8] at hst
   obtain ⟨⟨v,h1⟩,hp,hst⟩:=Option.bind_eq_some_iff.1 hst
   obtain ⟨_,h3⟩:=Prod.mk.inj (Option.some.inj hst)
   rw [hH,g7] at hp
   injection hp with hp
   have h3 : h1 = HS (s + 1):=h3
   rw [hE,hH,← h3]
   have : q.2 = h1:=by rw [hp]
   rw [← this]
   exact g9
 have hno : ∀ j,¬ d9 (Array.replicate ops.size false) j:=fun j hj => by
  unfold d9 at hj
  rw [Array.getD_eq_getD_getElem?,Array.getElem?_replicate] at hj
  split at hj <;> cases hj
 have hd:=fun β k (e : ι β = some k) => (S.rel.dom β k e).1
 refine yz hN hcf hfn hC hok (ι0:=ι) (w0:=w) (base:=base) T ht g5 hq ops.size (ι:=ι) (by simp) ?_ (fun j hj => absurd hj (hno j)) ⟨?_,?_,?_,S.dfr,?_,S.siz,fun j hj => absurd hj (hno j),ej.refl _ _ _,⟨Nat.le_refl _,fun _ _ _ => rfl,rfl,rfl⟩⟩
 ·rw [Array.toList_replicate]
  generalize ops.size = n
  induction n with
  | zero => exact Nat.le_refl _
  | succ n ih =>
   rw [List.replicate_succ]
   exact Nat.succ_le_succ ih
 ·intro k hk
  have M:=T.sameLe (Nat.zero_le k) hk
  have e : jm (hs k).next ι = ι:=funext fun β => by
   unfold jm
   split
   ·rfl
   ·rename_i hn
    cases hb : ι β with
    | none => rfl
    | some q =>
     have:=hd β q hb
     have:=M.nxt
     omega
  rw [e]
  have R':=S.rel.up M
  exact ⟨R'.blk,R'.esz,R'.own,R'.gle,R'.dis,R'.dom,R'.new,R'.grp,R'.bas,R'.has,R'.map⟩
 ·exact fun β q hb => .inl (hd β q hb)
 ·exact fun t => .inr ⟨fun j o hj => absurd hj (hno j),(S.env t).mono fun β q hb => ie (hd β q hb) hb⟩
 ·exact S.glb.mono fun β q hb => ie (hd β q hb) hb
def HD (o : Oper) : Bool:=match o.op with
 | .call c => match c.callee with
  | .builtin _ => !(dX o.op)
  | _ => false
 | _ => !(dX o.op)
def zF (l : List Oper) (x : Nat) : Bool:=match l[x]? with
 | some o => HD o
 | none => true
def qC (l : List Oper) : Nat → Nat
 | 0 => 0
 | n + 1 => cond (zF l n) (Nat.lor (Nat.shiftLeft 1 n) (qC l n)) (qC l n)
def zG (l : List Oper) (ms : List Nat) (lm x : Nat) : Bool:=!(zF l x) && Nat.beq (Nat.land ((ms[x]?).getD 0) lm) 0
def sk (l : List Oper) : List Nat:=(List.range l.length).filter (zG l (cH l []) (qC l l.length)) ++ (List.range l.length).filter fun x => !(zG l (cH l []) (qC l l.length) x)
def qD : List Nat → Nat → Nat
 | [],_ => 0
 | y :: r,x => cond (Nat.beq x y) 0 (Nat.succ (qD r x))
def zH (π : List Nat) (e : Edge) : Edge:={ e with on:=qD π e.on }
def uS (π : List Nat) (o : Oper) : Oper:={ o with after:=o.after.map (zH π) }
def lP (ops : Array Oper) (π : List Nat) : Array Oper:=(π.map fun i => uS π ((ops.toList[i]?).getD default)).toArray
def πf (π : List Nat) (j : Nat) : Nat:=(π[j]?).getD 0
def zI (ops : Array Oper) (π : List Nat) : Bool:=Nat.beq π.length ops.size && (((List.range ops.size).all fun j => Nat.blt (πf π j) ops.size && Nat.beq (qD π (πf π j)) j) && (((List.range ops.size).all fun i => Nat.blt (qD π i) ops.size && Nat.beq (πf π (qD π i)) i) &&
 ops.toList.all fun o => o.guard.isNone && o.after.toList.all fun e => Nat.blt e.on ops.size))
theorem uT {ops : Array Oper} {π : List Nat} (h : zI ops π = true) : EC ops (lP ops π) (πf π):=by
 unfold zI at h
 rw [Bool.and_eq_true,Bool.and_eq_true,Bool.and_eq_true] at h
 obtain ⟨h1,h2,h3,h4⟩:=h
 have h1:=Nat.eq_of_beq_eq_true h1
 have c2 : ∀ j,j < ops.size → πf π j < ops.size ∧ qD π (πf π j) = j:=fun j hj => by
  have:=List.all_eq_true.1 h2 j (List.mem_range.2 hj)
  rw [Bool.and_eq_true] at this
  exact ⟨Nat.le_of_ble_eq_true this.1,Nat.eq_of_beq_eq_true this.2⟩
 have c3 : ∀ i,i < ops.size → qD π i < ops.size ∧ πf π (qD π i) = i:=fun i hi => by
  have:=List.all_eq_true.1 h3 i (List.mem_range.2 hi)
  rw [Bool.and_eq_true] at this
  exact ⟨Nat.le_of_ble_eq_true this.1,Nat.eq_of_beq_eq_true this.2⟩
 have hsz : (lP ops π).size = ops.size:=by
  unfold lP
  rw [List.size_toArray,List.length_map,h1]
 refine ⟨hsz,fun j hj => (c2 j hj).1,fun i j hi hj e => by rw [← (c2 i hi).2,← (c2 j hj).2,e],fun i hi => ⟨qD π i,(c3 i hi).1,(c3 i hi).2⟩,fun j o' ho' => ?_⟩
 have hj : j < ops.size:=by
  rw [← hsz]
  exact (Array.getElem?_eq_some_iff.1 ho').1
 have hlt:=(c2 j hj).1
 have ho : ops.toList[πf π j]? = some (ops.toList[πf π j]'(by rw [Array.length_toList]; exact hlt)):=List.getElem?_eq_getElem _
 generalize ops.toList[πf π j]'(by rw [Array.length_toList]; exact hlt) = o at ho
 have hπ : π[j]? = some (πf π j):=by
  unfold πf
  rw [List.getElem?_eq_getElem (by omega)]
  rfl
 have hoo : o' = uS π o:=by
  unfold lP at ho'
  rw [List.getElem?_toArray,List.getElem?_map,hπ] at ho'
  injection ho' with ho'
  rw [← ho']
  show uS π ((ops.toList[πf π j]?).getD default) = _
  rw [ho]
  rfl
 subst hoo
 have hall:=List.all_eq_true.1 h4 o (List.mem_of_getElem? ho)
 rw [Bool.and_eq_true] at hall
 refine ⟨o,by rw [← Array.getElem?_toList]; exact ho,rfl,Option.isNone_iff_eq_none.1 hall.1,fun e he hb => ?_,fun e' he' hb' => ?_⟩
 ·have hon : e.on < ops.size:=Nat.le_of_ble_eq_true (List.all_eq_true.1 hall.2 e (Array.mem_toList_iff.2 he))
  exact ⟨zH π e,Array.mem_map.2 ⟨e,he,rfl⟩,hb,(c3 _ hon).1,(c3 _ hon).2⟩
 ·obtain ⟨e,he,rfl⟩:=Array.mem_map.1 he'
  have hon : e.on < ops.size:=Nat.le_of_ble_eq_true (List.all_eq_true.1 hall.2 e (Array.mem_toList_iff.2 he))
  exact ⟨(c3 _ hon).1,e,he,hb',(c3 _ hon).2.symm⟩
def wb (P : Program) (cf : FuncId → List Value → AH → Option (Value × AH)) (ops : Array Oper) (e : Tr Value) (h : AH) : Option (Tr Value × AH) :=
 cond (zI ops (sk ops.toList) && gH (lP ops (sk ops.toList))) (nv P cf (lP ops (sk ops.toList)) 0 (lP ops (sk ops.toList)).toList e h) none
theorem uU (hcf : bm cf) {ops : Array Oper} {e : Tr Value} {h : AH} {r : Tr Value × AH} (H : WF h) (hv : wb P cf ops e h = some r) : bH h r.2:=by
 obtain ⟨_,hv⟩:=ah hv
 exact nw hcf _ H hv
theorem zJ (hm : P.follows .mixedOrders = true) (hN : bW P = true) (hcf : bw P G cf) (hfn : cr P cf) (hml : bm cf) {ops : Array Oper} (hok : ops.toList.all (cy nt G) = true) (id : Nat) (ι : bL) (base : Nat) (h : AH) (w : World) (e e' : Tr Value) (h' : AH) (a : Act) (S : St P G nt ι base h w e a) (hv : wb P cf ops e h = some (e',h')) :
  (Code.region id ops true).wp P (fun ex a' w' => ex = .normal ∧ eH P G nt ι base h w e' h' a' w') a w:=by
 obtain ⟨hc,hv⟩:=ah hv
 rw [Bool.and_eq_true] at hc
 have hp:=uT hc.1
 refine wp_region_any hm (uQ hp ops.size (Array.replicate ops.size false) (Array.replicate (lP ops (sk ops.toList)).size false) a _ (by simp) (by rw [Array.size_replicate,hp.size]) (fun j hj => ?_) ?_)
 ·unfold d9
  rw [Array.getD_eq_getD_getElem?,Array.getD_eq_getD_getElem?,Array.getElem?_replicate,Array.getElem?_replicate,hp.size,if_pos hj,if_pos (hp.lt j hj)]
 ·rw [← hp.size]
  refine yA hN hcf hfn hml hc.2 ?_ ι base h w e e' h' a S hv fun a' w' p => ⟨rfl,p⟩
  refine List.all_eq_true.2 fun o' ho' => ?_
  obtain ⟨j,hj⟩:=List.getElem?_of_mem ho'
  obtain ⟨o,ho,heq,_⟩:=hp.op j o' (by rw [← Array.getElem?_toList]; exact hj)
  have:=List.all_eq_true.1 hok o (List.mem_of_getElem? (by rw [Array.getElem?_toList]; exact ho))
  rw [heq]
  exact this
variable {P : Program} {G : Nat} {cf : FuncId → List Value → AH → Option (Value × AH)}
theorem bz {α β γ : Type} {a a' : α} {b b' : β} {c c' : γ} (h : some (a,b,c) = some (a',b',c')) : a = a' ∧ b = b' ∧ c = c':=by
 injection h with h
 injection h with h1 h2
 injection h2 with h2 h3
 exact ⟨h1,h2,h3⟩
theorem ny {α β γ : Type} {a a' : α} {b b' : β} {c c' : γ} (h : (a,b,c) = (a',b',c')) : a = a' ∧ b = b' ∧ c = c':=by
 injection h with h1 h2
 injection h2 with h2 h3
 exact ⟨h1,h2,h3⟩
def Ex.to : Ex → Exit
 | .normal => .normal
 | .exit id => .exit id
 | .ret => .ret
def dD (nt G : Nat) (draw : Array Oper → Bool) : Code → Bool
 | .region _ ops d => ops.toList.all (cy nt G) && (!d || draw ops)
 | .seq a b => dD nt G draw a && dD nt G draw b
 | .cond c x y => mG G c && (dD nt G draw x && dD nt G draw y)
 | .block _ c => dD nt G draw c
 | .loop c => dD nt G draw c
 | _ => true
theorem uV (hN : bW P = true) (hcf : bw P G cf) (hfn : cr P cf) {nt base : Nat} {draw : Array Oper → Bool} (hdr : ∀ ops,draw ops = true → ops.toList.all (cy nt G) = true → zy P G nt cf ops) (kf : Nat) :
  ∀ (c : Code) {ι : bL} {h : AH} {w : World} {e e' : Tr Value} {h' : AH} {a : Act} {x : Ex},dD nt G draw c = true → St P G nt ι base h w e a → cu P cf kf c e h = some (x,e',h') →
   c.wp P (fun ex a' w' => ex = x.to ∧ eH P G nt ι base h w e' h' a' w') a w:=by
 intro c
 induction c with
 | skip =>
  intro ι h w e e' h' a x _ S hx
  obtain ⟨rfl,rfl,rfl⟩:=bz hx
  exact wp_skip ⟨rfl,eH.refl S⟩
 | ret =>
  intro ι h w e e' h' a x _ S hx
  obtain ⟨rfl,rfl,rfl⟩:=bz hx
  exact wp_ret ⟨rfl,eH.refl S⟩
 | exit id =>
  intro ι h w e e' h' a x _ S hx
  obtain ⟨rfl,rfl,rfl⟩:=bz hx
  exact wp_exit ⟨rfl,eH.refl S⟩
 | region id ops d =>
  intro ι h w e e' h' a x hok S hx
  obtain ⟨⟨e1,h1⟩,hv,hx⟩:=Option.map_eq_some_iff.1 hx
  obtain ⟨rfl,rfl,rfl⟩:=ny hx
  have hok' : (ops.toList.all (cy nt G) && (!d || draw ops)) = true:=hok
  rw [Bool.and_eq_true] at hok'
  cases d with
  | false =>
   have hv : cz P cf ops ops.toList e h = some (e1,h1):=hv
   exact wp_region_list (j8 hN hcf hfn ops.toList S hok'.1 hv fun a' w' p => ⟨rfl,p⟩)
  | true =>
   have hv : bI P cf ops (fk P cf ops e h) 0 ops.toList e h = some (e1,h1):=hv
   exact hdr ops (by simpa using hok'.2) hok'.1 id ι base h w e e1 h1 a S hv
 | seq c1 c2 ih1 ih2 =>
  intro ι h w e e' h' a x hok S hx
  have hok' : (dD nt G draw c1 && dD nt G draw c2) = true:=hok
  rw [Bool.and_eq_true] at hok'
  obtain ⟨⟨x1,e1,h1⟩,hx1,hx⟩:=Option.bind_eq_some_iff.1 hx
  refine wp_seq (wp_mono (ih1 hok'.1 S hx1) ?_)
  rintro ex a1 w1 ⟨rfl,ι1,S1,E1,K1,N1⟩
  cases x1 with
  | normal => exact wp_mono (ih2 hok'.2 S1 hx) fun ex a' w' ⟨q1,q2⟩ => ⟨q1,q2.trans E1 K1 N1⟩
  | exit id =>
   obtain ⟨rfl,rfl,rfl⟩:=bz hx
   exact ⟨rfl,ι1,S1,E1,K1,N1⟩
  | ret =>
   obtain ⟨rfl,rfl,rfl⟩:=bz hx
   exact ⟨rfl,ι1,S1,E1,K1,N1⟩
 | cond c x y ihx ihy =>
  intro ι h w e e' h' a xx hok S hx
  have hok' : (mG G c && (dD nt G draw x && dD nt G draw y)) = true:=hok
  rw [Bool.and_eq_true,Bool.and_eq_true] at hok'
  have hc:=uD S.env S.glb hok'.1
  have hx' : (match ev e c with | .bool t => cond t (cu P cf kf x e h) (cu P cf kf y e h) | _ => none) = some (xx,e',h'):=hx
  split at hx'
  ·rename_i t ht
   rw [ht] at hc
   refine wp_cond hc.bool_inv ?_
   cases t with
   | true => exact ihx hok'.2.1 S hx'
   | false => exact ihy hok'.2.2 S hx'
  ·cases hx'
 | block id c ih =>
  intro ι h w e e' h' a x hok S hx
  obtain ⟨⟨x1,e1,h1⟩,hx1,hx⟩:=Option.bind_eq_some_iff.1 hx
  refine wp_block (wp_mono (ih hok S hx1) ?_)
  rintro ex a1 w1 ⟨rfl,p⟩
  cases x1 with
  | normal =>
   obtain ⟨rfl,rfl,rfl⟩:=bz hx
   exact ⟨rfl,p⟩
  | exit j =>
   have hx' : cond (Nat.beq j id) (some (Ex.normal,e1,h1)) (some (Ex.exit j,e1,h1)) = some (x,e',h'):=hx
   rw [bN] at hx'
   show (if j = id then _ else _)
   split at hx'
   ·rename_i hj
    obtain ⟨rfl,rfl,rfl⟩:=bz hx'
    rw [if_pos hj]
    exact ⟨rfl,p⟩
   ·rename_i hj
    obtain ⟨rfl,rfl,rfl⟩:=bz hx'
    rw [if_neg hj]
    exact ⟨rfl,p⟩
  | ret =>
   obtain ⟨rfl,rfl,rfl⟩:=bz hx
   exact ⟨rfl,p⟩
 | loop c ih =>
  intro ι h w e e' h' a x hok S hx
  have key : ∀ (n : Nat) {ι : bL} {h : AH} {w : World} {e : Tr Value} {a : Act},St P G nt ι base h w e a → gu (cu P cf kf c) n e h = some (x,e',h') →
    Code.rounds P c (fun ex a' w' => ex = x.to ∧ eH P G nt ι base h w e' h' a' w') n a w:=by
   intro n
   induction n with
   | zero =>
    intro ι h w e a S hx
    cases hx
   | succ n ihn =>
    intro ι h w e a S hx
    obtain ⟨⟨x1,e1,h1⟩,hx1,hx⟩:=Option.bind_eq_some_iff.1 hx
    rw [rounds_succ]
    refine wp_mono (ih hok S hx1) ?_
    rintro ex a1 w1 ⟨rfl,ι1,S1,E1,K1,N1⟩
    cases x1 with
    | normal =>
     have hr:=ihn S1 hx
     have mono : ∀ (n : Nat) (Q Q' : Exit → Act → World → Prop),(∀ ex a w,Q ex a w → Q' ex a w) → ∀ a w,Code.rounds P c Q n a w → Code.rounds P c Q' n a w:=by
      intro n Q Q' hqq
      induction n with
      | zero => exact fun _ _ h => h
      | succ n ihm =>
       intro a w hh
       rw [rounds_succ] at hh ⊢
       refine wp_mono hh ?_
       intro ex a' w' q
       cases ex with
       | normal => exact ihm a' w' q
       | exit _ => exact hqq _ _ _ q
       | goto _ => exact hqq _ _ _ q
       | ret => exact hqq _ _ _ q
       | panic _ => exact hqq _ _ _ q
       | outgrown => exact hqq _ _ _ q
     exact mono n _ _ (fun ex a' w' ⟨q1,q2⟩ => ⟨q1,q2.trans E1 K1 N1⟩) a1 w1 hr
    | exit id =>
     obtain ⟨rfl,rfl,rfl⟩:=bz hx
     exact ⟨rfl,ι1,S1,E1,K1,N1⟩
    | ret =>
     obtain ⟨rfl,rfl,rfl⟩:=bz hx
     exact ⟨rfl,ι1,S1,E1,K1,N1⟩
  exact wp_loop_rounds kf (key kf S hx)
 | rangeFunc f ps x y _ _ => exact fun _ _ hx => by cases hx
 | scope c _ => exact fun _ _ hx => by cases hx
 | label l => exact fun _ _ hx => by cases hx
 | goto l => exact fun _ _ hx => by cases hx
 | refuse s => exact fun _ _ hx => by cases hx
variable {P : Program} {G : Nat}
theorem pm : ∀ (l : List Value) (i : Nat) (e : Tr Value) (j : Nat),(fD l i e).get j = if i ≤ j ∧ j < i + l.length then l[j - i]? else e.get j
 | [],i,e,j => by
  unfold fD
  rw [if_neg (fun hh => by simp only [List.length_nil] at hh; omega)]
 | v :: l,i,e,j => by
  unfold fD
  rw [pm l (i + 1) (e.set i v) j,Tr.get_set]
  simp only [List.length_cons]
  by_cases h1 : j = i
  ·subst h1
   rw [if_neg (by omega),if_pos rfl,if_pos (by omega),Nat.sub_self]
   rfl
  ·by_cases h2 : i + 1 ≤ j ∧ j < i + 1 + l.length
   ·rw [if_pos h2,if_pos (by omega),show j - i = (j - (i + 1)) + 1 by omega]
    rfl
   ·rw [if_neg h2,if_neg h1,if_neg (by omega)]
theorem zK (nt i : Nat) : (jG nt).get i = none:=by
 unfold jG
 generalize Nat.log2 (nt + 1) + 1 = d
 have key : ∀ (d a b i : Nat),(IM ([] : List (Option Value)) d a b).get i = none:=by
  intro d
  induction d with
  | zero => exact fun _ _ i => Tr.get_nil i
  | succ d ih =>
   intro a b i
   cases i with
   | zero => rfl
   | succ i =>
    show (Tr.node _ _ _).get (i + 1) = none
    rw [Tr.get_succ]
    split
    ·exact ih _ _ _
    ·exact ih _ _ _
 exact key d 1 0 i
theorem pq {ι : bL} {args : List Value} {argsc : Array Value} (ha : aM (aA ι) args argsc.toList) (nt n : Nat) : mf ι (fD args 0 (jG nt)) (argsc ++ Array.replicate n undef):=by
 intro i
 rw [pm]
 have hl : args.length = argsc.size:=ha.length_eq.trans Array.length_toList
 by_cases hi : 0 ≤ i ∧ i < 0 + args.length
 ·rw [if_pos hi,Nat.sub_zero]
  have hlt : i < args.length:=by omega
  obtain ⟨y,hy,hr⟩:=ha.get (List.getElem?_eq_getElem hlt)
  rw [List.getElem?_eq_getElem hlt]
  rw [Array.getElem?_toList] at hy
  have : (argsc ++ Array.replicate n undef).getD i undef = y:=by
   rw [Array.getD_eq_getD_getElem?,Array.getElem?_append_left (by omega),hy]
   rfl
  rw [this]
  exact hr
 ·rw [if_neg hi,zK]
  have : (argsc ++ Array.replicate n undef).getD i undef = undef:=by
   rw [Array.getD_eq_getD_getElem?,Array.getElem?_append_right (by omega),Array.getElem?_replicate]
   split <;> rfl
  rw [this]
  exact aA.undef
def Dg (t : Array Value) : ResultVar → Sem Value
 | .tmp t1 => pure (t.getD t1 undef)
 | .cell a t1 => do loadVar t1 (← asAddr (t.getD a undef))
theorem nA (fn : Func) (t : Array Value) : results fn t = (do
  let vs ← fn.results.mapM (Dg t)
  pure (if h : vs.size = 1 then vs[0] else .tuple vs)):=rfl
theorem jL {ι : bL} {base : Nat} {h : AH} {w : World} {e : Tr Value} {t : Array Value} (R : bV ι base h w) (E : mf ι e t) : ∀ (l : List ResultVar) (vs : List Value),cQ P e h l = some vs →
  ∃ vcs : List Value,(l.mapM (Dg t)).run P w = .ok vcs w ∧ aM (aA ι) vs vcs
 | [],vs,hv => by
  injection hv with hv
  subst hv
  exact ⟨[],by simp,trivial⟩
 | r :: l,vs,hv => by
  unfold cQ at hv
  obtain ⟨v,hv1,hv⟩:=Option.bind_eq_some_iff.1 hv
  obtain ⟨vs',hv2,hv⟩:=Option.bind_eq_some_iff.1 hv
  injection hv with hv
  subst hv
  obtain ⟨vcs,g1,g2⟩:=jL R E l vs' hv2
  cases r with
  | tmp t1 =>
   injection hv1 with hv1
   subst hv1
   refine ⟨t.getD t1 undef :: vcs,?_,E t1,g2⟩
   rw [List.mapM_cons]
   simp only [Dg,Sem.run_bind,Sem.run_pure,Result.andThen_ok,g1]
  | cell a t1 =>
   obtain ⟨vc,q1,q2⟩:=lK (P:=P) R hv1 (E a)
   refine ⟨vc :: vcs,?_,q2,g2⟩
   have q3 : (do loadVar t1 (← asAddr (t.getD a undef)) : Sem Value).run P w = .ok vc w:=by
    have hv1' : cK P t1 ((e.get a).getD undef) h = some v:=hv1
    unfold cK at hv1'
    split at hv1'
    ·rename_i ad had
     have hE:=E a
     rw [had] at hE
     obtain ⟨c,hc,_⟩:=hE.ptr_inv
     rw [hc] at q1 ⊢
     simpa [Instr.loadAt,Instr.sureAddr,asAddr] using q1
    ·cases hv1'
   have q4 : (Dg t (.cell a t1)).run P w = .ok vc w:=q3
   rw [List.mapM_cons]
   simp only [Sem.run_bind,q4,Result.andThen_ok,g1,Sem.run_pure]
theorem pt {ι : bL} : ∀ {vs vcs : List Value},aM (aA ι) vs vcs → vs.all EA = true → aM (cq ι) vs vcs
 | [],[],_,_ => trivial
 | v :: vs,c :: vcs,h,hn => by
  rw [List.all_cons,Bool.and_eq_true] at hn
  refine ⟨?_,pt h.2 hn.2⟩
  have h1:=h.1
  cases h1 with
  | one h1 => exact h1
  | tuple _ _ _ => cases hn.1
 | [],_ :: _,h,_ => h.elim
 | _ :: _,[],h,_ => h.elim
theorem lQ {ι : bL} {vs vcs : List Value} {v : Value} (h : aM (aA ι) vs vcs) (hp : dx vs = some v) : aA ι v (if h : vcs.toArray.size = 1 then vcs.toArray[0] else .tuple vcs.toArray):=by
 unfold dx at hp
 split at hp
 ·injection hp with hp
  subst hp
  obtain ⟨y,l,rfl,h1,h2⟩:=h.cons_inv
  obtain rfl:=h2.nil_inv
  simpa using h1
 ·rename_i hne
  obtain ⟨hn,hp⟩:=ah hp
  injection hp with hp
  subst hp
  have hl:=h.length_eq
  have hs : ¬ (vcs.toArray.size = 1):=by
   intro e
   rw [List.size_toArray] at e
   rw [e] at hl
   match vs,hl,hne with
   | [x],_,hne => exact hne x rfl
  rw [dif_neg hs]
  exact .tuple _ _ (by rw [List.toList_toArray,List.toList_toArray]; exact pt h hn)
theorem aA.through {ι' ι1 : bL} (hs : gX ι' ι1) {x y y' : Value} (h : aA ι' x y) (h' : aA ι1 x y') : aA ι' x y':=by
 cases h with
 | one h =>
  cases h' with
  | one h' => exact .one (h.through hs h')
  | tuple cs ds h' => cases h with
   | cell h => cases h with
    | atom h => cases h
 | tuple cs ds h =>
  cases h' with
  | one h' => cases h' with
   | cell h' => cases h' with
    | atom h' => cases h'
  | tuple _ ds' h' => exact .tuple cs ds' (aM.through (R:=cq ι') (S:=cq ι1) (fun _ _ _ a b => cq.through hs a b) h h')
def Fg (G : Nat) (draw : Array Oper → Bool) (fn : Func) : Bool:=match fn.body with
 | some c => dD fn.ntmps G draw c
 | none => true
def nB (P : Program) (G : Nat) (draw : Array Oper → Bool) : Bool:=P.funcs.toList.all (Fg G draw)
theorem zL {n : Nat} {f : FuncId} {args : List Value} {h : AH} {r : Value × AH} (hr : run P (n + 1) f args h = some r) :
  ∃ fn c,P.funcs[f]? = some fn ∧ fn.body = some c ∧ ((cu P (run P n) n c (fD args 0 (jG fn.ntmps)) { h with low:=h.next }).bind fun r => match r.1 with
    | .exit _ => none
    | _ => (cQ P r.2.1 r.2.2 fn.results.toList).bind fun vs => (dx vs).map fun v => ai h r.2.2 v) = some r:=by
 unfold run at hr
 split at hr
 ·rename_i fn hf
  split at hr
  ·rename_i c hb
   exact ⟨fn,c,hf,hb,hr⟩
  ·cases hr
 ·cases hr
theorem sm (n : Nat) : cr P (run P n):=by
 intro f args h r hr
 cases n with
 | zero => cases hr
 | succ n =>
  obtain ⟨fn,c,hf,hb,_⟩:=zL hr
  exact ⟨fn,hf,by rw [hb]; rfl⟩
theorem yB {cf : FuncId → List Value → AH → Option (Value × AH)} {n : Nat} {f : FuncId} {args : List Value} {h : AH} {r : Value × AH} (hr : qj P cf n f args h = some r) :
  ∃ fn c,P.funcs[f]? = some fn ∧ fn.body = some c ∧ ((cu P cf n c (fD args 0 (jG fn.ntmps)) { h with low:=h.next }).bind fun r => match r.1 with
    | .exit _ => none
    | _ => (cQ P r.2.1 r.2.2 fn.results.toList).bind fun vs => (dx vs).map fun v => ai h r.2.2 v) = some r:=by
 unfold qj at hr
 split at hr
 ·rename_i fn hf
  split at hr
  ·rename_i c hb
   exact ⟨fn,c,hf,hb,hr⟩
  ·cases hr
 ·cases hr
theorem nC (hm : P.follows .mixedOrders = true) (hN : bW P = true) (hP : nB P G gH = true) {cf : FuncId → List Value → AH → Option (Value × AH)} (ih : bw P G cf) (hbd : cr P cf) (hml : bm cf) (n : Nat) : bw P G (qj P cf n):=by
 intro f args h v h' hr ι base w argsc R hG ha
 obtain ⟨fn,c,hf,hb,hr⟩:=yB hr
 obtain ⟨⟨x,e1,h1⟩,hx,hr⟩:=Option.bind_eq_some_iff.1 hr
 have hok : dD fn.ntmps G gH c = true:=by
  have hm : fn ∈ P.funcs.toList:=by
   rw [← Array.getElem?_toList] at hf
   exact List.mem_of_getElem? hf
  have:=List.all_eq_true.1 hP fn hm
  unfold Fg at this
  rw [hb] at this
  exact this
 refine calls_of_wp hf hb (wp_mono (uV hN ih hbd (fun ops hd ho => Df hm hN ih hbd hml hd ho) n c hok (ι:=ι) (h:={ h with low:=h.next }) (base:=base) (a:=⟨argsc ++ Array.replicate (fn.ntmps - argsc.size) undef,[]⟩) ⟨R.setLow _,pq ha _ _,rfl,hG,by simp; omega⟩ hx) ?_)
 rintro ex a' w' ⟨rfl,ι',S',E',K',N'⟩
 have M:=o9 hml n c (R.wf.setLow h.next) hx
 have fin : ∀ {v : Value} {h' : AH},((cQ P e1 h1 fn.results.toList).bind fun vs => (dx vs).map fun v => ai h h1 v) = some (v,h') →
   a'.defers = [] ∧ ∃ vc,(results fn a'.tmps).run P w' = .ok vc w' ∧ ∃ vc' ι',Ending.returned vc = .returned vc' ∧ aA ι' v vc' ∧ bV ι' base h' w' ∧ ej h.next w ι ι' ∧ cv base ι w w' ∧ h.next ≤ h'.next:=by
  intro v h' hr
  obtain ⟨vs,hvs,hr⟩:=Option.bind_eq_some_iff.1 hr
  obtain ⟨v1,hv1,e2⟩:=Option.map_eq_some_iff.1 hr
  obtain ⟨vcs,g1,g2⟩:=jL (P:=P) S'.rel S'.env _ _ hvs
  have hvr:=lQ g2 hv1
  have hrun : (results fn a'.tmps).run P w' = .ok (if h : vcs.toArray.size = 1 then vcs.toArray[0] else .tuple vcs.toArray) w':=by
   rw [nA,Array.mapM_eq_mapM_toList]
   simp only [Sem.run_bind,Sem.run_map,g1,Result.andThen_ok,Sem.run_pure]
  have hs : gX ι ι':=E'.sub fun β k hk => (R.dom β k hk).1
  unfold ai at e2
  cases hg : (Nat.beq h1.low h.next && dA v1) with
  | true =>
   rw [hg] at e2
   obtain ⟨rfl,rfl⟩:=Prod.mk.inj e2
   rw [Bool.and_eq_true] at hg
   have hS:=kg R.wf M (Nat.eq_of_beq_eq_true hg.1)
   exact ⟨S'.dfr,_,hrun,_,ι,rfl,aA.through hs (dQ hg.2) hvr,R.below S'.rel hS hs K'.1,ej.refl _ _ _,K',Nat.le_refl _⟩
  | false =>
   rw [hg] at e2
   obtain ⟨rfl,rfl⟩:=Prod.mk.inj e2
   exact ⟨S'.dfr,_,hrun,_,ι',rfl,hvr,S'.rel.setLow _,E',K',N'⟩
 cases x with
 | normal => exact fin hr
 | ret => exact fin hr
 | exit _ => cases hr
theorem pu (hm : P.follows .mixedOrders = true) (hN : bW P = true) (hP : nB P G gH = true) : ∀ n,bw P G (run P n)
 | 0 => fun _ _ _ _ _ hr => by cases hr
 | n + 1 => nC hm hN hP (pu hm hN hP n) (sm n) (mW n) n
section
variable {P : Program} {G nt : Nat} {cf : FuncId → List Value → AH → Option (Value × AH)}
def CM (P : Program) (cf : FuncId → List Value → AH → Option (Value × AH)) (ops : Array Oper) (e : Tr Value) (h : AH) : Option (Tr Value × AH):=match fk P cf ops e h with
 | some r => some r
 | none => wb P cf ops e h
theorem zM {ops : Array Oper} {e : Tr Value} {h : AH} {r : Tr Value × AH} (hv : CM P cf ops e h = some r) : fk P cf ops e h = some r ∨ wb P cf ops e h = some r:=by
 unfold CM at hv
 split at hv
 ·rename_i q hq
  injection hv with hv
  subst hv
  exact .inl hq
 ·exact .inr hv
end
def cR (P : Program) (cf : FuncId → List Value → AH → Option (Value × AH)) (k : Nat) : Code → Tr Value → AH → Option (Ex × Tr Value × AH)
 | .skip,e,h => some (.normal,e,h)
 | .region _ ops d,e,h => (cond d (bI P cf ops (CM P cf ops e h) 0 ops.toList e h) (cz P cf ops ops.toList e h)).map fun r => (.normal,r.1,r.2)
 | .seq a b,e,h => (cR P cf k a e h).bind fun r => match r.1 with
  | .normal => cR P cf k b r.2.1 r.2.2
  | _ => some r
 | .cond c x y,e,h => match ev e c with
  | .bool t => cond t (cR P cf k x e h) (cR P cf k y e h)
  | _ => none
 | .block id c,e,h => (cR P cf k c e h).bind fun r => match r.1 with
  | .exit j => cond (Nat.beq j id) (some (.normal,r.2.1,r.2.2)) (some r)
  | _ => some r
 | .loop c,e,h => gu (cR P cf k c) k e h
 | .exit id,e,h => some (.exit id,e,h)
 | .ret,e,h => some (.ret,e,h)
 | _,_,_ => none
def lR (P : Program) (cf : FuncId → List Value → AH → Option (Value × AH)) (n : Nat) (f : FuncId) (args : List Value) (h : AH) : Option (Value × AH):=match P.funcs[f]? with
  | some fn => match fn.body with
   | some c => (cR P cf n c (fD args 0 (jG fn.ntmps)) { h with low:=h.next }).bind fun r => match r.1 with
    | .exit _ => none
    | _ => (cQ P r.2.1 r.2.2 fn.results.toList).bind fun vs => (dx vs).map fun v => ai h r.2.2 v
   | none => none
  | none => none
section
variable {P : Program} {G nt : Nat} {cf : FuncId → List Value → AH → Option (Value × AH)}
theorem nD (hcf : bm cf) (kf : Nat) : ∀ (c : Code) {e e' : Tr Value} {h h' : AH} {x : Ex},WF h → cR P cf kf c e h = some (x,e',h') → bH h h':=by
 intro c
 have id' : ∀ {x x' : Ex} {e e' : Tr Value} {h h' : AH},WF h → some (x',e',h) = some (x,e,h') → bH h h':=fun H hv => by
  injection hv with hv
  injection hv with _ hv
  injection hv with _ hv
  exact hv ▸ .refl H
 induction c with
 | skip => exact fun H hv => id' H hv
 | ret => exact fun H hv => id' H hv
 | exit id => exact fun H hv => id' H hv
 | region id ops d =>
  intro e e' h h' x H hv
  obtain ⟨⟨e1,h1⟩,hv1,hx⟩:=Option.map_eq_some_iff.1 hv
  injection hx with _ hx
  injection hx with _ hx
  subst hx
  rcases aN hv1 with hv1 | hv1
  ·rcases dU _ hv1 with hv1 | hv1
   ·exact hv1.mild hcf H
   ·rcases zM hv1 with hv1 | hv1
    ·obtain ⟨_,_,h2,_⟩:=ke hv1
     exact ew hcf _ H (jd _ h2)
    ·exact uU hcf H hv1
  ·exact ew hcf _ H hv1
 | seq a b iha ihb =>
  intro e e' h h' x H hv
  obtain ⟨⟨x1,e1,h1⟩,hx1,hv⟩:=Option.bind_eq_some_iff.1 hv
  have M:=iha H hx1
  cases x1 with
  | normal => exact M.trans (ihb M.wf hv)
  | exit id => exact M.trans (id' M.wf hv)
  | ret => exact M.trans (id' M.wf hv)
 | cond c x y ihx ihy =>
  intro e e' h h' xx H hv
  have hx' : (match ev e c with | .bool t => cond t (cR P cf kf x e h) (cR P cf kf y e h) | _ => none) = some (xx,e',h'):=hv
  split at hx'
  ·rcases aN hx' with hv | hv
   ·exact ihx H hv
   ·exact ihy H hv
  ·cases hx'
 | block id c ih =>
  intro e e' h h' x H hv
  obtain ⟨⟨x1,e1,h1⟩,hx1,hv⟩:=Option.bind_eq_some_iff.1 hv
  have M:=ih H hx1
  cases x1 with
  | normal => exact M.trans (id' M.wf hv)
  | exit j =>
   have hx' : cond (Nat.beq j id) (some (Ex.normal,e1,h1)) (some (Ex.exit j,e1,h1)) = some (x,e',h'):=hv
   rcases aN hx' with hv | hv <;> exact M.trans (id' M.wf hv)
  | ret => exact M.trans (id' M.wf hv)
 | loop c ih =>
  intro e e' h h' x H hv
  exact lg (fun e h x e' h' H hv => ih H hv) kf H hv
 | _ => exact fun _ hv => by cases hv
def we (P : Program) (G nt : Nat) (cf : FuncId → List Value → AH → Option (Value × AH)) (ops : Array Oper) : Prop :=
 ∀ (id : Nat) (ι : bL) (base : Nat) (h : AH) (w : World) (e e' : Tr Value) (h' : AH) (a : Act),St P G nt ι base h w e a → bI P cf ops (CM P cf ops e h) 0 ops.toList e h = some (e',h') →
  (Code.region id ops true).wp P (fun ex a' w' => ex = .normal ∧ eH P G nt ι base h w e' h' a' w') a w
theorem zN (hm : P.follows .mixedOrders = true) (hN : bW P = true) (hcf : bw P G cf) (hfn : cr P cf) (hml : bm cf) {ops : Array Oper} (hC : gH ops = true) (hok : ops.toList.all (cy nt G) = true) : we P G nt cf ops:=by
 intro id ι base h w e e' h' a S hv
 rcases dU _ hv with hv | hv
 ·exact rX hm hN hcf hfn hml hC hok id ι base h w e e' h' a S hv
 ·rcases zM hv with hv | hv
  ·exact v7 hm hN hcf hfn hml hC hok id ι base h w e e' h' a S hv
  ·exact zJ hm hN hcf hfn hml hok id ι base h w e e' h' a S hv
theorem sq (hN : bW P = true) (hcf : bw P G cf) (hfn : cr P cf) {nt base : Nat} {draw : Array Oper → Bool} (hdr : ∀ ops,draw ops = true → ops.toList.all (cy nt G) = true → we P G nt cf ops) (kf : Nat) :
  ∀ (c : Code) {ι : bL} {h : AH} {w : World} {e e' : Tr Value} {h' : AH} {a : Act} {x : Ex},dD nt G draw c = true → St P G nt ι base h w e a → cR P cf kf c e h = some (x,e',h') →
   c.wp P (fun ex a' w' => ex = x.to ∧ eH P G nt ι base h w e' h' a' w') a w:=by
 intro c
 induction c with
 | skip =>
  intro ι h w e e' h' a x _ S hx
  obtain ⟨rfl,rfl,rfl⟩:=bz hx
  exact wp_skip ⟨rfl,eH.refl S⟩
 | ret =>
  intro ι h w e e' h' a x _ S hx
  obtain ⟨rfl,rfl,rfl⟩:=bz hx
  exact wp_ret ⟨rfl,eH.refl S⟩
 | exit id =>
  intro ι h w e e' h' a x _ S hx
  obtain ⟨rfl,rfl,rfl⟩:=bz hx
  exact wp_exit ⟨rfl,eH.refl S⟩
 | region id ops d =>
  intro ι h w e e' h' a x hok S hx
  obtain ⟨⟨e1,h1⟩,hv,hx⟩:=Option.map_eq_some_iff.1 hx
  obtain ⟨rfl,rfl,rfl⟩:=ny hx
  have hok' : (ops.toList.all (cy nt G) && (!d || draw ops)) = true:=hok
  rw [Bool.and_eq_true] at hok'
  cases d with
  | false =>
   have hv : cz P cf ops ops.toList e h = some (e1,h1):=hv
   exact wp_region_list (j8 hN hcf hfn ops.toList S hok'.1 hv fun a' w' p => ⟨rfl,p⟩)
  | true =>
   have hv : bI P cf ops (CM P cf ops e h) 0 ops.toList e h = some (e1,h1):=hv
   exact hdr ops (by simpa using hok'.2) hok'.1 id ι base h w e e1 h1 a S hv
 | seq c1 c2 ih1 ih2 =>
  intro ι h w e e' h' a x hok S hx
  have hok' : (dD nt G draw c1 && dD nt G draw c2) = true:=hok
  rw [Bool.and_eq_true] at hok'
  obtain ⟨⟨x1,e1,h1⟩,hx1,hx⟩:=Option.bind_eq_some_iff.1 hx
  refine wp_seq (wp_mono (ih1 hok'.1 S hx1) ?_)
  rintro ex a1 w1 ⟨rfl,ι1,S1,E1,K1,N1⟩
  cases x1 with
  | normal => exact wp_mono (ih2 hok'.2 S1 hx) fun ex a' w' ⟨q1,q2⟩ => ⟨q1,q2.trans E1 K1 N1⟩
  | exit id =>
   obtain ⟨rfl,rfl,rfl⟩:=bz hx
   exact ⟨rfl,ι1,S1,E1,K1,N1⟩
  | ret =>
   obtain ⟨rfl,rfl,rfl⟩:=bz hx
   exact ⟨rfl,ι1,S1,E1,K1,N1⟩
 | cond c x y ihx ihy =>
  intro ι h w e e' h' a xx hok S hx
  have hok' : (mG G c && (dD nt G draw x && dD nt G draw y)) = true:=hok
  rw [Bool.and_eq_true,Bool.and_eq_true] at hok'
  have hc:=uD S.env S.glb hok'.1
  have hx' : (match ev e c with | .bool t => cond t (cR P cf kf x e h) (cR P cf kf y e h) | _ => none) = some (xx,e',h'):=hx
  split at hx'
  ·rename_i t ht
   rw [ht] at hc
   refine wp_cond hc.bool_inv ?_
   cases t with
   | true => exact ihx hok'.2.1 S hx'
   | false => exact ihy hok'.2.2 S hx'
  ·cases hx'
 | block id c ih =>
  intro ι h w e e' h' a x hok S hx
  obtain ⟨⟨x1,e1,h1⟩,hx1,hx⟩:=Option.bind_eq_some_iff.1 hx
  refine wp_block (wp_mono (ih hok S hx1) ?_)
  rintro ex a1 w1 ⟨rfl,p⟩
  cases x1 with
  | normal =>
   obtain ⟨rfl,rfl,rfl⟩:=bz hx
   exact ⟨rfl,p⟩
  | exit j =>
   have hx' : cond (Nat.beq j id) (some (Ex.normal,e1,h1)) (some (Ex.exit j,e1,h1)) = some (x,e',h'):=hx
   rw [bN] at hx'
   show (if j = id then _ else _)
   split at hx'
   ·rename_i hj
    obtain ⟨rfl,rfl,rfl⟩:=bz hx'
    rw [if_pos hj]
    exact ⟨rfl,p⟩
   ·rename_i hj
    obtain ⟨rfl,rfl,rfl⟩:=bz hx'
    rw [if_neg hj]
    exact ⟨rfl,p⟩
  | ret =>
   obtain ⟨rfl,rfl,rfl⟩:=bz hx
   exact ⟨rfl,p⟩
 | loop c ih =>
  intro ι h w e e' h' a x hok S hx
  have key : ∀ (n : Nat) {ι : bL} {h : AH} {w : World} {e : Tr Value} {a : Act},St P G nt ι base h w e a → gu (cR P cf kf c) n e h = some (x,e',h') →
    Code.rounds P c (fun ex a' w' => ex = x.to ∧ eH P G nt ι base h w e' h' a' w') n a w:=by
   intro n
   induction n with
   | zero =>
    intro ι h w e a S hx
    cases hx
   | succ n ihn =>
    intro ι h w e a S hx
    obtain ⟨⟨x1,e1,h1⟩,hx1,hx⟩:=Option.bind_eq_some_iff.1 hx
    rw [rounds_succ]
    refine wp_mono (ih hok S hx1) ?_
    rintro ex a1 w1 ⟨rfl,ι1,S1,E1,K1,N1⟩
    cases x1 with
    | normal =>
     have hr:=ihn S1 hx
     have mono : ∀ (n : Nat) (Q Q' : Exit → Act → World → Prop),(∀ ex a w,Q ex a w → Q' ex a w) → ∀ a w,Code.rounds P c Q n a w → Code.rounds P c Q' n a w:=by
      intro n Q Q' hqq
      induction n with
      | zero => exact fun _ _ h => h
      | succ n ihm =>
       intro a w hh
       rw [rounds_succ] at hh ⊢
       refine wp_mono hh ?_
       intro ex a' w' q
       cases ex with
       | normal => exact ihm a' w' q
       | exit _ => exact hqq _ _ _ q
       | goto _ => exact hqq _ _ _ q
       | ret => exact hqq _ _ _ q
       | panic _ => exact hqq _ _ _ q
       | outgrown => exact hqq _ _ _ q
     exact mono n _ _ (fun ex a' w' ⟨q1,q2⟩ => ⟨q1,q2.trans E1 K1 N1⟩) a1 w1 hr
    | exit id =>
     obtain ⟨rfl,rfl,rfl⟩:=bz hx
     exact ⟨rfl,ι1,S1,E1,K1,N1⟩
    | ret =>
     obtain ⟨rfl,rfl,rfl⟩:=bz hx
     exact ⟨rfl,ι1,S1,E1,K1,N1⟩
  exact wp_loop_rounds kf (key kf S hx)
 | rangeFunc f ps x y _ _ => exact fun _ _ hx => by cases hx
 | scope c _ => exact fun _ _ hx => by cases hx
 | label l => exact fun _ _ hx => by cases hx
 | goto l => exact fun _ _ hx => by cases hx
 | refuse s => exact fun _ _ hx => by cases hx
theorem jM {cf : FuncId → List Value → AH → Option (Value × AH)} {n : Nat} {f : FuncId} {args : List Value} {h : AH} {r : Value × AH} (hr : lR P cf n f args h = some r) :
  ∃ fn c,P.funcs[f]? = some fn ∧ fn.body = some c ∧ ((cR P cf n c (fD args 0 (jG fn.ntmps)) { h with low:=h.next }).bind fun r => match r.1 with
    | .exit _ => none
    | _ => (cQ P r.2.1 r.2.2 fn.results.toList).bind fun vs => (dx vs).map fun v => ai h r.2.2 v) = some r:=by
 unfold lR at hr
 split at hr
 ·rename_i fn hf
  split at hr
  ·rename_i c hb
   exact ⟨fn,c,hf,hb,hr⟩
  ·cases hr
 ·cases hr
theorem sr (hm : P.follows .mixedOrders = true) (hN : bW P = true) (hP : nB P G gH = true) {cf : FuncId → List Value → AH → Option (Value × AH)} (ih : bw P G cf) (hbd : cr P cf) (hml : bm cf) (n : Nat) : bw P G (lR P cf n):=by
 intro f args h v h' hr ι base w argsc R hG ha
 obtain ⟨fn,c,hf,hb,hr⟩:=jM hr
 obtain ⟨⟨x,e1,h1⟩,hx,hr⟩:=Option.bind_eq_some_iff.1 hr
 have hok : dD fn.ntmps G gH c = true:=by
  have hm : fn ∈ P.funcs.toList:=by
   rw [← Array.getElem?_toList] at hf
   exact List.mem_of_getElem? hf
  have:=List.all_eq_true.1 hP fn hm
  unfold Fg at this
  rw [hb] at this
  exact this
 refine calls_of_wp hf hb (wp_mono (sq hN ih hbd (fun ops hd ho => zN hm hN ih hbd hml hd ho) n c hok (ι:=ι) (h:={ h with low:=h.next }) (base:=base) (a:=⟨argsc ++ Array.replicate (fn.ntmps - argsc.size) undef,[]⟩) ⟨R.setLow _,pq ha _ _,rfl,hG,by simp; omega⟩ hx) ?_)
 rintro ex a' w' ⟨rfl,ι',S',E',K',N'⟩
 have M:=nD hml n c (R.wf.setLow h.next) hx
 have fin : ∀ {v : Value} {h' : AH},((cQ P e1 h1 fn.results.toList).bind fun vs => (dx vs).map fun v => ai h h1 v) = some (v,h') →
   a'.defers = [] ∧ ∃ vc,(results fn a'.tmps).run P w' = .ok vc w' ∧ ∃ vc' ι',Ending.returned vc = .returned vc' ∧ aA ι' v vc' ∧ bV ι' base h' w' ∧ ej h.next w ι ι' ∧ cv base ι w w' ∧ h.next ≤ h'.next:=by
  intro v h' hr
  obtain ⟨vs,hvs,hr⟩:=Option.bind_eq_some_iff.1 hr
  obtain ⟨v1,hv1,e2⟩:=Option.map_eq_some_iff.1 hr
  obtain ⟨vcs,g1,g2⟩:=jL (P:=P) S'.rel S'.env _ _ hvs
  have hvr:=lQ g2 hv1
  have hrun : (results fn a'.tmps).run P w' = .ok (if h : vcs.toArray.size = 1 then vcs.toArray[0] else .tuple vcs.toArray) w':=by
   rw [nA,Array.mapM_eq_mapM_toList]
   simp only [Sem.run_bind,Sem.run_map,g1,Result.andThen_ok,Sem.run_pure]
  have hs : gX ι ι':=E'.sub fun β k hk => (R.dom β k hk).1
  unfold ai at e2
  cases hg : (Nat.beq h1.low h.next && dA v1) with
  | true =>
   rw [hg] at e2
   obtain ⟨rfl,rfl⟩:=Prod.mk.inj e2
   rw [Bool.and_eq_true] at hg
   have hS:=kg R.wf M (Nat.eq_of_beq_eq_true hg.1)
   exact ⟨S'.dfr,_,hrun,_,ι,rfl,aA.through hs (dQ hg.2) hvr,R.below S'.rel hS hs K'.1,ej.refl _ _ _,K',Nat.le_refl _⟩
  | false =>
   rw [hg] at e2
   obtain ⟨rfl,rfl⟩:=Prod.mk.inj e2
   exact ⟨S'.dfr,_,hrun,_,ι',rfl,hvr,S'.rel.setLow _,E',K',N'⟩
 cases x with
 | normal => exact fin hr
 | ret => exact fin hr
 | exit _ => cases hr
end
set_option linter.unusedVariables false
set_option linter.unusedSimpArgs false
def Dh (z by_ : Nat) (s i x : Value) (h : AH) : Option (Value × AH):=match s,i,x with
 | .slice (some a) n c,.int .i64 j,.slice (some b) m cb => cond (Nat.beq m 1) (cond (decide (0 ≤ j) && decide (j < (n : Int)))
   (cond (a.spot.isSome || Nat.blt c aG) none ((h.rd a.block).bind fun bl => (h.rd b.block).bind fun bx =>
     cond (bl.ro || (bx.ro || (Nat.beq bl.grp bx.grp || (!(Nat.beq bl.esz z) || (!(Nat.beq bx.esz z) || Nat.ble z 1))))) none
     (cond (Nat.ble ((n + 1) * by_) 140737488355328)
      ((bQ z 1 x h).bind fun items => (cj bl.cells a.off (n * z)).bind fun old =>
       some (.slice (some ⟨h.next,0,none⟩) (n + 1) aG,h.grow a.block bl.grp (old.take (j.toNat * z) ++ (items ++ old.drop (j.toNat * z))) z false)) none)))
   (cond (decide (j = (n : Int))) (dz z by_ s x h) none)) none
 | .slice none n _,.int .i64 j,.slice (some b) m cb => cond (Nat.beq m 1) (cond (decide (j = (n : Int))) (dz z by_ s x h) none) none
 | _,_,_ => none
def uW (z by_ : Nat) (args : List Value) (h : AH) : Option (Value × AH):=match args with
 | [s,i,x] => Dh z by_ s i x h
 | _ => none
structure Di (P : Program) (F O : FuncId) (S N el : TypeId) (z by_ : Nat) (zz : Value) : Prop where
 body : ∃ fn,P.funcs[F]? = some fn ∧ fn.body.isSome = true
 hS : P.underlying S = some (.slice el)
 hN : P.underlying N = some (.int .i64)
 hz : bv P el = some z
 hb : jE P el = some by_
 hzz : cU P el = some zz
 hzs : ∃ zs,aJ zz = some zs ∧ zs.length = z
 hb0 : by_ ≠ 0
 ovl : ∀ (W : World) (a b : Addr) (la ca lb cb : Nat),a.block ≠ b.block → ∀ (tA tB : TypeId) (kA kB : Nat),W.shape? a.block = some (tA,kA) → W.shape? b.block = some (tB,kB) → kB ≠ 0 → W.frozen? a = false → W.frozen? { block:=a.block,off:=kA } = false →
  (callFunc O #[.slice (some a) la ca,.slice (some b) lb cb]).run P W = .ok (.value (.bool false)) W
 last : ∀ (w : World) (bs : Option Addr) (n c : Nat) (x : Addr) (xc : Nat) (r : Value) (w' : World),n ≤ c → (bs = none → n = 0 ∧ c = 0) → (Builtin.append_ #[S,S] S #[.slice bs n c,.slice (some x) 1 xc]).run P w = .ok r w' →
  Calls P F #[.slice bs n c,.int .i64 n,.slice (some x) 1 xc] w fun e W => e = .returned r ∧ W = w'
 shift : ∀ (w : World) (b off n c i vb voff vc : Nat) (k1 k2 : Int) (R1 R2 : Array Value),i < n → n + 1 ≤ c → n + 1 ≤ 140737488355328 →
  (∀ W : World,W.heap = w.heap → ∀ lb cb,(callFunc O #[.slice (some ⟨vb,voff,none⟩) 1 vc,.slice (some ⟨b,off + (i + 1) * z,none⟩) lb cb]).run P W = .ok (.value (.bool false)) W) →
  (∀ W : World,W.heap = w.heap → ∀ ty dc sc,(Builtin.copy_ #[S,S] ty #[.slice (some ⟨b,off + (i + 1) * z,none⟩) (n + 1 - (i + 1)) dc,.slice (some ⟨b,off + i * z,none⟩) (n + 1 - i) sc]).run P W = .ok (.int .i64 k1) (W.setRow b R1)) →
  (∀ W : World,W.heap = (w.setRow b R1).heap → ∀ ty dc,(Builtin.copy_ #[S,S] ty #[.slice (some ⟨b,off + i * z,none⟩) (n + 1 - i) dc,.slice (some ⟨vb,voff,none⟩) 1 vc]).run P W = .ok (.int .i64 k2) (W.setRow b R2)) →
  Calls P F #[.slice (some ⟨b,off,none⟩) n c,.int .i64 i,.slice (some ⟨vb,voff,none⟩) 1 vc] w fun e W =>
   e = .returned (.slice (some ⟨b,off,none⟩) (n + 1) c) ∧ W.heap = ((w.setRow b R1).setRow b R2).heap ∧ W.os = w.os ∧ W.output = w.output
 more : ∀ (w W0 : World) (b off n c i vb voff vc q G : Nat) (k1 k2 : Int) (R1 R2 : Array Value),i < n → n ≤ c → c < n + 1 → n + 1 ≤ 140737488355328 → n + 1 ≤ G → G ≤ 9223372036854775807 →
  (∀ ty,(Builtin.append_ #[S,N] ty #[.slice (some ⟨b,off,none⟩) i c,.int .i64 ((n + 1 - i : Nat) : Int)]).run P w = .ok (.slice (some ⟨q,0,none⟩) (n + 1) G) W0) →
  (∀ W : World,W.heap = W0.heap → ∀ ty dc,(Builtin.copy_ #[S,S] ty #[.slice (some ⟨q,i * z,none⟩) (n + 1 - i) dc,.slice (some ⟨vb,voff,none⟩) 1 vc]).run P W = .ok (.int .i64 k1) (W.setRow q R1)) →
  (∀ W : World,W.heap = (W0.setRow q R1).heap → ∀ ty dc sc,(Builtin.copy_ #[S,S] ty #[.slice (some ⟨q,(i + 1) * z,none⟩) (n + 1 - (i + 1)) dc,.slice (some ⟨b,off + i * z,none⟩) (n - i) sc]).run P W = .ok (.int .i64 k2) (W.setRow q R2)) →
  Calls P F #[.slice (some ⟨b,off,none⟩) n c,.int .i64 i,.slice (some ⟨vb,voff,none⟩) 1 vc] w fun e W =>
   e = .returned (.slice (some ⟨q,0,none⟩) (n + 1) G) ∧ W.heap = ((W0.setRow q R1).setRow q R2).heap ∧ W.os = W0.os ∧ W.output = W0.output
variable {P : Program} {ι : bL} {base : Nat} {h : AH} {w : World}
theorem fJ {t u ty el : TypeId} {z : Nat} (hd : P.underlying t = some (.slice el)) (hs : bv P el = some z) {dst : Addr} {nd cd : Nat} {src : Option Addr} {ns cs : Nat} {ds : List Value} {W W' : World}
  (hl : (Builtin.firstCells z (min ns nd) (.slice src ns cs)).run P W = .ok ds.toArray W) (hst : (storeCells dst ds).run P W = .ok () W') :
  (Builtin.copy_ #[t,u] ty #[.slice (some dst) nd cd,.slice src ns cs]).run P W = .ok (.int .i64 (min ns nd : Nat)) W':=by
 simp [Builtin.copy_,run_underlying hd,Builtin.lenOf,bG hs,show Nat.min ns nd = min ns nd from rfl,hl,hst,goInt]
theorem I8 {α : Type} (L : List α) (q iz z nz : Nat) (h1 : iz + z ≤ nz) (h2 : q + nz + z ≤ L.length) :
  ∃ A X Y U T,L = A ++ (X ++ (Y ++ (U ++ T))) ∧ A.length = q ∧ X.length = iz ∧ Y.length = z ∧ U.length = nz - iz - z ∧ z ≤ T.length:=by
 refine ⟨L.take q,(L.drop q).take iz,(L.drop (q + iz)).take z,(L.drop (q + iz + z)).take (nz - iz - z),L.drop (q + nz),?_,?_,?_,?_,?_,?_⟩
 ·have td : ∀ (p k : Nat),(L.drop p).take k ++ L.drop (p + k) = L.drop p:=fun p k => by
   rw [← List.drop_drop]
   exact List.take_append_drop _ _
  have e1 : (L.drop (q + iz + z)).take (nz - iz - z) ++ L.drop (q + nz) = L.drop (q + iz + z):=by
   rw [show q + nz = (q + iz + z) + (nz - iz - z) by omega]
   exact td _ _
  have e2 : (L.drop (q + iz)).take z ++ L.drop (q + iz + z) = L.drop (q + iz):=td _ _
  have e3 : (L.drop q).take iz ++ L.drop (q + iz) = L.drop q:=td _ _
  rw [e1,e2,e3,List.take_append_drop]
 all_goals simp only [List.length_take,List.length_drop]; omega
theorem iT {α : Type} {A B : List α} {n : Nat} (h : A.length = n) : (A ++ B).take n = A:=by rw [← h]; exact List.take_left
theorem qE {α : Type} {A B : List α} {n : Nat} (h : A.length = n) : (A ++ B).drop n = B:=by rw [← h]; exact List.drop_left
theorem Dj {L ds : List Value} {q iz z nz : Nat} (h1 : iz + z ≤ nz) (h2 : q + nz + z ≤ L.length) (hd : ds.length = z) {Y R1 R2 : List Value} (hY : Y = ((L.drop q).take nz).drop iz)
  (hR1 : R1 = L.take (q + (iz + z)) ++ Y ++ L.drop (q + (iz + z) + Y.length)) (hR2 : R2 = R1.take (q + iz) ++ ds ++ R1.drop (q + iz + ds.length)) :
  R1.length = L.length ∧ R2.length = L.length ∧ (R2.drop q).take (nz + z) = ((L.drop q).take nz).take iz ++ (ds ++ ((L.drop q).take nz).drop iz):=by
 obtain ⟨A,X,B,U,T,rfl,hA,hX,hB,hU,hT⟩:=I8 L q iz z nz h1 h2
 have o1 : ((A ++ (X ++ (B ++ (U ++ T)))).drop q).take nz = X ++ (B ++ U):=by
  rw [qE hA,show X ++ (B ++ (U ++ T)) = (X ++ (B ++ U)) ++ T by simp]
  exact iT (by simp; omega)
 rw [o1] at hY ⊢
 rw [qE hX] at hY ⊢
 rw [iT hX]
 subst hY
 have e1 : (A ++ (X ++ (B ++ (U ++ T)))).take (q + (iz + z)) = A ++ (X ++ B):=by
  rw [show A ++ (X ++ (B ++ (U ++ T))) = (A ++ (X ++ B)) ++ (U ++ T) by simp]
  exact iT (by simp; omega)
 have e2 : (A ++ (X ++ (B ++ (U ++ T)))).drop (q + (iz + z) + (B ++ U).length) = T.drop z:=by
  rw [show A ++ (X ++ (B ++ (U ++ T))) = (A ++ (X ++ (B ++ U))) ++ T by simp,show q + (iz + z) + (B ++ U).length = (A ++ (X ++ (B ++ U))).length + z by simp; omega,← List.drop_drop,List.drop_left]
 rw [e1,e2] at hR1
 have e3 : R1.take (q + iz) = A ++ X:=by
  rw [hR1,show A ++ (X ++ B) ++ (B ++ U) ++ T.drop z = (A ++ X) ++ (B ++ ((B ++ U) ++ T.drop z)) by simp]
  exact iT (by simp; omega)
 have e4 : R1.drop (q + iz + ds.length) = (B ++ U) ++ T.drop z:=by
  rw [hR1,show A ++ (X ++ B) ++ (B ++ U) ++ T.drop z = (A ++ (X ++ B)) ++ ((B ++ U) ++ T.drop z) by simp]
  exact qE (by simp; omega)
 rw [e3,e4] at hR2
 refine ⟨by rw [hR1]; simp; omega,by rw [hR2]; simp; omega,?_⟩
 rw [hR2,show A ++ X ++ ds ++ (B ++ U ++ T.drop z) = A ++ ((X ++ (ds ++ (B ++ U))) ++ T.drop z) by simp,qE hA]
 exact iT (by simp; omega)
theorem Dk {Z0 X Y ds R1 R2 : List Value} {iz z m : Nat} (hX : X.length = iz) (h0 : Z0.take iz = X) (hd : ds.length = z) (hl : iz + z + Y.length = m) (hm : m ≤ Z0.length)
  (hR1 : R1 = Z0.take iz ++ ds ++ Z0.drop (iz + ds.length)) (hR2 : R2 = R1.take (iz + z) ++ Y ++ R1.drop (iz + z + Y.length)) : R1.length = Z0.length ∧ R2.length = Z0.length ∧ R2.take m = X ++ (ds ++ Y):=by
 rw [h0] at hR1
 have e : R1.take (iz + z) = X ++ ds:=by
  rw [hR1]
  exact iT (by simp; omega)
 rw [e] at hR2
 have l1 : R1.length = Z0.length:=by
  rw [hR1]
  simp
  omega
 refine ⟨l1,by rw [hR2]; simp; omega,?_⟩
 rw [hR2,List.append_assoc X ds Y]
 exact iT (by simp; omega)
theorem gq (w W : World) (b : Nat) (R : Array Value) (h : W.heap = w.heap) : (W.setRow b R).heap = (w.setRow b R).heap:=by
 simp only [World.setRow,h]
theorem Dl {F O : FuncId} {S N el : TypeId} {z by_ : Nat} {zz : Value} (I : Di P F O S N el z by_ zz) (R : bV ι base h w) {s i x sc ic xc v : Value} {h' : AH} (hv : Dh z by_ s i x h = some (v,h')) (hs : aA ι s sc) (hi : aA ι i ic) (hx : aA ι x xc) :
  Calls P F #[sc,ic,xc] w fun e w' => ∃ vc ι',e = .returned vc ∧ aA ι' v vc ∧ bV ι' base h' w' ∧ ej h.next w ι ι' ∧ cv base ι w w' ∧ h.next ≤ h'.next:=by
 obtain ⟨zs,hzs,hzl⟩:=I.hzs
 have app : ∀ (bs : Option Addr) (n c : Nat) (xa : Addr) (xcap : Nat),n ≤ c → (bs = none → n = 0 ∧ c = 0) → sc = .slice bs n c → xc = .slice (some xa) 1 xcap → ic = .int .i64 n → dz z by_ s x h = some (v,h') →
   Calls P F #[sc,ic,xc] w fun e w' => ∃ vc ι',e = .returned vc ∧ aA ι' v vc ∧ bV ι' base h' w' ∧ ej h.next w ι ι' ∧ cv base ι w w' ∧ h.next ≤ h'.next:=by
  intro bs n c xa xcap h1 h3 e1 e2 e3 ha
  subst e1 e2 e3
  obtain ⟨vc,ι',w',g1,g2,g3,g4,g5,g6⟩ : cw P ι base h w (Builtin.append_ #[S,S] S #[.slice bs n c,.slice (some xa) 1 xcap]) v h':=fX R I.hS (.inl ⟨el,I.hS⟩) I.hz I.hb I.hzz hzs (by
   rw [Bool.or_eq_false_iff,Bool.not_eq_false']
   refine ⟨?_,by rw [hzl]; exact Nat.beq_refl z⟩
   cases e : Nat.beq by_ 0 with
   | false => rfl
   | true => exact absurd (Nat.eq_of_beq_eq_true e) I.hb0) ha hs hx
  refine (I.last w bs n c xa xcap vc w' h1 h3 g1).mono ?_
  rintro e W ⟨rfl,rfl⟩
  exact ⟨vc,ι',rfl,g2,g3,g4,g5,g6⟩
 unfold Dh at hv
 split at hv
 ·rename_i a n c j b m cb
  obtain ⟨hm,hv⟩:=ah hv
  obtain rfl:=Nat.eq_of_beq_eq_true hm
  obtain ⟨sa,c2,rfl,hss⟩:=hs.slice_inv
  obtain rfl:=hi.int_inv
  obtain ⟨xa,c3,rfl,hxs⟩:=hx.slice_inv
  cases hj : (decide (0 ≤ j) && decide (j < (n : Int))) with
  | false =>
   rw [hj] at hv
   obtain ⟨hjn,hv2⟩:=ah (show cond _ _ _ = _ from hv)
   obtain rfl:=of_decide_eq_true hjn
   refine app (some sa) n c2 xa c3 hss.le (fun e => by cases e) rfl rfl rfl hv2
  | true =>
   rw [hj] at hv
   obtain ⟨hj0,hjn⟩:=and_true hj
   obtain ⟨i,rfl⟩ : ∃ i : Nat,j = (i : Int):=⟨j.toNat,by omega⟩
   have hin : i < n:=by omega
   obtain ⟨hop,hv⟩:=cA hv
   rw [Bool.or_eq_false_iff] at hop
   have hge : aG ≤ c:=Nat.le_of_not_lt fun hlt => by
    rw [show Nat.blt c aG = true from Nat.ble_eq_true_of_le hlt] at hop
    cases hop.2
   obtain ⟨bl,hbl,hv⟩:=Option.bind_eq_some_iff.1 hv
   obtain ⟨bx,hbx,hv⟩:=Option.bind_eq_some_iff.1 hv
   obtain ⟨hck,hv⟩:=cA hv
   simp only [Bool.or_eq_false_iff,Bool.not_eq_false'] at hck
   obtain ⟨hro,hrx,hgr,hez,hexz,hz1⟩:=hck
   have hez:=Nat.eq_of_beq_eq_true hez
   have hexz:=Nat.eq_of_beq_eq_true hexz
   have hz1 : 1 < z:=Nat.lt_of_not_le fun hle => by
    rw [Nat.ble_eq_true_of_le hle] at hz1
    cases hz1
   have hgr : bl.grp ≠ bx.grp:=fun e => by
    rw [e,Nat.beq_refl] at hgr
    cases hgr
   obtain ⟨hbd,hv⟩:=ah hv
   have hbd:=Nat.le_of_ble_eq_true hbd
   obtain ⟨items,hit,hv⟩:=Option.bind_eq_some_iff.1 hv
   obtain ⟨old,hold,hv⟩:=Option.bind_eq_some_iff.1 hv
   obtain ⟨rfl,rfl⟩:=Prod.mk.inj (Option.some.inj hv)
   obtain ⟨hnc,ha1,ha2,kk,ha3,ha4,ha5⟩:=hss.there (.inr (by unfold aG at hge; omega))
   obtain ⟨hxc,hx1,hx2,kx,hx3,hx4,hx5⟩:=hxs.there (.inl (by have:=hxs.le; omega))
   have hxo : xa.off = kx.sh + b.off:=by
    rcases hx5 with ⟨q1,_⟩ | ⟨q1,_⟩
    ·omega
    ·exact q1
   have halt : sa.off = kk.sh + a.off ∧ sa.off + c2 * kk.esz = kk.bsz:=by
    rcases ha5 with ⟨q1,_⟩ | ⟨q1,⟨q2,_⟩ | ⟨_,q2⟩⟩
    ·omega
    ·omega
    ·exact ⟨q1,q2⟩
   obtain ⟨hoff,hcap⟩:=halt
   have hkz : kk.esz = z:=(R.esz _ _ _ (aR hbl).1 ha3).trans hez
   rw [hkz] at hcap
   have hne : kx.b ≠ kk.b:=fun e => R.dis _ _ _ _ _ _ (aR hbl).1 (aR hbx).1 ha3 hx3 hgr (.inl hro) e.symm
   obtain ⟨sb,so,ss⟩:=sa
   obtain rfl : ss = none:=ha2
   obtain rfl : sb = kk.b:=ha4
   obtain ⟨xb,xo,xs⟩:=xa
   obtain rfl : xs = none:=hx2
   obtain rfl : xb = kx.b:=hx4
   have hoff : so = kk.sh + a.off:=hoff
   have hxo : xo = kx.sh + b.off:=hxo
   obtain ⟨cs,elb,fz,b1,b2,b3,l,rfl,b5⟩:=R.blk _ _ _ hbl ha3
   obtain ⟨cx,elx,fx,y1,y2,y3,_,_,_⟩:=R.blk _ _ _ hbx hx3
   obtain ⟨hfz,hbase⟩:=b3 hro
   have hfx : fx = (0,0):=by
    rcases (y3 hrx).1 with e | ⟨e,_⟩
    ·exact e
    ·omega
   obtain ⟨ho1,rfl⟩:=iH hold
   have hold2:=(b5.drop a.off).take (n * z)
   rw [iK ho1,← hoff] at hold2
   have hll:=b5.length_eq
   rw [List.length_take,List.length_drop,Array.length_toList] at hll
   have hit : (match b.spot with
    | none => cond (Nat.beq (1 * z) 0) (some []) ((h.rd b.block).bind fun q => cj q.cells b.off (1 * z))
    | some _ => none) = some items:=hit
   rw [hx1] at hit
   have hit : cond (Nat.beq (1 * z) 0) (some []) ((h.rd b.block).bind fun q => cj q.cells b.off (1 * z)) = some items:=hit
   rw [bN,if_neg (by omega),hbx,Nat.one_mul] at hit
   have hit : cj bx.cells b.off z = some items:=hit
   obtain ⟨ds,hdl,hds,hdc⟩:=R.cells hbx hx3 hit
   rw [← hxo] at hdc
   have hsz1:=I.hz
   have hn1 : n + 1 ≤ (n + 1) * by_:=Nat.le_mul_of_pos_right _ (Nat.pos_of_ne_zero I.hb0)
   have hiz : i * z + z ≤ n * z:=by
    rw [← Nat.succ_mul]
    exact Nat.mul_le_mul_right _ hin
   have hcz : n * z ≤ c2 * z:=Nat.mul_le_mul_right _ hnc
   have hcsl : cs.toList.length = cs.size:=Array.length_toList
   have hi1 : (i + 1) * z = i * z + z:=Nat.succ_mul i z
   have hn1z : (n + 1) * z = n * z + z:=Nat.succ_mul n z
   obtain ⟨old,hO⟩ : ∃ old,old = (cs.toList.drop so).take (n * z):=⟨_,rfl⟩
   have hol : old.length = n * z:=by
    rw [hO,List.length_take,List.length_drop]
    omega
   rw [← hO] at hold2
   have hYl : (old.drop (i * z)).length = (n - i) * z:=by
    rw [List.length_drop,hol,Nat.sub_mul]
   have hallR:=(hold2.take (i * z)).append (hds.append (hold2.drop (i * z)))
   have hcellO : ∀ (W : World),W.heap[kk.b]? = some (.cells cs elb fz) → ∀ j v,old[j]? = some v → W.cell? ⟨kk.b,so + j,none⟩ = some v:=fun W hW j v hj => by
    rw [hO,List.getElem?_take] at hj
    split at hj
    ·rw [List.getElem?_drop] at hj
     simpa [World.cell?,hW] using hj
    ·cases hj
   have hfit2 : so + n * z + z ≤ cs.toList.length ∨ ¬ n + 1 ≤ c2:=by
    by_cases hroom : n + 1 ≤ c2
    ·left
     have : (n + 1) * z ≤ c2 * z:=Nat.mul_le_mul_right _ hroom
     omega
    ·exact .inr hroom
   by_cases hroom : n + 1 ≤ c2
   ·-- in place
    have hL : so + n * z + z ≤ cs.toList.length:=hfit2.resolve_right fun e => e hroom
    obtain ⟨R1,hR1⟩ : ∃ R1,R1 = (cs.toList.take (so + (i * z + z)) ++ old.drop (i * z) ++ cs.toList.drop (so + (i * z + z) + (old.drop (i * z)).length)).toArray:=⟨_,rfl⟩
    obtain ⟨R2,hR2⟩ : ∃ R2,R2 = (R1.toList.take (so + i * z) ++ ds ++ R1.toList.drop (so + i * z + ds.length)).toArray:=⟨_,rfl⟩
    obtain ⟨r1,r2,r3⟩:=Dj hiz hL hdl (Y:=old.drop (i * z)) (by rw [hO]) (R1:=R1.toList) (by rw [hR1,List.toList_toArray]) (R2:=R2.toList) (by rw [hR2,List.toList_toArray])
    rw [← hO] at r3
    rw [Array.length_toList] at r1 r2
    have w1 : ∀ W : World,W.heap = w.heap → ∀ ty dc sc,(Builtin.copy_ #[S,S] ty #[.slice (some ⟨kk.b,so + (i + 1) * z,none⟩) (n + 1 - (i + 1)) dc,.slice (some ⟨kk.b,so + i * z,none⟩) (n + 1 - i) sc]).run P W = .ok (.int .i64 ((min (n + 1 - i) (n + 1 - (i + 1)) : Nat) : Int)) (W.setRow kk.b R1):=fun W hW ty dc sc => by
     have hWk : W.heap[kk.b]? = some (.cells cs elb fz):=by rw [hW]; exact b1
     refine fJ I.hS I.hz (ds:=old.drop (i * z)) (run_firstCells_some W z _ ⟨kk.b,so + i * z,none⟩ _ _ _ (by rw [hYl]; congr 1; omega) (fun j v hj => ?_)) ?_
     ·rw [List.getElem?_drop] at hj
      have:=hcellO W hWk _ _ hj
      rw [cX rfl]
      rw [show so + i * z + j = so + (i * z + j) by omega]
      exact this
     ·have hst:=bR P kk.b (so + (i + 1) * z) elb fz kk.bsz hfz (old.drop (i * z)) 0 cs W hWk b2 (by rw [hYl,Nat.sub_mul]; omega) (dS (hold2.drop (i * z)))
      simp only [Nat.add_zero,hi1] at hst
      rw [hi1,hst,hR1]
    have w2 : ∀ W : World,W.heap = (w.setRow kk.b R1).heap → ∀ ty dc,(Builtin.copy_ #[S,S] ty #[.slice (some ⟨kk.b,so + i * z,none⟩) (n + 1 - i) dc,.slice (some ⟨kx.b,xo,none⟩) 1 c3]).run P W = .ok (.int .i64 ((min 1 (n + 1 - i) : Nat) : Int)) (W.setRow kk.b R2):=fun W hW ty dc => by
     have hWk : W.heap[kk.b]? = some (.cells R1 elb fz):=by
      rw [hW]
      exact setRow_heap w kk.b cs _ elb _ b1
     have hmin : min 1 (n + 1 - i) = 1:=by omega
     refine fJ I.hS I.hz (ds:=ds) ?_ ?_
     ·rw [hmin]
      refine run_firstCells_some W z 1 ⟨kx.b,xo,none⟩ _ _ _ (by rw [hdl,Nat.one_mul]) (fun j v hj => ?_)
      rw [cX rfl]
      have:=hdc j v hj
      simp only [World.cell?] at this ⊢
      rw [hW,setRow_other w kk.b kx.b _ hne]
      exact this
     ·have hst:=bR P kk.b (so + i * z) elb fz kk.bsz hfz ds 0 R1 W hWk (r1.trans (hcsl.trans b2)) (by rw [hdl,r1]; omega) (dS hds)
      simp only [Nat.add_zero] at hst
      rw [hst,hR2]
    refine (I.shift w kk.b so n c2 i kx.b xo c3 _ _ R1 R2 hin hroom (by omega) (fun W hW lb cb => ?_) w1 w2).mono ?_
    ·refine I.ovl W _ _ _ _ _ _ hne elx elb cx.size cs.size ?_ ?_ (by omega) ?_ ?_
     ·simp only [World.shape?,hW,y1]
     ·simp only [World.shape?,hW,b1]
     ·simp only [World.frozen?,hW,y1,hfx]
      simp
     ·simp only [World.frozen?,hW,y1,hfx]
      simp
    ·rintro e W ⟨rfl,g1,g2,g3⟩
     have hW2 : W.heap[kk.b]? = some (.cells R2 elb fz):=by
      rw [g1]
      exact setRow_heap _ kk.b R1 _ elb _ (setRow_heap w kk.b cs _ elb _ b1)
     obtain ⟨ι',q1,q2,q3,q4⟩:=R.grow hbl ha3 hro (cells:=((bl.cells.drop a.off).take (n * z)).take (i * z) ++ (items ++ ((bl.cells.drop a.off).take (n * z)).drop (i * z))) (z:=z) (kp:=false) (k':=⟨kk.b,so,z,kk.bsz⟩) rfl (by rw [← hez]; exact hfz) hez
      hW2 (r2.trans (hcsl.trans b2)) (by
       have hlen : (((bl.cells.drop a.off).take (n * z)).take (i * z) ++ (items ++ ((bl.cells.drop a.off).take (n * z)).drop (i * z))).length = n * z + z:=by
        rw [hallR.length_eq,List.length_append,List.length_append,hYl,List.length_take,hol,hdl,Nat.sub_mul]
        omega
       rw [hlen,r3]
       exact hallR) (by rw [g1]; simp [World.setRow]) (fun j _ hj => by
       rw [g1,setRow_other _ kk.b j _ hj,setRow_other w kk.b j _ hj])
      (.inl ⟨rfl,fun e => by cases e⟩) (by rw [g1]; simp [World.setRow]; exact (R.dom _ _ ha3).2) ⟨g2,g3⟩
     exact ⟨_,ι',rfl,(bh.sl ⟨h.next,0,none⟩ ⟨kk.b,so,none⟩ (n + 1) aG c2 ⟨hroom,rfl,rfl,_,q1,rfl,.inr ⟨rfl,.inr ⟨Nat.le_refl _,hcap⟩⟩⟩).v,q2,q3,q4,Nat.le_succ _⟩
   ·-- a new row
    obtain ⟨ti,hti,htb⟩:=Option.map_eq_some_iff.1 I.hb
    have hts : ti.size = z:=by
     have:=I.hz
     unfold bv at this
     rw [hti] at this
     injection this
    have htz : ti.zero = some zz:=by
     have:=I.hzz
     unfold cU at this
     rw [hti] at this
     exact this
    have hzc : zz.cells.size = z:=by rw [← Array.length_toList,eX hzs,hzl]
    have hXl : (old.take (i * z)).length = i * z:=by
     rw [List.length_take,hol]
     omega
    have hfc : (Builtin.firstCells ti.size i (.slice (some ⟨kk.b,so,none⟩) i c2)).run P w.drew = .ok (old.take (i * z)).toArray w.drew:=by
     rw [hts]
     refine run_firstCells_some w.drew z i ⟨kk.b,so,none⟩ i c2 _ hXl (fun j v hj => ?_)
     rw [List.getElem?_take] at hj
     split at hj
     ·rw [cX rfl]
      exact hcellO w.drew b1 _ _ hj
     ·cases hj
    have hin1 : i + (n + 1 - i) = n + 1:=by omega
    have hap : ∀ ty,(Builtin.append_ #[S,N] ty #[.slice (some ⟨kk.b,so,none⟩) i c2,.int .i64 ((n + 1 - i : Nat) : Int)]).run P w = .ok (.slice (some ⟨w.heap.size,0,none⟩) (n + 1) (grownCap w (n + 1) c2 el)) (w.drew.alloc (.cells ((old.take (i * z)).toArray ++ Builtin.zeroCells zz.cells (n + 1 - i) ++ Builtin.zeroCells zz.cells (grownCap w (n + 1) c2 el - (n + 1))) el)):=fun ty => by
     have h:=Lib.run_append_grow_zeros w S N ty el ti zz .i64 .i64 I.hS I.hN hti htz (some ⟨kk.b,so,none⟩) i c2 (old.take (i * z)) hfc (n + 1 - i) (by omega) (by omega) (by omega) (by omega) (by
      rw [htb]
      have : (n + 1 - i) * by_ ≤ (n + 1) * by_:=Nat.mul_le_mul_right _ (by omega)
      omega) (by
      rw [htb,hin1]
      exact growslice_fits (by omega) hbd)
     rw [hin1] at h
     exact h
    obtain ⟨G,hG⟩ : ∃ G,G = grownCap w (n + 1) c2 el:=⟨_,rfl⟩
    have hGn : n + 1 ≤ G:=by
     rw [hG]
     exact fq w _ _ _
    have hG63 : G ≤ 9223372036854775807:=by
     have:=grownCap_le_maxLen w (n + 1) c2 el (by unfold maxLen; omega)
     rw [← hG] at this
     unfold maxLen at this
     omega
    rw [← hG] at hap
    obtain ⟨Z0,hZ0⟩ : ∃ Z0,Z0 = (old.take (i * z)).toArray ++ Builtin.zeroCells zz.cells (n + 1 - i) ++ Builtin.zeroCells zz.cells (G - (n + 1)):=⟨_,rfl⟩
    rw [← hZ0] at hap
    have hZl : Z0.toList.length = G * z:=by
     rw [hZ0,Array.toList_append,Array.toList_append,List.length_append,List.length_append,jH,jH,hzc,List.toList_toArray,hXl,← Nat.add_mul,← Nat.add_mul]
     congr 1
     omega
    have hZt : Z0.toList.take (i * z) = old.take (i * z):=by
     rw [hZ0,Array.toList_append,Array.toList_append,List.toList_toArray,List.append_assoc]
     exact iT hXl
    have hGz : (n + 1) * z ≤ G * z:=Nat.mul_le_mul_right _ hGn
    have hZs : Z0.size = G * z:=by rw [← Array.length_toList]; exact hZl
    obtain ⟨W0,hW0⟩ : ∃ W0,W0 = w.drew.alloc (.cells Z0 el):=⟨_,rfl⟩
    rw [← hW0] at hap
    have hW0n : W0.heap[w.heap.size]? = some (.cells Z0 el (0,0)):=by
     rw [hW0,cC]
     exact Array.getElem?_push_size
    have hW0o : ∀ j,j < w.heap.size → W0.heap[j]? = w.heap[j]?:=fun j hj => by
     rw [hW0]
     show (w.heap.push _)[j]? = _
     rw [Array.getElem?_push,if_neg (Nat.ne_of_lt hj)]
    have hkw:=(R.dom _ _ ha3).2
    have hxw:=(R.dom _ _ hx3).2
    obtain ⟨R1,hR1⟩ : ∃ R1,R1 = (Z0.toList.take (i * z) ++ ds ++ Z0.toList.drop (i * z + ds.length)).toArray:=⟨_,rfl⟩
    obtain ⟨R2,hR2⟩ : ∃ R2,R2 = (R1.toList.take (i * z + z) ++ old.drop (i * z) ++ R1.toList.drop (i * z + z + (old.drop (i * z)).length)).toArray:=⟨_,rfl⟩
    obtain ⟨r1,r2,r3⟩:=Dk hXl hZt hdl (Y:=old.drop (i * z)) (m:=n * z + z) (by rw [hYl,Nat.sub_mul]; omega) (by omega) (R1:=R1.toList) (by rw [hR1,List.toList_toArray]) (R2:=R2.toList) (by rw [hR2,List.toList_toArray])
    rw [Array.length_toList] at r1 r2
    have w1 : ∀ W : World,W.heap = W0.heap → ∀ ty dc,(Builtin.copy_ #[S,S] ty #[.slice (some ⟨w.heap.size,i * z,none⟩) (n + 1 - i) dc,.slice (some ⟨kx.b,xo,none⟩) 1 c3]).run P W = .ok (.int .i64 ((min 1 (n + 1 - i) : Nat) : Int)) (W.setRow w.heap.size R1):=fun W hW ty dc => by
     have hWk : W.heap[w.heap.size]? = some (.cells Z0 el (0,0)):=by rw [hW]; exact hW0n
     have hmin : min 1 (n + 1 - i) = 1:=by omega
     refine fJ I.hS I.hz (ds:=ds) ?_ ?_
     ·rw [hmin]
      refine run_firstCells_some W z 1 ⟨kx.b,xo,none⟩ _ _ _ (by rw [hdl,Nat.one_mul]) (fun j v hj => ?_)
      rw [cX rfl]
      have:=hdc j v hj
      simp only [World.cell?] at this ⊢
      rw [hW,hW0o _ hxw]
      exact this
     ·have hst:=bR P w.heap.size (i * z) el (0,0) Z0.size (FZ.zero z _) ds 0 Z0 W hWk rfl (by rw [hdl,hZs]; omega) (dS hds)
      simp only [Nat.add_zero] at hst
      rw [hst,hR1]
    have w2 : ∀ W : World,W.heap = (W0.setRow w.heap.size R1).heap → ∀ ty dc sc,(Builtin.copy_ #[S,S] ty #[.slice (some ⟨w.heap.size,(i + 1) * z,none⟩) (n + 1 - (i + 1)) dc,.slice (some ⟨kk.b,so + i * z,none⟩) (n - i) sc]).run P W = .ok (.int .i64 ((min (n - i) (n + 1 - (i + 1)) : Nat) : Int)) (W.setRow w.heap.size R2):=fun W hW ty dc sc => by
     have hWk : W.heap[w.heap.size]? = some (.cells R1 el (0,0)):=by
      rw [hW]
      exact setRow_heap W0 w.heap.size Z0 _ el _ hW0n
     have hWo : W.heap[kk.b]? = some (.cells cs elb fz):=by
      rw [hW,setRow_other W0 w.heap.size kk.b _ (Nat.ne_of_lt hkw),hW0o _ hkw]
      exact b1
     refine fJ I.hS I.hz (ds:=old.drop (i * z)) (run_firstCells_some W z _ ⟨kk.b,so + i * z,none⟩ _ _ _ (by rw [hYl]; congr 1; omega) (fun j v hj => ?_)) ?_
     ·rw [List.getElem?_drop] at hj
      have:=hcellO W hWo _ _ hj
      rw [cX rfl]
      rw [show so + i * z + j = so + (i * z + j) by omega]
      exact this
     ·have hst:=bR P w.heap.size ((i + 1) * z) el (0,0) R1.size (FZ.zero z _) (old.drop (i * z)) 0 R1 W hWk rfl (by rw [hYl,Nat.sub_mul,r1,hZl]; omega) (dS (hold2.drop (i * z)))
      simp only [Nat.add_zero,hi1] at hst
      rw [hi1,hst,hR2]
    refine (I.more w W0 kk.b so n c2 i kx.b xo c3 w.heap.size G _ _ R1 R2 hin hnc (by omega) (by omega) hGn hG63 hap w1 w2).mono ?_
    rintro e W ⟨rfl,g1,g2,g3⟩
    have hW2 : W.heap[w.heap.size]? = some (.cells R2 el (0,0)):=by
     rw [g1]
     exact setRow_heap _ w.heap.size R1 _ el _ (setRow_heap W0 w.heap.size Z0 _ el _ hW0n)
    have hsz : W.heap.size = w.heap.size + 1:=by
     rw [g1]
     simp [World.setRow,hW0,cC]
    obtain ⟨ι',q1,q2,q3,q4⟩:=R.grow hbl ha3 hro (cells:=((bl.cells.drop a.off).take (n * z)).take (i * z) ++ (items ++ ((bl.cells.drop a.off).take (n * z)).drop (i * z))) (z:=z) (kp:=false) (k':=⟨w.heap.size,0,z,G * z⟩) rfl (FZ.zero z _) hez
     hW2 (r2.trans hZl) (by
      have hlen : (((bl.cells.drop a.off).take (n * z)).take (i * z) ++ (items ++ ((bl.cells.drop a.off).take (n * z)).drop (i * z))).length = n * z + z:=by
       rw [hallR.length_eq,List.length_append,List.length_append,hYl,List.length_take,hol,hdl,Nat.sub_mul]
       omega
      rw [hlen,List.drop_zero,r3]
      exact hallR) (by omega) (fun j hj hj' => by
      rw [g1,setRow_other _ w.heap.size j _ hj',setRow_other W0 w.heap.size j _ hj']
      exact hW0o j hj)
     (.inr rfl) (by show w.heap.size < W.heap.size; omega) ⟨g2.trans (by rw [hW0]; rfl),g3.trans (by rw [hW0]; rfl)⟩
    exact ⟨_,ι',rfl,(bh.sl ⟨h.next,0,none⟩ ⟨w.heap.size,0,none⟩ (n + 1) aG G ⟨hGn,rfl,rfl,_,q1,rfl,.inr ⟨rfl,.inr ⟨Nat.le_refl _,by simp⟩⟩⟩).v,q2,q3,q4,Nat.le_succ _⟩
 ·rename_i n c j b m cb
  obtain ⟨hm,hv⟩:=ah hv
  obtain rfl:=Nat.eq_of_beq_eq_true hm
  obtain ⟨rfl,rfl,rfl⟩:=hs.snil_inv
  obtain rfl:=hi.int_inv
  obtain ⟨xa,c3,rfl,hxs⟩:=hx.slice_inv
  obtain ⟨hjn,hv2⟩:=ah hv
  obtain rfl:=of_decide_eq_true hjn
  exact app none 0 0 xa c3 (Nat.le_refl _) (fun _ => ⟨rfl,rfl⟩) rfl rfl rfl hv2
 ·cases hv
end Go.Proofs.YtjdomdndflfjdabGreatDoor.X
