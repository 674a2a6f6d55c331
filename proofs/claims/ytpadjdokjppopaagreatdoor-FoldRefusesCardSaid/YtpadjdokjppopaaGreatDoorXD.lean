/- Joined texts: XD. -/
import Derived.LoopN
import Derived.Test.YtpadjdokjppopaaGreatDoorXB
namespace Go.Proofs.YtpadjdokjppopaaGreatDoor.X
open Go
variable {P : Program} {G nt : Nat} {cf : FuncId → List Value → AH → Option (Value × AH)} {ops : Array Oper} {es : Nat → Tr Value} {hs : Nat → AH}
def Loud (ops : Array Oper) (j : Nat) : Prop:=silentAt ops.toList j = false
def SafeP (P : Program) (cf : FuncId → List Value → AH → Option (Value × AH)) (es : Nat → Tr Value) (hs : Nat → AH) (ops : Array Oper) (x p : Nat) (o : Oper) : Prop :=
 wantE ops o (es x) = true → ∃ v,opV P cf o.op (es x) (hs p) = some (v,hs p) ∧ es (x + 1) = putE (es x) o.dst v
structure InvW (P : Program) (cf : FuncId → List Value → AH → Option (Value × AH)) (G nt : Nat) (ops : Array Oper) (p : Nat) (es : Nat → Tr Value) (hs : Nat → AH) (base : Nat) (ι0 : Inj) (w0 : World) (listed : Array Bool) (ι : Inj) (a : Act) (w : World) : Prop where
 rel : Rel ι base (hs p) w
 tmp : ∀ t,(∃ j o,Lst listed j ∧ ops.toList[j]? = some o ∧ o.dst = some t ∧ vRel ι (((es (j + 1)).get t).getD undef) (a.tmps.getD t undef)) ∨
  ((∀ j o,Lst listed j → ops.toList[j]? = some o → o.dst ≠ some t) ∧ vRel ι (((es 0).get t).getD undef) (a.tmps.getD t undef))
 dfr : a.defers = []
 glb : GOK G ι
 siz : nt ≤ a.tmps.size
 low : ∀ j,Lst listed j → Loud ops j → j < p
 pen : ∀ j,j < p → Loud ops j → Lst listed j
 ext : Ext (hs 0).next w0 ι0 ι
 kep : Keep base ι0 w0 w
 nxt : (hs 0).next ≤ (hs p).next
section
variable {base p : Nat} {ι0 ι : Inj} {w0 w : World} {listed : Array Bool} {a : Act}
theorem InvW.read (T : Tr2 P cf ops 0 es hs) (hC : drawC ops.toList = true) (I : InvW P cf G nt ops p es hs base ι0 w0 listed ι a w) (hc : Clo ops listed) {i : Nat} (hi : i ∈ Region.ready .any ops listed) {o : Oper} (ho : ops.toList[i]? = some o)
  {t : Tmp} (ht : t ∈ looks ops.toList o) : vRel ι (((es i).get t).getD undef) (a.tmps.getD t undef):=by
 have hil:=(List.getElem?_eq_some_iff.1 ho).1
 have hsure:=sure hC ho ht
 rcases I.tmp t with ⟨j,o',hl,ho',hd,hv⟩ | ⟨hno,hv⟩
 ·have hjl:=(List.getElem?_eq_some_iff.1 ho').1
  rcases hsure j o' ho' hd with rfl | ⟨h1,_⟩ | ⟨_,h2⟩
  ·exact absurd hl (ready_not hi).2
  ·have e : (es i).get t = (es (j + 1)).get t:=T.envLe (by omega) (by omega) fun j' o'' h3 h4 e1 e2 => by
    have:=once hC j j' o' o'' t ho' e1 hd e2
    omega
   rw [e]
   exact hv
  ·exact absurd (hc j hl i h2) (ready_not hi).2
 ·have e : (es i).get t = (es 0).get t:=T.envLe (Nat.zero_le _) (by omega) fun j o' _ h2 e1 e2 => by
   rcases hsure j o' e1 e2 with rfl | ⟨_,h3⟩ | ⟨h3,_⟩
   ·omega
   ·exact hno j o' (ready_bfr hc hi j h3) e1 e2
   ·omega
  rw [e]
  exact hv
theorem InvW.next (I : InvW P cf G nt ops p es hs base ι0 w0 listed ι a w) {i p' : Nat} (hsz : i < listed.size) {o : Oper} (ho : ops.toList[i]? = some o) (hdst : ∀ t,o.dst = some t → t < nt)
  {v vc : Value} (hes : es (i + 1) = putE (es i) o.dst v) {ι1 : Inj} {w1 : World} (hvr : vRel ι1 v vc) (R1 : Rel ι1 base (hs p') w1) (E1 : Ext (hs p).next w ι ι1) (K1 : Keep base ι w w1) (N1 : (hs p).next ≤ (hs p').next)
  (hip : Loud ops i → i < p') (hpp : p ≤ p') (hpen : ∀ j,p ≤ j → j < p' → Loud ops j → j = i) : InvW P cf G nt ops p' es hs base ι0 w0 (listed.setIfInBounds i true) ι1 (a.put o.dst vc) w1:=by
 have s1 : Sub ι ι1:=E1.sub fun β k e => (I.rel.dom β k e).1
 have lm : ∀ j,Lst listed j → Lst (listed.setIfInBounds i true) j:=fun j h => (lst_set hsz).2 (.inl h)
 have li : Lst (listed.setIfInBounds i true) i:=(lst_set hsz).2 (.inr rfl)
 refine ⟨R1,fun t => ?_,by rw [put_defers]; exact I.dfr,I.glb.mono s1,by rw [put_size]; exact I.siz,fun j hj hjl => ?_,fun j hj hjl => ?_,I.ext.trans E1 I.nxt I.kep.1,I.kep.trans I.ext K1,Nat.le_trans I.nxt N1⟩
 ·by_cases hd : o.dst = some t
  ·refine .inl ⟨i,o,li,ho,hd,?_⟩
   rw [put_self hd (Nat.lt_of_lt_of_le (hdst t hd) I.siz),hes,hd]
   have : ((putE (es i) (some t) v).get t).getD undef = v:=by
    show (((es i).set t v).get t).getD undef = v
    rw [Tr.get_set,if_pos rfl]
    rfl
   rw [this]
   exact hvr
  ·rw [put_other hd]
   rcases I.tmp t with ⟨j,o',hl,ho',hd',hv⟩ | ⟨hno,hv⟩
   ·exact .inl ⟨j,o',lm j hl,ho',hd',hv.mono s1⟩
   ·refine .inr ⟨fun j o' hl ho' => ?_,hv.mono s1⟩
    rcases (lst_set hsz).1 hl with hl | rfl
    ·exact hno j o' hl ho'
    ·rw [ho] at ho'
     injection ho' with ho'
     exact ho' ▸ hd
 ·rcases (lst_set hsz).1 hj with hl | rfl
  ·exact Nat.lt_of_lt_of_le (I.low j hl hjl) hpp
  ·exact hip hjl
 ·rcases Nat.lt_or_ge j p with hl | hl
  ·exact lm j (I.pen j hl hjl)
  ·exact hpen j hl hj hjl ▸ li
def Plain (P : Program) (ops : Array Oper) : Prop:=∀ o ∈ ops.toList,∀ s d x,o.op = .convert s d x → isSliceT P d = false
theorem conv_any {s d : TypeId} {x : Operand} (hd : isSliceT P d = false) {e : Tr Value} {h h1 : AH} {v : Value} (hv : opV P cf (.convert s d x) e h = some (v,h1)) (g : AH) : opV P cf (.convert s d x) e g = some (v,g):=by
 unfold opV at hv ⊢
 simp only [hd,cond_false] at hv ⊢
 obtain ⟨v',h2,h3⟩:=Option.map_eq_some_iff.1 hv
 rw [h2]
 rw [← (Prod.mk.inj h3).1]
 rfl
theorem silent_op {o : Oper} (hp : ∀ s d x,o.op = .convert s d x → isSliceT P d = false) (hs' : silentO o = true) {e : Tr Value} {h h1 : AH} {v : Value} (hv : opV P cf o.op e h = some (v,h1)) : h1 = h:=by
 unfold silentO at hs'
 rcases Bool.or_eq_true _ _ ▸ hs' with hs' | hs'
 ·have:=heapless_any hs' hv h
  rw [hv] at this
  exact (Prod.mk.inj (Option.some.inj this)).2
 rcases Bool.or_eq_true _ _ ▸ hs' with hs' | hs'
 ·unfold convT at hs'
  split at hs'
  ·rename_i s d x ho
   rw [ho] at hv
   have:=conv_any (hp s d x ho) hv h
   rw [hv] at this
   exact (Prod.mk.inj (Option.some.inj this)).2
  ·cases hs'
 ·rw [Bool.and_eq_true] at hs'
  have h2:=hs'.1
  unfold loadT at h2
  split at h2
  ·rename_i t τ ho
   rw [ho] at hv
   obtain ⟨v',_,h3⟩:=Option.map_eq_some_iff.1 (show (loadV P t (ev e (.tmp τ)) h).map (fun v => (v,h)) = some (v,h1) from hv)
   exact (Prod.mk.inj h3).2.symm
  ·cases h2
theorem silent_step {o : Oper} (hp : ∀ s d x,o.op = .convert s d x → isSliceT P d = false) (hs' : silentO o = true) {e e1 : Tr Value} {h h1 : AH} (hv : tstepV P cf ops o e h = some (e1,h1)) : h1 = h:=by
 unfold tstepV at hv
 rcases cond_either hv with hv | hv
 ·obtain ⟨⟨v,h2⟩,hp',hv1⟩:=Option.bind_eq_some_iff.1 hv
  rw [← silent_op hp hs' hp']
  exact (Prod.mk.inj (Option.some.inj hv1)).2.symm
 ·exact (Prod.mk.inj (Option.some.inj hv)).2.symm
theorem silent_at {l : List Oper} {x : Nat} {o : Oper} (ho : l[x]? = some o) : silentAt l x = silentO o:=by
 unfold silentAt
 rw [ho]
theorem Tr2.chain (hpl : Plain P ops) (T : Tr2 P cf ops 0 es hs) (p : Nat) : ∀ d,p + d ≤ ops.toList.length → (∀ j,p ≤ j → j < p + d → ¬ Loud ops j) → hs (p + d) = hs p
 | 0,_,_ => rfl
 | d + 1,hl,hno => by
  have hlt : p + d < ops.toList.length:=by omega
  have ho:=List.getElem?_eq_getElem hlt
  have h1:=hno (p + d) (by omega) (by omega)
  have h1 : silentO (ops.toList[p + d]) = true:=by
   unfold Loud at h1
   rw [silent_at ho] at h1
   simpa using h1
  have:=silent_step (hpl _ (List.mem_of_getElem? ho)) h1 (T.lst (p + d) _ (Nat.zero_le _) hlt ho)
  exact this.trans (Tr2.chain hpl T p d (by omega) fun j h1 h2 => hno j h1 (by omega))
theorem Tr2.chainLe (hpl : Plain P ops) (T : Tr2 P cf ops 0 es hs) {p q : Nat} (h : p ≤ q) (hq : q ≤ ops.toList.length) (hno : ∀ j,p ≤ j → j < q → ¬ Loud ops j) : hs q = hs p:=by
 have:=Tr2.chain hpl T p (q - p) (by omega) fun j h1 h2 => hno j h1 (by omega)
 rwa [show p + (q - p) = q by omega] at this
theorem loud_lt {j : Nat} (h : Loud ops j) : j < ops.toList.length:=by
 rcases Nat.lt_or_ge j ops.toList.length with hl | hl
 ·exact hl
 ·unfold Loud silentAt at h
  rw [List.getElem?_eq_none hl] at h
  cases h
theorem InvW.done (hpl' : Plain P ops) (T : Tr2 P cf ops 0 es hs) (hC : drawC ops.toList = true) (I : InvW P cf G nt ops p es hs base ι0 w0 listed ι a w) (hp : p ≤ ops.toList.length) (hall : ∀ j,j < ops.size → Lst listed j) : Post P G nt ι0 base (hs 0) w0 (es ops.toList.length) (hs ops.toList.length) a w:=by
 have hpe : hs ops.toList.length = hs p:=Tr2.chainLe hpl' T hp (Nat.le_refl _) fun j h1 h2 hl => by
  have:=I.low j (hall j (by rw [← Array.length_toList]; exact h2)) hl
  omega
 rw [hpe]
 refine ⟨ι,⟨I.rel,fun t => ?_,I.dfr,I.glb,I.siz⟩,I.ext,I.kep,I.nxt⟩
 rcases I.tmp t with ⟨j,o',hl,ho',hd,hv⟩ | ⟨hno,hv⟩
 ·have hjl:=(List.getElem?_eq_some_iff.1 ho').1
  have e : (es ops.toList.length).get t = (es (j + 1)).get t:=T.envLe (by omega) (Nat.le_refl _) fun j' o'' h3 h4 e1 e2 => by
   have:=once hC j j' o' o'' t ho' e1 hd e2
   omega
  rw [e]
  exact hv
 ·have e : (es ops.toList.length).get t = (es 0).get t:=T.envLe (Nat.zero_le _) (Nat.le_refl _) fun j o' _ h2 e1 e2 => hno j o' (hall j (by rw [← Array.length_toList]; exact h2)) e1 e2
  rw [e]
  exact hv
end
theorem wtail_any (hN : namesOK P = true) (hcf : CallsOK P G cf) (hfn : HasBody P cf) (hC : drawC ops.toList = true) (hok : ops.toList.all (operOK nt G) = true) {base : Nat} {ι0 : Inj} {w0 : World} {Q : Exit → Act → World → Prop} (hpl' : Plain P ops) (T : Tr2 P cf ops 0 es hs)
  (hord : ∀ j x,Loud ops j → x < j → Loud ops x → x ∈ bfr ops j)
  (hsaf : ∀ x o,ops.toList[x]? = some o → ¬ Loud ops x → ∀ p,p ≤ ops.toList.length → (∀ y,Loud ops y → y ∈ bfr ops x → y < p) → (∀ y,y < p → Loud ops y → x ∉ bfr ops y) → SafeP P cf es hs ops x p o)
  (hq : ∀ a' w',Post P G nt ι0 base (hs 0) w0 (es ops.toList.length) (hs ops.toList.length) a' w' → Q .normal a' w') :
  ∀ (fuel p : Nat) {listed : Array Bool} {ι : Inj} {w : World} {a : Act},listed.size = ops.size → cnt listed.toList ≤ fuel → Clo ops listed → p ≤ ops.toList.length → InvW P cf G nt ops p es hs base ι0 w0 listed ι a w → wpAny P .any ops Q fuel listed a w:=by
 intro fuel
 induction fuel with
 | zero =>
  intro p listed ι w a hz hc hcl hpl I
  have hall:=cnt_all hz (by omega)
  exact ⟨ready_nil hall,hq a w (I.done hpl' T hC hpl hall)⟩
 | succ fuel ih =>
  intro p listed ι w a hz hc hcl hpl I
  refine ⟨fun hr => hq a w (I.done hpl' T hC hpl (all_listed hz (lowE hC) hr)),fun i hi => ?_⟩
  obtain ⟨o,ho,ho'⟩:=ready_op hi
  obtain ⟨hsz,hnl⟩:=ready_not hi
  have hil:=(List.getElem?_eq_some_iff.1 ho').1
  have hoo : operOK nt G o = true:=List.all_eq_true.1 hok o (List.mem_of_getElem? ho')
  have hrd : ∀ t ∈ looks ops.toList o,vRel ι (((es i).get t).getD undef) (a.tmps.getD t undef):=fun t ht' => I.read T hC hcl hi ho' ht'
  have hz' : (listed.setIfInBounds i true).size = ops.size:=by rw [Array.size_setIfInBounds]; exact hz
  have hops : ∀ x ∈ o.op.operands.toList,vRel ι (ev (es i) x) (a.eval x):=fun x hx => by
   have hxo:=List.all_eq_true.1 (operOK_ops hoo) x hx
   cases x with
   | tmp t => exact hrd t (List.mem_append_left _ (opdTmps_mem hx))
   | const v => exact plainV_rel hxo
   | global g =>
    obtain ⟨k,h1,h2,h3⟩:=I.glb g (Nat.le_of_ble_eq_true hxo)
    exact (pRel.ptr _ _ ⟨rfl,rfl,k,h1,h2.symm,by rw [h3]; rfl⟩).v
   | func f => exact (cRel.func (.func f) #[] #[] #[] #[] trivial trivial).v
  have cont : ∀ p',(Loud ops i → i < p') → p ≤ p' → p' ≤ ops.toList.length → (∀ j,p ≤ j → j < p' → Loud ops j → j = i) → (hs p).next ≤ (hs p').next →
    (wantE ops o (es i) = false → es (i + 1) = putE (es i) o.dst undef ∧ hs p' = hs p) → (wantE ops o (es i) = true → ∃ v,opV P cf o.op (es i) (hs p) = some (v,hs p') ∧ es (i + 1) = putE (es i) o.dst v) →
    wpOp P ops Q i (fun a' w' => wpAny P .any ops Q fuel (listed.setIfInBounds i true) a' w') a w:=fun p' hip hpp hpl' hpen hnx hw0 hw1 => by
   unfold wpOp
   rw [ho]
   simp only
   rw [want_same' hrd]
   cases hw : wantE ops o (es i) with
   | false =>
    obtain ⟨g1,g2⟩:=hw0 hw
    rw [if_neg (by decide)]
    exact ih p' hz' (cnt_step hi hc) (clo_step hcl hi) hpl' (I.next hsz ho' (operOK_dst hoo) g1 (ι1:=ι) (w1:=w) vRel.undef (g2 ▸ I.rel) (Ext.refl _ _ _) (Keep.refl _ _ _) hnx hip hpp hpen)
   | true =>
    obtain ⟨v,g1,g2⟩:=hw1 hw
    rw [if_pos rfl]
    left
    refine opV_sound' hN hcf hfn I.rel I.glb hops g1 fun vc ι1 w1 hvr R1 E1 K1 N1 => ?_
    exact ih p' hz' (cnt_step hi hc) (clo_step hcl hi) hpl' (I.next hsz ho' (operOK_dst hoo) g2 hvr R1 E1 K1 N1 hip hpp hpen)
  have hst:=T.lst i o (Nat.zero_le _) hil ho'
  unfold tstepV at hst
  by_cases hlo : Loud ops i
  ·have hpi : p ≤ i:=by
    rcases Nat.lt_or_ge i p with hl | hl
    ·exact absurd (I.pen i hl hlo) hnl
    ·exact hl
   have hno : ∀ j,p ≤ j → j < i → ¬ Loud ops j:=fun j h1 h2 h3 => by
    have:=I.low j (ready_bfr hcl hi j (hord i j hlo h2 h3)) h3
    omega
   have hch : hs i = hs p:=Tr2.chainLe hpl' T hpi (by omega) hno
   refine cont (i + 1) (fun _ => Nat.lt_succ_self _) (by omega) (by omega) (fun j h1 h2 h3 => ?_) ?_ (fun hw => ?_) (fun hw => ?_)
   ·rcases Nat.lt_or_ge j i with hl | hl
    ·exact absurd h3 (hno j h1 hl)
    ·omega
   ·rw [← hch]
    exact T.nx i o (Nat.zero_le _) hil ho'
   ·rw [hw] at hst
    obtain ⟨h1,h2⟩:=Prod.mk.inj (Option.some.inj hst)
    exact ⟨h1.symm,h2.symm.trans hch⟩
   ·rw [hw] at hst
    obtain ⟨⟨v,h1⟩,hp,hst⟩:=Option.bind_eq_some_iff.1 hst
    obtain ⟨h2,h3⟩:=Prod.mk.inj (Option.some.inj hst)
    refine ⟨v,?_,h2.symm⟩
    rw [← hch,hp]
    exact congrArg (fun x => some (v,x)) h3
  ·have hS:=hsaf i o ho' hlo p hpl (fun y h1 h2 => I.low y (ready_bfr hcl hi y h2) h1) (fun y h1 h2 h3 => hnl (hcl y (I.pen y h1 h2) i h3))
   refine cont p (fun h => absurd h hlo) (Nat.le_refl _) hpl (fun j h1 h2 _ => absurd h2 (by omega)) (Nat.le_refl _) (fun hw => ?_) hS
   rw [hw] at hst
   obtain ⟨h1,_⟩:=Prod.mk.inj (Option.some.inj hst)
   exact ⟨h1.symm,rfl⟩
theorem loudMask_spec (l : List Oper) : ∀ (n x : Nat),x < n → silentAt l x = false → Nat.testBit (loudMask l n) x = true
 | 0,x,h,_ => absurd h (Nat.not_lt_zero _)
 | n + 1,x,h,hx => by
  unfold loudMask
  rcases Nat.lt_or_ge x n with hl | hl
  ·have:=loudMask_spec l n x hl hx
   cases silentAt l n with
   | true => exact this
   | false =>
    show Nat.testBit (1 <<< n ||| loudMask l n) x = true
    rw [Nat.testBit_or,this,Bool.or_true]
  ·have : x = n:=by omega
   subst this
   rw [hx]
   show Nat.testBit (1 <<< x ||| loudMask l x) x = true
   rw [Nat.testBit_or,Nat.one_shiftLeft,Nat.testBit_two_pow_self,Bool.true_or]
theorem subM_spec {a m x : Nat} (h : subM a m = true) (hx : Nat.testBit a x = true) : Nat.testBit m x = true:=by
 have h : a &&& m = a:=Nat.eq_of_beq_eq_true h
 rw [← h,Nat.testBit_and,Bool.and_eq_true] at hx
 exact hx.2
theorem eqAd_eq {a b : Addr} (h : eqAd a b = true) : a = b:=by
 unfold eqAd at h
 rw [Bool.and_eq_true,Bool.and_eq_true,Bool.and_eq_true] at h
 obtain ⟨h1,h2,h3,h4⟩:=h
 obtain ⟨a1,a2,a3⟩:=a
 obtain ⟨b1,b2,b3⟩:=b
 have e1 : a1 = b1:=Nat.eq_of_beq_eq_true h1
 have e2 : a2 = b2:=Nat.eq_of_beq_eq_true h2
 subst e1
 subst e2
 cases a3 with
 | some _ => cases h3
 | none =>
  cases b3 with
  | some _ => cases h4
  | none => rfl
theorem eqA_eq {x y : Value} (h : eqA x y = true) : x = y:=by
 unfold eqA at h
 split at h
 ·rw [Bool.and_eq_true] at h
  rw [of_decide_eq_true h.1,of_decide_eq_true h.2]
 ·rw [eq_of_beq h]
 ·rfl
 ·rw [eqAd_eq h]
 ·rw [Bool.and_eq_true] at h
  rw [Nat.eq_of_beq_eq_true h.1,Nat.eq_of_beq_eq_true h.2]
 ·rw [Bool.and_eq_true,Bool.and_eq_true] at h
  rw [eqAd_eq h.1,Nat.eq_of_beq_eq_true h.2.1,Nat.eq_of_beq_eq_true h.2.2]
 ·cases h
theorem sameC_spec {h h' : AH} {a : Addr} : ∀ {k : Nat},sameC h h' a k = true → ∀ i,i < k → ∃ x,cellAt h a i = some x ∧ cellAt h' a i = some x
 | 0,_,i,hi => absurd hi (Nat.not_lt_zero _)
 | k + 1,hc,i,hi => by
  unfold sameC at hc
  rw [Bool.and_eq_true] at hc
  rcases Nat.lt_or_ge i k with hl | hl
  ·exact sameC_spec hc.2 i hl
  ·have : i = k:=by omega
   subst this
   have h1:=hc.1
   unfold eqO at h1
   split at h1
   ·rename_i x y hx hy
    exact ⟨x,hx,by rw [hy,eqA_eq h1]⟩
   ·cases h1
theorem takeAt_same {cs ds : List Value} {o k : Nat} (hk : k ≠ 0) (h : ∀ i,i < k → ∃ x,cs[o + i]? = some x ∧ ds[o + i]? = some x) : takeAt cs o k = takeAt ds o k:=by
 have len : ∀ l : List Value,(∀ i,i < k → ∃ x,l[o + i]? = some x) → o + k ≤ l.length:=fun l hl => by
  obtain ⟨x,hx⟩:=hl (k - 1) (by omega)
  have:=(List.getElem?_eq_some_iff.1 hx).1
  omega
 have h1:=len cs fun i hi => (h i hi).imp fun _ q => q.1
 have h2:=len ds fun i hi => (h i hi).imp fun _ q => q.2
 unfold takeAt
 rw [Nat.ble_eq_true_of_le h1,Nat.ble_eq_true_of_le h2]
 have : (cs.drop o).take k = (ds.drop o).take k:=by
  apply List.ext_getElem?
  intro i
  rw [List.getElem?_take,List.getElem?_take]
  split
  ·rename_i hi
   obtain ⟨x,q1,q2⟩:=h i hi
   rw [List.getElem?_drop,List.getElem?_drop,q1,q2]
  ·rfl
 rw [this]
theorem sameC_load {t : TypeId} {a : Addr} {h h' : AH} {v : Value} (hk : loadK P t ≠ 0) (hs' : sameC h h' a (loadK P t) = true) (hv : loadV P t (.pointer (some a)) h = some v) : loadV P t (.pointer (some a)) h' = some v:=by
 have hc:=sameC_spec hs'
 have cell : ∀ (g : AH) (i : Nat) (x : Value),cellAt g a i = some x → a.spot = none ∧ ∃ b,g.rd a.block = some b ∧ b.cells[a.off + i]? = some x:=fun g i x hx => by
  unfold cellAt at hx
  split at hx
  ·rename_i hsp
   obtain ⟨b,h1,h2⟩:=Option.bind_eq_some_iff.1 hx
   exact ⟨hsp,b,h1,h2⟩
  ·cases hx
 obtain ⟨x0,q1,q2⟩:=hc 0 (by omega)
 obtain ⟨hsp,b,hb,_⟩:=cell h 0 x0 q1
 obtain ⟨_,b',hb',_⟩:=cell h' 0 x0 q2
 have hcells : ∀ i,i < loadK P t → ∃ x,b.cells[a.off + i]? = some x ∧ b'.cells[a.off + i]? = some x:=fun i hi => by
  obtain ⟨x,r1,r2⟩:=hc i hi
  obtain ⟨_,c,h1,h2⟩:=cell h i x r1
  obtain ⟨_,c',h1',h2'⟩:=cell h' i x r2
  rw [hb] at h1
  rw [hb'] at h1'
  injection h1 with h1
  injection h1' with h1'
  subst h1
  subst h1'
  exact ⟨x,h2,h2'⟩
 have hv : (h.rd a.block).bind (fun b => match a.spot with | none => partT P t b.cells a.off | some _ => none) = some v:=hv
 show (h'.rd a.block).bind (fun b => match a.spot with | none => partT P t b.cells a.off | some _ => none) = some v
 rw [hb,hsp] at hv
 rw [hb',hsp]
 have hv : partT P t b.cells a.off = some v:=hv
 show partT P t b'.cells a.off = some v
 unfold partT at hv ⊢
 obtain ⟨ag,ha,hv⟩:=Option.bind_eq_some_iff.1 hv
 rw [ha]
 rw [Option.bind_some]
 cases ag with
 | true =>
  obtain ⟨s,hs1,hv⟩:=Option.bind_eq_some_iff.1 hv
  have hks : loadK P t = s:=by
   unfold loadK
   rw [ha]
   simp only
   rw [hs1]
   rfl
  rw [hks] at hcells hk
  show ((sizeT P t).bind fun s => (takeAt b'.cells a.off s).map fun l => Value.agg l.toArray) = some v
  rw [hs1,Option.bind_some,← takeAt_same hk hcells]
  exact hv
 | false =>
  have hks : loadK P t = 1:=by
   unfold loadK
   rw [ha]
  rw [hks] at hcells
  obtain ⟨x,r1,r2⟩:=hcells 0 (by omega)
  rw [Nat.add_zero] at r1 r2
  have hv : b.cells[a.off]? = some v:=hv
  show b'.cells[a.off]? = some v
  rw [r1] at hv
  rw [r2]
  exact hv
theorem opsH_trace : ∀ (l : List Oper) {e e' : Tr Value} {h h' : AH} {H H' : List AH},opsH P cf ops l e h H = some (e',h',H') →
  ∃ (es : Nat → Tr Value) (hs : Nat → AH),es 0 = e ∧ hs 0 = h ∧ (∀ (k : Nat) (o : Oper),k < l.length → l[k]? = some o → tstepV P cf ops o (es k) (hs k) = some (es (k + 1),hs (k + 1))) ∧ e' = es l.length ∧ h' = hs l.length ∧ H'.length = H.length + l.length + 1 ∧ (∀ k,k < H.length → H'[k]? = H[k]?) ∧ ∀ k,k ≤ l.length → H'[H.length + k]? = some (hs k)
 | [],e,e',h,h',H,H',hv => by
  injection hv with hv
  injection hv with h1 hv
  injection hv with h2 h3
  subst h1
  subst h2
  subst h3
  refine ⟨fun _ => e,fun _ => h,rfl,rfl,fun k _ hk => absurd hk (Nat.not_lt_zero _),rfl,rfl,by simp,fun k hk => List.getElem?_append_left hk,fun k hk => ?_⟩
  have : k = 0:=by simpa using hk
  subst this
  rw [Nat.add_zero,List.getElem?_append_right (Nat.le_refl _),Nat.sub_self]
  rfl
 | o :: l,e,e',h,h',H,H',hv => by
  have hv' : cond (wantE ops o e) ((opV P cf o.op e h).bind fun p => opsH P cf ops l (putE e o.dst p.1) p.2 (H ++ [h])) (opsH P cf ops l (putE e o.dst undef) h (H ++ [h])) = some (e',h',H'):=hv
  have key : ∃ e1 h1,tstepV P cf ops o e h = some (e1,h1) ∧ opsH P cf ops l e1 h1 (H ++ [h]) = some (e',h',H'):=by
   unfold tstepV
   cases hw : wantE ops o e with
   | true =>
    rw [hw] at hv'
    obtain ⟨⟨v,h1⟩,hp,hv1⟩:=Option.bind_eq_some_iff.1 hv'
    exact ⟨_,_,by rw [cond_true,hp]; rfl,hv1⟩
   | false =>
    rw [hw] at hv'
    exact ⟨_,_,rfl,hv'⟩
  obtain ⟨e1,h1,hs1,hv1⟩:=key
  obtain ⟨es,hs,g1,g2,g3,g4,g5,g6,g7,g8⟩:=opsH_trace l hv1
  have hl : (H ++ [h]).length = H.length + 1:=by simp
  refine ⟨fun k => match k with | 0 => e | k + 1 => es k,fun k => match k with | 0 => h | k + 1 => hs k,rfl,rfl,fun k o' hk ho' => ?_,g4,g5,by rw [g6,hl,List.length_cons]; omega,fun k hk => ?_,fun k hk => ?_⟩
  ·cases k with
   | zero =>
    injection ho' with ho'
    subst ho'
    show tstepV P cf ops o e h = some (es 0,hs 0)
    rw [g1,g2]
    exact hs1
   | succ k => exact g3 k o' (Nat.lt_of_succ_lt_succ hk) ho'
  ·rw [g7 k (by omega),List.getElem?_append_left hk]
  ·cases k with
   | zero =>
    rw [Nat.add_zero,g7 _ (by omega),List.getElem?_append_right (Nat.le_refl _),Nat.sub_self]
    rfl
   | succ k =>
    have:=g8 k (by simpa using hk)
    rw [hl] at this
    rw [show H.length + (k + 1) = H.length + 1 + k by omega]
    exact this
theorem wchk_spec {l : List Oper} {ms : List Nat} {e : Tr Value} {H : List AH} : ∀ (r : List Oper) (n : Nat),wchk P l ms e H n r = true → ∀ (x : Nat) (o : Oper),r[x]? = some o → wchk1 P l ms e H (n + x) o = true
 | [],_,_,_,_,h => by cases h
 | o :: r,n,h,x,o1,ho => by
  unfold wchk at h
  rw [Bool.and_eq_true] at h
  cases x with
  | zero =>
   injection ho with ho
   subst ho
   exact h.1
  | succ x =>
   have:=wchk_spec r (n + 1) h.2 x o1 ho
   rwa [show n + 1 + x = n + (x + 1) by omega] at this
theorem wchkH_spec {l : List Oper} {ms : List Nat} {x : Nat} {h : AH} {a : Addr} {k : Nat} : ∀ (H : List AH) (p : Nat),wchkH l ms x h a k p H = true → ∀ (d : Nat) (g : AH),H[d]? = some g → needC l ms x (p + d) = true → sameC h g a k = true
 | [],_,_,_,_,h,_ => by cases h
 | g0 :: H,p,hc,d,g,hd,hn => by
  unfold wchkH at hc
  cases d with
  | zero =>
   injection hd with hd
   subst hd
   rw [Nat.add_zero] at hn
   rw [hn] at hc
   rw [cond_true,Bool.and_eq_true] at hc
   exact hc.1
  | succ d =>
   have hr : wchkH l ms x h a k (p + 1) H = true:=by
    cases hnp : needC l ms x p with
    | true =>
     rw [hnp,cond_true,Bool.and_eq_true] at hc
     exact hc.2
    | false =>
     rw [hnp] at hc
     exact hc
   exact wchkH_spec H (p + 1) hr d g hd (by rwa [show p + 1 + d = p + (d + 1) by omega])
theorem noL_spec {l : List Oper} {a b : Nat} (h : noL l a b = true) : ∀ y,a ≤ y → y < b → y < l.length → silentAt l y = true:=by
 intro y h1 h2 hl
 have:=List.all_eq_true.1 h y (List.mem_range.2 hl)
 rcases Bool.or_eq_true _ _ ▸ this with h3 | h3
 ·exact h3
 ·rcases Bool.or_eq_true _ _ ▸ h3 with h4 | h4
  ·have : y + 1 ≤ a:=Nat.le_of_ble_eq_true h4
   omega
  ·have:=Nat.le_of_ble_eq_true h4
   omega
theorem noWr_spec {t : Nat} {l : List Oper} (h : noWr t l = true) : ∀ o ∈ l,o.dst ≠ some t:=fun o ho e => by
 have:=List.all_eq_true.1 h o ho
 rw [e] at this
 have this : (!(Nat.beq t t)) = true:=this
 rw [Nat.beq_refl] at this
 cases this
theorem wrun_ok (hm : P.follows .mixedOrders = true) (hN : namesOK P = true) (hcf : CallsOK P G cf) (hfn : HasBody P cf) (hml : CallsMild cf) (hC : drawB ops = true) (hok : ops.toList.all (operOK nt G) = true) (id : Nat) (ι : Inj) (base : Nat) (h : AH) (w : World) (e e' : Tr Value) (h' : AH) (a : Act) (S : St P G nt ι base h w e a) (hv : wrunV P cf ops e h = some (e',h')) :
  (Code.region id ops true).wp P (fun ex a' w' => ex = .normal ∧ Post P G nt ι base h w e' h' a' w') a w:=by
 obtain ⟨hW,H,hH,hck⟩:=wrunV_ok hv
 obtain ⟨es,hs,rfl,rfl,g3,rfl,rfl,g6,_,g8⟩:=opsH_trace _ hH
 have g8 : ∀ k,k ≤ ops.toList.length → H[k]? = some (hs k):=fun k hk => by
  have:=g8 k hk
  rwa [List.length_nil,Nat.zero_add] at this
 have T : Tr2 P cf ops 0 es hs:=⟨fun k _ hk => absurd hk (Nat.not_lt_zero _),fun k o _ hk ho => g3 k o hk ho,hml,fun k hk => by
  obtain rfl : k = 0:=by omega
  exact S.rel.wf⟩
 have hms:=bmasks_spec ops.toList MB.nil
 have hpl' : Plain P ops:=fun o ho s d x hop => by
  obtain ⟨j,hj⟩:=List.mem_iff_getElem?.1 ho
  have:=wchk_spec _ 0 hck j o hj
  unfold wchk1 at this
  rw [hop] at this
  simpa using this
 have hst : ∀ j o,ops.toList[j]? = some o → (silentO o || subM (loudMask ops.toList j) (((bmasks ops.toList [])[j]?).getD 0)) = true ∧ ∀ t τ,o.op = .load t (.tmp τ) → noWr τ (ops.toList.drop j) = true:=fun j o ho => by
  have:=List.all_eq_true.1 hW j (List.mem_range.2 (List.getElem?_eq_some_iff.1 ho).1)
  unfold tailW1 at this
  rw [ho] at this
  simp only at this
  rw [Bool.and_eq_true] at this
  refine ⟨this.1,fun t τ hop => ?_⟩
  have h2:=this.2
  rw [hop] at h2
  exact h2
 have hord : ∀ j x,Loud ops j → x < j → Loud ops x → x ∈ bfr ops j:=fun j x hj hx hxl => by
  have hjl:=loud_lt hj
  have ho:=List.getElem?_eq_getElem hjl
  have h1:=(hst j _ ho).1
  have hj' : silentO _ = false:=(silent_at ho).symm.trans hj
  rw [hj',Bool.false_or] at h1
  exact hms.2 _ _ (subM_spec h1 (loudMask_spec _ _ _ hx hxl))
 have nbit : ∀ y x,x ∉ bfr ops y → bitIn (((bmasks ops.toList [])[y]?).getD 0) x = false:=fun y x hn => by
  cases hb : bitIn (((bmasks ops.toList [])[y]?).getD 0) x with
  | false => rfl
  | true => exact absurd (hms.2 _ _ (bitIn_iff hb)) hn
 have hsaf : ∀ x o,ops.toList[x]? = some o → ¬ Loud ops x → ∀ p,p ≤ ops.toList.length → (∀ y,Loud ops y → y ∈ bfr ops x → y < p) → (∀ y,y < p → Loud ops y → x ∉ bfr ops y) → SafeP P cf es hs ops x p o:=by
  intro x o ho hx p hp h1 h2 hw
  have hxl:=(List.getElem?_eq_some_iff.1 ho).1
  have hxs : silentO o = true:=by
   unfold Loud at hx
   rw [silent_at ho] at hx
   simpa using hx
  have hstep:=T.lst x o (Nat.zero_le _) hxl ho
  unfold tstepV at hstep
  rw [hw] at hstep
  obtain ⟨⟨v,h0⟩,hop,hstep⟩:=Option.bind_eq_some_iff.1 hstep
  obtain ⟨he,_⟩:=Prod.mk.inj (Option.some.inj hstep)
  refine ⟨v,?_,he.symm⟩
  have hxs':=hxs
  unfold silentO at hxs'
  rcases Bool.or_eq_true _ _ ▸ hxs' with hf | hld
  ·exact heapless_any hf hop (hs p)
  rcases Bool.or_eq_true _ _ ▸ hld with hcv | hld
  ·unfold convT at hcv
   split at hcv
   ·rename_i s d y hopc
    have:=hpl' o (List.mem_of_getElem? ho) s d y hopc
    rw [hopc] at hop ⊢
    exact conv_any this hop (hs p)
   ·cases hcv
  rw [Bool.and_eq_true] at hld
  have hl:=hld.1
  unfold loadT at hl
  split at hl
  ·rename_i t τ hopt
   have hwr:=(hst x o ho).2 t τ hopt
   have hev : (es ops.toList.length).get τ = (es x).get τ:=T.envLe (by omega) (Nat.le_refl _) fun j o' hj1 hj2 ho' =>
    noWr_spec hwr o' (List.mem_iff_getElem?.2 ⟨j - x,by rw [List.getElem?_drop,show x + (j - x) = j by omega]; exact ho'⟩)
   have hld : ∀ g : AH,opV P cf o.op (es x) g = (loadV P t (((es x).get τ).getD undef) g).map fun v => (v,g):=fun g => by
    rw [hopt]
    rfl
   rw [hld] at hop
   obtain ⟨v',hv1,hv2⟩:=Option.map_eq_some_iff.1 hop
   obtain ⟨rfl,_⟩:=Prod.mk.inj hv2
   rw [hld]
   have hp0 : ∀ p,p ≤ ops.toList.length → ∃ p0,p0 ≤ p ∧ (p0 = 0 ∨ Loud ops (p0 - 1)) ∧ ∀ y,p0 ≤ y → y < p → ¬ Loud ops y:=by
    intro p
    induction p with
    | zero => exact fun _ => ⟨0,Nat.le_refl _,.inl rfl,fun y h1 h2 => absurd h2 (Nat.not_lt_zero _)⟩
    | succ p ih =>
     intro hp
     by_cases hl : Loud ops p
     ·exact ⟨p + 1,Nat.le_refl _,.inr hl,fun y h1 h2 => by omega⟩
     ·obtain ⟨p0,q1,q2,q3⟩:=ih (by omega)
      refine ⟨p0,by omega,q2,fun y h1 h2 => ?_⟩
      rcases Nat.lt_or_ge y p with h | h
      ·exact q3 y h1 h
      ·obtain rfl : y = p:=by omega
       exact hl
   obtain ⟨p0,q1,q2,q3⟩:=hp0 p hp
   have hpp : hs p = hs p0:=Tr2.chainLe hpl' T q1 hp q3
   rw [hpp]
   have fin : loadV P t (((es x).get τ).getD undef) (hs p0) = some v':=by
    cases hn : needC ops.toList (bmasks ops.toList []) x p0 with
    | false =>
     have hx2 : (noL ops.toList x p0 && noL ops.toList p0 x) = true:=by
      unfold needC at hn
      have e1 : (Nat.beq p0 0 || !(silentAt ops.toList (p0 - 1))) = true:=by
       rcases q2 with rfl | q2
       ·rfl
       ·rw [show silentAt ops.toList (p0 - 1) = false from q2,Bool.not_false,Bool.or_true]
      have e2 : permit ops.toList (bmasks ops.toList []) x p0 = true:=by
       unfold permit
       refine List.all_eq_true.2 fun y hy => ?_
       cases hsy : silentAt ops.toList y with
       | true => rfl
       | false =>
        rw [Bool.false_or]
        cases hb : Nat.blt y p0 with
        | true =>
         have : y + 1 ≤ p0:=Nat.le_of_ble_eq_true hb
         show (!(bitIn _ x)) = true
         rw [nbit y x (h2 y (by omega) hsy)]
         rfl
        | false =>
         show (!(bitIn _ y)) = true
         rw [nbit x y fun hm' => ?_]
         ·rfl
         ·have hyp:=h1 y hsy hm'
          have hy0 : p0 ≤ y:=by
           rcases Nat.lt_or_ge y p0 with hlt | hge
           ·rw [show Nat.blt y p0 = true from Nat.ble_eq_true_of_le hlt] at hb
            cases hb
           ·exact hge
          exact q3 y hy0 hyp hsy
      rw [e1,e2,Bool.true_and,Bool.and_true] at hn
      simpa using hn
     rw [Bool.and_eq_true] at hx2
     have : hs p0 = hs x:=by
      rcases Nat.le_total x p0 with hle | hle
      ·exact Tr2.chainLe hpl' T hle (by omega) fun j h1 h2 h3 => by
        have:=noL_spec hx2.1 j h1 h2 (by omega)
        rw [show silentAt ops.toList j = false from h3] at this
        cases this
      ·exact (Tr2.chainLe hpl' T hle (by omega) fun j h1 h2 h3 => by
        have:=noL_spec hx2.2 j h1 h2 (by omega)
        rw [show silentAt ops.toList j = false from h3] at this
        cases this).symm
     rw [this]
     exact hv1
    | true =>
     have hc1:=wchk_spec _ 0 hck x o ho
     rw [Nat.zero_add] at hc1
     unfold wchk1 at hc1
     rw [hopt] at hc1
     simp only at hc1
     rw [hev] at hc1
     cases hg : (es x).get τ with
     | none => rw [hg] at hv1; cases hv1
     | some y =>
      rw [hg] at hv1 hc1
      simp only [Option.getD_some] at hv1 ⊢
      cases y with
      | pointer ad =>
       cases ad with
       | none => cases hv1
       | some ad =>
        simp only at hc1
        rw [g8 x (by omega)] at hc1
        simp only at hc1
        rw [Bool.and_eq_true] at hc1
        have hk : loadK P t ≠ 0:=fun e => by
         rw [e] at hc1
         cases hc1.1
        exact sameC_load hk (wchkH_spec _ 0 hc1.2 p0 _ (g8 p0 (by omega)) (by rwa [Nat.zero_add])) hv1
      | _ => cases hv1
   rw [fin]
   rfl
  ·cases hl
 have hno : ∀ j,¬ Lst (Array.replicate ops.size false) j:=fun j hj => by
  unfold Lst at hj
  rw [Array.getD_eq_getD_getElem?,Array.getElem?_replicate] at hj
  split at hj <;> cases hj
 refine wp_region_any hm (wtail_any hN hcf hfn hC hok (ι0:=ι) (w0:=w) (base:=base) hpl' T hord hsaf (fun a' w' p => ⟨rfl,p⟩) ops.size 0 (ι:=ι) (by simp) ?_ (fun j hj => absurd hj (hno j)) (Nat.zero_le _) ⟨⟨S.rel.blk,S.rel.esz,S.rel.own,S.rel.gle,S.rel.dis,S.rel.dom,S.rel.new,S.rel.grp,S.rel.bas,S.rel.has,S.rel.map⟩,fun t => .inr ⟨fun j o hj => absurd hj (hno j),S.env t⟩,S.dfr,S.glb,S.siz,fun j hj => absurd hj (hno j),fun j hj => absurd hj (Nat.not_lt_zero _),Ext.refl _ _ _,⟨Nat.le_refl _,fun _ _ _ => rfl,rfl,rfl⟩,Nat.le_refl _⟩)
 rw [Array.toList_replicate]
 generalize ops.size = n
 induction n with
 | zero => exact Nat.le_refl _
 | succ n ih =>
  rw [List.replicate_succ]
  exact Nat.succ_le_succ ih
def DrawOK (P : Program) (G nt : Nat) (cf : FuncId → List Value → AH → Option (Value × AH)) (ops : Array Oper) : Prop :=
 ∀ (id : Nat) (ι : Inj) (base : Nat) (h : AH) (w : World) (e e' : Tr Value) (h' : AH) (a : Act),St P G nt ι base h w e a → drawV P cf ops (wrunV P cf ops e h) 0 ops.toList e h = some (e',h') →
  (Code.region id ops true).wp P (fun ex a' w' => ex = .normal ∧ Post P G nt ι base h w e' h' a' w') a w
theorem draw_ok (hm : P.follows .mixedOrders = true) (hN : namesOK P = true) (hcf : CallsOK P G cf) (hfn : HasBody P cf) (hml : CallsMild cf) (hC : drawB ops = true) (hok : ops.toList.all (operOK nt G) = true) : DrawOK P G nt cf ops:=by
 intro id ι base h w e e' h' a S hv
 rcases drawV_drawn _ hv with hv | hv
 ·exact draw_ok0 hm hN hcf hfn hml hC hok id ι base h w e e' h' a S hv
 ·exact wrun_ok hm hN hcf hfn hml hC hok id ι base h w e e' h' a S hv
variable {P : Program}
theorem execOp_after (ρ : Operand → Value) (o : Oper) (af : Array Edge) : execOp ρ { o with after:=af } = execOp ρ o:=by
 obtain ⟨dst,op,ty,pos,a0,g⟩:=o
 cases op <;> rfl
theorem wp_after {o : Oper} {af : Array Edge} {a : Act} {w : World} {K : Act → World → Prop} {Q : Exit → Act → World → Prop} (h : ({ o with after:=af } : Oper).wp P a w K Q) : o.wp P a w K Q:=by
 unfold Oper.wp at h ⊢
 rw [execOp_after] at h
 exact h
theorem asks_after {o : Oper} {af : Array Edge} {a : Act} {w : World} (h : ({ o with after:=af } : Oper).asks P a w) : o.asks P a w:=by
 unfold Oper.asks at h ⊢
 rw [execOp_after] at h
 exact h
structure Permd (ops ops' : Array Oper) (π : Nat → Nat) : Prop where
 size : ops'.size = ops.size
 lt : ∀ j,j < ops.size → π j < ops.size
 inj : ∀ i j,i < ops.size → j < ops.size → π i = π j → i = j
 sur : ∀ i,i < ops.size → ∃ j,j < ops.size ∧ π j = i
 op : ∀ j o',ops'[j]? = some o' → ∃ o,ops[π j]? = some o ∧ o' = { o with after:=o'.after } ∧ o.guard = none ∧
  (∀ e ∈ o.after,Region.binds .any e = true → ∃ e' ∈ o'.after,Region.binds .any e' = true ∧ e'.on < ops.size ∧ π e'.on = e.on) ∧
  (∀ e' ∈ o'.after,Region.binds .any e' = true → e'.on < ops.size ∧ ∃ e ∈ o.after,Region.binds .any e = true ∧ e.on = π e'.on)
theorem lst_put {l : Array Bool} {i j : Nat} (hi : i < l.size) : Lst (l.setIfInBounds i true) j ↔ (j = i ∨ Lst l j):=by
 unfold Lst
 simp only [Array.getD_eq_getD_getElem?,Array.getElem?_setIfInBounds]
 by_cases h : i = j
 ·subst h
  simp [hi]
 ·rw [if_neg h]
  constructor
  ·exact fun q => .inr q
  ·rintro (q | q)
   ·exact absurd q.symm h
   ·exact q
theorem wpAny_perm {ops ops' : Array Oper} {Q : Exit → Act → World → Prop} {π : Nat → Nat} (hp : Permd ops ops' π) : ∀ (fuel : Nat) (listed listed' : Array Bool) (a : Act) (w : World),listed.size = ops.size → listed'.size = ops.size →
  (∀ j,j < ops.size → (Lst listed' j ↔ Lst listed (π j))) → wpAny P .any ops' Q fuel listed' a w → wpAny P .any ops Q fuel listed a w:=by
 intro fuel
 have rd : ∀ (listed listed' : Array Bool),listed.size = ops.size → listed'.size = ops.size → (∀ j,j < ops.size → (Lst listed' j ↔ Lst listed (π j))) → ∀ j,j < ops.size → (j ∈ Region.ready .any ops' listed' ↔ π j ∈ Region.ready .any ops listed):=by
  intro listed listed' h1 h2 hl j hj
  rw [mem_ready,mem_ready]
  have hj' : j < ops'.size:=by rw [hp.size]; exact hj
  obtain ⟨o,ho,heq,hg,e1,e2⟩:=hp.op j ops'[j] (Array.getElem?_eq_getElem hj')
  constructor
  ·rintro ⟨q1,o',ho',q2⟩
   rw [Array.getElem?_eq_getElem hj'] at ho'
   injection ho' with ho'
   subst ho'
   refine ⟨?_,o,ho,fun e he hb => ?_⟩
   ·have:=(hl j hj)
    unfold Lst at this
    have hd : ∀ (l : Array Bool) (i : Nat),i < l.size → l.getD i true = l.getD i false:=fun l i hi => by simp [Array.getD_eq_getD_getElem?,Array.getElem?_eq_getElem hi]
    rw [hd _ _ (by omega)] at q1
    rw [hd _ _ (by have:=hp.lt j hj; omega)]
    cases hc : listed.getD (π j) false with
    | false => rfl
    | true =>
     rw [this.2 hc] at q1
     cases q1
   ·obtain ⟨e',he',hb',hlt,hπ⟩:=e1 e he hb
    rw [← hπ]
    exact (hl _ hlt).1 (q2 e' he' hb')
  ·rintro ⟨q1,o1,ho1,q2⟩
   rw [ho] at ho1
   injection ho1 with ho1
   subst ho1
   refine ⟨?_,ops'[j],Array.getElem?_eq_getElem hj',fun e' he' hb' => ?_⟩
   ·have:=(hl j hj)
    unfold Lst at this
    have hd : ∀ (l : Array Bool) (i : Nat),i < l.size → l.getD i true = l.getD i false:=fun l i hi => by simp [Array.getD_eq_getD_getElem?,Array.getElem?_eq_getElem hi]
    rw [hd _ _ (by have:=hp.lt j hj; omega)] at q1
    rw [hd _ _ (by omega)]
    cases hc : listed'.getD j false with
    | false => rfl
    | true =>
     rw [this.1 hc] at q1
     cases q1
   ·obtain ⟨hlt,e,he,hb,hπ⟩:=e2 e' he' hb'
    exact (hl _ hlt).2 (hπ ▸ q2 e he hb)
 have nl : ∀ (listed listed' : Array Bool),listed.size = ops.size → listed'.size = ops.size → (∀ j,j < ops.size → (Lst listed' j ↔ Lst listed (π j))) → Region.ready .any ops listed = [] → Region.ready .any ops' listed' = []:=by
  intro listed listed' h1 h2 hl hr
  cases hc : Region.ready .any ops' listed' with
  | nil => rfl
  | cons j r =>
   have hm : j ∈ Region.ready .any ops' listed':=by rw [hc]; exact List.mem_cons_self
   obtain ⟨o,ho,_⟩:=ready_op hm
   have hj : j < ops.size:=by
    rw [← hp.size]
    exact (Array.getElem?_eq_some_iff.1 ho).1
   have:=(rd listed listed' h1 h2 hl j hj).1 hm
   rw [hr] at this
   cases this
 induction fuel with
 | zero =>
  intro listed listed' a w h1 h2 hl h
  have h : Region.ready .any ops' listed' = [] ∧ Q .normal a w:=h
  refine ⟨?_,h.2⟩
  cases hc : Region.ready .any ops listed with
  | nil => rfl
  | cons i r =>
   have hm : i ∈ Region.ready .any ops listed:=by rw [hc]; exact List.mem_cons_self
   obtain ⟨o,ho,_⟩:=ready_op hm
   obtain ⟨j,hj,rfl⟩:=hp.sur i (Array.getElem?_eq_some_iff.1 ho).1
   have:=(rd listed listed' h1 h2 hl j hj).2 hm
   rw [h.1] at this
   cases this
 | succ fuel ih =>
  intro listed listed' a w h1 h2 hl h
  obtain ⟨q1,q2⟩:=h
  refine ⟨fun hr => q1 (nl listed listed' h1 h2 hl hr),fun i hi => ?_⟩
  obtain ⟨o,ho,_⟩:=ready_op hi
  obtain ⟨j,hj,rfl⟩:=hp.sur i (Array.getElem?_eq_some_iff.1 ho).1
  have hj' : j < ops'.size:=by rw [hp.size]; exact hj
  have q:=q2 j ((rd listed listed' h1 h2 hl j hj).2 hi)
  obtain ⟨o1,ho1,heq,hg,_⟩:=hp.op j ops'[j] (Array.getElem?_eq_getElem hj')
  have hk : ∀ a w,wpAny P .any ops' Q fuel (listed'.setIfInBounds j true) a w → wpAny P .any ops Q fuel (listed.setIfInBounds (π j) true) a w:=fun a w hh =>
   ih _ _ a w (by rw [Array.size_setIfInBounds]; exact h1) (by rw [Array.size_setIfInBounds]; exact h2) (fun k hk => by
    rw [lst_put (by omega),lst_put (by have:=hp.lt j hj; omega),hl k hk]
    constructor
    ·rintro (rfl | q)
     ·exact .inl rfl
     ·exact .inr q
    ·rintro (q | q)
     ·exact .inl (hp.inj _ _ hk hj q)
     ·exact .inr q) hh
  unfold wpOp at q ⊢
  rw [Array.getElem?_eq_getElem hj'] at q
  rw [ho1]
  simp only at q ⊢
  generalize ops'[j] = o' at q heq
  have hw : ∀ y,Region.wanted o1 y = true:=fun y => by
   unfold Region.wanted
   rw [hg]
  have hw' : ∀ y,Region.wanted o' y = true:=fun y => by
   unfold Region.wanted
   rw [heq]
   simp only [hg]
  rw [if_pos (hw' _)] at q
  rw [if_pos (hw _)]
  rw [heq] at q
  rcases q with q | ⟨q,r⟩
  ·exact .inl (Oper.wp_mono hk (wp_after q))
  ·exact .inr ⟨asks_after q,r⟩
variable {ι : Inj} {base : Nat} {h : AH} {w : World}
theorem Rel.late (R : Rel ι base h w) {γ : Nat} (hn : ι γ = none) {cells : List Value} {z : Nat} (hb : h.blks.get γ = some ⟨cells,z,γ,false⟩) (hg : h.grps.get γ = none) (hlt : γ < h.next) {ds : Array Value} (hc : AllR (cRel ι) cells (ds.toList.take cells.length)) {el : TypeId} {fz : Nat × Nat} (hfz : FZ fz ds.size) {w' : World}
  (hsz : w'.heap.size = w.heap.size + 1) (hold : ∀ i,i < w.heap.size → w'.heap[i]? = w.heap[i]?) (hnew : w'.heap[w.heap.size]? = some (.cells ds el fz)) (hO : w'.os = w.os ∧ w'.output = w.output) {n : Nat} (hnγ : n ≤ γ) :
  ∃ ι' : Inj,ι' γ = some ⟨w.heap.size,0,z,ds.size⟩ ∧ (∀ β,β ≠ γ → ι' β = ι β) ∧ Rel ι' base h w' ∧ Ext n w ι ι' ∧ Keep base ι w w':=by
 let ι' : Inj:=fun β => if β = γ then some ⟨w.heap.size,0,z,ds.size⟩ else ι β
 have hι1 : ι' γ = some ⟨w.heap.size,0,z,ds.size⟩:=if_pos rfl
 have hι2 : ∀ β,β ≠ γ → ι' β = ι β:=fun β e => if_neg e
 have hsub : Sub ι ι':=fun β k e => (hι2 β (fun q => by rw [q,hn] at e; cases e)).trans e
 have one : ∀ {β : Nat} {b : ABlk},h.blks.get β = some b → β = γ → b = ⟨cells,z,γ,false⟩:=fun {β b} hq e => by
  subst e
  rw [hb] at hq
  injection hq with hq
  exact hq.symm
 refine ⟨ι',hι1,hι2,⟨fun β b k hr hk => ?_,fun β b k hq hk => ?_,fun β b k hq hk hro => ?_,R.gle,fun β β' b b' k k' hr hr' hk hk' hgg hro => ?_,fun β k hk => ?_,R.new,R.grp,Nat.le_trans R.bas (by omega),fun β k hk => ?_,fun β b k hq hk hm => ?_⟩,⟨fun β hβ => hι2 β (by omega),fun β k hk => ?_⟩,by omega,fun b hb _ => hold b hb,hO⟩
 ·by_cases e : β = γ
  ·have hq:=one (rd_get hr).1 e
   subst e hq
   rw [hι1] at hk
   injection hk with hk
   subst hk
   exact ⟨ds,el,fz,hnew,rfl,fun _ => ⟨hfz,R.bas⟩,ds.toList.take cells.length,rfl,hc.mono fun _ _ => cRel.mono hsub⟩
  ·rw [hι2 β e] at hk
   obtain ⟨cs,el',fz,g1,g2,g3,l,g4,g5⟩:=R.blk β b k hr hk
   exact ⟨cs,el',fz,by rw [hold _ (R.dom β k hk).2]; exact g1,g2,g3,l,g4,g5.mono fun _ _ => cRel.mono hsub⟩
 ·by_cases e : β = γ
  ·have hq:=one hq e
   subst e hq
   rw [hι1] at hk
   injection hk with hk
   subst hk
   rfl
  ·rw [hι2 β e] at hk
   exact R.esz β b k hq hk
 ·by_cases e : β = γ
  ·subst e
   rw [hι1] at hk
   injection hk with hk
   subst hk
   exact R.bas
  ·rw [hι2 β e] at hk
   exact R.own β b k hq hk hro
 ·by_cases e : β = γ
  ·subst e
   rw [hι1] at hk
   injection hk with hk
   subst hk
   by_cases e' : β' = β
   ·subst e'
    rw [hr] at hr'
    injection hr' with hr'
    exact absurd (congrArg ABlk.grp hr') hgg
   ·rw [hι2 β' e'] at hk'
    exact fun e => absurd (R.dom β' k' hk').2 (by rw [← e]; exact Nat.lt_irrefl _)
  ·rw [hι2 β e] at hk
   by_cases e' : β' = γ
   ·subst e'
    rw [hι1] at hk'
    injection hk' with hk'
    subst hk'
    exact fun e => absurd (R.dom β k hk).2 (by rw [e]; exact Nat.lt_irrefl _)
   ·rw [hι2 β' e'] at hk'
    exact R.dis β β' b b' k k' hr hr' hk hk' hgg hro
 ·by_cases e : β = γ
  ·subst e
   rw [hι1] at hk
   injection hk with hk
   subst hk
   exact ⟨hlt,by rw [hsz]; exact Nat.lt_succ_self _⟩
  ·rw [hι2 β e] at hk
   obtain ⟨g1,g2⟩:=R.dom β k hk
   exact ⟨g1,by omega⟩
 ·by_cases e : β = γ
  ·subst e
   exact ⟨_,hb⟩
  ·rw [hι2 β e] at hk
   exact R.has β k hk
 ·by_cases e : β = γ
  ·have hq:=one hq e
   subst e hq
   have hm : h.grps.get β = some []:=hm
   rw [hg] at hm
   cases hm
  ·rw [hι2 β e] at hk
   obtain ⟨q1,es,q2,q3⟩:=R.map β b k hq hk hm
   exact ⟨q1,es,by rw [hold _ (R.dom β k hk).2]; exact q2,q3.mono hsub⟩
 ·by_cases e : β = γ
  ·subst e
   rw [hι1] at hk
   injection hk with hk
   subst hk
   exact .inr (Nat.le_refl _)
  ·rw [hι2 β e] at hk
   exact .inl ⟨β,k,hk,rfl⟩
variable {P : Program} {G nt : Nat} {cf : FuncId → List Value → AH → Option (Value × AH)} {ops : Array Oper} {s : Nat} {es : Nat → Tr Value} {hs : Nat → AH}
theorem buildSlice_late {ι : Inj} {base : Nat} {h : AH} {w : World} (R : Rel ι base h w) {t el : TypeId} (hd : P.underlying t = some (.slice el)) {s n : Nat} (hs : sizeT P el = some s) {z : Value} (hz : zeroT P el = some z) {zs : List Value} (hzs : cellsOfV z = some zs)
  (hc : (Nat.ble (n * s) 16777216 && (Nat.beq zs.length s && (zs.all plainC && Nat.ble n 9223372036854775807))) = true) {ps : List (Nat × Value)} {ps' : Array (Nat × Value)} {cs : List Value} (hf : fillV (fun i => some (i * s,s)) (repl zs n) ps = some cs)
  (hp : AllR (fun (p q : Nat × Value) => p.1 = q.1 ∧ vRel ι p.2 q.2) ps ps'.toList) {γ m : Nat} (hn : ι γ = none) (hb : h.blks.get γ = some ⟨cs,s,γ,false⟩) (hg : h.grps.get γ = none) (hlt : γ < h.next) (hm : m ≤ γ) :
  ∃ vc ι' w',(Instr.buildSlice t n ps').run P w = .ok vc w' ∧ vRel ι' (.slice (some ⟨γ,0,none⟩) n n) vc ∧ Rel ι' base h w' ∧ (∀ β,β ≠ γ → ι' β = ι β) ∧ Ext m w ι ι' ∧ Keep base ι w w':=by
 simp only [Bool.and_eq_true] at hc
 obtain ⟨c1,c2,c3,c4⟩:=hc
 have c1:=Nat.le_of_ble_eq_true c1
 have c2:=Nat.eq_of_beq_eq_true c2
 have c4:=Nat.le_of_ble_eq_true c4
 have hz1:=row_none (n:=n) c2
 have hz2:=row_zero (n:=n) hzs c2
 obtain ⟨r,hr1,hr2⟩:=fillV_sound ps ps'.toList _ _ cs (repl_rel (plainL_all (ι:=ι) c3) n) hp hf
 obtain ⟨ι',h5,h6,h1,h2,h3⟩:=R.late hn hb hg hlt (ds:=r) (by rw [hr2.length_eq,List.take_length]; exact hr2) (el:=el) (FZ.zero _) (w':={ w with heap:=w.heap.push (.cells r el) }) (by show (w.heap.push _).size = _; rw [Array.size_push]) (fun i hi => by show (w.heap.push _)[i]? = _; rw [Array.getElem?_push,if_neg (Nat.ne_of_lt hi)]) (by show (w.heap.push _)[w.heap.size]? = _; rw [Array.getElem?_push,if_pos rfl]) ⟨rfl,rfl⟩ hm
 refine ⟨_,ι',_,?_,new_slice_rel (h:={ blks:=.nil,grps:=.nil,next:=γ,low:=0 }) (w0:=w) h5 (Nat.le_refl n) (.inl ⟨by unfold OPEN; omega,rfl⟩),h1,h6,h2,h3⟩
 have hng : ¬ (n * s > 2 ^ 24):=by omega
 by_cases h0 : n * s = 0
 ·simp only [Instr.buildSlice,Sem.run_bind,run_underlying hd,Result.andThen_ok,run_size hs,if_neg hng,if_pos h0,Sem.run_pure,hz1 h0,hr1]
  simp [newRow]
 ·simp only [Instr.buildSlice,Sem.run_bind,run_underlying hd,Result.andThen_ok,run_size hs,if_neg hng,if_neg h0,run_zero hz,Sem.run_pure,hz2,hr1]
  simp [newRow]
def eqL : List Value → List Value → Bool
 | [],[] => true
 | x :: l,y :: r => eqA x y && eqL l r
 | _,_ => false
theorem eqL_eq : ∀ {l r : List Value},eqL l r = true → l = r
 | [],[],_ => rfl
 | x :: l,y :: r,h => by
  unfold eqL at h
  rw [Bool.and_eq_true] at h
  rw [eqA_eq h.1,eqL_eq h.2]
 | [],_ :: _,h => by cases h
 | _ :: _,[],h => by cases h
def sameB (h h1 : AH) (γ : Nat) : Bool:=match h.blks.get γ,h1.blks.get γ with
 | some b,some b1 => eqL b.cells b1.cells && (Nat.beq b.esz b1.esz && (Nat.beq b.grp b1.grp && (!b1.ro && (h1.grps.get γ).isNone)))
 | _,_ => false
theorem sameB_spec {h h1 : AH} {γ : Nat} (hs : sameB h h1 γ = true) {b : ABlk} (hb : h.blks.get γ = some b) (hro : b.ro = false) : h1.blks.get γ = some b ∧ h1.grps.get γ = none:=by
 unfold sameB at hs
 rw [hb] at hs
 cases h2 : h1.blks.get γ with
 | none =>
  rw [h2] at hs
  cases hs
 | some b1 =>
  rw [h2] at hs
  simp only [Bool.and_eq_true] at hs
  obtain ⟨q1,q2,q3,q4,q5⟩:=hs
  obtain ⟨c,z,g,ro⟩:=b
  obtain ⟨c1,z1,g1,ro1⟩:=b1
  have r1 : c = c1:=eqL_eq q1
  have r2 : z = z1:=Nat.eq_of_beq_eq_true q2
  have r3 : g = g1:=Nat.eq_of_beq_eq_true q3
  have r4 : ro1 = false:=by simpa using q4
  have r5 : ro = false:=hro
  subst r1 r2 r3 r4 r5
  exact ⟨rfl,Option.isNone_iff_eq_none.1 q5⟩
def tailX1 (P : Program) (l : List Oper) (s : Nat) (e : Tr Value) (h h1 : AH) (m x : Nat) : Bool:=bitIn m x || (match l[x]? with
 | some o => heapless o.op || (o.guard.isNone && (match o.op with
  | .load t (.tmp τ) => noW τ s x (l.drop x) && (match e.get τ with
   | some (.pointer (some a)) => !(Nat.beq (loadK P t) 0) && sameC h h1 a (loadK P t)
   | _ => false)
  | .buildSlice _ _ _ => (match o.dst with
   | some d => (match e.get d with
    | some (.slice (some a) _ _) => sameB h h1 a.block
    | _ => false)
   | none => false)
  | _ => false))
 | none => false)
def tailF (P : Program) (l : List Oper) (s : Nat) (e : Tr Value) (h h1 : AH) : Bool :=
 tailAll (freeMask l s) (s + 1) 0 (bmasks l []) && (List.range s).all (tailX1 P l s e h h1 (((bmasks l [])[s]?).getD 0))
theorem same_rdv {h h' : AH} (H : WF h) (S : Same h h') {β : Nat} {b : ABlk} (hr : h.rd β = some b) : h'.rd β = some b:=by
 obtain ⟨q1,q2⟩:=rd_get hr
 have hb:=H.lt q1
 have hg:=H.gle β b q1
 refine rd_of ((S.old β hb).1.trans q1) ?_
 unfold AH.members at q2 ⊢
 rw [(S.old b.grp (by omega)).2]
 exact q2
theorem tailPF_of (hC : drawC ops.toList = true) (T : Tr2 P cf ops s es hs) (hsm : ∀ x,x ≤ s → Same (hs x) (hs s)) {base : Nat} (hsl : s < ops.toList.length) (hF : tailF P ops.toList s (es s) (hs s) (hs (s + 1)) = true) : TailP P cf G base ops s es hs:=by
 unfold tailF at hF
 rw [Bool.and_eq_true] at hF
 obtain ⟨hA,hX⟩:=hF
 have hm:=bmasks_spec ops.toList MB.nil
 have hl : (befores ops.toList []).length = ops.toList.length:=befores_length ops.toList []
 intro j hsj hj x hx
 rcases Nat.lt_or_ge s j with hlt | hge
 ·rcases tailAll_spec _ _ _ 0 hA j (by rw [hm.1,hl]; exact hj) (by omega) x (by omega) with h1 | h1
  ·exact .inl (hm.2 j x h1)
  ·obtain ⟨q1,o,q2,q3⟩:=freeMask_spec _ _ _ h1
   exact .inr ⟨q1,o,q2,.inl q3⟩
 ·obtain rfl : j = s:=by omega
  have hx1:=List.all_eq_true.1 hX x (List.mem_range.2 hx)
  unfold tailX1 at hx1
  rcases Bool.or_eq_true _ _ ▸ hx1 with h1 | h1
  ·exact .inl (hm.2 j x (bitIn_iff h1))
  have ho : ops.toList[x]? = some (ops.toList[x]'(by omega)):=List.getElem?_eq_getElem (by omega)
  generalize ops.toList[x]'(by omega) = o at ho
  rw [ho] at h1
  simp only at h1
  rcases Bool.or_eq_true _ _ ▸ h1 with h1 | h1
  ·exact .inr ⟨hx,o,ho,.inl h1⟩
  rw [Bool.and_eq_true] at h1
  obtain ⟨hg,h1⟩:=h1
  have hg:=Option.isNone_iff_eq_none.1 hg
  refine .inr ⟨hx,o,ho,.inr ⟨rfl,?_⟩⟩
  have hw : ∀ e,wantE ops o e = true:=fun e => by
   unfold wantE
   rw [hg]
  have hst:=T.fst x o hx ho
  unfold stepV at hst
  rw [hw] at hst
  obtain ⟨odst,oop,oty,opos,oaf,ogd⟩:=o
  simp only at h1 hg
  cases oop with
  | load t ad =>
   cases ad with
   | tmp τ =>
    simp only at h1
    rw [Bool.and_eq_true] at h1
    obtain ⟨hnw,h1⟩:=h1
    have he : (es j).get τ = (es x).get τ:=T.envLe (by omega) (by omega) fun k o' hk1 hk2 ho' =>
     noW_spec _ _ hnw (k - x) o' (by rw [List.getElem?_drop,show x + (k - x) = k by omega]; exact ho') (by omega)
    rw [he] at h1
    have hst : ((opV P cf (.load t (.tmp τ)) (es x) (hs x)).bind fun p => some (putE (es x) odst p.1,p.2)) = some (es (x + 1),hs (x + 1)):=hst
    obtain ⟨⟨v,h2⟩,hp,hst⟩:=Option.bind_eq_some_iff.1 hst
    obtain ⟨he1,he2⟩:=Prod.mk.inj (Option.some.inj hst)
    have hp' : ((loadV P t (((es x).get τ).getD undef) (hs x)).map fun v => (v,hs x)) = some (v,h2):=hp
    obtain ⟨v',hv',hp2⟩:=Option.map_eq_some_iff.1 hp'
    obtain ⟨rfl,rfl⟩:=Prod.mk.inj hp2
    split at h1
    ·rename_i a ha
     rw [Bool.and_eq_true] at h1
     obtain ⟨hk,hsc⟩:=h1
     have hk : loadK P t ≠ 0:=fun e => by rw [e] at hk; cases hk
     rw [ha] at hv'
     have hv' : loadV P t (.pointer (some a)) (hs x) = some v':=hv'
     have hv1 : loadV P t (.pointer (some a)) (hs j) = some v':=loadV_rd hv' fun b hb => same_rdv (T.wf0 x (by omega)) (hsm x (by omega)) hb
     have hv2:=sameC_load hk hsc hv1
     refine .inl fun p hp _ => ⟨v',?_,he1.symm⟩
     show ((loadV P t (((es x).get τ).getD undef) (hs p)).map fun v => (v,hs p)) = _
     rw [ha]
     have hvp : loadV P t (.pointer (some a)) (hs p) = some v':=by
      rcases hp with hp | hp
      ·rw [hp]
       exact hv1
      ·rw [hp]
       exact hv2
     show ((loadV P t (.pointer (some a)) (hs p)).map _) = _
     rw [hvp]
     rfl
    ·cases h1
   | const v => cases h1
   | global g => cases h1
   | func f => cases h1
  | buildSlice t n ps =>
   simp only at h1
   cases odst with
   | none => cases h1
   | some d =>
    simp only at h1
    have hst : ((opV P cf (.buildSlice t n ps) (es x) (hs x)).bind fun p => some (putE (es x) (some d) p.1,p.2)) = some (es (x + 1),hs (x + 1)):=hst
    obtain ⟨⟨v,h2⟩,hp,hst⟩:=Option.bind_eq_some_iff.1 hst
    obtain ⟨he1,he2⟩:=Prod.mk.inj (Option.some.inj hst)
    have hp : ((P.underlying t).bind fun d => match d with
     | .slice el => (sizeT P el).bind fun s => (zeroT P el).bind fun z => (cellsOfV z).bind fun zs => cond (Nat.ble (n * s) 16777216 && (Nat.beq zs.length s && (zs.all plainC && Nat.ble n 9223372036854775807)))
       ((fillV (fun i => some (i * s,s)) (repl zs n) (ps.toList.map fun p => (p.1,ev (es x) p.2))).map fun cs => (Value.slice (some ⟨(hs x).next,0,none⟩) n n,((hs x).new cs s).2)) none
     | _ => none) = some (v,h2):=hp
    obtain ⟨dd,hd,hp⟩:=Option.bind_eq_some_iff.1 hp
    cases dd with
    | slice el =>
     obtain ⟨sz,hsz,hp⟩:=Option.bind_eq_some_iff.1 hp
     obtain ⟨z,hz,hp⟩:=Option.bind_eq_some_iff.1 hp
     obtain ⟨zs,hzs,hp⟩:=Option.bind_eq_some_iff.1 hp
     obtain ⟨hc,hp⟩:=cond_some' hp
     obtain ⟨cs,hcs,hp⟩:=Option.map_eq_some_iff.1 hp
     obtain ⟨rfl,rfl⟩:=Prod.mk.inj hp
     have hval : (es j).get d = some (.slice (some ⟨(hs x).next,0,none⟩) n n):=by
      have e1 : (es (x + 1)).get d = some (.slice (some ⟨(hs x).next,0,none⟩) n n):=by
       rw [← he1]
       show ((es x).set d _).get d = _
       rw [Tr.get_set,if_pos rfl]
      rw [← e1]
      refine T.envLe (by omega) (by omega) fun k o' hk1 hk2 ho' hdd => ?_
      have:=once hC x k _ o' d ho ho' rfl hdd
      omega
     rw [hval] at h1
     simp only at h1
     have hx2 : hs (x + 1) = ((hs x).new cs sz).2:=he2.symm
     have wfx : WF (hs x):=T.wf0 x (by omega)
     have hnx : (hs (x + 1)).next = (hs x).next + 1:=by rw [hx2]; rfl
     have hbx : (hs (x + 1)).blks.get (hs x).next = some ⟨cs,sz,(hs x).next,false⟩:=by
      rw [hx2]
      show ((hs x).blks.set (hs x).next _).get (hs x).next = _
      rw [Tr.get_set,if_pos rfl]
     have hgx : (hs (x + 1)).grps.get (hs x).next = none:=by
      rw [hx2]
      exact (wfx.new _ (Nat.le_refl _)).2
     have hsame:=hsm (x + 1) (by omega)
     obtain ⟨o1,o2⟩:=hsame.old (hs x).next (by omega)
     have hb0:=o1.trans hbx
     have hg0:=o2.trans hgx
     obtain ⟨hb1,hg1⟩:=sameB_spec h1 hb0 rfl
     have hn0 : (hs x).next < (hs j).next:=by
      have:=hsame.nxt
      omega
     have hn1 : (hs j).next ≤ (hs (j + 1)).next:=T.nx j _ (Nat.le_refl _) hsl (List.getElem?_eq_getElem hsl)
     have h0x : (hs 0).next ≤ (hs x).next:=by
      have chain : ∀ k,k ≤ j → (hs 0).next ≤ (hs k).next:=fun k => by
       induction k with
       | zero => exact fun _ => Nat.le_refl _
       | succ k ih =>
        intro hk
        have:=ih (by omega)
        have hk2:=stepV_same T.mld (T.wf0 k (by omega)) (T.fst k _ (by omega) (List.getElem?_eq_getElem (by omega)))
        have:=hk2.2.2.nxt
        omega
      exact chain x (by omega)
     refine .inr ⟨hw _,_,he1.symm,fun p hp ι w a R _ hops hι next Q hn => ?_⟩
     have hB : (hs p).blks.get (hs x).next = some ⟨cs,sz,(hs x).next,false⟩ ∧ (hs p).grps.get (hs x).next = none ∧ (hs x).next < (hs p).next:=by
      rcases hp with hp | hp
      ·rw [hp]
       exact ⟨hb0,hg0,hn0⟩
      ·rw [hp]
       exact ⟨hb1,hg1,by omega⟩
     obtain ⟨vc,ι',w',r1,r2,r3,r4,r5,r6⟩:=buildSlice_late R hd hsz hz hzs hc hcs (ps':=ps.map fun p => (p.1,a.eval p.2)) (by
      rw [Array.toList_map]
      refine map_parts _ fun p hp => hops p.2 ?_
      simp only [Op.operands,List.mem_map]
      exact ⟨p,hp,rfl⟩) (hι _ (Nat.le_refl _) (by omega)) hB.1 hB.2.1 hB.2.2 h0x
     have hsub : Sub ι ι':=fun β k e => (r4 β (fun q => by
      rw [q,hι _ (Nat.le_refl _) (by omega)] at e
      cases e)).trans e
     refine upon_value (v:=vc) (w':=w') ?_ (hn vc ι' w' r2 r3 hsub r5 (fun β => ?_) r6)
     ·show (do pure (Next.value (← Instr.buildSlice t n (ps.map fun p => (p.1,a.eval p.2)))) : Sem Next).run P w = _
      simp [r1]
     ·by_cases e : β = (hs x).next
      ·exact .inr (by omega)
      ·exact .inl (r4 β e)
    | _ => cases hp
  | _ => cases h1
theorem draw_anyF (hN : namesOK P = true) (hcf : CallsOK P G cf) (hfn : HasBody P cf) (hC : drawC ops.toList = true) (hok : ops.toList.all (operOK nt G) = true) {base : Nat} {Q : Exit → Act → World → Prop} (T : Trc P cf ops s es hs) (ht : ∀ ES HS,Tr2 P cf ops s ES HS → (∀ x,x ≤ s → Same (HS x) (HS s)) → (∀ x,x ≤ s → WF (HS x)) → ES s = es s → HS s = hs s → TailP P cf G base ops s ES HS)
  {e' : Tr Value} {h' : AH} (hv : opsV P cf ops (ops.toList.drop s) (es s) (hs s) = some (e',h')) {ι0 : Inj} {w0 : World} (hq : ∀ a' w',Post P G nt ι0 base (hs 0) w0 e' h' a' w' → Q .normal a' w') :
  ∀ (fuel : Nat) {listed : Array Bool} {ι : Inj} {w : World} {a : Act},listed.size = ops.size → cnt listed.toList ≤ fuel → Clo ops listed → Inv G nt ops s es hs base ι0 w0 listed ι a w → wpAny P .any ops Q fuel listed a w:=by
 intro fuel
 obtain ⟨es2,hs2,g1,g2,g3,g4⟩:=opsV_trace _ hv
 let ES : Nat → Tr Value:=fun j => if j ≤ s then es j else es2 (j - s)
 let HS : Nat → AH:=fun j => if j ≤ s then hs j else hs2 (j - s)
 have hsl:=T.len
 have eS : ∀ j,j ≤ s → ES j = es j ∧ HS j = hs j:=fun j hj => ⟨if_pos hj,if_pos hj⟩
 have eT : ∀ d,ES (s + d) = es2 d ∧ HS (s + d) = hs2 d:=fun d => by
  rcases Nat.eq_zero_or_pos d with rfl | hd
  ·exact ⟨(eS s (Nat.le_refl _)).1.trans g1.symm,(eS s (Nat.le_refl _)).2.trans g2.symm⟩
  ·refine ⟨(if_neg (by omega)).trans ?_,(if_neg (by omega)).trans ?_⟩ <;> rw [Nat.add_sub_cancel_left]
 have hdl : (ops.toList.drop s).length = ops.toList.length - s:=List.length_drop
 have TT : Tr2 P cf ops s ES HS:=⟨fun k o hk ho => by
   rw [(eS k (by omega)).1,(eS k (by omega)).2,(eS (k + 1) (by omega)).1,(eS (k + 1) (by omega)).2]
   exact T.stp k o hk ho,fun k o hk hkl ho => by
   have:=g3 (k - s) o (by rw [hdl]; omega) (by rw [List.getElem?_drop,show s + (k - s) = k by omega]; exact ho)
   rw [← (eT (k - s)).1,← (eT (k - s)).2,← (eT (k - s + 1)).1,← (eT (k - s + 1)).2,show s + (k - s) = k by omega,show s + (k - s + 1) = k + 1 by omega] at this
   exact this,T.mld,fun k hk => by
   rw [(eS k hk).2]
   exact T.wf k hk⟩
 have hee : (e',h') = (ES ops.toList.length,HS ops.toList.length):=by
  rw [g4,hdl]
  have:=eT (ops.toList.length - s)
  rw [show s + (ops.toList.length - s) = ops.toList.length by omega] at this
  rw [this.1,this.2]
 obtain ⟨he1,he2⟩:=Prod.mk.inj hee
 have hTP : TailP P cf G base ops s ES HS:=by
  refine ht ES HS TT (fun x hx => ?_) (fun x hx => ?_) (eS s (Nat.le_refl _)).1 (eS s (Nat.le_refl _)).2
  ·rw [(eS x hx).2,(eS s (Nat.le_refl _)).2]
   exact T.sameLe hx (Nat.le_refl _)
  ·rw [(eS x hx).2]
   exact T.wf x hx
 have full : ∀ (fuel : Nat) {listed : Array Bool} {ι : Inj} {w : World} {a : Act},listed.size = ops.size → cnt listed.toList ≤ fuel → Clo ops listed → Inv G nt ops s es hs base ι0 w0 listed ι a w → (∀ j o,j < s → ops.toList[j]? = some o → Lst listed j ∨ heapless o.op = true ∨ (Safe P cf ops s ES HS j o ∨ Flo P G base ops s ES HS j o)) → wpAny P .any ops Q fuel listed a w:=by
  intro fuel listed ι w a hz hc hcl I hall
  refine tail_any hN hcf hfn hC hok (ι0:=ι0) (w0:=w0) (base:=base) TT hTP (fun a' w' p => hq a' w' ?_) fuel s (ι:=res (hs s).next ι) hz hc hcl (Nat.le_refl _) hsl ⟨?_,fun t => ?_,I.dfr,I.glb.mono (res_le (T.sameLe (Nat.zero_le _) (Nat.le_refl _)).nxt ι),I.siz,I.low,fun j o hj ho hnl => ⟨hj,(hall j o hj ho).resolve_left hnl |>.imp_right fun q => ⟨.inl rfl,q⟩⟩,?_,I.kep,?_,Nat.le_refl _,fun j hj => ?_,fun j hj hnl β h1 h2 => ?_⟩
  ·rw [he1,he2,← (eS 0 (Nat.zero_le _)).2]
   exact p
  ·rw [(eS s (Nat.le_refl _)).2]
   exact I.rel s (Nat.le_refl _)
  ·rcases I.tmp t with ⟨j,o',hj,hl,ho',hd,hv'⟩ | ⟨hno,hv'⟩
   ·refine .inl ⟨j,o',hl,ho',hd,?_⟩
    rw [(eS (j + 1) (by omega)).1]
    exact hv'.mono (res_le (T.sameLe (by omega) (Nat.le_refl _)).nxt ι)
   ·refine .inr ⟨hno,?_⟩
    rw [(eS 0 (by omega)).1]
    exact hv'.mono (res_le (T.sameLe (Nat.zero_le _) (Nat.le_refl _)).nxt ι)
  ·rw [(eS 0 (by omega)).2]
   have n0:=(T.sameLe (Nat.zero_le s) (Nat.le_refl _)).nxt
   refine ⟨fun β hb => ?_,fun β k e => I.ext.img β k (res_some e).2⟩
   show (if β < (hs s).next then ι β else none) = _
   rw [if_pos (by omega)]
   exact I.ext.old β hb
  ·rw [(eS 0 (by omega)).2,(eS s (Nat.le_refl _)).2]
   exact (T.sameLe (Nat.zero_le s) (Nat.le_refl _)).nxt
  ·rw [(eS j (by omega)).2,(eS (j + 1) (by omega)).2,(eS s (Nat.le_refl _)).2]
   exact ⟨(T.sameLe (Nat.le_succ j) (by omega)).nxt,(T.sameLe (by omega) (Nat.le_refl _)).nxt⟩
  ·rw [(eS j (by omega)).2] at h1
   rw [(eS (j + 1) (by omega)).2] at h2
   cases hx : res (hs s).next ι β with
   | none => rfl
   | some q =>
    exfalso
    rcases I.dom β q (res_some hx).2 with h3 | ⟨i,hi,hl,h3,h4⟩
    ·have:=(T.sameLe (Nat.zero_le j) (by omega : j ≤ s)).nxt
     omega
    ·rcases Nat.lt_trichotomy i j with h | h | h
     ·have:=(T.sameLe (show i + 1 ≤ j by omega) (by omega)).nxt
      omega
     ·exact hnl (h ▸ hl)
     ·have:=(T.sameLe (show j + 1 ≤ i by omega) (by omega)).nxt
      omega
 rw [Array.length_toList] at hsl
 induction fuel with
 | zero =>
  intro listed ι w a hz hc hcl I
  exact full 0 hz hc hcl I fun j o hj _ => .inl (cnt_all hz (by omega) j (by omega))
 | succ fuel ih =>
  intro listed ι w a hz hc hcl I
  refine ⟨fun hr => (full (fuel + 1) hz hc hcl I fun j o hj _ => .inl (all_listed hz (lowE hC) hr j (by omega))).1 hr,fun i hi => ?_⟩
  rcases Nat.lt_or_ge i s with his | his
  ·refine I.step hN hcf hfn T hC hok hcl hi his fun ι' a' w' I' => ih (by rw [Array.size_setIfInBounds]; exact hz) (cnt_step hi hc) (clo_step hcl hi) I'
  ·refine (full (fuel + 1) hz hc hcl I fun j o hj ho => ?_).2 i hi
   obtain ⟨hsz,hnl⟩:=ready_not hi
   rcases hTP i his (by rw [Array.length_toList]; omega) j (by omega) with h1 | ⟨_,o2,h1,h2⟩
   ·exact .inl (ready_bfr hcl hi j h1)
   ·rw [ho] at h1
    injection h1 with h1
    subst h1
    exact .inr (h2.imp_right fun q => q.2)
variable {P : Program} {G nt : Nat} {cf : FuncId → List Value → AH → Option (Value × AH)}
def drawF (P : Program) (cf : FuncId → List Value → AH → Option (Value × AH)) (ops : Array Oper) : Nat → List Oper → Tr Value → AH → Option (Tr Value × AH)
 | _,[],e,h => some (e,h)
 | i,o :: r,e,h => match stepV P cf ops o e h with
  | some p => drawF P cf ops (i + 1) r p.1 p.2
  | none => (opV P cf o.op e h).bind fun q => cond (wantE ops o e && tailF P ops.toList i e h q.2) (opsV P cf ops (o :: r) e h) none
theorem drawF_trace {ops : Array Oper} : ∀ (l : List Oper) {i : Nat} {e : Tr Value} {h : AH} {r : Tr Value × AH},drawF P cf ops i l e h = some r →
  ∃ (s : Nat) (es : Nat → Tr Value) (hs : Nat → AH),s ≤ l.length ∧ es 0 = e ∧ hs 0 = h ∧ (∀ (k : Nat) (o : Oper),k < s → l[k]? = some o → stepV P cf ops o (es k) (hs k) = some (es (k + 1),hs (k + 1))) ∧
   opsV P cf ops (l.drop s) (es s) (hs s) = some r ∧ (s = l.length ∨ ∃ o q,l[s]? = some o ∧ opV P cf o.op (es s) (hs s) = some q ∧ wantE ops o (es s) = true ∧ tailF P ops.toList (i + s) (es s) (hs s) q.2 = true)
 | [],i,e,h,r,hv => by
  injection hv with hv
  subst hv
  exact ⟨0,fun _ => e,fun _ => h,Nat.le_refl _,rfl,rfl,fun k _ hk => absurd hk (Nat.not_lt_zero _),rfl,.inl rfl⟩
 | o :: l,i,e,h,r,hv => by
  unfold drawF at hv
  split at hv
  ·rename_i p hp
   obtain ⟨e1,h1⟩:=p
   obtain ⟨s,es,hs,g1,g2,g3,g4,g5,g6⟩:=drawF_trace l hv
   refine ⟨s + 1,fun k => match k with | 0 => e | k + 1 => es k,fun k => match k with | 0 => h | k + 1 => hs k,Nat.succ_le_succ g1,rfl,rfl,fun k o' hk ho' => ?_,g5,?_⟩
   ·cases k with
    | zero =>
     injection ho' with ho'
     subst ho'
     show stepV P cf ops o e h = some (es 0,hs 0)
     rw [g2,g3]
     exact hp
    | succ k => exact g4 k o' (Nat.lt_of_succ_lt_succ hk) ho'
   ·rcases g6 with g6 | ⟨o',q,g6,g7,g8,g9⟩
    ·exact .inl (congrArg Nat.succ g6)
    ·refine .inr ⟨o',q,g6,g7,g8,?_⟩
     rw [show i + (s + 1) = i + 1 + s by omega]
     exact g9
  ·obtain ⟨q,hq,hv⟩:=Option.bind_eq_some_iff.1 hv
   obtain ⟨hc,hv⟩:=cond_some' hv
   rw [Bool.and_eq_true] at hc
   exact ⟨0,fun _ => e,fun _ => h,Nat.zero_le _,rfl,rfl,fun k _ hk => absurd hk (Nat.not_lt_zero _),hv,.inr ⟨o,q,rfl,hq,hc.1,hc.2⟩⟩
theorem drawF_mild (hcf : CallsMild cf) {ops : Array Oper} : ∀ (l : List Oper) {i : Nat} {e : Tr Value} {h : AH} {r : Tr Value × AH},WF h → drawF P cf ops i l e h = some r → Mild h r.2
 | [],i,e,h,r,H,hv => by
  injection hv with hv
  subst hv
  exact .refl H
 | o :: l,i,e,h,r,H,hv => by
  unfold drawF at hv
  split at hv
  ·rename_i p hp
   have M:=(stepV_same hcf H hp).1
   exact M.trans (drawF_mild hcf l M.wf hv)
  ·obtain ⟨q,hq,hv⟩:=Option.bind_eq_some_iff.1 hv
   obtain ⟨hc,hv⟩:=cond_some' hv
   exact opsV_mild hcf _ H hv
theorem drawF_any (hN : namesOK P = true) (hcf : CallsOK P G cf) (hfn : HasBody P cf) (hml : CallsMild cf) {ops : Array Oper} (hC : drawB ops = true) (hok : ops.toList.all (operOK nt G) = true) (ι : Inj) (base : Nat) (h : AH) (w : World) (e e' : Tr Value) (h' : AH) (a : Act) (S : St P G nt ι base h w e a) (hv : drawF P cf ops 0 ops.toList e h = some (e',h'))
  {Q : Exit → Act → World → Prop} (hq : ∀ a' w',Post P G nt ι base h w e' h' a' w' → Q .normal a' w') : wpAny P .any ops Q ops.size (Array.replicate ops.size false) a { w with drawn:=w.drawn + 1 }:=by
 obtain ⟨s,es,hs,g1,rfl,rfl,g4,g5,g6⟩:=drawF_trace _ hv
 rw [Nat.zero_add] at g6
 have T : Trc P cf ops s es hs:=⟨hml,S.rel.wf,g1,g4⟩
 have ht : ∀ ES HS,Tr2 P cf ops s ES HS → (∀ x,x ≤ s → Same (HS x) (HS s)) → (∀ x,x ≤ s → WF (HS x)) → ES s = es s → HS s = hs s → TailP P cf G base ops s ES HS:=by
  intro ES HS TT hsm hwf hE hH
  rcases g6 with g6 | ⟨o,q,g6,g7,g8,g9⟩
  ·intro j hsj hj
   omega
  ·have hsl:=(List.getElem?_eq_some_iff.1 g6).1
   refine tailPF_of hC TT hsm hsl ?_
   have hst:=TT.lst s o (Nat.le_refl _) hsl g6
   unfold tstepV at hst
   rw [hE,g8] at hst
   obtain ⟨⟨v,h1⟩,hp,hst⟩:=Option.bind_eq_some_iff.1 hst
   obtain ⟨_,h3⟩:=Prod.mk.inj (Option.some.inj hst)
   rw [hH,g7] at hp
   injection hp with hp
   have h3 : h1 = HS (s + 1):=h3
   rw [hE,hH,← h3]
   have : q.2 = h1:=by rw [hp]
   rw [← this]
   exact g9
 have hno : ∀ j,¬ Lst (Array.replicate ops.size false) j:=fun j hj => by
  unfold Lst at hj
  rw [Array.getD_eq_getD_getElem?,Array.getElem?_replicate] at hj
  split at hj <;> cases hj
 have hd:=fun β k (e : ι β = some k) => (S.rel.dom β k e).1
 refine draw_anyF hN hcf hfn hC hok (ι0:=ι) (w0:=w) (base:=base) T ht g5 hq ops.size (ι:=ι) (by simp) ?_ (fun j hj => absurd hj (hno j)) ⟨?_,?_,?_,S.dfr,?_,S.siz,fun j hj => absurd hj (hno j),Ext.refl _ _ _,⟨Nat.le_refl _,fun _ _ _ => rfl,rfl,rfl⟩⟩
 ·rw [Array.toList_replicate]
  generalize ops.size = n
  induction n with
  | zero => exact Nat.le_refl _
  | succ n ih =>
   rw [List.replicate_succ]
   exact Nat.succ_le_succ ih
 ·intro k hk
  have M:=T.sameLe (Nat.zero_le k) hk
  have e : res (hs k).next ι = ι:=funext fun β => by
   unfold res
   split
   ·rfl
   ·rename_i hn
    cases hb : ι β with
    | none => rfl
    | some q =>
     have:=hd β q hb
     have:=M.nxt
     omega
  rw [e]
  have R':=S.rel.up M
  exact ⟨R'.blk,R'.esz,R'.own,R'.gle,R'.dis,R'.dom,R'.new,R'.grp,R'.bas,R'.has,R'.map⟩
 ·exact fun β q hb => .inl (hd β q hb)
 ·exact fun t => .inr ⟨fun j o hj => absurd hj (hno j),(S.env t).mono fun β q hb => res_of (hd β q hb) hb⟩
 ·exact S.glb.mono fun β q hb => res_of (hd β q hb) hb
def loudA (o : Oper) : Bool:=match o.op with
 | .call c => match c.callee with
  | .builtin _ => !(quiet o.op)
  | _ => false
 | _ => !(quiet o.op)
def loudAt (l : List Oper) (x : Nat) : Bool:=match l[x]? with
 | some o => loudA o
 | none => true
def loudMk (l : List Oper) : Nat → Nat
 | 0 => 0
 | n + 1 => cond (loudAt l n) (Nat.lor (Nat.shiftLeft 1 n) (loudMk l n)) (loudMk l n)
def firstX (l : List Oper) (ms : List Nat) (lm x : Nat) : Bool:=!(loudAt l x) && Nat.beq (Nat.land ((ms[x]?).getD 0) lm) 0
def permL (l : List Oper) : List Nat:=(List.range l.length).filter (firstX l (bmasks l []) (loudMk l l.length)) ++ (List.range l.length).filter fun x => !(firstX l (bmasks l []) (loudMk l l.length) x)
def posL : List Nat → Nat → Nat
 | [],_ => 0
 | y :: r,x => cond (Nat.beq x y) 0 (Nat.succ (posL r x))
def remapE (π : List Nat) (e : Edge) : Edge:={ e with on:=posL π e.on }
def remapO (π : List Nat) (o : Oper) : Oper:={ o with after:=o.after.map (remapE π) }
def permO (ops : Array Oper) (π : List Nat) : Array Oper:=(π.map fun i => remapO π ((ops.toList[i]?).getD default)).toArray
def πf (π : List Nat) (j : Nat) : Nat:=(π[j]?).getD 0
def permC (ops : Array Oper) (π : List Nat) : Bool:=Nat.beq π.length ops.size && (((List.range ops.size).all fun j => Nat.blt (πf π j) ops.size && Nat.beq (posL π (πf π j)) j) && (((List.range ops.size).all fun i => Nat.blt (posL π i) ops.size && Nat.beq (πf π (posL π i)) i) &&
 ops.toList.all fun o => o.guard.isNone && o.after.toList.all fun e => Nat.blt e.on ops.size))
theorem permC_spec {ops : Array Oper} {π : List Nat} (h : permC ops π = true) : Permd ops (permO ops π) (πf π):=by
 unfold permC at h
 rw [Bool.and_eq_true,Bool.and_eq_true,Bool.and_eq_true] at h
 obtain ⟨h1,h2,h3,h4⟩:=h
 have h1:=Nat.eq_of_beq_eq_true h1
 have c2 : ∀ j,j < ops.size → πf π j < ops.size ∧ posL π (πf π j) = j:=fun j hj => by
  have:=List.all_eq_true.1 h2 j (List.mem_range.2 hj)
  rw [Bool.and_eq_true] at this
  exact ⟨Nat.le_of_ble_eq_true this.1,Nat.eq_of_beq_eq_true this.2⟩
 have c3 : ∀ i,i < ops.size → posL π i < ops.size ∧ πf π (posL π i) = i:=fun i hi => by
  have:=List.all_eq_true.1 h3 i (List.mem_range.2 hi)
  rw [Bool.and_eq_true] at this
  exact ⟨Nat.le_of_ble_eq_true this.1,Nat.eq_of_beq_eq_true this.2⟩
 have hsz : (permO ops π).size = ops.size:=by
  unfold permO
  rw [List.size_toArray,List.length_map,h1]
 refine ⟨hsz,fun j hj => (c2 j hj).1,fun i j hi hj e => by rw [← (c2 i hi).2,← (c2 j hj).2,e],fun i hi => ⟨posL π i,(c3 i hi).1,(c3 i hi).2⟩,fun j o' ho' => ?_⟩
 have hj : j < ops.size:=by
  rw [← hsz]
  exact (Array.getElem?_eq_some_iff.1 ho').1
 have hlt:=(c2 j hj).1
 have ho : ops.toList[πf π j]? = some (ops.toList[πf π j]'(by rw [Array.length_toList]; exact hlt)):=List.getElem?_eq_getElem _
 generalize ops.toList[πf π j]'(by rw [Array.length_toList]; exact hlt) = o at ho
 have hπ : π[j]? = some (πf π j):=by
  unfold πf
  rw [List.getElem?_eq_getElem (by omega)]
  rfl
 have hoo : o' = remapO π o:=by
  unfold permO at ho'
  rw [List.getElem?_toArray,List.getElem?_map,hπ] at ho'
  injection ho' with ho'
  rw [← ho']
  show remapO π ((ops.toList[πf π j]?).getD default) = _
  rw [ho]
  rfl
 subst hoo
 have hall:=List.all_eq_true.1 h4 o (List.mem_of_getElem? ho)
 rw [Bool.and_eq_true] at hall
 refine ⟨o,by rw [← Array.getElem?_toList]; exact ho,rfl,Option.isNone_iff_eq_none.1 hall.1,fun e he hb => ?_,fun e' he' hb' => ?_⟩
 ·have hon : e.on < ops.size:=Nat.le_of_ble_eq_true (List.all_eq_true.1 hall.2 e (Array.mem_toList_iff.2 he))
  exact ⟨remapE π e,Array.mem_map.2 ⟨e,he,rfl⟩,hb,(c3 _ hon).1,(c3 _ hon).2⟩
 ·obtain ⟨e,he,rfl⟩:=Array.mem_map.1 he'
  have hon : e.on < ops.size:=Nat.le_of_ble_eq_true (List.all_eq_true.1 hall.2 e (Array.mem_toList_iff.2 he))
  exact ⟨(c3 _ hon).1,e,he,hb',(c3 _ hon).2.symm⟩
def permV (P : Program) (cf : FuncId → List Value → AH → Option (Value × AH)) (ops : Array Oper) (e : Tr Value) (h : AH) : Option (Tr Value × AH) :=
 cond (permC ops (permL ops.toList) && drawB (permO ops (permL ops.toList))) (drawF P cf (permO ops (permL ops.toList)) 0 (permO ops (permL ops.toList)).toList e h) none
theorem permV_mild (hcf : CallsMild cf) {ops : Array Oper} {e : Tr Value} {h : AH} {r : Tr Value × AH} (H : WF h) (hv : permV P cf ops e h = some r) : Mild h r.2:=by
 obtain ⟨_,hv⟩:=cond_some' hv
 exact drawF_mild hcf _ H hv
theorem permV_ok (hm : P.follows .mixedOrders = true) (hN : namesOK P = true) (hcf : CallsOK P G cf) (hfn : HasBody P cf) (hml : CallsMild cf) {ops : Array Oper} (hok : ops.toList.all (operOK nt G) = true) (id : Nat) (ι : Inj) (base : Nat) (h : AH) (w : World) (e e' : Tr Value) (h' : AH) (a : Act) (S : St P G nt ι base h w e a) (hv : permV P cf ops e h = some (e',h')) :
  (Code.region id ops true).wp P (fun ex a' w' => ex = .normal ∧ Post P G nt ι base h w e' h' a' w') a w:=by
 obtain ⟨hc,hv⟩:=cond_some' hv
 rw [Bool.and_eq_true] at hc
 have hp:=permC_spec hc.1
 refine wp_region_any hm (wpAny_perm hp ops.size (Array.replicate ops.size false) (Array.replicate (permO ops (permL ops.toList)).size false) a _ (by simp) (by rw [Array.size_replicate,hp.size]) (fun j hj => ?_) ?_)
 ·unfold Lst
  rw [Array.getD_eq_getD_getElem?,Array.getD_eq_getD_getElem?,Array.getElem?_replicate,Array.getElem?_replicate,hp.size,if_pos hj,if_pos (hp.lt j hj)]
 ·rw [← hp.size]
  refine drawF_any hN hcf hfn hml hc.2 ?_ ι base h w e e' h' a S hv fun a' w' p => ⟨rfl,p⟩
  refine List.all_eq_true.2 fun o' ho' => ?_
  obtain ⟨j,hj⟩:=List.getElem?_of_mem ho'
  obtain ⟨o,ho,heq,_⟩:=hp.op j o' (by rw [← Array.getElem?_toList]; exact hj)
  have:=List.all_eq_true.1 hok o (List.mem_of_getElem? (by rw [Array.getElem?_toList]; exact ho))
  rw [heq]
  exact this
variable {P : Program} {G : Nat} {cf : FuncId → List Value → AH → Option (Value × AH)}
theorem three_inj {α β γ : Type} {a a' : α} {b b' : β} {c c' : γ} (h : some (a,b,c) = some (a',b',c')) : a = a' ∧ b = b' ∧ c = c':=by
 injection h with h
 injection h with h1 h2
 injection h2 with h2 h3
 exact ⟨h1,h2,h3⟩
theorem three_inj' {α β γ : Type} {a a' : α} {b b' : β} {c c' : γ} (h : (a,b,c) = (a',b',c')) : a = a' ∧ b = b' ∧ c = c':=by
 injection h with h1 h2
 injection h2 with h2 h3
 exact ⟨h1,h2,h3⟩
def Ex.to : Ex → Exit
 | .normal => .normal
 | .exit id => .exit id
 | .ret => .ret
def codeOK (nt G : Nat) (draw : Array Oper → Bool) : Code → Bool
 | .region _ ops d => ops.toList.all (operOK nt G) && (!d || draw ops)
 | .seq a b => codeOK nt G draw a && codeOK nt G draw b
 | .cond c x y => opdOK G c && (codeOK nt G draw x && codeOK nt G draw y)
 | .block _ c => codeOK nt G draw c
 | .loop c => codeOK nt G draw c
 | _ => true
theorem exec_sound (hN : namesOK P = true) (hcf : CallsOK P G cf) (hfn : HasBody P cf) {nt base : Nat} {draw : Array Oper → Bool} (hdr : ∀ ops,draw ops = true → ops.toList.all (operOK nt G) = true → DrawOK P G nt cf ops) (kf : Nat) :
  ∀ (c : Code) {ι : Inj} {h : AH} {w : World} {e e' : Tr Value} {h' : AH} {a : Act} {x : Ex},codeOK nt G draw c = true → St P G nt ι base h w e a → exec P cf kf c e h = some (x,e',h') →
   c.wp P (fun ex a' w' => ex = x.to ∧ Post P G nt ι base h w e' h' a' w') a w:=by
 intro c
 induction c with
 | skip =>
  intro ι h w e e' h' a x _ S hx
  obtain ⟨rfl,rfl,rfl⟩:=three_inj hx
  exact wp_skip ⟨rfl,Post.refl S⟩
 | ret =>
  intro ι h w e e' h' a x _ S hx
  obtain ⟨rfl,rfl,rfl⟩:=three_inj hx
  exact wp_ret ⟨rfl,Post.refl S⟩
 | exit id =>
  intro ι h w e e' h' a x _ S hx
  obtain ⟨rfl,rfl,rfl⟩:=three_inj hx
  exact wp_exit ⟨rfl,Post.refl S⟩
 | region id ops d =>
  intro ι h w e e' h' a x hok S hx
  obtain ⟨⟨e1,h1⟩,hv,hx⟩:=Option.map_eq_some_iff.1 hx
  obtain ⟨rfl,rfl,rfl⟩:=three_inj' hx
  have hok' : (ops.toList.all (operOK nt G) && (!d || draw ops)) = true:=hok
  rw [Bool.and_eq_true] at hok'
  cases d with
  | false =>
   have hv : opsV P cf ops ops.toList e h = some (e1,h1):=hv
   exact wp_region_list (ops_step hN hcf hfn ops.toList S hok'.1 hv fun a' w' p => ⟨rfl,p⟩)
  | true =>
   have hv : drawV P cf ops (wrunV P cf ops e h) 0 ops.toList e h = some (e1,h1):=hv
   exact hdr ops (by simpa using hok'.2) hok'.1 id ι base h w e e1 h1 a S hv
 | seq c1 c2 ih1 ih2 =>
  intro ι h w e e' h' a x hok S hx
  have hok' : (codeOK nt G draw c1 && codeOK nt G draw c2) = true:=hok
  rw [Bool.and_eq_true] at hok'
  obtain ⟨⟨x1,e1,h1⟩,hx1,hx⟩:=Option.bind_eq_some_iff.1 hx
  refine wp_seq (wp_mono (ih1 hok'.1 S hx1) ?_)
  rintro ex a1 w1 ⟨rfl,ι1,S1,E1,K1,N1⟩
  cases x1 with
  | normal => exact wp_mono (ih2 hok'.2 S1 hx) fun ex a' w' ⟨q1,q2⟩ => ⟨q1,q2.trans E1 K1 N1⟩
  | exit id =>
   obtain ⟨rfl,rfl,rfl⟩:=three_inj hx
   exact ⟨rfl,ι1,S1,E1,K1,N1⟩
  | ret =>
   obtain ⟨rfl,rfl,rfl⟩:=three_inj hx
   exact ⟨rfl,ι1,S1,E1,K1,N1⟩
 | cond c x y ihx ihy =>
  intro ι h w e e' h' a xx hok S hx
  have hok' : (opdOK G c && (codeOK nt G draw x && codeOK nt G draw y)) = true:=hok
  rw [Bool.and_eq_true,Bool.and_eq_true] at hok'
  have hc:=ev_rel S.env S.glb hok'.1
  have hx' : (match ev e c with | .bool t => cond t (exec P cf kf x e h) (exec P cf kf y e h) | _ => none) = some (xx,e',h'):=hx
  split at hx'
  ·rename_i t ht
   rw [ht] at hc
   refine wp_cond hc.bool_inv ?_
   cases t with
   | true => exact ihx hok'.2.1 S hx'
   | false => exact ihy hok'.2.2 S hx'
  ·cases hx'
 | block id c ih =>
  intro ι h w e e' h' a x hok S hx
  obtain ⟨⟨x1,e1,h1⟩,hx1,hx⟩:=Option.bind_eq_some_iff.1 hx
  refine wp_block (wp_mono (ih hok S hx1) ?_)
  rintro ex a1 w1 ⟨rfl,p⟩
  cases x1 with
  | normal =>
   obtain ⟨rfl,rfl,rfl⟩:=three_inj hx
   exact ⟨rfl,p⟩
  | exit j =>
   have hx' : cond (Nat.beq j id) (some (Ex.normal,e1,h1)) (some (Ex.exit j,e1,h1)) = some (x,e',h'):=hx
   rw [cond_beq] at hx'
   show (if j = id then _ else _)
   split at hx'
   ·rename_i hj
    obtain ⟨rfl,rfl,rfl⟩:=three_inj hx'
    rw [if_pos hj]
    exact ⟨rfl,p⟩
   ·rename_i hj
    obtain ⟨rfl,rfl,rfl⟩:=three_inj hx'
    rw [if_neg hj]
    exact ⟨rfl,p⟩
  | ret =>
   obtain ⟨rfl,rfl,rfl⟩:=three_inj hx
   exact ⟨rfl,p⟩
 | loop c ih =>
  intro ι h w e e' h' a x hok S hx
  have key : ∀ (n : Nat) {ι : Inj} {h : AH} {w : World} {e : Tr Value} {a : Act},St P G nt ι base h w e a → iter (exec P cf kf c) n e h = some (x,e',h') →
    Code.rounds P c (fun ex a' w' => ex = x.to ∧ Post P G nt ι base h w e' h' a' w') n a w:=by
   intro n
   induction n with
   | zero =>
    intro ι h w e a S hx
    cases hx
   | succ n ihn =>
    intro ι h w e a S hx
    obtain ⟨⟨x1,e1,h1⟩,hx1,hx⟩:=Option.bind_eq_some_iff.1 hx
    rw [rounds_succ]
    refine wp_mono (ih hok S hx1) ?_
    rintro ex a1 w1 ⟨rfl,ι1,S1,E1,K1,N1⟩
    cases x1 with
    | normal =>
     have hr:=ihn S1 hx
     have mono : ∀ (n : Nat) (Q Q' : Exit → Act → World → Prop),(∀ ex a w,Q ex a w → Q' ex a w) → ∀ a w,Code.rounds P c Q n a w → Code.rounds P c Q' n a w:=by
      intro n Q Q' hqq
      induction n with
      | zero => exact fun _ _ h => h
      | succ n ihm =>
       intro a w hh
       rw [rounds_succ] at hh ⊢
       refine wp_mono hh ?_
       intro ex a' w' q
       cases ex with
       | normal => exact ihm a' w' q
       | exit _ => exact hqq _ _ _ q
       | goto _ => exact hqq _ _ _ q
       | ret => exact hqq _ _ _ q
       | panic _ => exact hqq _ _ _ q
       | outgrown => exact hqq _ _ _ q
     exact mono n _ _ (fun ex a' w' ⟨q1,q2⟩ => ⟨q1,q2.trans E1 K1 N1⟩) a1 w1 hr
    | exit id =>
     obtain ⟨rfl,rfl,rfl⟩:=three_inj hx
     exact ⟨rfl,ι1,S1,E1,K1,N1⟩
    | ret =>
     obtain ⟨rfl,rfl,rfl⟩:=three_inj hx
     exact ⟨rfl,ι1,S1,E1,K1,N1⟩
  exact wp_loop_rounds kf (key kf S hx)
 | rangeFunc f ps x y _ _ => exact fun _ _ hx => by cases hx
 | scope c _ => exact fun _ _ hx => by cases hx
 | label l => exact fun _ _ hx => by cases hx
 | goto l => exact fun _ _ hx => by cases hx
 | refuse s => exact fun _ _ hx => by cases hx
variable {P : Program} {G : Nat}
theorem envOf_get : ∀ (l : List Value) (i : Nat) (e : Tr Value) (j : Nat),(envOf l i e).get j = if i ≤ j ∧ j < i + l.length then l[j - i]? else e.get j
 | [],i,e,j => by
  unfold envOf
  rw [if_neg (fun hh => by simp only [List.length_nil] at hh; omega)]
 | v :: l,i,e,j => by
  unfold envOf
  rw [envOf_get l (i + 1) (e.set i v) j,Tr.get_set]
  simp only [List.length_cons]
  by_cases h1 : j = i
  ·subst h1
   rw [if_neg (by omega),if_pos rfl,if_pos (by omega),Nat.sub_self]
   rfl
  ·by_cases h2 : i + 1 ≤ j ∧ j < i + 1 + l.length
   ·rw [if_pos h2,if_pos (by omega),show j - i = (j - (i + 1)) + 1 by omega]
    rfl
   ·rw [if_neg h2,if_neg h1,if_neg (by omega)]
theorem env0_get (nt i : Nat) : (env0 nt).get i = none:=by
 unfold env0
 generalize Nat.log2 (nt + 1) + 1 = d
 have key : ∀ (d a b i : Nat),(mkT ([] : List (Option Value)) d a b).get i = none:=by
  intro d
  induction d with
  | zero => exact fun _ _ i => Tr.get_nil i
  | succ d ih =>
   intro a b i
   cases i with
   | zero => rfl
   | succ i =>
    show (Tr.node _ _ _).get (i + 1) = none
    rw [Tr.get_succ]
    split
    ·exact ih _ _ _
    ·exact ih _ _ _
 exact key d 1 0 i
theorem envOf_rel {ι : Inj} {args : List Value} {argsc : Array Value} (ha : AllR (vRel ι) args argsc.toList) (nt n : Nat) : relE ι (envOf args 0 (env0 nt)) (argsc ++ Array.replicate n undef):=by
 intro i
 rw [envOf_get]
 have hl : args.length = argsc.size:=ha.length_eq.trans Array.length_toList
 by_cases hi : 0 ≤ i ∧ i < 0 + args.length
 ·rw [if_pos hi,Nat.sub_zero]
  have hlt : i < args.length:=by omega
  obtain ⟨y,hy,hr⟩:=ha.get (List.getElem?_eq_getElem hlt)
  rw [List.getElem?_eq_getElem hlt]
  rw [Array.getElem?_toList] at hy
  have : (argsc ++ Array.replicate n undef).getD i undef = y:=by
   rw [Array.getD_eq_getD_getElem?,Array.getElem?_append_left (by omega),hy]
   rfl
  rw [this]
  exact hr
 ·rw [if_neg hi,env0_get]
  have : (argsc ++ Array.replicate n undef).getD i undef = undef:=by
   rw [Array.getD_eq_getD_getElem?,Array.getElem?_append_right (by omega),Array.getElem?_replicate]
   split <;> rfl
  rw [this]
  exact vRel.undef
def resF (t : Array Value) : ResultVar → Sem Value
 | .tmp t1 => pure (t.getD t1 undef)
 | .cell a t1 => do loadVar t1 (← asAddr (t.getD a undef))
theorem results_eq (fn : Func) (t : Array Value) : results fn t = (do
  let vs ← fn.results.mapM (resF t)
  pure (if h : vs.size = 1 then vs[0] else .tuple vs)):=rfl
theorem resV_sound {ι : Inj} {base : Nat} {h : AH} {w : World} {e : Tr Value} {t : Array Value} (R : Rel ι base h w) (E : relE ι e t) : ∀ (l : List ResultVar) (vs : List Value),resVs P e h l = some vs →
  ∃ vcs : List Value,(l.mapM (resF t)).run P w = .ok vcs w ∧ AllR (vRel ι) vs vcs
 | [],vs,hv => by
  injection hv with hv
  subst hv
  exact ⟨[],by simp,trivial⟩
 | r :: l,vs,hv => by
  unfold resVs at hv
  obtain ⟨v,hv1,hv⟩:=Option.bind_eq_some_iff.1 hv
  obtain ⟨vs',hv2,hv⟩:=Option.bind_eq_some_iff.1 hv
  injection hv with hv
  subst hv
  obtain ⟨vcs,g1,g2⟩:=resV_sound R E l vs' hv2
  cases r with
  | tmp t1 =>
   injection hv1 with hv1
   subst hv1
   refine ⟨t.getD t1 undef :: vcs,?_,E t1,g2⟩
   rw [List.mapM_cons]
   simp only [resF,Sem.run_bind,Sem.run_pure,Result.andThen_ok,g1]
  | cell a t1 =>
   obtain ⟨vc,q1,q2⟩:=loadV_sound (P:=P) R hv1 (E a)
   refine ⟨vc :: vcs,?_,q2,g2⟩
   have q3 : (do loadVar t1 (← asAddr (t.getD a undef)) : Sem Value).run P w = .ok vc w:=by
    have hv1' : loadV P t1 ((e.get a).getD undef) h = some v:=hv1
    unfold loadV at hv1'
    split at hv1'
    ·rename_i ad had
     have hE:=E a
     rw [had] at hE
     obtain ⟨c,hc,_⟩:=hE.ptr_inv
     rw [hc] at q1 ⊢
     simpa [Instr.loadAt,Instr.sureAddr,asAddr] using q1
    ·cases hv1'
   have q4 : (resF t (.cell a t1)).run P w = .ok vc w:=q3
   rw [List.mapM_cons]
   simp only [Sem.run_bind,q4,Result.andThen_ok,g1,Sem.run_pure]
theorem noTup_rel {ι : Inj} : ∀ {vs vcs : List Value},AllR (vRel ι) vs vcs → vs.all noTup = true → AllR (wRel ι) vs vcs
 | [],[],_,_ => trivial
 | v :: vs,c :: vcs,h,hn => by
  rw [List.all_cons,Bool.and_eq_true] at hn
  refine ⟨?_,noTup_rel h.2 hn.2⟩
  have h1:=h.1
  cases h1 with
  | one h1 => exact h1
  | tuple _ _ _ => cases hn.1
 | [],_ :: _,h,_ => h.elim
 | _ :: _,[],h,_ => h.elim
theorem packV_sound {ι : Inj} {vs vcs : List Value} {v : Value} (h : AllR (vRel ι) vs vcs) (hp : packV vs = some v) : vRel ι v (if h : vcs.toArray.size = 1 then vcs.toArray[0] else .tuple vcs.toArray):=by
 unfold packV at hp
 split at hp
 ·injection hp with hp
  subst hp
  obtain ⟨y,l,rfl,h1,h2⟩:=h.cons_inv
  obtain rfl:=h2.nil_inv
  simpa using h1
 ·rename_i hne
  obtain ⟨hn,hp⟩:=cond_some' hp
  injection hp with hp
  subst hp
  have hl:=h.length_eq
  have hs : ¬ (vcs.toArray.size = 1):=by
   intro e
   rw [List.size_toArray] at e
   rw [e] at hl
   match vs,hl,hne with
   | [x],_,hne => exact hne x rfl
  rw [dif_neg hs]
  exact .tuple _ _ (by rw [List.toList_toArray,List.toList_toArray]; exact noTup_rel h hn)
theorem vRel.through {ι' ι1 : Inj} (hs : Sub ι' ι1) {x y y' : Value} (h : vRel ι' x y) (h' : vRel ι1 x y') : vRel ι' x y':=by
 cases h with
 | one h =>
  cases h' with
  | one h' => exact .one (h.through hs h')
  | tuple cs ds h' => cases h with
   | cell h => cases h with
    | atom h => cases h
 | tuple cs ds h =>
  cases h' with
  | one h' => cases h' with
   | cell h' => cases h' with
    | atom h' => cases h'
  | tuple _ ds' h' => exact .tuple cs ds' (AllR.through (R:=wRel ι') (S:=wRel ι1) (fun _ _ _ a b => wRel.through hs a b) h h')
def fnOK (G : Nat) (draw : Array Oper → Bool) (fn : Func) : Bool:=match fn.body with
 | some c => codeOK fn.ntmps G draw c
 | none => true
def progOK (P : Program) (G : Nat) (draw : Array Oper → Bool) : Bool:=P.funcs.toList.all (fnOK G draw)
theorem run_succ {n : Nat} {f : FuncId} {args : List Value} {h : AH} {r : Value × AH} (hr : run P (n + 1) f args h = some r) :
  ∃ fn c,P.funcs[f]? = some fn ∧ fn.body = some c ∧ ((exec P (run P n) n c (envOf args 0 (env0 fn.ntmps)) { h with low:=h.next }).bind fun r => match r.1 with
    | .exit _ => none
    | _ => (resVs P r.2.1 r.2.2 fn.results.toList).bind fun vs => (packV vs).map fun v => exitR h r.2.2 v) = some r:=by
 unfold run at hr
 split at hr
 ·rename_i fn hf
  split at hr
  ·rename_i c hb
   exact ⟨fn,c,hf,hb,hr⟩
  ·cases hr
 ·cases hr
theorem run_body (n : Nat) : HasBody P (run P n):=by
 intro f args h r hr
 cases n with
 | zero => cases hr
 | succ n =>
  obtain ⟨fn,c,hf,hb,_⟩:=run_succ hr
  exact ⟨fn,hf,by rw [hb]; rfl⟩
theorem run1_succ {cf : FuncId → List Value → AH → Option (Value × AH)} {n : Nat} {f : FuncId} {args : List Value} {h : AH} {r : Value × AH} (hr : run1 P cf n f args h = some r) :
  ∃ fn c,P.funcs[f]? = some fn ∧ fn.body = some c ∧ ((exec P cf n c (envOf args 0 (env0 fn.ntmps)) { h with low:=h.next }).bind fun r => match r.1 with
    | .exit _ => none
    | _ => (resVs P r.2.1 r.2.2 fn.results.toList).bind fun vs => (packV vs).map fun v => exitR h r.2.2 v) = some r:=by
 unfold run1 at hr
 split at hr
 ·rename_i fn hf
  split at hr
  ·rename_i c hb
   exact ⟨fn,c,hf,hb,hr⟩
  ·cases hr
 ·cases hr
theorem run1_sound (hm : P.follows .mixedOrders = true) (hN : namesOK P = true) (hP : progOK P G drawB = true) {cf : FuncId → List Value → AH → Option (Value × AH)} (ih : CallsOK P G cf) (hbd : HasBody P cf) (hml : CallsMild cf) (n : Nat) : CallsOK P G (run1 P cf n):=by
 intro f args h v h' hr ι base w argsc R hG ha
 obtain ⟨fn,c,hf,hb,hr⟩:=run1_succ hr
 obtain ⟨⟨x,e1,h1⟩,hx,hr⟩:=Option.bind_eq_some_iff.1 hr
 have hok : codeOK fn.ntmps G drawB c = true:=by
  have hm : fn ∈ P.funcs.toList:=by
   rw [← Array.getElem?_toList] at hf
   exact List.mem_of_getElem? hf
  have:=List.all_eq_true.1 hP fn hm
  unfold fnOK at this
  rw [hb] at this
  exact this
 refine calls_of_wp hf hb (wp_mono (exec_sound hN ih hbd (fun ops hd ho => draw_ok hm hN ih hbd hml hd ho) n c hok (ι:=ι) (h:={ h with low:=h.next }) (base:=base) (a:=⟨argsc ++ Array.replicate (fn.ntmps - argsc.size) undef,[]⟩) ⟨R.setLow _,envOf_rel ha _ _,rfl,hG,by simp; omega⟩ hx) ?_)
 rintro ex a' w' ⟨rfl,ι',S',E',K',N'⟩
 have M:=exec_mild hml n c (R.wf.setLow h.next) hx
 have fin : ∀ {v : Value} {h' : AH},((resVs P e1 h1 fn.results.toList).bind fun vs => (packV vs).map fun v => exitR h h1 v) = some (v,h') →
   a'.defers = [] ∧ ∃ vc,(results fn a'.tmps).run P w' = .ok vc w' ∧ ∃ vc' ι',Ending.returned vc = .returned vc' ∧ vRel ι' v vc' ∧ Rel ι' base h' w' ∧ Ext h.next w ι ι' ∧ Keep base ι w w' ∧ h.next ≤ h'.next:=by
  intro v h' hr
  obtain ⟨vs,hvs,hr⟩:=Option.bind_eq_some_iff.1 hr
  obtain ⟨v1,hv1,e2⟩:=Option.map_eq_some_iff.1 hr
  obtain ⟨vcs,g1,g2⟩:=resV_sound (P:=P) S'.rel S'.env _ _ hvs
  have hvr:=packV_sound g2 hv1
  have hrun : (results fn a'.tmps).run P w' = .ok (if h : vcs.toArray.size = 1 then vcs.toArray[0] else .tuple vcs.toArray) w':=by
   rw [results_eq,Array.mapM_eq_mapM_toList]
   simp only [Sem.run_bind,Sem.run_map,g1,Result.andThen_ok,Sem.run_pure]
  have hs : Sub ι ι':=E'.sub fun β k hk => (R.dom β k hk).1
  unfold exitR at e2
  cases hg : (Nat.beq h1.low h.next && plainV v1) with
  | true =>
   rw [hg] at e2
   obtain ⟨rfl,rfl⟩:=Prod.mk.inj e2
   rw [Bool.and_eq_true] at hg
   have hS:=same_of_mild R.wf M (Nat.eq_of_beq_eq_true hg.1)
   exact ⟨S'.dfr,_,hrun,_,ι,rfl,vRel.through hs (plainV_rel hg.2) hvr,R.below S'.rel hS hs K'.1,Ext.refl _ _ _,K',Nat.le_refl _⟩
  | false =>
   rw [hg] at e2
   obtain ⟨rfl,rfl⟩:=Prod.mk.inj e2
   exact ⟨S'.dfr,_,hrun,_,ι',rfl,hvr,S'.rel.setLow _,E',K',N'⟩
 cases x with
 | normal => exact fin hr
 | ret => exact fin hr
 | exit _ => cases hr
theorem run_sound (hm : P.follows .mixedOrders = true) (hN : namesOK P = true) (hP : progOK P G drawB = true) : ∀ n,CallsOK P G (run P n)
 | 0 => fun _ _ _ _ _ hr => by cases hr
 | n + 1 => run1_sound hm hN hP (run_sound hm hN hP n) (run_body n) (run_mild n) n
section
variable {P : Program} {G nt : Nat} {cf : FuncId → List Value → AH → Option (Value × AH)}
def fbV (P : Program) (cf : FuncId → List Value → AH → Option (Value × AH)) (ops : Array Oper) (e : Tr Value) (h : AH) : Option (Tr Value × AH):=match wrunV P cf ops e h with
 | some r => some r
 | none => permV P cf ops e h
theorem fbV_or {ops : Array Oper} {e : Tr Value} {h : AH} {r : Tr Value × AH} (hv : fbV P cf ops e h = some r) : wrunV P cf ops e h = some r ∨ permV P cf ops e h = some r:=by
 unfold fbV at hv
 split at hv
 ·rename_i q hq
  injection hv with hv
  subst hv
  exact .inl hq
 ·exact .inr hv
end
def exec2 (P : Program) (cf : FuncId → List Value → AH → Option (Value × AH)) (k : Nat) : Code → Tr Value → AH → Option (Ex × Tr Value × AH)
 | .skip,e,h => some (.normal,e,h)
 | .region _ ops d,e,h => (cond d (drawV P cf ops (fbV P cf ops e h) 0 ops.toList e h) (opsV P cf ops ops.toList e h)).map fun r => (.normal,r.1,r.2)
 | .seq a b,e,h => (exec2 P cf k a e h).bind fun r => match r.1 with
  | .normal => exec2 P cf k b r.2.1 r.2.2
  | _ => some r
 | .cond c x y,e,h => match ev e c with
  | .bool t => cond t (exec2 P cf k x e h) (exec2 P cf k y e h)
  | _ => none
 | .block id c,e,h => (exec2 P cf k c e h).bind fun r => match r.1 with
  | .exit j => cond (Nat.beq j id) (some (.normal,r.2.1,r.2.2)) (some r)
  | _ => some r
 | .loop c,e,h => iter (exec2 P cf k c) k e h
 | .exit id,e,h => some (.exit id,e,h)
 | .ret,e,h => some (.ret,e,h)
 | _,_,_ => none
def run2 (P : Program) : Nat → FuncId → List Value → AH → Option (Value × AH)
 | 0,_,_,_ => none
 | n + 1,f,args,h => match P.funcs[f]? with
  | some fn => match fn.body with
   | some c => (exec2 P (run2 P n) n c (envOf args 0 (env0 fn.ntmps)) { h with low:=h.next }).bind fun r => match r.1 with
    | .exit _ => none
    | _ => (resVs P r.2.1 r.2.2 fn.results.toList).bind fun vs => (packV vs).map fun v => exitR h r.2.2 v
   | none => none
  | none => none
def run21 (P : Program) (cf : FuncId → List Value → AH → Option (Value × AH)) (n : Nat) (f : FuncId) (args : List Value) (h : AH) : Option (Value × AH):=match P.funcs[f]? with
  | some fn => match fn.body with
   | some c => (exec2 P cf n c (envOf args 0 (env0 fn.ntmps)) { h with low:=h.next }).bind fun r => match r.1 with
    | .exit _ => none
    | _ => (resVs P r.2.1 r.2.2 fn.results.toList).bind fun vs => (packV vs).map fun v => exitR h r.2.2 v
   | none => none
  | none => none
section
variable {P : Program} {G nt : Nat} {cf : FuncId → List Value → AH → Option (Value × AH)}
theorem exec2_mild (hcf : CallsMild cf) (kf : Nat) : ∀ (c : Code) {e e' : Tr Value} {h h' : AH} {x : Ex},WF h → exec2 P cf kf c e h = some (x,e',h') → Mild h h':=by
 intro c
 have id' : ∀ {x x' : Ex} {e e' : Tr Value} {h h' : AH},WF h → some (x',e',h) = some (x,e,h') → Mild h h':=fun H hv => by
  injection hv with hv
  injection hv with _ hv
  injection hv with _ hv
  exact hv ▸ .refl H
 induction c with
 | skip => exact fun H hv => id' H hv
 | ret => exact fun H hv => id' H hv
 | exit id => exact fun H hv => id' H hv
 | region id ops d =>
  intro e e' h h' x H hv
  obtain ⟨⟨e1,h1⟩,hv1,hx⟩:=Option.map_eq_some_iff.1 hv
  injection hx with _ hx
  injection hx with _ hx
  subst hx
  rcases cond_either hv1 with hv1 | hv1
  ·rcases drawV_drawn _ hv1 with hv1 | hv1
   ·exact hv1.mild hcf H
   ·rcases fbV_or hv1 with hv1 | hv1
    ·obtain ⟨_,_,h2,_⟩:=wrunV_ok hv1
     exact opsV_mild hcf _ H (opsH_opsV _ h2)
    ·exact permV_mild hcf H hv1
  ·exact opsV_mild hcf _ H hv1
 | seq a b iha ihb =>
  intro e e' h h' x H hv
  obtain ⟨⟨x1,e1,h1⟩,hx1,hv⟩:=Option.bind_eq_some_iff.1 hv
  have M:=iha H hx1
  cases x1 with
  | normal => exact M.trans (ihb M.wf hv)
  | exit id => exact M.trans (id' M.wf hv)
  | ret => exact M.trans (id' M.wf hv)
 | cond c x y ihx ihy =>
  intro e e' h h' xx H hv
  have hx' : (match ev e c with | .bool t => cond t (exec2 P cf kf x e h) (exec2 P cf kf y e h) | _ => none) = some (xx,e',h'):=hv
  split at hx'
  ·rcases cond_either hx' with hv | hv
   ·exact ihx H hv
   ·exact ihy H hv
  ·cases hx'
 | block id c ih =>
  intro e e' h h' x H hv
  obtain ⟨⟨x1,e1,h1⟩,hx1,hv⟩:=Option.bind_eq_some_iff.1 hv
  have M:=ih H hx1
  cases x1 with
  | normal => exact M.trans (id' M.wf hv)
  | exit j =>
   have hx' : cond (Nat.beq j id) (some (Ex.normal,e1,h1)) (some (Ex.exit j,e1,h1)) = some (x,e',h'):=hv
   rcases cond_either hx' with hv | hv <;> exact M.trans (id' M.wf hv)
  | ret => exact M.trans (id' M.wf hv)
 | loop c ih =>
  intro e e' h h' x H hv
  exact iter_mild (fun e h x e' h' H hv => ih H hv) kf H hv
 | _ => exact fun _ hv => by cases hv
theorem run2_mild : ∀ n,CallsMild (run2 P n)
 | 0 => fun _ _ _ _ _ _ hv => by cases hv
 | n + 1 => by
  intro f args h v h' H hv
  unfold run2 at hv
  split at hv
  ·rename_i fn _
   split at hv
   ·obtain ⟨⟨x1,e1,h1⟩,hx1,hv⟩:=Option.bind_eq_some_iff.1 hv
    have M:=exec2_mild (run2_mild n) _ _ (H.setLow h.next) hx1
    have key : ((resVs P e1 h1 fn.results.toList).bind fun vs => (packV vs).map fun v => exitR h h1 v) = some (v,h') → Mild h h':=fun hv => by
     obtain ⟨_,_,hv⟩:=Option.bind_eq_some_iff.1 hv
     obtain ⟨v1,_,hv⟩:=Option.map_eq_some_iff.1 hv
     have:=exitR_mild H M v1
     rw [hv] at this
     exact this
    cases x1 with
    | normal => exact key hv
    | ret => exact key hv
    | exit _ => cases hv
   ·cases hv
  ·cases hv
def DrawOK2 (P : Program) (G nt : Nat) (cf : FuncId → List Value → AH → Option (Value × AH)) (ops : Array Oper) : Prop :=
 ∀ (id : Nat) (ι : Inj) (base : Nat) (h : AH) (w : World) (e e' : Tr Value) (h' : AH) (a : Act),St P G nt ι base h w e a → drawV P cf ops (fbV P cf ops e h) 0 ops.toList e h = some (e',h') →
  (Code.region id ops true).wp P (fun ex a' w' => ex = .normal ∧ Post P G nt ι base h w e' h' a' w') a w
theorem draw_ok2 (hm : P.follows .mixedOrders = true) (hN : namesOK P = true) (hcf : CallsOK P G cf) (hfn : HasBody P cf) (hml : CallsMild cf) {ops : Array Oper} (hC : drawB ops = true) (hok : ops.toList.all (operOK nt G) = true) : DrawOK2 P G nt cf ops:=by
 intro id ι base h w e e' h' a S hv
 rcases drawV_drawn _ hv with hv | hv
 ·exact draw_ok0 hm hN hcf hfn hml hC hok id ι base h w e e' h' a S hv
 ·rcases fbV_or hv with hv | hv
  ·exact wrun_ok hm hN hcf hfn hml hC hok id ι base h w e e' h' a S hv
  ·exact permV_ok hm hN hcf hfn hml hok id ι base h w e e' h' a S hv
theorem exec2_sound (hN : namesOK P = true) (hcf : CallsOK P G cf) (hfn : HasBody P cf) {nt base : Nat} {draw : Array Oper → Bool} (hdr : ∀ ops,draw ops = true → ops.toList.all (operOK nt G) = true → DrawOK2 P G nt cf ops) (kf : Nat) :
  ∀ (c : Code) {ι : Inj} {h : AH} {w : World} {e e' : Tr Value} {h' : AH} {a : Act} {x : Ex},codeOK nt G draw c = true → St P G nt ι base h w e a → exec2 P cf kf c e h = some (x,e',h') →
   c.wp P (fun ex a' w' => ex = x.to ∧ Post P G nt ι base h w e' h' a' w') a w:=by
 intro c
 induction c with
 | skip =>
  intro ι h w e e' h' a x _ S hx
  obtain ⟨rfl,rfl,rfl⟩:=three_inj hx
  exact wp_skip ⟨rfl,Post.refl S⟩
 | ret =>
  intro ι h w e e' h' a x _ S hx
  obtain ⟨rfl,rfl,rfl⟩:=three_inj hx
  exact wp_ret ⟨rfl,Post.refl S⟩
 | exit id =>
  intro ι h w e e' h' a x _ S hx
  obtain ⟨rfl,rfl,rfl⟩:=three_inj hx
  exact wp_exit ⟨rfl,Post.refl S⟩
 | region id ops d =>
  intro ι h w e e' h' a x hok S hx
  obtain ⟨⟨e1,h1⟩,hv,hx⟩:=Option.map_eq_some_iff.1 hx
  obtain ⟨rfl,rfl,rfl⟩:=three_inj' hx
  have hok' : (ops.toList.all (operOK nt G) && (!d || draw ops)) = true:=hok
  rw [Bool.and_eq_true] at hok'
  cases d with
  | false =>
   have hv : opsV P cf ops ops.toList e h = some (e1,h1):=hv
   exact wp_region_list (ops_step hN hcf hfn ops.toList S hok'.1 hv fun a' w' p => ⟨rfl,p⟩)
  | true =>
   have hv : drawV P cf ops (fbV P cf ops e h) 0 ops.toList e h = some (e1,h1):=hv
   exact hdr ops (by simpa using hok'.2) hok'.1 id ι base h w e e1 h1 a S hv
 | seq c1 c2 ih1 ih2 =>
  intro ι h w e e' h' a x hok S hx
  have hok' : (codeOK nt G draw c1 && codeOK nt G draw c2) = true:=hok
  rw [Bool.and_eq_true] at hok'
  obtain ⟨⟨x1,e1,h1⟩,hx1,hx⟩:=Option.bind_eq_some_iff.1 hx
  refine wp_seq (wp_mono (ih1 hok'.1 S hx1) ?_)
  rintro ex a1 w1 ⟨rfl,ι1,S1,E1,K1,N1⟩
  cases x1 with
  | normal => exact wp_mono (ih2 hok'.2 S1 hx) fun ex a' w' ⟨q1,q2⟩ => ⟨q1,q2.trans E1 K1 N1⟩
  | exit id =>
   obtain ⟨rfl,rfl,rfl⟩:=three_inj hx
   exact ⟨rfl,ι1,S1,E1,K1,N1⟩
  | ret =>
   obtain ⟨rfl,rfl,rfl⟩:=three_inj hx
   exact ⟨rfl,ι1,S1,E1,K1,N1⟩
 | cond c x y ihx ihy =>
  intro ι h w e e' h' a xx hok S hx
  have hok' : (opdOK G c && (codeOK nt G draw x && codeOK nt G draw y)) = true:=hok
  rw [Bool.and_eq_true,Bool.and_eq_true] at hok'
  have hc:=ev_rel S.env S.glb hok'.1
  have hx' : (match ev e c with | .bool t => cond t (exec2 P cf kf x e h) (exec2 P cf kf y e h) | _ => none) = some (xx,e',h'):=hx
  split at hx'
  ·rename_i t ht
   rw [ht] at hc
   refine wp_cond hc.bool_inv ?_
   cases t with
   | true => exact ihx hok'.2.1 S hx'
   | false => exact ihy hok'.2.2 S hx'
  ·cases hx'
 | block id c ih =>
  intro ι h w e e' h' a x hok S hx
  obtain ⟨⟨x1,e1,h1⟩,hx1,hx⟩:=Option.bind_eq_some_iff.1 hx
  refine wp_block (wp_mono (ih hok S hx1) ?_)
  rintro ex a1 w1 ⟨rfl,p⟩
  cases x1 with
  | normal =>
   obtain ⟨rfl,rfl,rfl⟩:=three_inj hx
   exact ⟨rfl,p⟩
  | exit j =>
   have hx' : cond (Nat.beq j id) (some (Ex.normal,e1,h1)) (some (Ex.exit j,e1,h1)) = some (x,e',h'):=hx
   rw [cond_beq] at hx'
   show (if j = id then _ else _)
   split at hx'
   ·rename_i hj
    obtain ⟨rfl,rfl,rfl⟩:=three_inj hx'
    rw [if_pos hj]
    exact ⟨rfl,p⟩
   ·rename_i hj
    obtain ⟨rfl,rfl,rfl⟩:=three_inj hx'
    rw [if_neg hj]
    exact ⟨rfl,p⟩
  | ret =>
   obtain ⟨rfl,rfl,rfl⟩:=three_inj hx
   exact ⟨rfl,p⟩
 | loop c ih =>
  intro ι h w e e' h' a x hok S hx
  have key : ∀ (n : Nat) {ι : Inj} {h : AH} {w : World} {e : Tr Value} {a : Act},St P G nt ι base h w e a → iter (exec2 P cf kf c) n e h = some (x,e',h') →
    Code.rounds P c (fun ex a' w' => ex = x.to ∧ Post P G nt ι base h w e' h' a' w') n a w:=by
   intro n
   induction n with
   | zero =>
    intro ι h w e a S hx
    cases hx
   | succ n ihn =>
    intro ι h w e a S hx
    obtain ⟨⟨x1,e1,h1⟩,hx1,hx⟩:=Option.bind_eq_some_iff.1 hx
    rw [rounds_succ]
    refine wp_mono (ih hok S hx1) ?_
    rintro ex a1 w1 ⟨rfl,ι1,S1,E1,K1,N1⟩
    cases x1 with
    | normal =>
     have hr:=ihn S1 hx
     have mono : ∀ (n : Nat) (Q Q' : Exit → Act → World → Prop),(∀ ex a w,Q ex a w → Q' ex a w) → ∀ a w,Code.rounds P c Q n a w → Code.rounds P c Q' n a w:=by
      intro n Q Q' hqq
      induction n with
      | zero => exact fun _ _ h => h
      | succ n ihm =>
       intro a w hh
       rw [rounds_succ] at hh ⊢
       refine wp_mono hh ?_
       intro ex a' w' q
       cases ex with
       | normal => exact ihm a' w' q
       | exit _ => exact hqq _ _ _ q
       | goto _ => exact hqq _ _ _ q
       | ret => exact hqq _ _ _ q
       | panic _ => exact hqq _ _ _ q
       | outgrown => exact hqq _ _ _ q
     exact mono n _ _ (fun ex a' w' ⟨q1,q2⟩ => ⟨q1,q2.trans E1 K1 N1⟩) a1 w1 hr
    | exit id =>
     obtain ⟨rfl,rfl,rfl⟩:=three_inj hx
     exact ⟨rfl,ι1,S1,E1,K1,N1⟩
    | ret =>
     obtain ⟨rfl,rfl,rfl⟩:=three_inj hx
     exact ⟨rfl,ι1,S1,E1,K1,N1⟩
  exact wp_loop_rounds kf (key kf S hx)
 | rangeFunc f ps x y _ _ => exact fun _ _ hx => by cases hx
 | scope c _ => exact fun _ _ hx => by cases hx
 | label l => exact fun _ _ hx => by cases hx
 | goto l => exact fun _ _ hx => by cases hx
 | refuse s => exact fun _ _ hx => by cases hx
theorem run2_succ {n : Nat} {f : FuncId} {args : List Value} {h : AH} {r : Value × AH} (hr : run2 P (n + 1) f args h = some r) :
  ∃ fn c,P.funcs[f]? = some fn ∧ fn.body = some c ∧ ((exec2 P (run2 P n) n c (envOf args 0 (env0 fn.ntmps)) { h with low:=h.next }).bind fun r => match r.1 with
    | .exit _ => none
    | _ => (resVs P r.2.1 r.2.2 fn.results.toList).bind fun vs => (packV vs).map fun v => exitR h r.2.2 v) = some r:=by
 unfold run2 at hr
 split at hr
 ·rename_i fn hf
  split at hr
  ·rename_i c hb
   exact ⟨fn,c,hf,hb,hr⟩
  ·cases hr
 ·cases hr
theorem run2_body (n : Nat) : HasBody P (run2 P n):=by
 intro f args h r hr
 cases n with
 | zero => cases hr
 | succ n =>
  obtain ⟨fn,c,hf,hb,_⟩:=run2_succ hr
  exact ⟨fn,hf,by rw [hb]; rfl⟩
theorem run21_succ {cf : FuncId → List Value → AH → Option (Value × AH)} {n : Nat} {f : FuncId} {args : List Value} {h : AH} {r : Value × AH} (hr : run21 P cf n f args h = some r) :
  ∃ fn c,P.funcs[f]? = some fn ∧ fn.body = some c ∧ ((exec2 P cf n c (envOf args 0 (env0 fn.ntmps)) { h with low:=h.next }).bind fun r => match r.1 with
    | .exit _ => none
    | _ => (resVs P r.2.1 r.2.2 fn.results.toList).bind fun vs => (packV vs).map fun v => exitR h r.2.2 v) = some r:=by
 unfold run21 at hr
 split at hr
 ·rename_i fn hf
  split at hr
  ·rename_i c hb
   exact ⟨fn,c,hf,hb,hr⟩
  ·cases hr
 ·cases hr
theorem run21_sound (hm : P.follows .mixedOrders = true) (hN : namesOK P = true) (hP : progOK P G drawB = true) {cf : FuncId → List Value → AH → Option (Value × AH)} (ih : CallsOK P G cf) (hbd : HasBody P cf) (hml : CallsMild cf) (n : Nat) : CallsOK P G (run21 P cf n):=by
 intro f args h v h' hr ι base w argsc R hG ha
 obtain ⟨fn,c,hf,hb,hr⟩:=run21_succ hr
 obtain ⟨⟨x,e1,h1⟩,hx,hr⟩:=Option.bind_eq_some_iff.1 hr
 have hok : codeOK fn.ntmps G drawB c = true:=by
  have hm : fn ∈ P.funcs.toList:=by
   rw [← Array.getElem?_toList] at hf
   exact List.mem_of_getElem? hf
  have:=List.all_eq_true.1 hP fn hm
  unfold fnOK at this
  rw [hb] at this
  exact this
 refine calls_of_wp hf hb (wp_mono (exec2_sound hN ih hbd (fun ops hd ho => draw_ok2 hm hN ih hbd hml hd ho) n c hok (ι:=ι) (h:={ h with low:=h.next }) (base:=base) (a:=⟨argsc ++ Array.replicate (fn.ntmps - argsc.size) undef,[]⟩) ⟨R.setLow _,envOf_rel ha _ _,rfl,hG,by simp; omega⟩ hx) ?_)
 rintro ex a' w' ⟨rfl,ι',S',E',K',N'⟩
 have M:=exec2_mild hml n c (R.wf.setLow h.next) hx
 have fin : ∀ {v : Value} {h' : AH},((resVs P e1 h1 fn.results.toList).bind fun vs => (packV vs).map fun v => exitR h h1 v) = some (v,h') →
   a'.defers = [] ∧ ∃ vc,(results fn a'.tmps).run P w' = .ok vc w' ∧ ∃ vc' ι',Ending.returned vc = .returned vc' ∧ vRel ι' v vc' ∧ Rel ι' base h' w' ∧ Ext h.next w ι ι' ∧ Keep base ι w w' ∧ h.next ≤ h'.next:=by
  intro v h' hr
  obtain ⟨vs,hvs,hr⟩:=Option.bind_eq_some_iff.1 hr
  obtain ⟨v1,hv1,e2⟩:=Option.map_eq_some_iff.1 hr
  obtain ⟨vcs,g1,g2⟩:=resV_sound (P:=P) S'.rel S'.env _ _ hvs
  have hvr:=packV_sound g2 hv1
  have hrun : (results fn a'.tmps).run P w' = .ok (if h : vcs.toArray.size = 1 then vcs.toArray[0] else .tuple vcs.toArray) w':=by
   rw [results_eq,Array.mapM_eq_mapM_toList]
   simp only [Sem.run_bind,Sem.run_map,g1,Result.andThen_ok,Sem.run_pure]
  have hs : Sub ι ι':=E'.sub fun β k hk => (R.dom β k hk).1
  unfold exitR at e2
  cases hg : (Nat.beq h1.low h.next && plainV v1) with
  | true =>
   rw [hg] at e2
   obtain ⟨rfl,rfl⟩:=Prod.mk.inj e2
   rw [Bool.and_eq_true] at hg
   have hS:=same_of_mild R.wf M (Nat.eq_of_beq_eq_true hg.1)
   exact ⟨S'.dfr,_,hrun,_,ι,rfl,vRel.through hs (plainV_rel hg.2) hvr,R.below S'.rel hS hs K'.1,Ext.refl _ _ _,K',Nat.le_refl _⟩
  | false =>
   rw [hg] at e2
   obtain ⟨rfl,rfl⟩:=Prod.mk.inj e2
   exact ⟨S'.dfr,_,hrun,_,ι',rfl,hvr,S'.rel.setLow _,E',K',N'⟩
 cases x with
 | normal => exact fin hr
 | ret => exact fin hr
 | exit _ => cases hr
theorem run2_sound (hm : P.follows .mixedOrders = true) (hN : namesOK P = true) (hP : progOK P G drawB = true) : ∀ n,CallsOK P G (run2 P n)
 | 0 => fun _ _ _ _ _ hr => by cases hr
 | n + 1 => run21_sound hm hN hP (run2_sound hm hN hP n) (run2_body n) (run2_mild n) n
end
end Go.Proofs.YtpadjdokjppopaaGreatDoor.X
