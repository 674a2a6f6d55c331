/- Joined texts: XB. -/
import Derived.LoopN
import Derived.Orders
import Derived.Test.YtjdomdndflfjdabGreatDoorXA
namespace Go.Proofs.YtjdomdndflfjdabGreatDoor.X
open Go
variable {P : Program} {G : Nat}
structure St (P : Program) (G nt : Nat) (ι : bL) (base : Nat) (h : AH) (w : World) (e : Tr Value) (a : Act) : Prop where
 rel : bV ι base h w
 env : mf ι e a.tmps
 dfr : a.defers = []
 glb : oX G ι
 siz : nt ≤ a.tmps.size
theorem mf.mono {ι ι' : bL} (hs : gX ι ι') {e : Tr Value} {t : Array Value} (E : mf ι e t) : mf ι' e t:=fun i => (E i).mono hs
theorem mf.put {ι : bL} {e : Tr Value} {a : Act} (E : mf ι e a.tmps) {d : Option Tmp} (hd : ∀ t,d = some t → t < a.tmps.size) {v vc : Value} (hv : aA ι v vc) : mf ι (aZ e d v) (a.put d vc).tmps:=by
 cases d with
 | none => exact E
 | some t =>
  intro i
  have ht:=hd t rfl
  show aA ι (((e.set t v).get i).getD undef) ((a.tmps.setIfInBounds t vc).getD i undef)
  rw [Tr.get_set]
  by_cases hi : i = t
  ·subst hi
   rw [if_pos rfl]
   have : (a.tmps.setIfInBounds i vc).getD i undef = vc:=by
    simp [Array.getD,ht]
   rw [this]
   exact hv
  ·rw [if_neg hi]
   have : (a.tmps.setIfInBounds t vc).getD i undef = a.tmps.getD i undef:=by
    simp only [Array.getD_eq_getD_getElem?]
    rw [Array.getElem?_setIfInBounds_ne (Ne.symm hi)]
   rw [this]
   exact E i
theorem iQ (a : Act) (d : Option Tmp) (v : Value) : (a.put d v).tmps.size = a.tmps.size:=by
 cases d with
 | none => rfl
 | some t => simp [Act.put]
theorem f0 (a : Act) (d : Option Tmp) (v : Value) : (a.put d v).defers = a.defers:=by
 cases d <;> rfl
def cy (nt G : Nat) (o : Oper) : Bool:=(match o.dst with | some d => Nat.blt d nt | none => true) && o.op.operands.toList.all (mG G)
theorem dh {nt : Nat} {o : Oper} (h : cy nt G o = true) : ∀ t,o.dst = some t → t < nt:=by
 intro t ht
 unfold cy at h
 rw [Bool.and_eq_true,ht] at h
 exact Nat.le_of_ble_eq_true h.1
theorem hJ {nt : Nat} {o : Oper} (h : cy nt G o = true) : o.op.operands.toList.all (mG G) = true:=by
 unfold cy at h
 rw [Bool.and_eq_true] at h
 exact h.2
theorem lM {ι : bL} {x : Value} {b : Bool} (h : aA ι x (.bool b)) : x = .bool b:=by
 cases h with
 | one h => cases h with
  | cell h => cases h with
   | atom h =>
    cases h
    rfl
theorem yr {ι : bL} {e : Tr Value} {t : Array Value} (E : mf ι e t) (ops : Array Oper) (o : Oper) : Region.wanted o (yielded ops t) = aY ops o e:=by
 unfold Region.wanted aY
 cases o.guard with
 | none => rfl
 | some p =>
  obtain ⟨j,wt⟩:=p
  simp only [yielded]
  rw [← Array.getElem?_toList]
  cases (ops.toList[j]?).bind (·.dst) with
  | none => rfl
  | some d =>
   have hd:=E d
   rw [Array.getD_eq_getD_getElem?] at hd
   simp only [Option.bind_some,Option.map_some]
   cases htd : t[d]? with
   | none =>
    rw [htd] at hd
    have hd : aA ι ((e.get d).getD undef) undef:=hd
    generalize (e.get d).getD undef = y at hd
    cases hd with
    | one h => cases h with
     | cell h => cases h with
      | atom h => cases h
    | tuple _ _ _ => rfl
   | some y =>
    rw [htd] at hd
    have hd : aA ι ((e.get d).getD undef) y:=hd
    generalize (e.get d).getD undef = x at hd
    cases x with
    | bool b =>
     obtain rfl:=hd.bool_inv
     simp
    | _ => cases y <;> first | rfl | exact absurd (lM hd) (by simp)
def eH (P : Program) (G nt : Nat) (ι : bL) (base : Nat) (h : AH) (w : World) (e' : Tr Value) (h' : AH) (a' : Act) (w' : World) : Prop :=
 ∃ ι',St P G nt ι' base h' w' e' a' ∧ ej h.next w ι ι' ∧ cv base ι w w' ∧ h.next ≤ h'.next
theorem eH.refl {nt base : Nat} {ι : bL} {h : AH} {w : World} {e : Tr Value} {a : Act} (S : St P G nt ι base h w e a) : eH P G nt ι base h w e h a w :=
 ⟨ι,S,ej.refl _ _ _,cv.refl _ _ _,Nat.le_refl _⟩
theorem eH.trans {nt base : Nat} {ι ι1 : bL} {h h1 h2 : AH} {w w1 w2 : World} {e2 : Tr Value} {a2 : Act} (E : ej h.next w ι ι1) (K : cv base ι w w1) (N : h.next ≤ h1.next) (p : eH P G nt ι1 base h1 w1 e2 h2 a2 w2) : eH P G nt ι base h w e2 h2 a2 w2:=by
 obtain ⟨ι2,S2,E2,K2,N2⟩:=p
 exact ⟨ι2,S2,E.trans E2 N K.1,K.trans E K2,Nat.le_trans N N2⟩
variable {cf : FuncId → List Value → AH → Option (Value × AH)}
def cr (P : Program) (cf : FuncId → List Value → AH → Option (Value × AH)) : Prop:=∀ f args h r,cf f args h = some r → ∃ fn,P.funcs[f]? = some fn ∧ fn.body.isSome = true
theorem Db (hN : bW P = true) (hcf : bw P G cf) (hfn : cr P cf) {nt base : Nat} {ι : bL} {h : AH} {w : World} {e : Tr Value} {a : Act} (S : St P G nt ι base h w e a) {o : Oper} (hok : cy nt G o = true)
  {v : Value} {h' : AH} (hv : bY P cf o.op e h = some (v,h')) {next : Act → World → Prop} {Q : Exit → Act → World → Prop}
  (hn : ∀ a' w' ι',St P G nt ι' base h' w' (aZ e o.dst v) a' → ej h.next w ι ι' → cv base ι w w' → h.next ≤ h'.next → next a' w') : o.wp P a w next Q:=by
 refine yq hN hcf hfn S.rel S.glb S.env (hJ hok) hv fun vc ι' w' hvr R' E' K' N' => hn _ w' ι' ⟨R',?_,?_,?_,?_⟩ E' K' N'
 ·have hs:=E'.sub fun β k hk => (S.rel.dom β k hk).1
  exact (S.env.mono hs).put (fun t ht => Nat.lt_of_lt_of_le (dh hok t ht) S.siz) hvr
 ·rw [f0]
  exact S.dfr
 ·exact S.glb.mono (E'.sub fun β k hk => (S.rel.dom β k hk).1)
 ·rw [iQ]
  exact S.siz
theorem St.undef {nt base : Nat} {ι : bL} {h : AH} {w : World} {e : Tr Value} {a : Act} (S : St P G nt ι base h w e a) {o : Oper} (hok : cy nt G o = true) : St P G nt ι base h w (aZ e o.dst undef) (a.put o.dst undef) :=
 ⟨S.rel,S.env.put (fun t ht => Nat.lt_of_lt_of_le (dh hok t ht) S.siz) aA.undef,by rw [f0]; exact S.dfr,S.glb,by rw [iQ]; exact S.siz⟩
theorem j8 (hN : bW P = true) (hcf : bw P G cf) (hfn : cr P cf) {nt base : Nat} {ops : Array Oper} {Q : Exit → Act → World → Prop} :
  ∀ (l : List Oper) {ι : bL} {h : AH} {w : World} {e e' : Tr Value} {h' : AH} {a : Act},St P G nt ι base h w e a → l.all (cy nt G) = true → cz P cf ops l e h = some (e',h') →
   (∀ a' w',eH P G nt ι base h w e' h' a' w' → Q .normal a' w') → wpList P ops Q l a w
 | [],ι,h,w,e,e',h',a,S,_,hv,hq => by
  obtain ⟨rfl,rfl⟩:=Prod.mk.inj (Option.some.inj hv)
  exact hq a w (eH.refl S)
 | o :: l,ι,h,w,e,e',h',a,S,hok,hv,hq => by
  rw [List.all_cons,Bool.and_eq_true] at hok
  have hv' : cond (aY ops o e) ((bY P cf o.op e h).bind fun p => cz P cf ops l (aZ e o.dst p.1) p.2) (cz P cf ops l (aZ e o.dst undef) h) = some (e',h'):=hv
  unfold wpList
  rw [yr S.env]
  cases hw : aY ops o e with
  | true =>
   rw [hw] at hv'
   rw [if_pos rfl]
   left
   obtain ⟨⟨v,h1⟩,hp,hv1⟩:=Option.bind_eq_some_iff.1 hv'
   refine Db hN hcf hfn S hok.1 hp fun a1 w1 ι1 S1 E1 K1 N1 => ?_
   exact j8 hN hcf hfn l S1 hok.2 hv1 fun a' w' p => hq a' w' (p.trans E1 K1 N1)
  | false =>
   rw [hw] at hv'
   rw [if_neg (by decide)]
   exact j8 hN hcf hfn l (S.undef hok.1) hok.2 hv' hq
structure WF (h : AH) : Prop where
 gle : ∀ β b,h.blks.get β = some b → b.grp ≤ β
 new : ∀ β,h.next ≤ β → h.blks.get β = none ∧ h.grps.get β = none
structure bH (h h' : AH) : Prop where
 nxt : h.next ≤ h'.next
 low : h'.low ≤ h.low
 old : ∀ n,n ≤ h.next → n ≤ h'.low → ∀ β,β < n → h'.blks.get β = h.blks.get β ∧ h'.grps.get β = h.grps.get β
 neu : ∀ β b,h'.blks.get β = some b → (∃ b0,h.blks.get β = some b0 ∧ b0.grp = b.grp ∧ b0.ro = b.ro) ∨ (h.next ≤ β ∧ b.ro = false ∧ ∀ n,n ≤ h.next → n ≤ h'.low → n ≤ b.grp)
 wf : WF h'
variable {h h' h1 h2 : AH}
theorem WF.lt (H : WF h) {β : Nat} {b : bT} (e : h.blks.get β = some b) : β < h.next:=by
 rcases Nat.lt_or_ge β h.next with hl | hl
 ·exact hl
 ·rw [(H.new β hl).1] at e
  cases e
theorem bH.refl (H : WF h) : bH h h:=⟨Nat.le_refl _,Nat.le_refl _,fun _ _ _ _ _ => ⟨rfl,rfl⟩,fun _ b hb => .inl ⟨b,hb,rfl,rfl⟩,H⟩
theorem bH.trans (M : bH h h1) (K : bH h1 h2) : bH h h2:=by
 refine ⟨Nat.le_trans M.nxt K.nxt,Nat.le_trans K.low M.low,fun n h1' h2' β hb => ?_,fun β b hb => ?_,K.wf⟩
 ·obtain ⟨g1,g2⟩:=K.old n (Nat.le_trans h1' M.nxt) h2' β hb
  obtain ⟨g3,g4⟩:=M.old n h1' (Nat.le_trans h2' K.low) β hb
  exact ⟨g1.trans g3,g2.trans g4⟩
 ·rcases K.neu β b hb with ⟨b0,g1,g2,g3⟩ | ⟨g1,g2,g3⟩
  ·rcases M.neu β b0 g1 with ⟨b1,q1,q2,q3⟩ | ⟨q1,q2,q3⟩
   ·exact .inl ⟨b1,q1,q2.trans g2,q3.trans g3⟩
   ·exact .inr ⟨q1,g3 ▸ q2,fun n a b => g2 ▸ q3 n a (Nat.le_trans b K.low)⟩
  ·exact .inr ⟨Nat.le_trans M.nxt g1,g2,fun n a b => g3 n (Nat.le_trans a M.nxt) b⟩
theorem WF.setLow (H : WF h) (x : Nat) : WF { h with low:=x }:=⟨H.gle,H.new⟩
theorem cl (a b : Nat) : cond (Nat.blt a b) a b ≤ a ∧ cond (Nat.blt a b) a b ≤ b:=by
 cases e : Nat.blt a b with
 | true => exact ⟨Nat.le_refl _,Nat.le_of_lt (Nat.le_of_ble_eq_true e)⟩
 | false =>
  refine ⟨?_,Nat.le_refl _⟩
  rcases Nat.lt_or_ge a b with hl | hl
  ·have : Nat.blt a b = true:=Nat.ble_eq_true_of_le hl
   rw [e] at this
   cases this
  ·exact hl
theorem mU {P : Program} {h h' : AH} {s d : TypeId} {x v : Value} (hv : fR P s d x h = some (v,h')) : ∃ cells z,h' = (h.new cells z).2:=by
 unfold fR at hv
 obtain ⟨ds,hs,hv⟩:=Option.bind_eq_some_iff.1 hv
 obtain ⟨dd,hd,hv⟩:=Option.bind_eq_some_iff.1 hv
 split at hv
 ·obtain ⟨e,he,hv⟩:=Option.bind_eq_some_iff.1 hv
  split at hv
  ·exact ⟨_,_,(Prod.mk.inj (Option.some.inj hv)).2.symm⟩
  ·cases hv
 ·cases hv
theorem bH.new (H : WF h) (cells : List Value) (z : Nat) : bH h (h.new cells z).2:=by
 refine ⟨Nat.le_succ _,Nat.le_refl _,fun n hn _ β hb => ⟨?_,rfl⟩,fun β b hb => ?_,?_,?_⟩
 ·rw [cN,if_neg (by omega)]
 ·rw [cN] at hb
  split at hb
  ·rename_i e
   injection hb with hb
   subst hb
   exact .inr ⟨Nat.le_of_eq e.symm,rfl,fun n hn _ => hn⟩
  ·exact .inl ⟨b,hb,rfl,rfl⟩
 ·intro β b hb
  rw [cN] at hb
  split at hb
  ·rename_i e
   injection hb with hb
   subst hb
   exact Nat.le_of_eq e.symm
  ·exact H.gle β b hb
 ·intro β hβ
  have hβ : h.next + 1 ≤ β:=hβ
  rw [cN,if_neg (by omega)]
  exact H.new β (by omega)
theorem bH.wr (H : WF h) {β : Nat} {b : bT} {cs : List Value} (hr : h.rd β = some b) (hw : h.wr β b cs = some h') : bH h h':=by
 obtain ⟨hro,hnx,hblk,hgrp,_⟩:=dP hr hw
 have hg:=(aR hr).1
 have hlt:=H.lt hg
 have hle:=H.gle _ _ hg
 have hlow : h'.low ≤ b.grp ∧ h'.low ≤ h.low:=by
  unfold AH.wr at hw
  rw [hro] at hw
  injection hw with hw
  subst hw
  exact cl _ _
 refine ⟨Nat.le_of_eq hnx.symm,hlow.2,fun n hn hl γ hγ => ⟨?_,hgrp γ (by omega)⟩,fun γ c hc => .inl ?_,?_,?_⟩
 ·rw [hblk,if_neg (by omega)]
 ·rw [hblk] at hc
  split at hc
  ·rename_i e
   injection hc with hc
   subst hc
   exact ⟨b,e ▸ hg,rfl,rfl⟩
  ·exact ⟨c,hc,rfl,rfl⟩
 ·intro γ c hc
  rw [hblk] at hc
  split at hc
  ·rename_i e
   injection hc with hc
   subst hc
   exact e ▸ hle
  ·exact H.gle γ c hc
 ·intro γ hγ
  rw [hnx] at hγ
  rw [hblk,if_neg (by omega),hgrp γ (by omega)]
  exact H.new γ hγ
theorem bH.grow (H : WF h) {β : Nat} {b : bT} (hr : h.rd β = some b) (cells : List Value) (z : Nat) (kp : Bool) : bH h (h.grow β b.grp cells z kp):=by
 have hg:=(aR hr).1
 have hlt:=H.lt hg
 have hle:=H.gle _ _ hg
 have hblk : ∀ γ,(h.grow β b.grp cells z kp).blks.get γ = if γ = h.next then some ⟨cells,z,b.grp,false⟩ else h.blks.get γ:=fun γ => Tr.get_set _ _ _ _
 have hgrp : ∀ γ,γ ≠ b.grp → (h.grow β b.grp cells z kp).grps.get γ = h.grps.get γ:=fun γ e => by
  show (h.grps.set b.grp _).get γ = _
  rw [Tr.get_set,if_neg e]
 have hlow:=cl b.grp h.low
 refine ⟨Nat.le_succ _,hlow.2,fun n hn hl γ hγ => ⟨?_,hgrp γ ?_⟩,fun γ c hc => ?_,?_,?_⟩
 ·rw [hblk,if_neg (by omega)]
 ·have : n ≤ b.grp:=Nat.le_trans hl hlow.1
  omega
 ·rw [hblk] at hc
  split at hc
  ·rename_i e
   injection hc with hc
   subst hc
   exact .inr ⟨Nat.le_of_eq e.symm,rfl,fun n _ hl => Nat.le_trans hl hlow.1⟩
  ·exact .inl ⟨c,hc,rfl,rfl⟩
 ·intro γ c hc
  rw [hblk] at hc
  split at hc
  ·rename_i e
   injection hc with hc
   subst hc
   show b.grp ≤ γ
   omega
  ·exact H.gle γ c hc
 ·intro γ hγ
  have hγ : h.next + 1 ≤ γ:=hγ
  rw [hblk,if_neg (by omega),hgrp γ (by omega)]
  exact H.new γ (by omega)
theorem bH.newMap (H : WF h) : bH h h.newMap:=by
 refine ⟨Nat.le_succ _,Nat.le_refl _,fun n hn _ β hb => ⟨?_,?_⟩,fun β b hb => ?_,?_,?_⟩
 ·rw [dB,if_neg (by omega)]
 ·rw [eZ,if_neg (by omega)]
 ·rw [dB] at hb
  split at hb
  ·rename_i e
   injection hb with hb
   subst hb
   exact .inr ⟨Nat.le_of_eq e.symm,rfl,fun n hn _ => hn⟩
  ·exact .inl ⟨b,hb,rfl,rfl⟩
 ·intro β b hb
  rw [dB] at hb
  split at hb
  ·rename_i e
   injection hb with hb
   subst hb
   exact Nat.le_of_eq e.symm
  ·exact H.gle β b hb
 ·intro β hβ
  have hβ : h.next + 1 ≤ β:=hβ
  rw [dB,eZ,if_neg (by omega),if_neg (by omega)]
  exact H.new β (by omega)
theorem bH.setMap (H : WF h) {β : Nat} {b : bT} (hm : h.mp β = some b) (cs : List Value) : bH h (h.setMap β b cs):=by
 have hg:=(kY hm).1
 have hlt:=H.lt hg
 have hle:=H.gle _ _ hg
 have hlow:=cl b.grp h.low
 refine ⟨Nat.le_refl _,hlow.2,fun n hn hl γ hγ => ⟨?_,rfl⟩,fun γ c hc => .inl ?_,?_,?_⟩
 ·have : n ≤ b.grp:=Nat.le_trans hl hlow.1
  rw [dC,if_neg (by omega)]
 ·rw [dC] at hc
  split at hc
  ·rename_i e
   injection hc with hc
   subst hc
   exact ⟨b,e ▸ hg,rfl,rfl⟩
  ·exact ⟨c,hc,rfl,rfl⟩
 ·intro γ c hc
  rw [dC] at hc
  split at hc
  ·rename_i e
   injection hc with hc
   subst hc
   exact e ▸ hle
  ·exact H.gle γ c hc
 ·intro γ hγ
  have hγ : h.next ≤ γ:=hγ
  rw [dC,if_neg (by omega)]
  exact H.new γ hγ
variable {P : Program} {cf : FuncId → List Value → AH → Option (Value × AH)}
theorem rQ (H : WF h) {t : TypeId} {x v : Value} (hv : dY P t x v h = some h') : bH h h':=by
 unfold dY at hv
 split at hv
 ·obtain ⟨b,hb,hv⟩:=Option.bind_eq_some_iff.1 hv
  obtain ⟨s,hs,hv⟩:=Option.bind_eq_some_iff.1 hv
  obtain ⟨vs,hvs,hv⟩:=Option.bind_eq_some_iff.1 hv
  split at hv
  ·obtain ⟨_,hv⟩:=ah hv
   exact .wr H hb hv
  ·cases hv
 ·cases hv
theorem qB {a : Option AH} {v r : Value} (hv : (a.map fun x => (v,x)) = some (r,h')) : a = some h':=by
 obtain ⟨x,h1,h2⟩:=Option.map_eq_some_iff.1 hv
 injection h2 with _ h2
 rw [h1,h2]
theorem aN {α : Type} {c : Bool} {x y r : α} (hv : cond c x y = r) : x = r ∨ y = r:=by
 cases c with
 | true => exact .inl hv
 | false => exact .inr hv
theorem fI (H : WF h) {z by_ : Nat} {s x v : Value} (hv : dz z by_ s x h = some (v,h')) : bH h h':=by
 unfold dz at hv
 obtain ⟨k,hk,hv⟩:=Option.bind_eq_some_iff.1 hv
 obtain ⟨items,hi,hv⟩:=Option.bind_eq_some_iff.1 hv
 split at hv
 ·rcases aN hv with hv | hv
  ·obtain ⟨_,rfl⟩:=Prod.mk.inj (Option.some.inj hv)
   exact .refl H
  ·obtain ⟨_,hv⟩:=ah hv
   obtain ⟨_,rfl⟩:=Prod.mk.inj (Option.some.inj hv)
   exact .new H _ _
 ·split at hv
  ·cases hv
  ·rcases aN hv with hv | hv
   ·obtain ⟨_,rfl⟩:=Prod.mk.inj (Option.some.inj hv)
    exact .refl H
   ·obtain ⟨_,hv⟩:=ah hv
    rcases aN hv with hv | hv
    ·rcases aN hv with hv | hv
     ·obtain ⟨b,hb,hv⟩:=Option.bind_eq_some_iff.1 hv
      obtain ⟨_,hv⟩:=ah hv
      exact .wr H hb (qB hv)
     ·obtain ⟨o,_,hv⟩:=Option.bind_eq_some_iff.1 hv
      obtain ⟨_,rfl⟩:=Prod.mk.inj (Option.some.inj hv)
      exact .new H _ _
    ·obtain ⟨b,hb,hv⟩:=Option.bind_eq_some_iff.1 hv
     rcases aN hv with hv | hv
     ·cases hv
     ·rcases aN hv with hv | hv
      ·exact .wr H hb (qB hv)
      ·obtain ⟨o,_,hv⟩:=Option.bind_eq_some_iff.1 hv
       obtain ⟨_,rfl⟩:=Prod.mk.inj (Option.some.inj hv)
       exact .grow H hb _ _ _
 ·cases hv
theorem uK (H : WF h) {z : Nat} {d x v : Value} (hv : rF z d x h = some (v,h')) : bH h h':=by
 unfold rF at hv
 split at hv
 ·obtain ⟨k,hk,hv⟩:=Option.bind_eq_some_iff.1 hv
  obtain ⟨items,hi,hv⟩:=Option.bind_eq_some_iff.1 hv
  rcases aN hv with hv | hv
  ·obtain ⟨_,rfl⟩:=Prod.mk.inj (Option.some.inj hv)
   exact .refl H
  ·split at hv
   ·split at hv
    ·obtain ⟨b,hb,hv⟩:=Option.bind_eq_some_iff.1 hv
     obtain ⟨_,hv⟩:=ah hv
     exact .wr H hb (qB hv)
    ·cases hv
   ·cases hv
 ·cases hv
theorem rR (H : WF h) {s : Nat} {zs : List Value} {x v : Value} (hv : mz s zs x h = some (v,h')) : bH h h':=by
 unfold mz at hv
 split at hv
 ·obtain ⟨_,rfl⟩:=Prod.mk.inj (Option.some.inj hv)
  exact .refl H
 ·rcases aN hv with hv | hv
  ·obtain ⟨_,rfl⟩:=Prod.mk.inj (Option.some.inj hv)
   exact .refl H
  ·split at hv
   ·obtain ⟨b,hb,hv⟩:=Option.bind_eq_some_iff.1 hv
    obtain ⟨_,hv⟩:=ah hv
    exact .wr H hb (qB hv)
   ·cases hv
 ·cases hv
theorem cT (H : WF h) {a : Option Value} {v : Value} (hv : (a.map fun x => (x,h)) = some (v,h')) : bH h h':=by
 obtain ⟨x,_,h2⟩:=Option.map_eq_some_iff.1 hv
 injection h2 with _ h2
 exact h2 ▸ .refl H
theorem oK (H : WF h) {b : Builtin} {ats : List TypeId} {args : List Value} {v : Value} (hv : ct P b ats args h = some (v,h')) : bH h h':=by
 have hv0:=fY hv
 clear hv
 rcases hv0 with ⟨e0,hv⟩ | hv
 ·unfold qg at hv
  split at hv
  ·obtain ⟨_,_,hv⟩:=Option.bind_eq_some_iff.1 hv
   split at hv
   ·obtain ⟨_,_,hv⟩:=Option.bind_eq_some_iff.1 hv
    obtain ⟨_,_,hv⟩:=Option.bind_eq_some_iff.1 hv
    obtain ⟨_,_,hv⟩:=Option.bind_eq_some_iff.1 hv
    exact rR H hv
   ·cases hv
  ·cases hv
 unfold eD at hv
 split at hv
 ·obtain ⟨_,_,hv⟩:=Option.bind_eq_some_iff.1 hv
  obtain ⟨_,_,hv⟩:=Option.bind_eq_some_iff.1 hv
  split at hv
  ·obtain ⟨_,_,hv⟩:=Option.bind_eq_some_iff.1 hv
   obtain ⟨_,_,hv⟩:=Option.bind_eq_some_iff.1 hv
   obtain ⟨_,_,hv⟩:=Option.bind_eq_some_iff.1 hv
   obtain ⟨_,_,hv⟩:=Option.bind_eq_some_iff.1 hv
   rcases aN hv with hv | hv
   ·cases hv
   ·exact fI H hv
  ·obtain ⟨_,_,hv⟩:=Option.bind_eq_some_iff.1 hv
   obtain ⟨_,_,hv⟩:=Option.bind_eq_some_iff.1 hv
   obtain ⟨_,_,hv⟩:=Option.bind_eq_some_iff.1 hv
   obtain ⟨_,_,hv⟩:=Option.bind_eq_some_iff.1 hv
   rcases aN hv with hv | hv
   ·cases hv
   ·exact fI H hv
  ·cases hv
 ·obtain ⟨_,_,hv⟩:=Option.bind_eq_some_iff.1 hv
  split at hv <;> first | cases hv; done | (obtain ⟨_,rfl⟩:=Prod.mk.inj (Option.some.inj hv); exact .refl H)
 ·exact cT H hv
 ·exact cT H hv
 ·obtain ⟨_,_,hv⟩:=Option.bind_eq_some_iff.1 hv
  split at hv
  ·obtain ⟨_,_,hv⟩:=Option.bind_eq_some_iff.1 hv
   exact uK H hv
  ·cases hv
 ·cases hv
def bm (cf : FuncId → List Value → AH → Option (Value × AH)) : Prop:=∀ f args h v h',WF h → cf f args h = some (v,h') → bH h h'
theorem fQ (H : WF h) {o : Op} {e : Tr Value} {v : Value} (hv : fS P o e h = some (v,h')) : bH h h':=by
 have um : ∀ {β : Nat} {b : bT} {k x : Value} {r : Option (Nat × Value)},h.mp β = some b → zk h β b k x r = some (v,h') → bH h h':=fun {β b k x r} hb hv => by
  cases r with
  | some p =>
   obtain ⟨_,hv⟩:=ah hv
   obtain ⟨_,rfl⟩:=Prod.mk.inj (Option.some.inj hv)
   exact .setMap H hb _
  | none =>
   obtain ⟨_,rfl⟩:=Prod.mk.inj (Option.some.inj hv)
   exact .setMap H hb _
 have em : ∀ {β : Nat} {b : bT} {k x : Value} {r : Option (Nat × Value)},h.mp β = some b → Fa h β b k x r = some (v,h') → bH h h':=fun {β b k x r} hb hv => by
  cases r with
  | some p =>
   obtain ⟨_,hv⟩:=ah hv
   obtain ⟨_,rfl⟩:=Prod.mk.inj (Option.some.inj hv)
   exact .setMap H hb _
  | none =>
   obtain ⟨_,rfl⟩:=Prod.mk.inj (Option.some.inj hv)
   exact .setMap H hb _
 have upd : ∀ {t : TypeId} {m k x : Operand},((P.underlying t).bind fun d => match d,ev e m with
  | .map kt _,.map (some β) => (h.mp β).bind fun b => cond (dL P kt (ev e k) && fy (ev e x)) ((cG P kt (ev e k) b.cells 0).bind fun r => zk h β b (ev e k) (ev e x) r) none
  | _,_ => none) = some (v,h') → bH h h':=fun hv => by
  obtain ⟨d,_,hv⟩:=Option.bind_eq_some_iff.1 hv
  split at hv
  ·obtain ⟨b,hb,hv⟩:=Option.bind_eq_some_iff.1 hv
   obtain ⟨_,hv⟩:=ah hv
   obtain ⟨r,_,hv⟩:=Option.bind_eq_some_iff.1 hv
   exact um hb hv
  ·cases hv
 cases o with
 | makeMap t r =>
  cases r with
  | none =>
   obtain ⟨_,rfl⟩:=Prod.mk.inj (Option.some.inj hv)
   exact .newMap H
  | some r => cases hv
 | lookup t x i ok =>
  obtain ⟨d,_,hv⟩:=Option.bind_eq_some_iff.1 hv
  split at hv
  ·obtain ⟨_,hv⟩:=ah hv
   obtain ⟨_,_,hv⟩:=Option.bind_eq_some_iff.1 hv
   obtain ⟨_,_,hv⟩:=Option.bind_eq_some_iff.1 hv
   obtain ⟨_,_,h2⟩:=Option.map_eq_some_iff.1 hv
   injection h2 with _ h2
   exact h2 ▸ .refl H
  ·cases hv
 | mapUpdate t m k x => exact upd hv
 | insert t m k x => exact upd hv
 | mapEntry t m k =>
  obtain ⟨d,_,hv⟩:=Option.bind_eq_some_iff.1 hv
  split at hv
  ·obtain ⟨b,hb,hv⟩:=Option.bind_eq_some_iff.1 hv
   obtain ⟨_,hv⟩:=ah hv
   obtain ⟨_,_,hv⟩:=Option.bind_eq_some_iff.1 hv
   obtain ⟨r,_,hv⟩:=Option.bind_eq_some_iff.1 hv
   exact em hb hv
  ·cases hv
 | entryStore t m s x =>
  have hv' : (match ev e m,ev e s with
   | .map (some β),.int _ i => (h.mp β).bind fun b => cond (decide (0 ≤ i) && (Nat.blt (2 * i.toNat + 1) b.cells.length && fy (ev e x))) (some (undef,h.setMap β b (putAt b.cells (2 * i.toNat + 1) [ev e x]))) none
   | _,_ => none) = some (v,h'):=hv
  split at hv'
  ·obtain ⟨b,hb,hv'⟩:=Option.bind_eq_some_iff.1 hv'
   obtain ⟨_,hv'⟩:=ah hv'
   obtain ⟨_,rfl⟩:=Prod.mk.inj (Option.some.inj hv')
   exact .setMap H hb _
  ·cases hv'
 | _ => cases hv
theorem j9 (hcf : bm cf) (H : WF h) {o : Op} {e : Tr Value} {v : Value} (hv : bY P cf o e h = some (v,h')) : bH h h':=by
 have same : ∀ {x : Value},some (x,h) = some (v,h') → bH h h':=fun hv => by
  obtain ⟨_,rfl⟩:=Prod.mk.inj (Option.some.inj hv)
  exact .refl H
 cases o with
 | move x => exact same hv
 | assign x => exact same hv
 | pick c a b =>
  have hv' : (match ev e c with | .bool t => some (cond t (ev e a) (ev e b),h) | _ => none) = some (v,h'):=hv
  split at hv'
  ·exact same hv'
  ·cases hv'
 | alloc t =>
  obtain ⟨_,_,hv⟩:=Option.bind_eq_some_iff.1 hv
  obtain ⟨_,_,hv⟩:=Option.bind_eq_some_iff.1 hv
  obtain ⟨_,hv⟩:=ah hv
  obtain ⟨_,rfl⟩:=Prod.mk.inj (Option.some.inj hv)
  exact .new H _ _
 | box t x =>
  obtain ⟨_,_,hv⟩:=Option.bind_eq_some_iff.1 hv
  obtain ⟨_,rfl⟩:=Prod.mk.inj (Option.some.inj hv)
  exact .new H _ _
 | build t ps =>
  obtain ⟨z,_,hv⟩:=Option.bind_eq_some_iff.1 hv
  obtain ⟨d,_,hv⟩:=Option.bind_eq_some_iff.1 hv
  split at hv
  ·obtain ⟨_,_,hv⟩:=Option.bind_eq_some_iff.1 hv
   obtain ⟨_,hv⟩:=ah hv
   obtain ⟨_,_,hv⟩:=Option.bind_eq_some_iff.1 hv
   obtain ⟨_,_,h2⟩:=Option.map_eq_some_iff.1 hv
   injection h2 with _ h2
   exact h2 ▸ .refl H
  ·obtain ⟨_,_,hv⟩:=Option.bind_eq_some_iff.1 hv
   obtain ⟨_,hv⟩:=ah hv
   obtain ⟨_,_,hv⟩:=Option.bind_eq_some_iff.1 hv
   obtain ⟨_,_,h2⟩:=Option.map_eq_some_iff.1 hv
   injection h2 with _ h2
   exact h2 ▸ .refl H
  ·cases hv
 | buildSlice t n ps =>
  obtain ⟨d,_,hv⟩:=Option.bind_eq_some_iff.1 hv
  split at hv
  ·obtain ⟨_,_,hv⟩:=Option.bind_eq_some_iff.1 hv
   obtain ⟨_,_,hv⟩:=Option.bind_eq_some_iff.1 hv
   obtain ⟨_,_,hv⟩:=Option.bind_eq_some_iff.1 hv
   obtain ⟨_,hv⟩:=ah hv
   obtain ⟨_,_,h2⟩:=Option.map_eq_some_iff.1 hv
   injection h2 with _ h2
   exact h2 ▸ .new H _ _
  ·cases hv
 | load t x => exact cT H hv
 | store t x y =>
  obtain ⟨_,h1,h2⟩:=Option.map_eq_some_iff.1 hv
  injection h2 with _ h2
  exact h2 ▸ rQ H h1
 | nilCheck x =>
  have hv' : (match ev e x with | .pointer none | .nilIface | .nilFunc => none | .func (.method _) _ _ => none | v => some (v,h)) = some (v,h'):=hv
  split at hv' <;> first | cases hv'; done | exact same hv'
 | binOp op t x y yt => exact cT H hv
 | unOp op t x => exact cT H hv
 | convert s d x =>
  have hv' : cond (cD P d) (fR P s d (ev e x) h) ((jY P s d (ev e x)).map fun v => (v,h)) = some (v,h'):=hv
  cases hi : cD P d with
  | true =>
   rw [hi,cond_true] at hv'
   obtain ⟨_,_,rfl⟩:=mU hv'
   exact .new H _ _
  | false =>
   rw [hi,cond_false] at hv'
   exact cT H hv'
 | slice t x lo hi mx => exact cT H hv
 | fieldAddr s x f => exact cT H hv
 | field s x f => exact cT H hv
 | indexAddr t x i => exact cT H hv
 | index t x i => exact cT H hv
 | extract x i => exact cT H hv
 | makeSlice t n c =>
  obtain ⟨d,_,hv⟩:=Option.bind_eq_some_iff.1 hv
  split at hv
  ·obtain ⟨_,_,hv⟩:=Option.bind_eq_some_iff.1 hv
   obtain ⟨_,_,hv⟩:=Option.bind_eq_some_iff.1 hv
   obtain ⟨_,_,hv⟩:=Option.bind_eq_some_iff.1 hv
   obtain ⟨_,_,hv⟩:=Option.bind_eq_some_iff.1 hv
   obtain ⟨_,hv⟩:=ah hv
   obtain ⟨_,rfl⟩:=Prod.mk.inj (Option.some.inj hv)
   exact .new H _ _
  ·cases hv
 | makeFunc fn first captured =>
  obtain ⟨_,hv⟩:=ah hv
  exact same hv
 | call c =>
  obtain ⟨callee,cargs,cts⟩:=c
  cases callee with
  | builtin b =>
   have hv' : ct P b cts.toList (cargs.toList.map (ev e)) h = some (v,h'):=hv
   exact oK H hv'
  | value f =>
   have hv' : (match ev e f with | .func (.func g) first captured => CT (cf g (first.toList ++ (cargs.toList.map (ev e) ++ captured.toList)) h) (md P g (first.toList ++ (cargs.toList.map (ev e) ++ captured.toList))) h | _ => none) = some (v,h'):=hv
   split at hv'
   ·unfold CT at hv'
    split at hv'
    ·rename_i hcv
     rw [hv'] at hcv
     exact hcf _ _ _ _ _ H hcv
    ·obtain ⟨_,_,hx⟩:=Option.map_eq_some_iff.1 hv'
     obtain ⟨_,rfl⟩:=Prod.mk.inj hx
     exact .refl H
   ·cases hv'
  | invoke r m => cases hv
 | makeMap t r => exact fQ (o:=.makeMap t r) H hv
 | lookup t x i ok => exact fQ (o:=.lookup t x i ok) H hv
 | mapUpdate t m k x => exact fQ (o:=.mapUpdate t m k x) H hv
 | insert t m k x => exact fQ (o:=.insert t m k x) H hv
 | mapEntry t m k => exact fQ (o:=.mapEntry t m k) H hv
 | entryStore t m s x => exact fQ (P:=P) (o:=.entryStore t m s x) H hv
 | _ => cases hv
theorem ew (hcf : bm cf) {ops : Array Oper} : ∀ (l : List Oper) {h h' : AH} {e e' : Tr Value},WF h → cz P cf ops l e h = some (e',h') → bH h h'
 | [],h,h',e,e',H,hv => by
  obtain ⟨_,rfl⟩:=Prod.mk.inj (Option.some.inj hv)
  exact .refl H
 | o :: l,h,h',e,e',H,hv => by
  have hv' : cond (aY ops o e) ((bY P cf o.op e h).bind fun p => cz P cf ops l (aZ e o.dst p.1) p.2) (cz P cf ops l (aZ e o.dst undef) h) = some (e',h'):=hv
  rcases aN hv' with hv' | hv'
  ·obtain ⟨⟨v,h1⟩,hp,hv1⟩:=Option.bind_eq_some_iff.1 hv'
   have M:=j9 hcf H hp
   exact M.trans (ew hcf l M.wf hv1)
  ·exact ew hcf l H hv'
def eI (P : Program) (cf : FuncId → List Value → AH → Option (Value × AH)) (ops : Array Oper) (o : Oper) (e : Tr Value) (h : AH) : Option (Tr Value × AH) :=
 cond (aY ops o e) (cond (dX o.op) ((bY P cf o.op e h).bind fun p => some (aZ e o.dst p.1,p.2))
  ((bY P cf o.op e { h with low:=h.next }).bind fun p => cond (Nat.beq p.2.low h.next) (some (aZ e o.dst p.1,{ p.2 with low:=h.low })) none)) (some (aZ e o.dst undef,h))
structure f4 (h h' : AH) : Prop where
 nxt : h.next ≤ h'.next
 old : ∀ β,β < h.next → h'.blks.get β = h.blks.get β ∧ h'.grps.get β = h.grps.get β
 neu : ∀ β b,h.next ≤ β → h'.blks.get β = some b → h.next ≤ b.grp ∧ b.ro = false
 wf : WF h'
theorem f4.refl (H : WF h) : f4 h h:=⟨Nat.le_refl _,fun _ _ => ⟨rfl,rfl⟩,fun β b hl hb => absurd (H.lt hb) (by omega),H⟩
theorem f4.trans (M : f4 h h1) (K : f4 h1 h2) : f4 h h2:=by
 refine ⟨Nat.le_trans M.nxt K.nxt,fun β hb => ?_,fun β b hl hb => ?_,K.wf⟩
 ·obtain ⟨g1,g2⟩:=K.old β (Nat.lt_of_lt_of_le hb M.nxt)
  obtain ⟨g3,g4⟩:=M.old β hb
  exact ⟨g1.trans g3,g2.trans g4⟩
 ·rcases Nat.lt_or_ge β h1.next with g | g
  ·exact M.neu β b hl (by rw [← (K.old β g).1]; exact hb)
  ·obtain ⟨g1,g2⟩:=K.neu β b g hb
   exact ⟨Nat.le_trans M.nxt g1,g2⟩
theorem f4.new (H : WF h) (cells : List Value) (z : Nat) : f4 h (h.new cells z).2:=by
 have M:=bH.new H cells z
 refine ⟨Nat.le_succ _,fun β hb => ⟨?_,rfl⟩,fun β b hl hb => ?_,M.wf⟩
 ·rw [cN,if_neg (by omega)]
 ·rw [cN] at hb
  split at hb
  ·injection hb with hb
   subst hb
   exact ⟨Nat.le_refl _,rfl⟩
  ·exact absurd (H.lt hb) (by omega)
theorem yu {o : Op} (hq : dX o = true) {e : Tr Value} {v : Value} (hv : bY P cf o e h = some (v,h')) : h' = h ∨ ∃ cells z,h' = (h.new cells z).2:=by
 have same : ∀ {x : Value},some (x,h) = some (v,h') → h' = h:=fun hv => (Prod.mk.inj (Option.some.inj hv)).2.symm
 have mapS : ∀ {a : Option Value},(a.map fun x => (x,h)) = some (v,h') → h' = h:=fun hv => by
  obtain ⟨x,_,h2⟩:=Option.map_eq_some_iff.1 hv
  injection h2 with _ h2
  exact h2.symm
 cases o with
 | move x => exact .inl (same hv)
 | assign x => exact .inl (same hv)
 | pick c a b =>
  have hv' : (match ev e c with | .bool t => some (cond t (ev e a) (ev e b),h) | _ => none) = some (v,h'):=hv
  split at hv'
  ·exact .inl (same hv')
  ·cases hv'
 | alloc t =>
  obtain ⟨_,_,hv⟩:=Option.bind_eq_some_iff.1 hv
  obtain ⟨_,_,hv⟩:=Option.bind_eq_some_iff.1 hv
  obtain ⟨_,hv⟩:=ah hv
  exact .inr ⟨_,_,(Prod.mk.inj (Option.some.inj hv)).2.symm⟩
 | box t x =>
  obtain ⟨_,_,hv⟩:=Option.bind_eq_some_iff.1 hv
  exact .inr ⟨_,_,(Prod.mk.inj (Option.some.inj hv)).2.symm⟩
 | build t ps =>
  obtain ⟨z,_,hv⟩:=Option.bind_eq_some_iff.1 hv
  obtain ⟨d,_,hv⟩:=Option.bind_eq_some_iff.1 hv
  split at hv
  ·obtain ⟨_,_,hv⟩:=Option.bind_eq_some_iff.1 hv
   obtain ⟨_,hv⟩:=ah hv
   obtain ⟨_,_,hv⟩:=Option.bind_eq_some_iff.1 hv
   obtain ⟨_,_,h2⟩:=Option.map_eq_some_iff.1 hv
   injection h2 with _ h2
   exact .inl h2.symm
  ·obtain ⟨_,_,hv⟩:=Option.bind_eq_some_iff.1 hv
   obtain ⟨_,hv⟩:=ah hv
   obtain ⟨_,_,hv⟩:=Option.bind_eq_some_iff.1 hv
   obtain ⟨_,_,h2⟩:=Option.map_eq_some_iff.1 hv
   injection h2 with _ h2
   exact .inl h2.symm
  ·cases hv
 | buildSlice t n ps =>
  obtain ⟨d,_,hv⟩:=Option.bind_eq_some_iff.1 hv
  split at hv
  ·obtain ⟨_,_,hv⟩:=Option.bind_eq_some_iff.1 hv
   obtain ⟨_,_,hv⟩:=Option.bind_eq_some_iff.1 hv
   obtain ⟨_,_,hv⟩:=Option.bind_eq_some_iff.1 hv
   obtain ⟨_,hv⟩:=ah hv
   obtain ⟨_,_,h2⟩:=Option.map_eq_some_iff.1 hv
   injection h2 with _ h2
   exact .inr ⟨_,_,h2.symm⟩
  ·cases hv
 | load t x => exact .inl (mapS hv)
 | nilCheck x =>
  have hv' : (match ev e x with | .pointer none | .nilIface | .nilFunc => none | .func (.method _) _ _ => none | v => some (v,h)) = some (v,h'):=hv
  split at hv' <;> first | cases hv'; done | exact .inl (same hv')
 | binOp op t x y yt => exact .inl (mapS hv)
 | unOp op t x => exact .inl (mapS hv)
 | convert s d x =>
  have hv' : cond (cD P d) (fR P s d (ev e x) h) ((jY P s d (ev e x)).map fun v => (v,h)) = some (v,h'):=hv
  cases hi : cD P d with
  | true =>
   rw [hi,cond_true] at hv'
   exact .inr (mU hv')
  | false =>
   rw [hi,cond_false] at hv'
   exact .inl (mapS hv')
 | slice t x lo hi mx => exact .inl (mapS hv)
 | fieldAddr s x f => exact .inl (mapS hv)
 | field s x f => exact .inl (mapS hv)
 | indexAddr t x i => exact .inl (mapS hv)
 | index t x i => exact .inl (mapS hv)
 | extract x i => exact .inl (mapS hv)
 | makeSlice t n c =>
  obtain ⟨d,_,hv⟩:=Option.bind_eq_some_iff.1 hv
  split at hv
  ·obtain ⟨_,_,hv⟩:=Option.bind_eq_some_iff.1 hv
   obtain ⟨_,_,hv⟩:=Option.bind_eq_some_iff.1 hv
   obtain ⟨_,_,hv⟩:=Option.bind_eq_some_iff.1 hv
   obtain ⟨_,_,hv⟩:=Option.bind_eq_some_iff.1 hv
   obtain ⟨_,hv⟩:=ah hv
   exact .inr ⟨_,_,(Prod.mk.inj (Option.some.inj hv)).2.symm⟩
  ·cases hv
 | makeFunc fn first captured =>
  obtain ⟨_,hv⟩:=ah hv
  exact .inl (same hv)
 | call c =>
  obtain ⟨callee,cargs,cts⟩:=c
  cases callee with
  | builtin b =>
   have hv' : ct P b cts.toList (cargs.toList.map (ev e)) h = some (v,h'):=hv
   have hv' : eD P b cts.toList (cargs.toList.map (ev e)) h = some (v,h'):=by
    rcases fY hv' with ⟨e0,_⟩ | hv2
    ·rw [e0] at hq
     cases hq
    ·exact hv2
   unfold eD at hv'
   have hb : b = .len ∨ b = .max ∨ b = .min:=by
    cases b <;> first | exact .inl rfl | exact .inr (.inl rfl) | exact .inr (.inr rfl) | cases hq
   split at hv'
   ·rcases hb with hb | hb | hb <;> cases hb
   ·obtain ⟨_,_,hv'⟩:=Option.bind_eq_some_iff.1 hv'
    split at hv' <;> first | cases hv'; done | exact .inl (same hv')
   ·exact .inl (mapS hv')
   ·exact .inl (mapS hv')
   ·rcases hb with hb | hb | hb <;> cases hb
   ·cases hv'
  | value f => cases hq
  | invoke r m => cases hq
 | _ => cases hq
theorem uL (H : WF h) {o : Op} (hq : dX o = true) {e : Tr Value} {v : Value} (hv : bY P cf o e h = some (v,h')) : f4 h h' ∧ h'.low = h.low:=by
 rcases yu hq hv with rfl | ⟨cells,z,rfl⟩
 ·exact ⟨.refl H,rfl⟩
 ·exact ⟨.new H _ _,rfl⟩
theorem f5 (hcf : bm cf) {ops : Array Oper} {o : Oper} {e e' : Tr Value} (H : WF h) (hv : eI P cf ops o e h = some (e',h')) : bH h h' ∧ h'.low = h.low ∧ f4 h h':=by
 unfold eI at hv
 rcases aN hv with hv | hv
 ·cases hq : dX o.op with
  | true =>
   rw [hq] at hv
   obtain ⟨⟨v,h1⟩,hp,hv1⟩:=Option.bind_eq_some_iff.1 hv
   obtain ⟨_,rfl⟩:=Prod.mk.inj (Option.some.inj hv1)
   have S:=uL H hq hp
   exact ⟨j9 hcf H hp,S.2,S.1⟩
  | false =>
  rw [hq] at hv
  obtain ⟨⟨v,h1⟩,hp,hv1⟩:=Option.bind_eq_some_iff.1 hv
  obtain ⟨hc,hv1⟩:=ah hv1
  obtain ⟨_,rfl⟩:=Prod.mk.inj (Option.some.inj hv1)
  have hc : h1.low = h.next:=Nat.eq_of_beq_eq_true hc
  have M:=j9 hcf (H.setLow _) hp
  refine ⟨⟨M.nxt,Nat.le_refl _,fun n hn _ => M.old n hn (by omega),fun β b hb => ?_,M.wf.setLow _⟩,rfl,M.nxt,M.old h.next (Nat.le_refl _) (Nat.le_of_eq hc.symm),fun β b hl hb => ?_,M.wf.setLow _⟩
  ·rcases M.neu β b hb with g | ⟨g1,g2,g3⟩
   ·exact .inl g
   ·exact .inr ⟨g1,g2,fun n hn _ => g3 n hn (by omega)⟩
  ·rcases M.neu β b hb with ⟨b0,g1,_⟩ | ⟨g1,g2,g3⟩
   ·exact absurd (H.lt g1) (by omega)
   ·exact ⟨g3 h.next (Nat.le_refl _) (Nat.le_of_eq hc.symm),g2⟩
 ·obtain ⟨_,rfl⟩:=Prod.mk.inj (Option.some.inj hv)
  exact ⟨.refl H,rfl,.refl H⟩
inductive jq (P : Program) (cf : FuncId → List Value → AH → Option (Value × AH)) (ops : Array Oper) : Nat → List Oper → Tr Value → AH → Tr Value × AH → Prop
 | done {i : Nat} {e : Tr Value} {h : AH} : jq P cf ops i [] e h (e,h)
 | step {i : Nat} {o : Oper} {l : List Oper} {e e1 : Tr Value} {h h1 : AH} {r : Tr Value × AH} (hs : eI P cf ops o e h = some (e1,h1)) (t : jq P cf ops (i + 1) l e1 h1 r) : jq P cf ops i (o :: l) e h r
 | tail {i : Nat} {l : List Oper} {e : Tr Value} {h : AH} {r : Tr Value × AH} (ht : dO ops.toList i e h = true) (hv : cz P cf ops l e h = some r) : jq P cf ops i l e h r
theorem dU {ops : Array Oper} {F : Option (Tr Value × AH)} : ∀ (l : List Oper) {i : Nat} {e : Tr Value} {h : AH} {r : Tr Value × AH},bI P cf ops F i l e h = some r → jq P cf ops i l e h r ∨ F = some r
 | [],i,e,h,r,hv => by
  injection hv with hv
  subst hv
  exact .inl .done
 | o :: l,i,e,h,r,hv => by
  have hv' : cond (aY ops o e)
   (cond (dX o.op) ((bY P cf o.op e h).bind fun p => bI P cf ops F (i + 1) l (aZ e o.dst p.1) p.2)
   (cond (dO ops.toList i e h) (cz P cf ops (o :: l) e h)
   ((bY P cf o.op e { h with low:=h.next }).bind fun p => cond (Nat.beq p.2.low h.next) (bI P cf ops F (i + 1) l (aZ e o.dst p.1) { p.2 with low:=h.low }) F)))
   (bI P cf ops F (i + 1) l (aZ e o.dst undef) h) = some r:=hv
  cases hw : aY ops o e with
  | true =>
   rw [hw] at hv'
   cases hq : dX o.op with
   | true =>
    rw [hq] at hv'
    obtain ⟨⟨v,h1⟩,hp,hv1⟩:=Option.bind_eq_some_iff.1 hv'
    refine (dU l hv1).imp_left fun q => .step (e1:=aZ e o.dst v) (h1:=h1) ?_ q
    unfold eI
    rw [hw,hq]
    simp only [cond_true,hp,Option.bind_some]
   | false =>
    rw [hq] at hv'
    cases ht : dO ops.toList i e h with
    | true =>
     rw [ht] at hv'
     exact .inl (.tail ht hv')
    | false =>
     rw [ht] at hv'
     obtain ⟨⟨v,h1⟩,hp,hv1⟩:=Option.bind_eq_some_iff.1 hv'
     have hv1 : cond (Nat.beq h1.low h.next) (bI P cf ops F (i + 1) l (aZ e o.dst v) { h1 with low:=h.low }) F = some r:=hv1
     cases hb : Nat.beq h1.low h.next with
     | false =>
      rw [hb] at hv1
      exact .inr hv1
     | true =>
      rw [hb] at hv1
      refine (dU l hv1).imp_left fun q => .step (e1:=aZ e o.dst v) (h1:={ h1 with low:=h.low }) ?_ q
      unfold eI
      rw [hw,hq]
      simp only [cond_true,cond_false,hp,Option.bind_some,hb]
  | false =>
   rw [hw] at hv'
   refine (dU l hv').imp_left fun q => .step (e1:=aZ e o.dst undef) (h1:=h) ?_ q
   unfold eI
   rw [hw]
   rfl
theorem jd {ops : Array Oper} : ∀ (l : List Oper) {e e' : Tr Value} {h h' : AH} {H H' : List AH},gD P cf ops l e h H = some (e',h',H') → cz P cf ops l e h = some (e',h')
 | [],e,e',h,h',H,H',hv => by
  injection hv with hv
  injection hv with h1 hv
  injection hv with h2 hv
  subst h1
  subst h2
  rfl
 | o :: l,e,e',h,h',H,H',hv => by
  have hv' : cond (aY ops o e) ((bY P cf o.op e h).bind fun p => gD P cf ops l (aZ e o.dst p.1) p.2 (H ++ [h])) (gD P cf ops l (aZ e o.dst undef) h (H ++ [h])) = some (e',h',H'):=hv
  show cond (aY ops o e) ((bY P cf o.op e h).bind fun p => cz P cf ops l (aZ e o.dst p.1) p.2) (cz P cf ops l (aZ e o.dst undef) h) = _
  cases hw : aY ops o e with
  | true =>
   rw [hw] at hv'
   obtain ⟨p,h1,h2⟩:=Option.bind_eq_some_iff.1 hv'
   rw [h1]
   exact jd l h2
  | false =>
   rw [hw] at hv'
   exact jd l hv'
theorem ke {ops : Array Oper} {e e' : Tr Value} {h h' : AH} (hv : fk P cf ops e h = some (e',h')) : zo ops.toList = true ∧ ∃ H,gD P cf ops ops.toList e h [] = some (e',h',H) ∧ me P ops.toList (cH ops.toList []) e' H 0 ops.toList = true:=by
 obtain ⟨h1,hv⟩:=ah hv
 obtain ⟨⟨e1,g1,H⟩,h2,hv⟩:=Option.bind_eq_some_iff.1 hv
 obtain ⟨h3,hv⟩:=ah hv
 injection hv with hv
 injection hv with q1 q2
 have q1 : e1 = e':=q1
 have q2 : g1 = h':=q2
 subst q1
 subst q2
 exact ⟨h1,H,h2,h3⟩
theorem jq.mild (hcf : bm cf) {ops : Array Oper} {i : Nat} {l : List Oper} {e : Tr Value} {h : AH} {r : Tr Value × AH} (H : WF h) (D : jq P cf ops i l e h r) : bH h r.2:=by
 induction D with
 | done => exact .refl H
 | step hs t ih =>
  have M:=(f5 hcf H hs).1
  exact M.trans (ih M.wf)
 | tail ht hv => exact ew hcf _ H hv
theorem lg {st : Tr Value → AH → Option (Ex × Tr Value × AH)} (hs : ∀ e h x e' h',WF h → st e h = some (x,e',h') → bH h h') : ∀ (n : Nat) {e e' : Tr Value} {h h' : AH} {x : Ex},WF h → gu st n e h = some (x,e',h') → bH h h'
 | 0,_,_,_,_,_,_,hv => by cases hv
 | n + 1,e,e',h,h',x,H,hv => by
  obtain ⟨⟨x1,e1,h1⟩,hx1,hv⟩:=Option.bind_eq_some_iff.1 hv
  have M:=hs _ _ _ _ _ H hx1
  cases x1 with
  | normal => exact M.trans (lg hs n M.wf hv)
  | exit id =>
   injection hv with hv
   injection hv with _ hv
   injection hv with _ hv
   exact hv ▸ M
  | ret =>
   injection hv with hv
   injection hv with _ hv
   injection hv with _ hv
   exact hv ▸ M
theorem o9 (hcf : bm cf) (kf : Nat) : ∀ (c : Code) {e e' : Tr Value} {h h' : AH} {x : Ex},WF h → cu P cf kf c e h = some (x,e',h') → bH h h':=by
 intro c
 have id' : ∀ {x x' : Ex} {e e' : Tr Value} {h h' : AH},WF h → some (x',e',h) = some (x,e,h') → bH h h':=fun H hv => by
  injection hv with hv
  injection hv with _ hv
  injection hv with _ hv
  exact hv ▸ .refl H
 induction c with
 | skip => exact fun H hv => id' H hv
 | ret => exact fun H hv => id' H hv
 | exit id => exact fun H hv => id' H hv
 | region id ops d =>
  intro e e' h h' x H hv
  obtain ⟨⟨e1,h1⟩,hv1,hx⟩:=Option.map_eq_some_iff.1 hv
  injection hx with _ hx
  injection hx with _ hx
  subst hx
  rcases aN hv1 with hv1 | hv1
  ·rcases dU _ hv1 with hv1 | hv1
   ·exact hv1.mild hcf H
   ·obtain ⟨_,_,h2,_⟩:=ke hv1
    exact ew hcf _ H (jd _ h2)
  ·exact ew hcf _ H hv1
 | seq a b iha ihb =>
  intro e e' h h' x H hv
  obtain ⟨⟨x1,e1,h1⟩,hx1,hv⟩:=Option.bind_eq_some_iff.1 hv
  have M:=iha H hx1
  cases x1 with
  | normal => exact M.trans (ihb M.wf hv)
  | exit id => exact M.trans (id' M.wf hv)
  | ret => exact M.trans (id' M.wf hv)
 | cond c x y ihx ihy =>
  intro e e' h h' xx H hv
  have hx' : (match ev e c with | .bool t => cond t (cu P cf kf x e h) (cu P cf kf y e h) | _ => none) = some (xx,e',h'):=hv
  split at hx'
  ·rcases aN hx' with hv | hv
   ·exact ihx H hv
   ·exact ihy H hv
  ·cases hx'
 | block id c ih =>
  intro e e' h h' x H hv
  obtain ⟨⟨x1,e1,h1⟩,hx1,hv⟩:=Option.bind_eq_some_iff.1 hv
  have M:=ih H hx1
  cases x1 with
  | normal => exact M.trans (id' M.wf hv)
  | exit j =>
   have hx' : cond (Nat.beq j id) (some (Ex.normal,e1,h1)) (some (Ex.exit j,e1,h1)) = some (x,e',h'):=hv
   rcases aN hx' with hv | hv <;> exact M.trans (id' M.wf hv)
  | ret => exact M.trans (id' M.wf hv)
 | loop c ih =>
  intro e e' h h' x H hv
  exact lg (fun e h x e' h' H hv => ih H hv) kf H hv
 | _ => exact fun _ hv => by cases hv
theorem kg {h h1 : AH} (H : WF h) (M : bH { h with low:=h.next } h1) (hl : h1.low = h.next) : f4 h h1 :=
 ⟨M.nxt,M.old h.next (Nat.le_refl _) (Nat.le_of_eq hl.symm),fun β b hb hx => by
  rcases M.neu β b hx with ⟨b0,g1,_⟩ | ⟨g1,g2,g3⟩
  ·exact absurd (H.lt g1) (by omega)
  ·exact ⟨g3 h.next (Nat.le_refl _) (Nat.le_of_eq hl.symm),g2⟩,M.wf⟩
theorem mV {h h1 : AH} (H : WF h) (M : bH { h with low:=h.next } h1) (v : Value) : bH h (ai h h1 v).2:=by
 unfold ai
 cases (Nat.beq h1.low h.next && dA v) with
 | true => exact .refl H
 | false =>
  show bH h { h1 with low:=cond (Nat.blt h1.low h.next) (cond (Nat.blt h1.low h.low) h1.low h.low) h.low }
  have c:=cl h1.low h.low
  have key : ∀ n,n ≤ h.next → n ≤ cond (Nat.blt h1.low h.next) (cond (Nat.blt h1.low h.low) h1.low h.low) h.low → n ≤ h1.low:=fun n hn hl => by
   cases e : Nat.blt h1.low h.next with
   | true =>
    rw [e] at hl
    exact Nat.le_trans hl c.1
   | false =>
    rcases Nat.lt_or_ge h1.low h.next with g | g
    ·have : Nat.blt h1.low h.next = true:=Nat.ble_eq_true_of_le g
     rw [e] at this
     cases this
    ·omega
  refine ⟨M.nxt,?_,fun n hn hl => M.old n hn (key n hn hl),fun β b hb => ?_,M.wf.setLow _⟩
  ·show cond (Nat.blt h1.low h.next) _ h.low ≤ h.low
   cases Nat.blt h1.low h.next with
   | true => exact c.2
   | false => exact Nat.le_refl _
  ·rcases M.neu β b hb with g | ⟨g1,g2,g3⟩
   ·exact .inl g
   ·exact .inr ⟨g1,g2,fun n hn hl => g3 n hn (key n hn hl)⟩
theorem mW : ∀ n,bm (run P n)
 | 0 => fun _ _ _ _ _ _ hv => by cases hv
 | n + 1 => by
  intro f args h v h' H hv
  unfold run at hv
  split at hv
  ·rename_i fn _
   split at hv
   ·obtain ⟨⟨x1,e1,h1⟩,hx1,hv⟩:=Option.bind_eq_some_iff.1 hv
    have M:=o9 (mW n) _ _ (H.setLow h.next) hx1
    have key : ((cQ P e1 h1 fn.results.toList).bind fun vs => (dx vs).map fun v => ai h h1 v) = some (v,h') → bH h h':=fun hv => by
     obtain ⟨_,_,hv⟩:=Option.bind_eq_some_iff.1 hv
     obtain ⟨v1,_,hv⟩:=Option.map_eq_some_iff.1 hv
     have:=mV H M v1
     rw [hv] at this
     exact this
    cases x1 with
    | normal => exact key hv
    | ret => exact key hv
    | exit _ => cases hv
   ·cases hv
  ·cases hv
def mn : List Operand → List Tmp
 | [] => []
 | .tmp t :: l => t :: mn l
 | _ :: l => mn l
def iR (ops : List Oper) (o : Oper) : List Tmp :=
 mn o.op.operands.toList ++ (match o.guard with
  | some (g,_) => (match (ops[g]?).bind (·.dst) with | some t => [t] | none => [])
  | none => [])
def kh : List Oper → List Nat → Bool
 | [],_ => true
 | o :: r,acc => match o.dst with
  | some d => cond (lZ d acc) false (kh r (d :: acc))
  | none => kh r acc
def gG : Nat → List Oper → Bool
 | _,[] => true
 | i,o :: r => (o.after.toList.all fun e => !(Region.binds .any e) || Nat.blt e.on i) && gG (i + 1) r
def rS (bf : List Nat) (i : Nat) (ts : List Tmp) : Nat → List Oper → Bool
 | _,[] => true
 | j,o :: r => (match o.dst with
   | some d => cond (lZ d ts) (cond (Nat.beq i j) true (cond (Nat.blt j i) (gC ((bf[i]?).getD 0) j) (gC ((bf[j]?).getD 0) i))) true
   | none => true) && rS bf i ts (j + 1) r
def mo (ops : List Oper) (bf : List Nat) : Nat → List Oper → Bool
 | _,[] => true
 | i,o :: r => rS bf i (iR ops o) 0 ops && mo ops bf (i + 1) r
def eJ (ops : List Oper) : Bool:=kh ops [] && (gG 0 ops && mo ops (cH ops []) 0 ops)
def gH (ops : Array Oper) : Bool:=eJ ops.toList
theorem gp : ∀ {l : List Operand} {t : Tmp},.tmp t ∈ l → t ∈ mn l
 | x :: l,t,h => by
  rcases List.mem_cons.1 h with rfl | h
  ·exact List.mem_cons_self
  ·have:=gp h
   cases x with
   | tmp u => exact List.mem_cons_of_mem _ this
   | _ => exact this
theorem hQ : ∀ (l : List Oper) (acc : List Nat),kh l acc = true →
  (∀ (i : Nat) (o : Oper) (d : Nat),l[i]? = some o → o.dst = some d → d ∉ acc) ∧ ∀ (i j : Nat) (o o' : Oper) (d : Nat),l[i]? = some o → l[j]? = some o' → o.dst = some d → o'.dst = some d → i = j
 | [],_,_ => ⟨fun _ _ _ h => (by cases h),fun _ _ _ _ _ h => (by cases h)⟩
 | o :: l,acc,h => by
  unfold kh at h
  split at h
  ·rename_i d hd
   cases hm : lZ d acc with
   | true =>
    rw [hm] at h
    cases h
   | false =>
    rw [hm] at h
    have hd' : d ∉ acc:=fun hh => by
     rw [(iD _ _).2 hh] at hm
     cases hm
    obtain ⟨h1,h2⟩:=hQ l (d :: acc) h
    refine ⟨fun i o1 d1 e1 e2 => ?_,fun i j o1 o2 d1 e1 e2 e3 e4 => ?_⟩
    ·cases i with
     | zero =>
      injection e1 with e1
      subst e1
      rw [hd] at e2
      injection e2 with e2
      exact e2 ▸ hd'
     | succ i => exact fun hh => h1 i o1 d1 e1 e2 (List.mem_cons_of_mem _ hh)
    ·cases i with
     | zero =>
      injection e1 with e1
      subst e1
      rw [hd] at e3
      injection e3 with e3
      subst e3
      cases j with
      | zero => rfl
      | succ j => exact absurd List.mem_cons_self (h1 j o2 d e2 e4)
     | succ i =>
      cases j with
      | zero =>
       injection e2 with e2
       subst e2
       rw [hd] at e4
       injection e4 with e4
       subst e4
       exact absurd List.mem_cons_self (h1 i o1 d e1 e3)
      | succ j => rw [h2 i j o1 o2 d1 e1 e2 e3 e4]
  ·rename_i hd
   obtain ⟨h1,h2⟩:=hQ l acc h
   refine ⟨fun i o1 d1 e1 e2 => ?_,fun i j o1 o2 d1 e1 e2 e3 e4 => ?_⟩
   ·cases i with
    | zero =>
     injection e1 with e1
     subst e1
     rw [hd] at e2
     cases e2
    | succ i => exact h1 i o1 d1 e1 e2
   ·cases i with
    | zero =>
     injection e1 with e1
     subst e1
     rw [hd] at e3
     cases e3
    | succ i =>
     cases j with
     | zero =>
      injection e2 with e2
      subst e2
      rw [hd] at e4
      cases e4
     | succ j => rw [h2 i j o1 o2 d1 e1 e2 e3 e4]
theorem jr : ∀ (l : List Oper) (n : Nat),gG n l = true → ∀ (i : Nat) (o : Oper),l[i]? = some o → ∀ e ∈ o.after,Region.binds .any e = true → e.on < n + i
 | [],_,_,_,_,h,_,_,_ => by cases h
 | o :: l,n,h,i,o1,e1,e,he,hb => by
  unfold gG at h
  rw [Bool.and_eq_true] at h
  cases i with
  | zero =>
   injection e1 with e1
   subst e1
   have:=List.all_eq_true.1 h.1 e (Array.mem_toList_iff.2 he)
   rw [hb] at this
   exact Nat.le_of_ble_eq_true this
  | succ i =>
   have:=jr l (n + 1) h.2 i o1 e1 e he hb
   omega
theorem gJ {m j : Nat} (h : gC m j = true) : Nat.testBit m j = true:=by
 have h:=Nat.eq_of_beq_eq_true h
 unfold Nat.testBit
 have e : (1 &&& (m >>> j)) = 1:=by rw [Nat.and_comm]; exact h
 rw [e]
 rfl
theorem mX (bf : List Nat) (i : Nat) (ts : List Tmp) : ∀ (l : List Oper) (n : Nat),rS bf i ts n l = true → ∀ (j : Nat) (o : Oper) (t : Tmp),l[j]? = some o → o.dst = some t → t ∈ ts →
  n + j = i ∨ (n + j < i ∧ Nat.testBit ((bf[i]?).getD 0) (n + j) = true) ∨ (i < n + j ∧ Nat.testBit ((bf[n + j]?).getD 0) i = true)
 | [],_,_,_,_,_,h,_,_ => by cases h
 | o :: l,n,h,j,o1,t,e1,e2,ht => by
  unfold rS at h
  rw [Bool.and_eq_true] at h
  cases j with
  | zero =>
   injection e1 with e1
   subst e1
   have h1:=h.1
   rw [e2] at h1
   simp only at h1
   rw [(iD _ _).2 ht] at h1
   simp only [cond_true] at h1
   rw [bN] at h1
   split at h1
   ·rename_i hi
    exact .inl hi.symm
   ·rename_i hi
    cases hl : Nat.blt n i with
    | true =>
     rw [hl] at h1
     exact .inr (.inl ⟨Nat.le_of_ble_eq_true hl,gJ h1⟩)
    | false =>
     rw [hl] at h1
     have : ¬ n < i:=fun hh => by
      have : Nat.blt n i = true:=Nat.ble_eq_true_of_le hh
      rw [hl] at this
      cases this
     exact .inr (.inr ⟨by omega,gJ h1⟩)
  | succ j =>
   have:=mX bf i ts l (n + 1) h.2 j o1 t e1 e2 ht
   rwa [show n + 1 + j = n + (j + 1) by omega] at this
theorem kj (ops : List Oper) (bf : List Nat) : ∀ (l : List Oper) (n : Nat),mo ops bf n l = true → ∀ (i : Nat) (o : Oper),l[i]? = some o → rS bf (n + i) (iR ops o) 0 ops = true
 | [],_,_,_,_,h => by cases h
 | o :: l,n,h,i,o1,e1 => by
  unfold mo at h
  rw [Bool.and_eq_true] at h
  cases i with
  | zero =>
   injection e1 with e1
   subst e1
   exact h.1
  | succ i =>
   have:=kj ops bf l (n + 1) h.2 i o1 e1
   rwa [show n + 1 + i = n + (i + 1) by omega] at this
theorem iS : ∀ (l : List Oper) (acc : List (List Nat)) (j : Nat),j < acc.length → (dj l acc)[j]? = acc[j]?
 | [],_,_,_ => rfl
 | o :: l,acc,j,hj => by
  unfold dj
  rw [iS l _ j (by rw [List.length_append]; omega),List.getElem?_append_left hj]
theorem iq : ∀ (l : List Oper) (acc : List (List Nat)),(dj l acc).length = acc.length + l.length
 | [],acc => rfl
 | o :: l,acc => by
  unfold dj
  rw [iq l,List.length_append,List.length_cons,List.length_cons,List.length_nil]
  omega
theorem eK (l : List Oper) (_ : List (List Nat)) : (dj l []).length = l.length:=by
 rw [iq,List.length_nil,Nat.zero_add]
theorem mY : ∀ (l : List Oper) (acc : List (List Nat)) (i : Nat) (o : Oper),l[i]? = some o → ∀ x,x ∈ ((dj l acc)[acc.length + i]?).getD [] →
  ∃ e ∈ o.after,Region.binds .any e = true ∧ (x = e.on ∨ x ∈ ((dj l acc)[e.on]?).getD [])
 | [],_,_,_,h,_,_ => by cases h
 | o :: l,acc,i,o1,e1,x,hx => by
  have hlen : ∀ y : List Nat,(acc ++ [y]).length = acc.length + 1:=fun y => by rw [List.length_append]; rfl
  unfold dj at hx ⊢
  cases i with
  | zero =>
   injection e1 with e1
   subst e1
   rw [iS _ _ _ (by rw [hlen]; omega),List.getElem?_append_right (by omega)] at hx
   simp only [Nat.add_zero,Nat.sub_self,List.getElem?_cons_zero,Option.getD_some] at hx
   obtain ⟨e,he,hx⟩:=List.mem_flatMap.1 hx
   refine ⟨e,Array.mem_toList_iff.1 he,?_⟩
   cases hb : Region.binds .any e with
   | false =>
    rw [hb] at hx
    cases hx
   | true =>
    rw [hb] at hx
    refine ⟨rfl,?_⟩
    rcases List.mem_cons.1 hx with hx | hx
    ·exact .inl hx
    ·refine .inr ?_
     rcases Nat.lt_or_ge e.on acc.length with hl | hl
     ·rw [iS _ _ _ (by rw [hlen]; omega),List.getElem?_append_left hl]
      exact hx
     ·rw [List.getElem?_eq_none hl] at hx
      cases hx
  | succ i =>
   rw [show acc.length + (i + 1) = (acc ++ [o.after.toList.flatMap fun e => cond (Region.binds .any e) (e.on :: (acc[e.on]?).getD []) []]).length + i by rw [hlen]; omega] at hx
   exact mY l _ i o1 e1 x hx
def MB (ms : List Nat) (bs : List (List Nat)) : Prop:=ms.length = bs.length ∧ ∀ i x : Nat,Nat.testBit ((ms[i]?).getD 0) x = true → x ∈ (bs[i]?).getD []
theorem jJ {acc : List Nat} {bs : List (List Nat)} (H : MB acc bs) : ∀ (l : List Edge) (x : Nat),Nat.testBit (mD acc l) x = true → x ∈ l.flatMap fun e => cond (Region.binds .any e) (e.on :: (bs[e.on]?).getD []) []
 | [],x,h => by
  unfold mD at h
  rw [Nat.zero_testBit] at h
  cases h
 | e :: r,x,h => by
  unfold mD at h
  rw [List.flatMap_cons]
  cases hb : Region.binds .any e with
  | false =>
   rw [hb] at h
   exact List.mem_append_right _ (jJ H r x h)
  | true =>
   rw [hb] at h
   have h : Nat.testBit (1 <<< e.on ||| (((acc[e.on]?).getD 0) ||| mD acc r)) x = true:=h
   rw [Nat.testBit_or,Nat.testBit_or,Bool.or_eq_true,Bool.or_eq_true] at h
   rcases h with h | h | h
   ·rw [Nat.one_shiftLeft,Nat.testBit_two_pow] at h
    exact List.mem_append_left _ (by rw [← of_decide_eq_true h]; exact List.mem_cons_self)
   ·exact List.mem_append_left _ (List.mem_cons_of_mem _ (H.2 _ _ h))
   ·exact List.mem_append_right _ (jJ H r x h)
theorem eA : ∀ (l : List Oper) {acc : List Nat} {bs : List (List Nat)},MB acc bs → MB (cH l acc) (dj l bs)
 | [],_,_,H => H
 | o :: l,acc,bs,H => by
  unfold cH dj
  refine eA l ⟨by rw [List.length_append,List.length_append,H.1]; rfl,fun i x h => ?_⟩
  rw [List.getElem?_append] at h ⊢
  split at h
  ·rename_i hi
   rw [if_pos (by rw [← H.1]; exact hi)]
   exact H.2 i x h
  ·rename_i hi
   rw [if_neg (by rw [← H.1]; exact hi),← H.1]
   cases e : i - acc.length with
   | zero =>
    rw [e] at h
    exact jJ H _ x h
   | succ k =>
    rw [e] at h
    exact absurd (show Nat.testBit 0 x = true from h) (by rw [Nat.zero_testBit]; decide)
theorem MB.nil : MB [] []:=⟨rfl,fun i x h => absurd (show Nat.testBit 0 x = true from h) (by rw [Nat.zero_testBit]; decide)⟩
theorem d8 (ops : List Oper) : ∀ (n x : Nat),Nat.testBit (eF ops n) x = true → x < n ∧ ∃ o,ops[x]? = some o ∧ dG o.op = true
 | 0,x,h => by
  unfold eF at h
  rw [Nat.zero_testBit] at h
  cases h
 | n + 1,x,h => by
  unfold eF at h
  cases hb : uA ops n with
  | false =>
   rw [hb] at h
   obtain ⟨h1,h2⟩:=d8 ops n x h
   exact ⟨Nat.lt_succ_of_lt h1,h2⟩
  | true =>
   rw [hb] at h
   have h : Nat.testBit (1 <<< n ||| eF ops n) x = true:=h
   rw [Nat.testBit_or,Bool.or_eq_true] at h
   rcases h with h | h
   ·rw [Nat.one_shiftLeft,Nat.testBit_two_pow] at h
    obtain rfl:=of_decide_eq_true h
    refine ⟨Nat.lt_succ_self _,?_⟩
    unfold uA at hb
    cases e : ops[n]? with
    | none => rw [e] at hb; cases hb
    | some o => rw [e] at hb; exact ⟨o,rfl,hb⟩
   ·obtain ⟨h1,h2⟩:=d8 ops n x h
    exact ⟨Nat.lt_succ_of_lt h1,h2⟩
theorem mZ {n m : Nat} (h : zm n m = true) : ∀ x,x < n → Nat.testBit m x = true:=by
 intro x hx
 have h:=Nat.eq_of_beq_eq_true h
 have h : m &&& (1 <<< n - 1) = 1 <<< n - 1:=h
 have e : Nat.testBit (m &&& (1 <<< n - 1)) x = Nat.testBit (1 <<< n - 1) x:=congrArg (fun k => Nat.testBit k x) h
 rw [Nat.testBit_and,Nat.one_shiftLeft,Nat.testBit_two_pow_sub_one,decide_eq_true hx,Bool.and_true] at e
 exact e
theorem hZ (fm i : Nat) : ∀ (l : List Nat) (n : Nat),j0 fm i n l = true → ∀ j,j < l.length → i ≤ n + j → ∀ x,x < n + j → Nat.testBit ((l[j]?).getD 0) x = true ∨ Nat.testBit fm x = true
 | [],_,_,_,h,_,_,_ => absurd h (Nat.not_lt_zero _)
 | m :: r,n,h,j,hj,hi,x,hx => by
  unfold j0 at h
  rw [Bool.and_eq_true] at h
  cases j with
  | zero =>
   rcases Bool.or_eq_true _ _ ▸ h.1 with h1 | h1
   ·exact absurd (Nat.le_of_ble_eq_true h1) (by omega)
   ·have:=mZ h1 x hx
    have this : Nat.testBit (m ||| fm) x = true:=this
    rw [Nat.testBit_or,Bool.or_eq_true] at this
    exact this
  | succ j => exact hZ fm i r (n + 1) h.2 j (by simpa using hj) (by omega) x (by omega)
theorem Fe {l : List Oper} (h : HA l = true) (i : Nat) : fA l i = true ∨ mE l i = false:=by
 rcases Nat.lt_or_ge i l.length with hl | hl
 ·have:=List.all_eq_true.1 h i (List.mem_range.2 hl)
  simpa using this
 ·right
  unfold mE storeAt
  rw [List.getElem?_eq_none hl]
  rfl
theorem rT {l : List Oper} {p : Nat} (h : fA l p = true) : ∀ j,j < l.length → p ≤ j → ∀ x,x < j → x ∈ ((dj l [])[j]?).getD [] ∨ (x < p ∧ ∃ o,l[x]? = some o ∧ dG o.op = true):=by
 intro j hj hp x hx
 unfold fA at h
 have hm:=eA l MB.nil
 have hl : (dj l []).length = l.length:=eK l []
 rcases hZ _ _ _ 0 h j (by rw [hm.1,eK l []]; exact hj) (by omega) x (by omega) with h1 | h1
 ·exact .inl (hm.2 j x h1)
 ·exact .inr (d8 l p x h1)
def d9 (listed : Array Bool) (j : Nat) : Prop:=listed.getD j false = true
def zj (ops : Array Oper) (j : Nat) : List Nat:=((dj ops.toList [])[j]?).getD []
def yv (ops : Array Oper) (listed : Array Bool) : Prop:=∀ j,d9 listed j → ∀ x ∈ zj ops j,d9 listed x
theorem dW {listed : Array Bool} {i j : Nat} (hi : i < listed.size) : d9 (listed.setIfInBounds i true) j ↔ d9 listed j ∨ j = i:=by
 unfold d9
 simp only [Array.getD_eq_getD_getElem?]
 by_cases e : i = j
 ·subst e
  rw [Array.getElem?_setIfInBounds_self_of_lt hi]
  simp
 ·rw [Array.getElem?_setIfInBounds_ne e]
  exact ⟨.inl,fun h => h.resolve_right fun h => e h.symm⟩
theorem cB {ops : Array Oper} {listed : Array Bool} {i : Nat} (h : i ∈ Region.ready .any ops listed) : i < listed.size ∧ ¬ d9 listed i:=by
 obtain ⟨h0,_⟩:=mem_ready.1 h
 have hi : i < listed.size:=by
  rcases Nat.lt_or_ge i listed.size with h' | h'
  ·exact h'
  ·simp [Array.getElem?_eq_none h'] at h0
 refine ⟨hi,fun hl => ?_⟩
 unfold d9 at hl
 simp [hi] at h0 hl
 rw [h0] at hl
 cases hl
theorem f7 {ops : Array Oper} {listed : Array Bool} {i : Nat} (h : i ∈ Region.ready .any ops listed) : ∃ o,ops[i]? = some o ∧ ops.toList[i]? = some o:=by
 obtain ⟨_,o,ho,_⟩:=mem_ready.1 h
 exact ⟨o,ho,by rw [Array.getElem?_toList]; exact ho⟩
theorem dJ {ops : Array Oper} {listed : Array Bool} {i : Nat} (hc : yv ops listed) (h : i ∈ Region.ready .any ops listed) : ∀ x ∈ zj ops i,d9 listed x:=by
 obtain ⟨_,o,ho,hall⟩:=mem_ready.1 h
 intro x hx
 have ho' : ops.toList[i]? = some o:=by rw [Array.getElem?_toList]; exact ho
 obtain ⟨e,he,hb,hx⟩:=mY ops.toList [] i o ho' x (by rw [List.length_nil,Nat.zero_add]; exact hx)
 have hl : d9 listed e.on:=hall e he hb
 rcases hx with rfl | hx
 ·exact hl
 ·exact hc _ hl x hx
theorem f9 {ops : Array Oper} {listed : Array Bool} {i : Nat} (hc : yv ops listed) (h : i ∈ Region.ready .any ops listed) : yv ops (listed.setIfInBounds i true):=by
 intro j hj x hx
 have hi:=(cB h).1
 rw [dW hi] at hj ⊢
 rcases hj with hj | rfl
 ·exact .inl (hc j hj x hx)
 ·exact .inl (dJ hc h x hx)
theorem ib {ops : Array Oper} {listed : Array Bool} (hs : listed.size = ops.size) (hl : gG 0 ops.toList = true) (hr : Region.ready .any ops listed = []) : ∀ j,j < ops.size → d9 listed j:=by
 intro j
 induction j using Nat.strongRecOn with
 | ind j ih =>
  intro hj
  refine Classical.byContradiction fun hn => ?_
  have : j ∈ Region.ready .any ops listed:=by
   refine mem_ready.2 ⟨?_,ops[j],Array.getElem?_eq_getElem hj,fun e he hb => ?_⟩
   ·unfold d9 at hn
    have hj' : j < listed.size:=by omega
    simp [hj'] at hn ⊢
    exact hn
   ·have:=jr ops.toList 0 hl j ops[j] (by rw [Array.getElem?_toList]; exact Array.getElem?_eq_getElem hj) e he hb
    exact ih e.on (by omega) (by omega)
  rw [hr] at this
  cases this
theorem pg {ops : Array Oper} {listed : Array Bool} (h : ∀ j,j < ops.size → d9 listed j) : Region.ready .any ops listed = []:=by
 cases hr : Region.ready .any ops listed with
 | nil => rfl
 | cons i l =>
  have hi : i ∈ Region.ready .any ops listed:=by rw [hr]; exact List.mem_cons_self
  obtain ⟨o,ho,_⟩:=f7 hi
  exact absurd (h i (Array.getElem?_eq_some_iff.1 ho).1) (cB hi).2
def vW : List Bool → Nat
 | [] => 0
 | b :: l => cond b (vW l) (vW l + 1)
theorem vX : ∀ (l : List Bool) (i : Nat),l[i]? = some false → vW (l.set i true) + 1 = vW l
 | [],_,h => by cases h
 | b :: l,0,h => by
  injection h with h
  subst h
  rfl
 | b :: l,i + 1,h => by
  have:=vX l i h
  cases b with
  | true => exact this
  | false => exact congrArg Nat.succ this
theorem rU : ∀ (l : List Bool),vW l = 0 → ∀ (i : Nat),i < l.length → l[i]? = some true
 | [],_,i,h => absurd h (Nat.not_lt_zero _)
 | true :: l,h,0,_ => rfl
 | true :: l,h,i + 1,hi => rU l h i (Nat.lt_of_succ_lt_succ hi)
 | false :: l,h,_,_ => by cases h
theorem ga {ops : Array Oper} {listed : Array Bool} {i n : Nat} (h : i ∈ Region.ready .any ops listed) (hc : vW listed.toList ≤ n + 1) : vW (listed.setIfInBounds i true).toList ≤ n:=by
 obtain ⟨hi,hn⟩:=cB h
 have : listed.toList[i]? = some false:=by
  rw [Array.getElem?_toList,Array.getElem?_eq_getElem hi]
  unfold d9 at hn
  simp [hi] at hn
  rw [hn]
 have:=vX _ _ this
 rw [Array.toList_setIfInBounds]
 omega
theorem mq {ops : Array Oper} {listed : Array Bool} (hs : listed.size = ops.size) (hc : vW listed.toList = 0) : ∀ j,j < ops.size → d9 listed j:=by
 intro j hj
 have:=rU _ hc j (by rw [Array.length_toList]; omega)
 rw [Array.getElem?_toList] at this
 unfold d9
 rw [Array.getD_eq_getD_getElem?,this]
 rfl
def jm (n : Nat) (ι : bL) : bL:=fun β => if β < n then ι β else none
theorem cZ {n : Nat} {ι : bL} {β : Nat} {k : yl} (h : jm n ι β = some k) : β < n ∧ ι β = some k:=by
 unfold jm at h
 split at h
 ·exact ⟨by assumption,h⟩
 ·cases h
theorem ie {n : Nat} {ι : bL} {β : Nat} {k : yl} (hn : β < n) (h : ι β = some k) : jm n ι β = some k:=by
 unfold jm
 rw [if_pos hn,h]
theorem kl (n : Nat) {ι ι' : bL} (hs : gX ι ι') : gX (jm n ι) (jm n ι'):=fun β k h => ie (cZ h).1 (hs β k (cZ h).2)
theorem e9 {n m : Nat} (h : n ≤ m) (ι : bL) : gX (jm n ι) (jm m ι):=fun _ _ e => ie (Nat.lt_of_lt_of_le (cZ e).1 h) (cZ e).2
section
variable {ι' ι1 : bL} (hs : gX ι' ι1)
 include hs
theorem bh.through {x y y' : Value} (h : bh ι' x y) (h' : bh ι1 x y') : bh ι' x y':=by
 cases h with
 | ptr a c h =>
  cases h' with
  | ptr _ c' h' =>
   obtain ⟨_,_,k,g1,_⟩:=h
   obtain ⟨q1,q2,k',q3,q4⟩:=h'
   rw [hs _ _ g1] at q3
   injection q3 with q3
   subst q3
   exact .ptr a c' ⟨q1,q2,k,g1,q4⟩
 | slice a c n c1 c2 h =>
  cases h' with
  | slice _ c' _ _ c2' h' =>
   rcases h' with h' | ⟨q0,q1,q2,k',q3,q4⟩
   ·exact .slice a c' n c1 c2' (.inl h')
   ·rcases h with ⟨h1,h2,h3⟩ | ⟨_,_,_,k,g1,_⟩
    ·have : c2' = c1:=by
      rcases q4.2 with ⟨_,q5 | ⟨q5,_⟩⟩ | ⟨_,⟨_,q5⟩ | ⟨q5,_⟩⟩ <;> (unfold aG at *; omega)
     exact .slice a c' n c1 c2' (.inl ⟨h1,h2,this.trans h2⟩)
    ·rw [hs _ _ g1] at q3
     injection q3 with q3
     subst q3
     exact .slice a c' n c1 c2' (.inr ⟨q0,q1,q2,k,g1,q4⟩)
 | bool b =>
  cases h'
  exact .bool b
 | int k n =>
  cases h'
  exact .int k n
 | string s =>
  cases h'
  exact .string s
 | pnil =>
  cases h'
  exact .pnil
 | snil =>
  cases h'
  exact .snil
 | fnil =>
  cases h'
  exact .fnil
 | inil =>
  cases h'
  exact .inil
 | mnil =>
  cases h'
  exact .mnil
 | map β n k g e =>
  cases h' with
  | map _ n' k' g' e' =>
   rw [hs _ _ g] at g'
   injection g' with g'
   exact .map β n' k g (by rw [e',g'])
 omit hs in
theorem aM.through {α β : Type} {R S : α → β → Prop} (hrs : ∀ x y y',R x y → S x y' → R x y') : ∀ {xs : List α} {ys ys' : List β},aM R xs ys → aM S xs ys' → aM R xs ys'
  | [],[],[],_,_ => trivial
  | _ :: _,_ :: _,_ :: _,h,h' => ⟨hrs _ _ _ h.1 h'.1,aM.through hrs h.2 h'.2⟩
  | [],[],_ :: _,_,h => h.elim
  | [],_ :: _,_,h,_ => h.elim
  | _ :: _,[],_,h,_ => h.elim
  | _ :: _,_ :: _,[],_,h => h.elim
theorem bj.through {x y y' : Value} (h : bj ι' x y) (h' : bj ι1 x y') : bj ι' x y':=by
 cases h with
 | atom h =>
  cases h' with
  | atom h' => exact .atom (h.through hs h')
  | func fn f f' c c' hf hc => cases h
 | func fn f f' c c' hf hc =>
  cases h' with
  | atom h' => cases h'
  | func _ _ f'' _ c'' hf' hc' => exact .func fn f f'' c c'' (aM.through (R:=bh ι') (S:=bh ι1) (fun _ _ _ a b => bh.through hs a b) hf hf') (aM.through (R:=bh ι') (S:=bh ι1) (fun _ _ _ a b => bh.through hs a b) hc hc')
theorem cq.through {x y y' : Value} (h : cq ι' x y) (h' : cq ι1 x y') : cq ι' x y':=by
 cases h with
 | cell h =>
  cases h' with
  | cell h' => exact .cell (h.through hs h')
  | agg cs ds h' =>
   cases h with
   | atom h => cases h
 | agg cs ds h =>
  cases h' with
  | cell h' =>
   cases h' with
   | atom h' => cases h'
  | agg _ ds' h' => exact .agg cs ds' (aM.through (R:=bj ι') (S:=bj ι1) (fun _ _ _ a b => bj.through hs a b) h h')
theorem eV.through : ∀ {cs : List Value} {es es' : List MapEntry} {i : Nat},eV ι' cs es i → eV ι1 cs es' i → eV ι' cs es' i
 | [],[],[],_,_,_ => trivial
 | _ :: _ :: _,_ :: _,_ :: _,_,⟨h1,h2,_,h4⟩,⟨g1,g2,g3,g4⟩ => ⟨h1.through hs g1,h2.through hs g2,g3,eV.through h4 g4⟩
 | [],[],_ :: _,_,_,h => h.elim
 | [],_ :: _,_,_,h,_ => h.elim
 | [_],[],_,_,h,_ => h.elim
 | [_],_ :: _,_,_,h,_ => h.elim
 | _ :: _ :: _,[],_,_,h,_ => h.elim
 | _ :: _ :: _,_ :: _,[],_,_,h => h.elim
end
theorem mr {h h' : AH} (H : WF h) (M : f4 h h') {β : Nat} {b : bT} (hb : β < h.next) : h'.rd β = some b ↔ h.rd β = some b:=by
 have hg:=(M.old β hb).1
 have key : ∀ c : bT,h.blks.get β = some c → h'.members c.grp = h.members c.grp:=fun c hc => by
  have:=H.gle β c hc
  show (h'.grps.get c.grp).getD _ = (h.grps.get c.grp).getD _
  rw [(M.old c.grp (by omega)).2]
 constructor
 ·intro e
  obtain ⟨e1,e2⟩:=aR e
  rw [hg] at e1
  rw [key b e1] at e2
  exact dp e1 e2
 ·intro e
  obtain ⟨e1,e2⟩:=aR e
  rw [← key b e1] at e2
  exact dp (hg.trans e1) e2
section
variable {base : Nat} {w w1 : World}
theorem bV.wf {ι : bL} {h : AH} (R : bV ι base h w) : WF h:=⟨R.gle,R.new⟩
theorem bV.up {ι : bL} {h h' : AH} (R : bV ι base h w) (M : f4 h h') : bV ι base h' w:=by
 have hd:=fun β k (e : ι β = some k) => (R.dom β k e).1
 have hg:=fun β b k (e : ι β = some k) (hb : h'.blks.get β = some b) => ((M.old β (hd β k e)).1.symm.trans hb)
 exact ⟨fun β b k hr hk => R.blk β b k ((mr R.wf M (hd β k hk)).1 hr) hk,fun β b k hb hk => R.esz β b k (hg β b k hk hb) hk,fun β b k hb hk => R.own β b k (hg β b k hk hb) hk,
  M.wf.gle,fun β β' b b' k k' hb hb' hk hk' => R.dis β β' b b' k k' (hg β b k hk hb) (hg β' b' k' hk' hb') hk hk',fun β k hk => ⟨Nat.lt_of_lt_of_le (hd β k hk) M.nxt,(R.dom β k hk).2⟩,
  M.wf.new,fun β b hb => Nat.lt_of_le_of_lt (M.wf.gle β b hb) (M.wf.lt hb),R.bas,fun β k hk => (R.has β k hk).imp fun b hb => (M.old β (hd β k hk)).1.trans hb,fun β b k hb hk hm => by
   have hb0:=hg β b k hk hb
   have:=R.gle β b hb0
   have:=hd β k hk
   rw [(M.old b.grp (by omega)).2] at hm
   exact R.map β b k hb0 hk hm⟩
theorem bV.below {κ ι1 : bL} {h h1 : AH} (R : bV κ base h w) (R1 : bV ι1 base h1 w1) (M : f4 h h1) (hs : gX κ ι1) (hw : w.heap.size ≤ w1.heap.size) : bV κ base h w1:=by
 refine ⟨fun β b k hr hk => ?_,R.esz,R.own,R.gle,R.dis,fun β k hk => ⟨(R.dom β k hk).1,Nat.lt_of_lt_of_le (R.dom β k hk).2 hw⟩,R.new,R.grp,Nat.le_trans R.bas hw,R.has,fun β b k hb hk hm => by
  obtain ⟨q1,es,_,q3⟩:=R.map β b k hb hk hm
  have hd:=(R.dom β k hk).1
  have hgl:=R.gle β b hb
  obtain ⟨_,es',q4,q5⟩:=R1.map β b k ((M.old β hd).1.trans hb) (hs β k hk) (by rw [(M.old b.grp (by omega)).2]; exact hm)
  exact ⟨q1,es',q4,q3.through hs q5⟩⟩
 obtain ⟨_,_,_,_,_,_,_,_,g⟩:=R.blk β b k hr hk
 obtain ⟨cs,el,fz,h1,h2,h3,l,h4,h5⟩:=R1.blk β b k ((mr R.wf M (R.dom β k hk).1).2 hr) (hs β k hk)
 exact ⟨cs,el,fz,h1,h2,h3,l,h4,aM.through (R:=bj κ) (S:=bj ι1) (fun _ _ _ a b => bj.through hs a b) g h5⟩
theorem bV.above {κi κ ι1 κ' : bL} {hi h1 h : AH} (R : bV κ base h w) (R1 : bV ι1 base h1 w1) (M : f4 h1 h) (Mi : f4 hi h) (H1 : WF h1) (hn : hi.next ≤ h1.next)
  (hκ : gX κ κ') (h1κ : gX ι1 κ') (hiκ : gX κi κ) (hid : ∀ β k,κi β = some k → β < hi.next) (hsp : ∀ β k,κ' β = some k → (β < h1.next ∧ ι1 β = some k) ∨ (h1.next ≤ β ∧ κ β = some k))
  (E : ej hi.next w κi ι1) (K : cv base κi w w1) : bV κ' base h w1:=by
 have apart : ∀ β β' k k',κi β = some k → h1.next ≤ β' → κ β' = some k' → k.b ≠ k'.b:=by
  intro β β' k k' hk hl hk'
  obtain ⟨b,hb⟩:=R.has β k (hiκ β k hk)
  obtain ⟨b',hb'⟩:=R.has β' k' hk'
  obtain ⟨g1,g2⟩:=Mi.neu β' b' (Nat.le_trans hn hl) hb'
  have:=R.gle β b hb
  have:=hid β k hk
  exact R.dis β β' b b' k k' hb hb' (hiκ β k hk) hk' (by omega) (.inr g2)
 have apart1 : ∀ β β' k k',β < h1.next → ι1 β = some k → h1.next ≤ β' → κ β' = some k' → k.b ≠ k'.b:=by
  intro β β' k k' _ hk hl hk' e
  rcases E.img β k hk with ⟨β0,k0,e0,e1⟩ | hl'
  ·exact apart β0 β' k0 k' e0 hl hk' (e1.trans e)
  ·have:=(R.dom β' k' hk').2
   omega
 have hg1 : ∀ β b,β < h1.next → h.blks.get β = some b → h1.blks.get β = some b:=fun β b hl hb => (M.old β hl).1.symm.trans hb
 refine ⟨fun β b k hr hk => ?_,fun β b k hb hk => ?_,fun β b k hb hk hro => ?_,R.gle,fun β β' b b' k k' hb hb' hk hk' hg hro => ?_,fun β k hk => ?_,R.new,R.grp,Nat.le_trans R.bas K.1,fun β k hk => ?_,fun β b k hb hk hm => ?_⟩
 ·rcases hsp β k hk with ⟨hl,hk⟩ | ⟨hl,hk⟩
  ·obtain ⟨cs,el,fz,g1,g2,g3,l,g4,g5⟩:=R1.blk β b k ((mr H1 M hl).1 hr) hk
   exact ⟨cs,el,fz,g1,g2,g3,l,g4,g5.mono fun _ _ => bj.mono h1κ⟩
  ·obtain ⟨cs,el,fz,g1,g2,g3,l,g4,g5⟩:=R.blk β b k hr hk
   refine ⟨cs,el,fz,?_,g2,g3,l,g4,g5.mono fun _ _ => bj.mono hκ⟩
   rw [K.2.1 k.b (R.dom β k hk).2 (.inr fun β' k' hk' => apart β' β k' k hk' hl hk)]
   exact g1
 ·rcases hsp β k hk with ⟨hl,hk⟩ | ⟨hl,hk⟩
  ·exact R1.esz β b k (hg1 β b hl hb) hk
  ·exact R.esz β b k hb hk
 ·rcases hsp β k hk with ⟨hl,hk⟩ | ⟨hl,hk⟩
  ·exact R1.own β b k (hg1 β b hl hb) hk hro
  ·exact R.own β b k hb hk hro
 ·rcases hsp β k hk with ⟨hl,hk⟩ | ⟨hl,hk⟩
  ·rcases hsp β' k' hk' with ⟨hl',hk'⟩ | ⟨hl',hk'⟩
   ·exact R1.dis β β' b b' k k' (hg1 β b hl hb) (hg1 β' b' hl' hb') hk hk' hg hro
   ·exact apart1 β β' k k' hl hk hl' hk'
  ·rcases hsp β' k' hk' with ⟨hl',hk'⟩ | ⟨hl',hk'⟩
   ·exact fun e => apart1 β' β k' k hl' hk' hl hk e.symm
   ·exact R.dis β β' b b' k k' hb hb' hk hk' hg hro
 ·rcases hsp β k hk with ⟨hl,hk⟩ | ⟨hl,hk⟩
  ·exact ⟨Nat.lt_of_lt_of_le hl M.nxt,(R1.dom β k hk).2⟩
  ·exact ⟨(R.dom β k hk).1,Nat.lt_of_lt_of_le (R.dom β k hk).2 K.1⟩
 ·rcases hsp β k hk with ⟨hl,hk⟩ | ⟨hl,hk⟩
  ·exact (R1.has β k hk).imp fun b hb => (M.old β hl).1.trans hb
  ·exact R.has β k hk
 ·rcases hsp β k hk with ⟨hl,hk⟩ | ⟨hl,hk⟩
  ·have hb1:=hg1 β b hl hb
   have:=H1.gle β b hb1
   obtain ⟨q1,es,q2,q3⟩:=R1.map β b k hb1 hk (by rw [← (M.old b.grp (by omega)).2]; exact hm)
   exact ⟨q1,es,q2,q3.mono h1κ⟩
  ·obtain ⟨q1,es,q2,q3⟩:=R.map β b k hb hk hm
   refine ⟨q1,es,?_,q3.mono hκ⟩
   rw [K.2.1 k.b (R.dom β k hk).2 (.inr fun β' k' hk' => apart β' β k' k hk' hl hk)]
   exact q2
end
variable {P : Program} {G : Nat} {cf : FuncId → List Value → AH → Option (Value × AH)}
theorem jq.trace {ops : Array Oper} {i : Nat} {l : List Oper} {e : Tr Value} {h : AH} {r : Tr Value × AH} (D : jq P cf ops i l e h r) :
  ∃ (s : Nat) (es : Nat → Tr Value) (hs : Nat → AH),s ≤ l.length ∧ es 0 = e ∧ hs 0 = h ∧ (∀ (k : Nat) (o : Oper),k < s → l[k]? = some o → eI P cf ops o (es k) (hs k) = some (es (k + 1),hs (k + 1))) ∧
   cz P cf ops (l.drop s) (es s) (hs s) = some r ∧ (s = l.length ∨ dO ops.toList (i + s) (es s) (hs s) = true):=by
 induction D with
 | @done i e h => exact ⟨0,fun _ => e,fun _ => h,Nat.le_refl _,rfl,rfl,fun k _ hk => absurd hk (Nat.not_lt_zero _),rfl,.inl rfl⟩
 | @step i o l e e1 h h1 r st t ih =>
  obtain ⟨s,es,hs,g1,g2,g3,g4,g5,g6⟩:=ih
  refine ⟨s + 1,fun k => match k with | 0 => e | k + 1 => es k,fun k => match k with | 0 => h | k + 1 => hs k,Nat.succ_le_succ g1,rfl,rfl,fun k o' hk ho' => ?_,g5,?_⟩
  ·cases k with
   | zero =>
    injection ho' with ho'
    subst ho'
    show eI P cf ops o e h = some (es 0,hs 0)
    rw [g2,g3]
    exact st
   | succ k => exact g4 k o' (Nat.lt_of_succ_lt_succ hk) ho'
  ·rcases g6 with g6 | g6
   ·exact .inl (congrArg Nat.succ g6)
   ·exact .inr (by rw [show i + (s + 1) = i + 1 + s by omega]; exact g6)
 | @tail i l e h r ht hv => exact ⟨0,fun _ => e,fun _ => h,Nat.zero_le _,rfl,rfl,fun k _ hk => absurd hk (Nat.not_lt_zero _),hv,.inr ht⟩
structure rD (P : Program) (cf : FuncId → List Value → AH → Option (Value × AH)) (ops : Array Oper) (s : Nat) (es : Nat → Tr Value) (hs : Nat → AH) : Prop where
 mld : bm cf
 wf0 : WF (hs 0)
 len : s ≤ ops.toList.length
 stp : ∀ (k : Nat) (o : Oper),k < s → ops.toList[k]? = some o → eI P cf ops o (es k) (hs k) = some (es (k + 1),hs (k + 1))
variable {ops : Array Oper} {s : Nat} {es : Nat → Tr Value} {hs : Nat → AH}
theorem rD.wf (T : rD P cf ops s es hs) : ∀ k,k ≤ s → WF (hs k)
 | 0,_ => T.wf0
 | k + 1,hk => by
  have hlt : k < ops.toList.length:=Nat.lt_of_lt_of_le hk T.len
  exact (f5 T.mld (T.wf k (by omega)) (T.stp k _ hk (List.getElem?_eq_getElem hlt))).2.2.wf
theorem rD.same (T : rD P cf ops s es hs) (k : Nat) : ∀ d,k + d ≤ s → f4 (hs k) (hs (k + d))
 | 0,hk => .refl (T.wf k hk)
 | d + 1,hk => by
  have hlt : k + d < ops.toList.length:=Nat.lt_of_lt_of_le hk T.len
  exact (T.same k d (by omega)).trans (f5 T.mld (T.wf (k + d) (by omega)) (T.stp (k + d) _ hk (List.getElem?_eq_getElem hlt))).2.2
theorem rD.sameLe (T : rD P cf ops s es hs) {k k' : Nat} (h : k ≤ k') (h' : k' ≤ s) : f4 (hs k) (hs k'):=by
 have:=T.same k (k' - k) (by omega)
 rwa [show k + (k' - k) = k' by omega] at this
theorem ph {o : Oper} {e e' : Tr Value} {h h' : AH} (hv : eI P cf ops o e h = some (e',h')) {t : Tmp} (ht : o.dst ≠ some t) : e'.get t = e.get t:=by
 have key : ∀ v,(aZ e o.dst v).get t = e.get t:=fun v => by
  unfold aZ
  split
  ·rename_i d hd
   rw [Tr.get_set,if_neg (fun e => ht (by rw [hd,e]))]
  ·rfl
 unfold eI at hv
 rcases aN hv with hv | hv
 ·rcases aN hv with hv | hv
  ·obtain ⟨⟨v,h1⟩,hp,hv1⟩:=Option.bind_eq_some_iff.1 hv
   obtain ⟨rfl,_⟩:=Prod.mk.inj (Option.some.inj hv1)
   exact key v
  ·obtain ⟨⟨v,h1⟩,hp,hv1⟩:=Option.bind_eq_some_iff.1 hv
   obtain ⟨_,hv1⟩:=ah hv1
   obtain ⟨rfl,_⟩:=Prod.mk.inj (Option.some.inj hv1)
   exact key v
 ·obtain ⟨rfl,_⟩:=Prod.mk.inj (Option.some.inj hv)
  exact key _
theorem rD.env (T : rD P cf ops s es hs) {t : Tmp} (k : Nat) : ∀ d,k + d ≤ s → (∀ j o,k ≤ j → j < k + d → ops.toList[j]? = some o → o.dst ≠ some t) → (es (k + d)).get t = (es k).get t
 | 0,_,_ => rfl
 | d + 1,hk,hw => by
  have hlt : k + d < ops.toList.length:=Nat.lt_of_lt_of_le hk T.len
  have ho:=List.getElem?_eq_getElem hlt
  have h1:=ph (T.stp (k + d) _ hk ho) (hw (k + d) _ (by omega) (by omega) ho)
  exact h1.trans (T.env k d (by omega) fun j o h1 h2 => hw j o h1 (by omega))
theorem rD.envLe (T : rD P cf ops s es hs) {t : Tmp} {k k' : Nat} (h : k ≤ k') (h' : k' ≤ s) (hw : ∀ j o,k ≤ j → j < k' → ops.toList[j]? = some o → o.dst ≠ some t) : (es k').get t = (es k).get t:=by
 have:=T.env (t:=t) k (k' - k) (by omega) fun j o h1 h2 => hw j o h1 (by omega)
 rwa [show k + (k' - k) = k' by omega] at this
variable {P : Program} {G nt : Nat} {cf : FuncId → List Value → AH → Option (Value × AH)} {ops : Array Oper} {s : Nat} {es : Nat → Tr Value} {hs : Nat → AH}
structure vY (G nt : Nat) (ops : Array Oper) (s : Nat) (es : Nat → Tr Value) (hs : Nat → AH) (base : Nat) (ι0 : bL) (w0 : World) (listed : Array Bool) (ι : bL) (a : Act) (w : World) : Prop where
 rel : ∀ k,k ≤ s → bV (jm (hs k).next ι) base (hs k) w
 dom : ∀ β q,ι β = some q → β < (hs 0).next ∨ ∃ j,j < s ∧ d9 listed j ∧ (hs j).next ≤ β ∧ β < (hs (j + 1)).next
 tmp : ∀ t,(∃ j o,j < s ∧ d9 listed j ∧ ops.toList[j]? = some o ∧ o.dst = some t ∧ aA (jm (hs (j + 1)).next ι) (((es (j + 1)).get t).getD undef) (a.tmps.getD t undef)) ∨
  ((∀ j o,d9 listed j → ops.toList[j]? = some o → o.dst ≠ some t) ∧ aA (jm (hs 0).next ι) (((es 0).get t).getD undef) (a.tmps.getD t undef))
 dfr : a.defers = []
 glb : oX G (jm (hs 0).next ι)
 siz : nt ≤ a.tmps.size
 low : ∀ j,d9 listed j → j < s
 ext : ej (hs 0).next w0 ι0 ι
 kep : cv base ι0 w0 w
theorem na {a : Act} {d : Option Tmp} {t : Tmp} {v : Value} (hd : d = some t) (ht : t < a.tmps.size) : (a.put d v).tmps.getD t undef = v:=by
 subst hd
 show (a.tmps.setIfInBounds t v).getD t undef = v
 simp [Array.getD,ht]
theorem lh {a : Act} {d : Option Tmp} {t : Tmp} {v : Value} (hd : d ≠ some t) : (a.put d v).tmps.getD t undef = a.tmps.getD t undef:=by
 cases d with
 | none => rfl
 | some u =>
  show (a.tmps.setIfInBounds u v).getD t undef = _
  simp only [Array.getD_eq_getD_getElem?]
  rw [Array.getElem?_setIfInBounds_ne (fun e => hd (congrArg some e))]
theorem uM {l : List Oper} (hC : eJ l = true) : ∀ (i j : Nat) (o o' : Oper) (d : Nat),l[i]? = some o → l[j]? = some o' → o.dst = some d → o'.dst = some d → i = j:=by
 unfold eJ at hC
 rw [Bool.and_eq_true,Bool.and_eq_true] at hC
 exact (hQ _ _ hC.1).2
theorem Dc {l : List Oper} (hC : eJ l = true) : gG 0 l = true:=by
 unfold eJ at hC
 rw [Bool.and_eq_true,Bool.and_eq_true] at hC
 exact hC.2.1
theorem Ff (hC : eJ ops.toList = true) {i : Nat} {o : Oper} (ho : ops.toList[i]? = some o) {t : Tmp} (ht : t ∈ iR ops.toList o) (j : Nat) (o' : Oper) (ho' : ops.toList[j]? = some o') (hd : o'.dst = some t) :
  j = i ∨ (j < i ∧ j ∈ zj ops i) ∨ (i < j ∧ i ∈ zj ops j):=by
 unfold eJ at hC
 rw [Bool.and_eq_true,Bool.and_eq_true] at hC
 have h1:=kj _ _ _ _ hC.2.2 i o ho
 have h2:=mX _ _ _ _ _ h1 j o' t ho' hd ht
 simp only [Nat.zero_add] at h2
 have hm:=eA ops.toList MB.nil
 exact h2.imp_right fun q => q.imp (fun q => ⟨q.1,hm.2 _ _ q.2⟩) (fun q => ⟨q.1,hm.2 _ _ q.2⟩)
theorem ig {ι : bL} {e : Tr Value} {tm : Array Value} {o : Oper} (hg : ∀ t ∈ iR ops.toList o,aA ι ((e.get t).getD undef) (tm.getD t undef)) : Region.wanted o (yielded ops tm) = aY ops o e:=by
 unfold iR at hg
 unfold Region.wanted aY
 cases hgd : o.guard with
 | none => rfl
 | some p =>
  obtain ⟨j,wt⟩:=p
  rw [hgd] at hg
  simp only [yielded] at hg ⊢
  rw [← Array.getElem?_toList]
  cases hj : (ops.toList[j]?).bind (·.dst) with
  | none => rfl
  | some d =>
   rw [hj] at hg
   have hd:=hg d (List.mem_append_right _ (List.mem_singleton.2 rfl))
   rw [Array.getD_eq_getD_getElem?] at hd
   simp only [Option.bind_some,Option.map_some]
   cases htd : tm[d]? with
   | none =>
    rw [htd] at hd
    have hd : aA ι ((e.get d).getD undef) undef:=hd
    generalize (e.get d).getD undef = y at hd
    cases hd with
    | one h => cases h with
     | cell h => cases h with
      | atom h => cases h
    | tuple _ _ _ => rfl
   | some y =>
    rw [htd] at hd
    have hd : aA ι ((e.get d).getD undef) y:=hd
    generalize (e.get d).getD undef = x at hd
    cases x with
    | bool b =>
     obtain rfl:=hd.bool_inv
     simp
    | _ => cases y <;> first | rfl | exact absurd (lM hd) (by simp)
section
variable {base : Nat} {ι0 ι : bL} {w0 w : World} {listed : Array Bool} {a : Act}
theorem vY.read (T : rD P cf ops s es hs) (hC : eJ ops.toList = true) (I : vY G nt ops s es hs base ι0 w0 listed ι a w) (hc : yv ops listed) {i : Nat} (hi : i ∈ Region.ready .any ops listed) (his : i < s) {o : Oper} (ho : ops.toList[i]? = some o)
  {t : Tmp} (ht : t ∈ iR ops.toList o) : aA (jm (hs i).next ι) (((es i).get t).getD undef) (a.tmps.getD t undef):=by
 have hsure:=Ff hC ho ht
 rcases I.tmp t with ⟨j,o',hj,hl,ho',hd,hv⟩ | ⟨hno,hv⟩
 ·rcases hsure j o' ho' hd with rfl | ⟨h1,_⟩ | ⟨_,h2⟩
  ·exact absurd hl (cB hi).2
  ·have e : (es i).get t = (es (j + 1)).get t:=T.envLe (by omega) (by omega) fun j' o'' h3 h4 e1 e2 => by
    have:=uM hC j j' o' o'' t ho' e1 hd e2
    omega
   rw [e]
   exact hv.mono (e9 (T.sameLe (by omega) (by omega)).nxt ι)
  ·exact absurd (hc j hl i h2) (cB hi).2
 ·have e : (es i).get t = (es 0).get t:=T.envLe (Nat.zero_le _) (by omega) fun j o' _ h2 e1 e2 => by
   rcases hsure j o' e1 e2 with rfl | ⟨_,h3⟩ | ⟨h3,_⟩
   ·omega
   ·exact hno j o' (dJ hc hi j h3) e1 e2
   ·omega
  rw [e]
  exact hv.mono (e9 (T.sameLe (Nat.zero_le _) (by omega)).nxt ι)
theorem vY.next (T : rD P cf ops s es hs) (I : vY G nt ops s es hs base ι0 w0 listed ι a w) {i : Nat} (hnl : ¬ d9 listed i) (hsz : i < listed.size) (his : i < s) {o : Oper} (ho : ops.toList[i]? = some o) (hdst : ∀ t,o.dst = some t → t < nt)
  {v vc : Value} (hes : es (i + 1) = aZ (es i) o.dst v) {ι1 : bL} {w1 : World} (hvr : aA ι1 v vc) (R1 : bV ι1 base (hs (i + 1)) w1) (E1 : ej (hs i).next w (jm (hs i).next ι) ι1) (K1 : cv base (jm (hs i).next ι) w w1) :
  ∃ ι',vY G nt ops s es hs base ι0 w0 (listed.setIfInBounds i true) ι' (a.put o.dst vc) w1:=by
 have nx : ∀ k k',k ≤ k' → k' ≤ s → (hs k).next ≤ (hs k').next:=fun k k' h h' => (T.sameLe h h').nxt
 have n01:=nx 0 i (Nat.zero_le _) (by omega)
 have n12:=nx i (i + 1) (by omega) (by omega)
 have d1 : ∀ β k,ι1 β = some k → β < (hs (i + 1)).next:=fun β k h => (R1.dom β k h).1
 have o1 : ∀ β,β < (hs i).next → ι1 β = ι β:=fun β hβ => (E1.old β hβ).trans (by unfold jm; rw [if_pos hβ])
 have u1 : ∀ β q,(hs i).next ≤ β → β < (hs (i + 1)).next → ι β ≠ some q:=fun β q h1 h2 e => by
  rcases I.dom β q e with h | ⟨j,hj,hl,h3,h4⟩
  ·omega
  ·rcases Nat.lt_trichotomy j i with h | h | h
   ·have:=nx (j + 1) i (by omega) (by omega)
    omega
   ·exact hnl (h ▸ hl)
   ·have:=nx (i + 1) j (by omega) (by omega)
    omega
 let ι' : bL:=fun β => if (hs i).next ≤ β ∧ β < (hs (i + 1)).next then ι1 β else ι β
 have p1 : ∀ β,(hs i).next ≤ β → β < (hs (i + 1)).next → ι' β = ι1 β:=fun β h1 h2 => if_pos ⟨h1,h2⟩
 have p2 : ∀ β,¬ ((hs i).next ≤ β ∧ β < (hs (i + 1)).next) → ι' β = ι β:=fun β h => if_neg h
 have s1 : gX ι ι':=fun β k e => by
  by_cases h : (hs i).next ≤ β ∧ β < (hs (i + 1)).next
  ·exact absurd e (u1 β k h.1 h.2)
  ·rw [p2 β h]
   exact e
 have s2 : gX ι1 ι':=fun β k e => by
  by_cases h : (hs i).next ≤ β ∧ β < (hs (i + 1)).next
  ·rw [p1 β h.1 h.2]
   exact e
  ·have:=d1 β k e
   rw [p2 β h,← o1 β (by omega)]
   exact e
 have sp : ∀ β k,ι' β = some k → (β < (hs (i + 1)).next ∧ ι1 β = some k) ∨ ((hs (i + 1)).next ≤ β ∧ ι β = some k):=fun β k e => by
  by_cases h : (hs i).next ≤ β ∧ β < (hs (i + 1)).next
  ·rw [p1 β h.1 h.2] at e
   exact .inl ⟨h.2,e⟩
  ·rw [p2 β h] at e
   rcases Nat.lt_or_ge β (hs i).next with g | g
   ·exact .inl ⟨by omega,(o1 β g).trans e⟩
   ·exact .inr ⟨by omega,e⟩
 have lm : ∀ j,d9 listed j → d9 (listed.setIfInBounds i true) j:=fun j h => (dW hsz).2 (.inl h)
 have li : d9 (listed.setIfInBounds i true) i:=(dW hsz).2 (.inr rfl)
 refine ⟨ι',fun k hk => ?_,fun β q e => ?_,fun t => ?_,by rw [f0]; exact I.dfr,I.glb.mono (kl _ s1),by rw [iQ]; exact I.siz,fun j hj => ?_,⟨fun β hb => ?_,fun β k e => ?_⟩,⟨Nat.le_trans I.kep.1 K1.1,fun b hb hob => ?_,K1.2.2.1.trans I.kep.2.2.1,K1.2.2.2.trans I.kep.2.2.2⟩⟩
 ·rcases Nat.lt_or_ge i k with hki | hki
  ·refine (I.rel k hk).above R1 (T.sameLe (by omega) hk) (T.sameLe (by omega) hk) (T.wf _ (by omega)) n12 (kl _ s1) ?_ (e9 (nx i k (by omega) hk) ι) (fun β q e => (cZ e).1) ?_ E1 K1
   ·exact fun β q e => ie (Nat.lt_of_lt_of_le (d1 β q e) (nx (i + 1) k (by omega) hk)) (s2 β q e)
   ·intro β q e
    obtain ⟨g1,g2⟩:=cZ e
    rcases sp β q g2 with g | ⟨g3,g4⟩
    ·exact .inl g
    ·exact .inr ⟨g3,ie g1 g4⟩
  ·have hki':=nx k i hki (by omega)
   have e : jm (hs k).next ι' = jm (hs k).next ι:=funext fun β => by
    unfold jm
    split
    ·exact p2 β (by omega)
    ·rfl
   rw [e]
   exact (I.rel k hk).below R1 (T.sameLe (by omega) (by omega)) (fun β q e => by
    obtain ⟨g1,g2⟩:=cZ e
    rw [o1 β (by omega)]
    exact g2) K1.1
 ·rcases sp β q e with ⟨g1,g2⟩ | ⟨g1,g2⟩
  ·rcases Nat.lt_or_ge β (hs i).next with g | g
   ·rw [o1 β g] at g2
    rcases I.dom β q g2 with h | ⟨j,hj,hl,h3⟩
    ·exact .inl h
    ·exact .inr ⟨j,hj,lm j hl,h3⟩
   ·exact .inr ⟨i,his,li,g,g1⟩
  ·rcases I.dom β q g2 with h | ⟨j,hj,hl,h3⟩
   ·exact .inl h
   ·exact .inr ⟨j,hj,lm j hl,h3⟩
 ·by_cases hd : o.dst = some t
  ·refine .inl ⟨i,o,his,li,ho,hd,?_⟩
   rw [na hd (Nat.lt_of_lt_of_le (hdst t hd) I.siz),hes,hd]
   have : ((aZ (es i) (some t) v).get t).getD undef = v:=by
    show (((es i).set t v).get t).getD undef = v
    rw [Tr.get_set,if_pos rfl]
    rfl
   rw [this]
   exact hvr.mono fun β q e => ie (d1 β q e) (s2 β q e)
  ·rw [lh hd]
   rcases I.tmp t with ⟨j,o',hj,hl,ho',hd',hv⟩ | ⟨hno,hv⟩
   ·exact .inl ⟨j,o',hj,lm j hl,ho',hd',hv.mono (kl _ s1)⟩
   ·refine .inr ⟨fun j o' hl ho' => ?_,hv.mono (kl _ s1)⟩
    rcases (dW hsz).1 hl with hl | rfl
    ·exact hno j o' hl ho'
    ·rw [ho] at ho'
     injection ho' with ho'
     exact ho' ▸ hd
 ·rcases (dW hsz).1 hj with hl | rfl
  ·exact I.low j hl
  ·exact his
 ·rw [p2 β (by omega)]
  exact I.ext.old β hb
 ·rcases sp β k e with ⟨g1,g2⟩ | ⟨g1,g2⟩
  ·rcases E1.img β k g2 with ⟨β0,k0,e0,e1⟩ | hl
   ·rcases I.ext.img β0 k0 (cZ e0).2 with ⟨β1,k1,e2,e3⟩ | hl
    ·exact .inl ⟨β1,k1,e2,e3.trans e1⟩
    ·exact .inr (e1 ▸ hl)
   ·exact .inr (Nat.le_trans I.kep.1 hl)
  ·exact I.ext.img β k g2
 ·refine (K1.2.1 b (Nat.lt_of_lt_of_le hb I.kep.1) ?_).trans (I.kep.2.1 b hb hob)
  rcases hob with hob | hob
  ·exact .inl hob
  ·refine .inr fun β q hq e1 => ?_
   rcases I.ext.img β q (cZ hq).2 with ⟨β0,k0,e2,e3⟩ | hl
   ·exact hob β0 k0 e2 (e3.trans e1)
   ·omega
theorem vY.step (hN : bW P = true) (hcf : bw P G cf) (hfn : cr P cf) (T : rD P cf ops s es hs) (hC : eJ ops.toList = true) (hok : ops.toList.all (cy nt G) = true) (I : vY G nt ops s es hs base ι0 w0 listed ι a w) (hc : yv ops listed)
  {i : Nat} (hi : i ∈ Region.ready .any ops listed) (his : i < s) {K : Act → World → Prop} {Q : Exit → Act → World → Prop}
  (hK : ∀ ι' a' w',vY G nt ops s es hs base ι0 w0 (listed.setIfInBounds i true) ι' a' w' → K a' w') : wpOp P ops Q i K a w:=by
 obtain ⟨o,ho,ho'⟩:=f7 hi
 obtain ⟨hsz,hnl⟩:=cB hi
 have hoo : cy nt G o = true:=List.all_eq_true.1 hok o (List.mem_of_getElem? ho')
 have hstp:=T.stp i o his ho'
 have hrd : ∀ t ∈ iR ops.toList o,aA (jm (hs i).next ι) (((es i).get t).getD undef) (a.tmps.getD t undef):=fun t ht => I.read T hC hc hi his ho' ht
 have R:=I.rel i (by omega)
 have hG : oX G (jm (hs i).next ι):=I.glb.mono (e9 (T.sameLe (Nat.zero_le _) (by omega)).nxt ι)
 unfold wpOp
 rw [ho]
 simp only
 rw [ig hrd]
 unfold eI at hstp
 cases hw : aY ops o (es i) with
 | false =>
  rw [hw] at hstp
  obtain ⟨h1,h2⟩:=Prod.mk.inj (Option.some.inj hstp)
  rw [if_neg (by decide)]
  obtain ⟨ι',I'⟩:=I.next T hnl hsz his ho' (dh hoo) h1.symm (ι1:=jm (hs i).next ι) (w1:=w) aA.undef (h2 ▸ R) (ej.refl _ _ _) (cv.refl _ _ _)
  exact hK ι' _ _ I'
 | true =>
  rw [hw] at hstp
  rw [if_pos rfl]
  left
  have hops : ∀ x ∈ o.op.operands.toList,aA (jm (hs i).next ι) (ev (es i) x) (a.eval x):=fun x hx => by
   have hxo:=List.all_eq_true.1 (hJ hoo) x hx
   cases x with
   | tmp t => exact hrd t (List.mem_append_left _ (gp hx))
   | const v => exact dQ hxo
   | global g =>
    obtain ⟨k,h1,h2,h3⟩:=hG g (Nat.le_of_ble_eq_true hxo)
    exact (bh.ptr _ _ ⟨rfl,rfl,k,h1,h2.symm,by rw [h3]; rfl⟩).v
   | func f => exact (bj.func (.func f) #[] #[] #[] #[] trivial trivial).v
  cases hq : dX o.op with
  | true =>
   rw [hq] at hstp
   obtain ⟨⟨v,h1⟩,hp,hstp⟩:=Option.bind_eq_some_iff.1 hstp
   obtain ⟨h2,h3⟩:=Prod.mk.inj (Option.some.inj hstp)
   refine fZ hN hcf hfn R hG hops hp fun vc ι1 w1 hvr R1 E1 K1 N1 => ?_
   obtain ⟨ι',I'⟩:=I.next T hnl hsz his ho' (dh hoo) h2.symm (ι1:=ι1) (w1:=w1) hvr (h3 ▸ R1) E1 K1
   exact hK ι' _ _ I'
  | false =>
   rw [hq] at hstp
   obtain ⟨⟨v,h1⟩,hp,hstp⟩:=Option.bind_eq_some_iff.1 hstp
   obtain ⟨hb,hstp⟩:=ah hstp
   obtain ⟨h2,h3⟩:=Prod.mk.inj (Option.some.inj hstp)
   refine fZ hN hcf hfn (R.setLow _) hG hops hp fun vc ι1 w1 hvr R1 E1 K1 N1 => ?_
   obtain ⟨ι',I'⟩:=I.next T hnl hsz his ho' (dh hoo) h2.symm (ι1:=ι1) (w1:=w1) hvr (h3 ▸ R1.setLow _) E1 K1
   exact hK ι' _ _ I'
theorem vY.full (T : rD P cf ops s es hs) (hC : eJ ops.toList = true) (I : vY G nt ops s es hs base ι0 w0 listed ι a w) (hall : ∀ j,j < s → d9 listed j) :
  St P G nt (jm (hs s).next ι) base (hs s) w (es s) a ∧ ej (hs 0).next w0 ι0 (jm (hs s).next ι):=by
 have n0:=(T.sameLe (Nat.zero_le s) (Nat.le_refl _)).nxt
 refine ⟨⟨I.rel s (Nat.le_refl _),fun t => ?_,I.dfr,I.glb.mono (e9 n0 ι),I.siz⟩,⟨fun β hb => ?_,fun β k e => I.ext.img β k (cZ e).2⟩⟩
 ·rcases I.tmp t with ⟨j,o',hj,hl,ho',hd,hv⟩ | ⟨hno,hv⟩
  ·have e : (es s).get t = (es (j + 1)).get t:=T.envLe (by omega) (Nat.le_refl _) fun j' o'' h3 h4 e1 e2 => by
    have:=uM hC j j' o' o'' t ho' e1 hd e2
    omega
   rw [e]
   exact hv.mono (e9 (T.sameLe (by omega) (Nat.le_refl _)).nxt ι)
  ·have e : (es s).get t = (es 0).get t:=T.envLe (Nat.zero_le _) (Nat.le_refl _) fun j o' _ h2 e1 e2 => hno j o' (hall j h2) e1 e2
   rw [e]
   exact hv.mono (e9 n0 ι)
 ·show (if β < (hs s).next then ι β else none) = _
  rw [if_pos (by omega)]
  exact I.ext.old β hb
end
theorem oL {b : Builtin} (hb : i7 b = true) (ats : List TypeId) (args : List Value) : ∃ o : Option Value,∀ g,ct P b ats args g = o.map fun v => (v,g):=by
 cases b with
 | max =>
  cases args with
  | nil => exact ⟨none,fun _ => by cases ats <;> rfl⟩
  | cons x r => exact ⟨mA vT x r,fun _ => by cases ats <;> rfl⟩
 | min =>
  cases args with
  | nil => exact ⟨none,fun _ => by cases ats <;> rfl⟩
  | cons x r => exact ⟨mA vU x r,fun _ => by cases ats <;> rfl⟩
 | len =>
  match ats,args with
  | [t],[x] =>
   refine ⟨(P.underlying t).bind fun d => match d,x with
    | .string,.string s => some (.int .i64 s.size)
    | .array n _,_ => some (.int .i64 n)
    | .slice _,.slice _ n _ => some (.int .i64 n)
    | _,_ => none,fun g => ?_⟩
   show ((P.underlying t).bind fun d => match d,x with
    | .string,.string s => some (Value.int .i64 s.size,g)
    | .array n _,_ => some (Value.int .i64 n,g)
    | .slice _,.slice _ n _ => some (Value.int .i64 n,g)
    | _,_ => none) = _
   cases P.underlying t with
   | none => rfl
   | some d => cases d <;> cases x <;> rfl
  | [],_ => exact ⟨none,fun _ => rfl⟩
  | _ :: _ :: _,_ => exact ⟨none,fun _ => rfl⟩
  | [_],[] => exact ⟨none,fun _ => rfl⟩
  | [_],_ :: _ :: _ => exact ⟨none,fun _ => rfl⟩
 | _ => cases hb
theorem ii {o : Op} (ho : dG o = true) {e : Tr Value} {h h1 : AH} {v : Value} (hv : bY P cf o e h = some (v,h1)) : ∀ g,bY P cf o e g = some (v,g):=by
 have m : ∀ {x : Option Value},(x.map fun v => (v,h)) = some (v,h1) → ∀ g : AH,(x.map fun v => (v,g)) = some (v,g):=fun {x} hx g => by
  cases x with
  | none => cases hx
  | some y =>
   obtain ⟨rfl,_⟩:=Prod.mk.inj (Option.some.inj hx)
   rfl
 intro g
 cases o with
 | move x =>
  obtain ⟨rfl,_⟩:=Prod.mk.inj (Option.some.inj hv)
  rfl
 | assign x =>
  obtain ⟨rfl,_⟩:=Prod.mk.inj (Option.some.inj hv)
  rfl
 | pick c a b =>
  unfold bY at hv ⊢
  simp only at hv ⊢
  split at hv
  ·obtain ⟨rfl,_⟩:=Prod.mk.inj (Option.some.inj hv)
   rfl
  ·cases hv
 | nilCheck x =>
  unfold bY at hv ⊢
  simp only at hv ⊢
  split at hv <;> first | cases hv; done | (obtain ⟨rfl,_⟩:=Prod.mk.inj (Option.some.inj hv); rfl)
 | binOp op t x y z => exact m hv g
 | unOp op t x => exact m hv g
 | fieldAddr s x f => exact m hv g
 | field s x f => exact m hv g
 | indexAddr t x i => exact m hv g
 | index t x i => exact m hv g
 | extract x i => exact m hv g
 | call c =>
  have ho : (match c.callee with | .builtin b => i7 b | _ => false) = true:=ho
  have hc : ∃ b,c.callee = .builtin b ∧ i7 b = true:=by
   split at ho
   ·rename_i b hb
    exact ⟨b,hb,ho⟩
   ·cases ho
  obtain ⟨b,hb,hh⟩:=hc
  obtain ⟨q,hq⟩:=oL (P:=P) hh c.argTypes.toList (c.args.toList.map (ev e))
  have hop : ∀ g,bY P cf (.call c) e g = q.map fun v => (v,g):=fun g => by
   rw [← hq g]
   show (match c.callee with | .builtin b => _ | .value f => _ | .invoke _ _ => _) = _
   rw [hb]
  rw [hop] at hv ⊢
  exact m hv g
 | _ => cases ho
def dq (P : Program) (cf : FuncId → List Value → AH → Option (Value × AH)) (ops : Array Oper) (o : Oper) (e : Tr Value) (h : AH) : Option (Tr Value × AH) :=
 cond (aY ops o e) ((bY P cf o.op e h).bind fun p => some (aZ e o.dst p.1,p.2)) (some (aZ e o.dst undef,h))
theorem uN {o : Oper} {e e' : Tr Value} {h h' : AH} (hv : dq P cf ops o e h = some (e',h')) {t : Tmp} (ht : o.dst ≠ some t) : e'.get t = e.get t:=by
 have key : ∀ v,(aZ e o.dst v).get t = e.get t:=fun v => by
  unfold aZ
  split
  ·rename_i d hd
   rw [Tr.get_set,if_neg (fun e => ht (by rw [hd,e]))]
  ·rfl
 unfold dq at hv
 rcases aN hv with hv | hv
 ·obtain ⟨⟨v,h1⟩,hp,hv1⟩:=Option.bind_eq_some_iff.1 hv
  obtain ⟨rfl,_⟩:=Prod.mk.inj (Option.some.inj hv1)
  exact key v
 ·obtain ⟨rfl,_⟩:=Prod.mk.inj (Option.some.inj hv)
  exact key _
theorem jK : ∀ (l : List Oper) {e : Tr Value} {h : AH} {r : Tr Value × AH},cz P cf ops l e h = some r →
  ∃ (es : Nat → Tr Value) (hs : Nat → AH),es 0 = e ∧ hs 0 = h ∧ (∀ (k : Nat) (o : Oper),k < l.length → l[k]? = some o → dq P cf ops o (es k) (hs k) = some (es (k + 1),hs (k + 1))) ∧ r = (es l.length,hs l.length)
 | [],e,h,r,hv => ⟨fun _ => e,fun _ => h,rfl,rfl,fun k _ hk => absurd hk (Nat.not_lt_zero _),(Option.some.inj hv).symm⟩
 | o :: l,e,h,r,hv => by
  have hv' : cond (aY ops o e) ((bY P cf o.op e h).bind fun p => cz P cf ops l (aZ e o.dst p.1) p.2) (cz P cf ops l (aZ e o.dst undef) h) = some r:=hv
  have key : ∃ e1 h1,dq P cf ops o e h = some (e1,h1) ∧ cz P cf ops l e1 h1 = some r:=by
   unfold dq
   cases hw : aY ops o e with
   | true =>
    rw [hw] at hv'
    obtain ⟨⟨v,h1⟩,hp,hv1⟩:=Option.bind_eq_some_iff.1 hv'
    exact ⟨_,_,by rw [cond_true,hp]; rfl,hv1⟩
   | false =>
    rw [hw] at hv'
    exact ⟨_,_,rfl,hv'⟩
  obtain ⟨e1,h1,hs1,hv1⟩:=key
  obtain ⟨es,hs,g1,g2,g3,g4⟩:=jK l hv1
  refine ⟨fun k => match k with | 0 => e | k + 1 => es k,fun k => match k with | 0 => h | k + 1 => hs k,rfl,rfl,fun k o' hk ho' => ?_,g4⟩
  cases k with
  | zero =>
   injection ho' with ho'
   subst ho'
   show dq P cf ops o e h = some (es 0,hs 0)
   rw [g1,g2]
   exact hs1
  | succ k => exact g3 k o' (Nat.lt_of_succ_lt_succ hk) ho'
structure js (P : Program) (cf : FuncId → List Value → AH → Option (Value × AH)) (ops : Array Oper) (s : Nat) (es : Nat → Tr Value) (hs : Nat → AH) : Prop where
 fst : ∀ (k : Nat) (o : Oper),k < s → ops.toList[k]? = some o → eI P cf ops o (es k) (hs k) = some (es (k + 1),hs (k + 1))
 lst : ∀ (k : Nat) (o : Oper),s ≤ k → k < ops.toList.length → ops.toList[k]? = some o → dq P cf ops o (es k) (hs k) = some (es (k + 1),hs (k + 1))
 mld : bm cf
 wf0 : ∀ k,k ≤ s → WF (hs k)
theorem lN (hcf : bm cf) {o : Oper} {e e' : Tr Value} {h h' : AH} (H : WF h) (hv : dq P cf ops o e h = some (e',h')) : bH h h':=by
 unfold dq at hv
 rcases aN hv with hv | hv
 ·obtain ⟨⟨v,h1⟩,hp,hv1⟩:=Option.bind_eq_some_iff.1 hv
  obtain ⟨_,rfl⟩:=Prod.mk.inj (Option.some.inj hv1)
  exact j9 hcf H hp
 ·obtain ⟨_,rfl⟩:=Prod.mk.inj (Option.some.inj hv)
  exact .refl H
theorem js.wf (T : js P cf ops s es hs) : ∀ k,k ≤ ops.toList.length → WF (hs k)
 | 0,_ => T.wf0 0 (Nat.zero_le _)
 | k + 1,hk => by
  rcases Nat.lt_or_ge k s with hl | hl
  ·exact T.wf0 (k + 1) hl
  ·exact (lN T.mld (T.wf k (by omega)) (T.lst k _ hl hk (List.getElem?_eq_getElem hk))).wf
theorem js.nx (T : js P cf ops s es hs) (k : Nat) (o : Oper) (h1 : s ≤ k) (h2 : k < ops.toList.length) (h3 : ops.toList[k]? = some o) : (hs k).next ≤ (hs (k + 1)).next :=
 (lN T.mld (T.wf k (by omega)) (T.lst k o h1 h2 h3)).nxt
theorem js.env (T : js P cf ops s es hs) {t : Tmp} (k : Nat) : ∀ d,k + d ≤ ops.toList.length → (∀ j o,k ≤ j → j < k + d → ops.toList[j]? = some o → o.dst ≠ some t) → (es (k + d)).get t = (es k).get t
 | 0,_,_ => rfl
 | d + 1,hk,hw => by
  have hlt : k + d < ops.toList.length:=by omega
  have ho:=List.getElem?_eq_getElem hlt
  have hd:=hw (k + d) _ (by omega) (by omega) ho
  have h1 : (es (k + d + 1)).get t = (es (k + d)).get t:=by
   rcases Nat.lt_or_ge (k + d) s with hl | hl
   ·exact ph (T.fst (k + d) _ hl ho) hd
   ·exact uN (T.lst (k + d) _ hl hlt ho) hd
  exact h1.trans (T.env k d (by omega) fun j o h1 h2 => hw j o h1 (by omega))
theorem js.envLe (T : js P cf ops s es hs) {t : Tmp} {k k' : Nat} (h : k ≤ k') (h' : k' ≤ ops.toList.length) (hw : ∀ j o,k ≤ j → j < k' → ops.toList[j]? = some o → o.dst ≠ some t) : (es k').get t = (es k).get t:=by
 have:=T.env (t:=t) k (k' - k) (by omega) fun j o h1 h2 => hw j o h1 (by omega)
 rwa [show k + (k' - k) = k' by omega] at this
def Dd (P : Program) (cf : FuncId → List Value → AH → Option (Value × AH)) (ops : Array Oper) (s : Nat) (es : Nat → Tr Value) (hs : Nat → AH) (x : Nat) (o : Oper) : Prop :=
 ∀ p,p = s ∨ p = s + 1 → aY ops o (es x) = true → ∃ v,bY P cf o.op (es x) (hs p) = some (v,hs p) ∧ es (x + 1) = aZ (es x) o.dst v
def HC (P : Program) (G base : Nat) (ops : Array Oper) (s : Nat) (es : Nat → Tr Value) (hs : Nat → AH) (x : Nat) (o : Oper) : Prop :=
 aY ops o (es x) = true ∧ ∃ v,es (x + 1) = aZ (es x) o.dst v ∧ ∀ p,p = s ∨ p = s + 1 → ∀ (ι : bL) (w : World) (a : Act),bV ι base (hs p) w → oX G ι → (∀ y ∈ o.op.operands.toList,aA ι (ev (es x) y) (a.eval y)) →
  (∀ β,(hs x).next ≤ β → β < (hs (x + 1)).next → ι β = none) → ∀ (next : Act → World → Prop) (Q : Exit → Act → World → Prop),
  (∀ vc ι1 w1,aA ι1 v vc → bV ι1 base (hs p) w1 → gX ι ι1 → ej (hs 0).next w ι ι1 → (∀ β,ι1 β = ι β ∨ ((hs x).next ≤ β ∧ β < (hs (x + 1)).next)) → cv base ι w w1 → next (a.put o.dst vc) w1) → o.wp P a w next Q
def nb (P : Program) (cf : FuncId → List Value → AH → Option (Value × AH)) (G base : Nat) (ops : Array Oper) (s : Nat) (es : Nat → Tr Value) (hs : Nat → AH) : Prop :=
 ∀ j,s ≤ j → j < ops.toList.length → ∀ x,x < j → x ∈ zj ops j ∨ (x < s ∧ ∃ o,ops.toList[x]? = some o ∧ (dG o.op = true ∨ (j = s ∧ (Dd P cf ops s es hs x o ∨ HC P G base ops s es hs x o))))
structure rV (P : Program) (cf : FuncId → List Value → AH → Option (Value × AH)) (G nt : Nat) (ops : Array Oper) (s p : Nat) (es : Nat → Tr Value) (hs : Nat → AH) (base : Nat) (ι0 : bL) (w0 : World) (listed : Array Bool) (ι : bL) (a : Act) (w : World) : Prop where
 rel : bV ι base (hs p) w
 tmp : ∀ t,(∃ j o,d9 listed j ∧ ops.toList[j]? = some o ∧ o.dst = some t ∧ aA ι (((es (j + 1)).get t).getD undef) (a.tmps.getD t undef)) ∨
  ((∀ j o,d9 listed j → ops.toList[j]? = some o → o.dst ≠ some t) ∧ aA ι (((es 0).get t).getD undef) (a.tmps.getD t undef))
 dfr : a.defers = []
 glb : oX G ι
 siz : nt ≤ a.tmps.size
 low : ∀ j,d9 listed j → j < p
 pen : ∀ j o,j < p → ops.toList[j]? = some o → ¬ d9 listed j → j < s ∧ (dG o.op = true ∨ ((p = s ∨ p = s + 1) ∧ (Dd P cf ops s es hs j o ∨ HC P G base ops s es hs j o)))
 ext : ej (hs 0).next w0 ι0 ι
 kep : cv base ι0 w0 w
 nxt : (hs 0).next ≤ (hs p).next
 nxs : (hs s).next ≤ (hs p).next
 mon : ∀ j,j < s → (hs j).next ≤ (hs (j + 1)).next ∧ (hs (j + 1)).next ≤ (hs s).next
 flo : ∀ j,j < s → ¬ d9 listed j → ∀ β,(hs j).next ≤ β → β < (hs (j + 1)).next → ι β = none
section
variable {base p : Nat} {ι0 ι : bL} {w0 w : World} {listed : Array Bool} {a : Act}
theorem rV.read (T : js P cf ops s es hs) (hC : eJ ops.toList = true) (I : rV P cf G nt ops s p es hs base ι0 w0 listed ι a w) (hc : yv ops listed) {i : Nat} (hi : i ∈ Region.ready .any ops listed) {o : Oper} (ho : ops.toList[i]? = some o)
  {t : Tmp} (ht : t ∈ iR ops.toList o) : aA ι (((es i).get t).getD undef) (a.tmps.getD t undef):=by
 have hil:=(List.getElem?_eq_some_iff.1 ho).1
 have hsure:=Ff hC ho ht
 rcases I.tmp t with ⟨j,o',hl,ho',hd,hv⟩ | ⟨hno,hv⟩
 ·have hjl:=(List.getElem?_eq_some_iff.1 ho').1
  rcases hsure j o' ho' hd with rfl | ⟨h1,_⟩ | ⟨_,h2⟩
  ·exact absurd hl (cB hi).2
  ·have e : (es i).get t = (es (j + 1)).get t:=T.envLe (by omega) (by omega) fun j' o'' h3 h4 e1 e2 => by
    have:=uM hC j j' o' o'' t ho' e1 hd e2
    omega
   rw [e]
   exact hv
  ·exact absurd (hc j hl i h2) (cB hi).2
 ·have e : (es i).get t = (es 0).get t:=T.envLe (Nat.zero_le _) (by omega) fun j o' _ h2 e1 e2 => by
   rcases hsure j o' e1 e2 with rfl | ⟨_,h3⟩ | ⟨h3,_⟩
   ·omega
   ·exact hno j o' (dJ hc hi j h3) e1 e2
   ·omega
  rw [e]
  exact hv
theorem rV.next (I : rV P cf G nt ops s p es hs base ι0 w0 listed ι a w) {i p' : Nat} (hsz : i < listed.size) {o : Oper} (ho : ops.toList[i]? = some o) (hdst : ∀ t,o.dst = some t → t < nt)
  {v vc : Value} (hes : es (i + 1) = aZ (es i) o.dst v) {ι1 : bL} {w1 : World} (hvr : aA ι1 v vc) (R1 : bV ι1 base (hs p') w1) (s1 : gX ι ι1) (E1 : ej (hs 0).next w ι ι1) (F1 : ∀ β,β < (hs s).next → ι1 β = ι β ∨ (i < s ∧ (hs i).next ≤ β ∧ β < (hs (i + 1)).next)) (K1 : cv base ι w w1) (N1 : (hs p).next ≤ (hs p').next)
  (hip : i < p') (hpp : p ≤ p') (hpen : ∀ j,p ≤ j → j < p' → j = i) (hpn : p' = p ∨ ∀ j o,j < p → ops.toList[j]? = some o → ¬ d9 listed j → dG o.op = true ∨ (p = s ∧ p' = s + 1)) : rV P cf G nt ops s p' es hs base ι0 w0 (listed.setIfInBounds i true) ι1 (a.put o.dst vc) w1:=by
 have lm : ∀ j,d9 listed j → d9 (listed.setIfInBounds i true) j:=fun j h => (dW hsz).2 (.inl h)
 have li : d9 (listed.setIfInBounds i true) i:=(dW hsz).2 (.inr rfl)
 refine ⟨R1,fun t => ?_,by rw [f0]; exact I.dfr,I.glb.mono s1,by rw [iQ]; exact I.siz,fun j hj => ?_,fun j o' hj ho' hnl => ?_,I.ext.trans E1 (Nat.le_refl _) I.kep.1,I.kep.trans I.ext K1,Nat.le_trans I.nxt N1,Nat.le_trans I.nxs N1,I.mon,fun j hj hnl β h1 h2 => ?_⟩
 ·by_cases hd : o.dst = some t
  ·refine .inl ⟨i,o,li,ho,hd,?_⟩
   rw [na hd (Nat.lt_of_lt_of_le (hdst t hd) I.siz),hes,hd]
   have : ((aZ (es i) (some t) v).get t).getD undef = v:=by
    show (((es i).set t v).get t).getD undef = v
    rw [Tr.get_set,if_pos rfl]
    rfl
   rw [this]
   exact hvr
  ·rw [lh hd]
   rcases I.tmp t with ⟨j,o',hl,ho',hd',hv⟩ | ⟨hno,hv⟩
   ·exact .inl ⟨j,o',lm j hl,ho',hd',hv.mono s1⟩
   ·refine .inr ⟨fun j o' hl ho' => ?_,hv.mono s1⟩
    rcases (dW hsz).1 hl with hl | rfl
    ·exact hno j o' hl ho'
    ·rw [ho] at ho'
     injection ho' with ho'
     exact ho' ▸ hd
 ·rcases (dW hsz).1 hj with hl | rfl
  ·exact Nat.lt_of_lt_of_le (I.low j hl) hpp
  ·exact hip
 ·have hnl' : ¬ d9 listed j:=fun h => hnl (lm j h)
  rcases Nat.lt_or_ge j p with hl | hl
  ·obtain ⟨q1,q2⟩:=I.pen j o' hl ho' hnl'
   refine ⟨q1,?_⟩
   rcases hpn with rfl | hpn
   ·exact q2
   ·rcases q2 with q2 | ⟨_,q3⟩
    ·exact .inl q2
    ·rcases hpn j o' hl ho' hnl' with q4 | ⟨_,q5⟩
     ·exact .inl q4
     ·exact .inr ⟨.inr q5,q3⟩
  ·exact absurd li (hpen j hl hj ▸ hnl)
 ·have hnl' : ¬ d9 listed j:=fun h => hnl (lm j h)
  have hm:=I.mon j hj
  rcases F1 β (by omega) with e | ⟨h3,h4,h5⟩
  ·rw [e]
   exact I.flo j hj hnl' β h1 h2
  ·exfalso
   have hij : j ≠ i:=fun e => hnl (e ▸ li)
   have chain : ∀ x d,x + d < s → (hs (x + 1)).next ≤ (hs (x + 1 + d)).next:=fun x d => by
    induction d with
    | zero => exact fun _ => Nat.le_refl _
    | succ d ih =>
     intro hd
     have:=(I.mon (x + 1 + d) (by omega)).1
     have:=ih (by omega)
     show (hs (x + 1)).next ≤ (hs (x + 1 + d + 1)).next
     omega
   rcases Nat.lt_or_ge i j with hl | hl
   ·have:=chain i (j - i - 1) (by omega)
    rw [show i + 1 + (j - i - 1) = j by omega] at this
    omega
   ·have:=chain j (i - j - 1) (by omega)
    rw [show j + 1 + (i - j - 1) = i by omega] at this
    omega
theorem rV.done (T : js P cf ops s es hs) (hC : eJ ops.toList = true) (I : rV P cf G nt ops s p es hs base ι0 w0 listed ι a w) (hp : p ≤ ops.toList.length) (hall : ∀ j,j < ops.size → d9 listed j) : eH P G nt ι0 base (hs 0) w0 (es ops.toList.length) (hs ops.toList.length) a w:=by
 have hpe : p = ops.toList.length:=by
  rcases Nat.lt_or_ge p ops.toList.length with hl | hl
  ·have:=I.low p (hall p (by rw [← Array.length_toList]; exact hl))
   omega
  ·omega
 subst hpe
 refine ⟨ι,⟨I.rel,fun t => ?_,I.dfr,I.glb,I.siz⟩,I.ext,I.kep,I.nxt⟩
 rcases I.tmp t with ⟨j,o',hl,ho',hd,hv⟩ | ⟨hno,hv⟩
 ·have hjl:=(List.getElem?_eq_some_iff.1 ho').1
  have e : (es ops.toList.length).get t = (es (j + 1)).get t:=T.envLe (by omega) (Nat.le_refl _) fun j' o'' h3 h4 e1 e2 => by
   have:=uM hC j j' o' o'' t ho' e1 hd e2
   omega
  rw [e]
  exact hv
 ·have e : (es ops.toList.length).get t = (es 0).get t:=T.envLe (Nat.zero_le _) (Nat.le_refl _) fun j o' _ h2 e1 e2 => hno j o' (hall j (by rw [← Array.length_toList]; exact h2)) e1 e2
  rw [e]
  exact hv
end
theorem rW (hN : bW P = true) (hcf : bw P G cf) (hfn : cr P cf) (hC : eJ ops.toList = true) (hok : ops.toList.all (cy nt G) = true) {base : Nat} {ι0 : bL} {w0 : World} {Q : Exit → Act → World → Prop} (T : js P cf ops s es hs) (ht : nb P cf G base ops s es hs)
  (hq : ∀ a' w',eH P G nt ι0 base (hs 0) w0 (es ops.toList.length) (hs ops.toList.length) a' w' → Q .normal a' w') :
  ∀ (fuel p : Nat) {listed : Array Bool} {ι : bL} {w : World} {a : Act},listed.size = ops.size → vW listed.toList ≤ fuel → yv ops listed → s ≤ p → p ≤ ops.toList.length → rV P cf G nt ops s p es hs base ι0 w0 listed ι a w → wpAny P .any ops Q fuel listed a w:=by
 intro fuel
 induction fuel with
 | zero =>
  intro p listed ι w a hz hc hcl hsp hpl I
  have hall:=mq hz (by omega)
  exact ⟨pg hall,hq a w (I.done T hC hpl hall)⟩
 | succ fuel ih =>
  intro p listed ι w a hz hc hcl hsp hpl I
  refine ⟨fun hr => hq a w (I.done T hC hpl (ib hz (Dc hC) hr)),fun i hi => ?_⟩
  obtain ⟨o,ho,ho'⟩:=f7 hi
  obtain ⟨hsz,hnl⟩:=cB hi
  have hil:=(List.getElem?_eq_some_iff.1 ho').1
  have hoo : cy nt G o = true:=List.all_eq_true.1 hok o (List.mem_of_getElem? ho')
  have hrd : ∀ t ∈ iR ops.toList o,aA ι (((es i).get t).getD undef) (a.tmps.getD t undef):=fun t ht' => I.read T hC hcl hi ho' ht'
  have hz' : (listed.setIfInBounds i true).size = ops.size:=by rw [Array.size_setIfInBounds]; exact hz
  have hops : ∀ x ∈ o.op.operands.toList,aA ι (ev (es i) x) (a.eval x):=fun x hx => by
   have hxo:=List.all_eq_true.1 (hJ hoo) x hx
   cases x with
   | tmp t => exact hrd t (List.mem_append_left _ (gp hx))
   | const v => exact dQ hxo
   | global g =>
    obtain ⟨k,h1,h2,h3⟩:=I.glb g (Nat.le_of_ble_eq_true hxo)
    exact (bh.ptr _ _ ⟨rfl,rfl,k,h1,h2.symm,by rw [h3]; rfl⟩).v
   | func f => exact (bj.func (.func f) #[] #[] #[] #[] trivial trivial).v
  have cont : ∀ p',i < p' → p ≤ p' → p' ≤ ops.toList.length → (∀ j,p ≤ j → j < p' → j = i) → (p' = p ∨ ∀ j o,j < p → ops.toList[j]? = some o → ¬ d9 listed j → dG o.op = true ∨ (p = s ∧ p' = s + 1)) → (hs p).next ≤ (hs p').next →
    (aY ops o (es i) = false → es (i + 1) = aZ (es i) o.dst undef ∧ hs p' = hs p) → (aY ops o (es i) = true → ∃ v,bY P cf o.op (es i) (hs p) = some (v,hs p') ∧ es (i + 1) = aZ (es i) o.dst v) →
    wpOp P ops Q i (fun a' w' => wpAny P .any ops Q fuel (listed.setIfInBounds i true) a' w') a w:=fun p' hip hpp hpl' hpen hpn hnx hw0 hw1 => by
   unfold wpOp
   rw [ho]
   simp only
   rw [ig hrd]
   cases hw : aY ops o (es i) with
   | false =>
    obtain ⟨g1,g2⟩:=hw0 hw
    rw [if_neg (by decide)]
    exact ih p' hz' (ga hi hc) (f9 hcl hi) (by omega) hpl' (I.next hsz ho' (dh hoo) g1 (ι1:=ι) (w1:=w) aA.undef (g2 ▸ I.rel) (fun _ _ h => h) (ej.refl _ _ _) (fun _ _ => .inl rfl) (cv.refl _ _ _) hnx hip hpp hpen hpn)
   | true =>
    obtain ⟨v,g1,g2⟩:=hw1 hw
    rw [if_pos rfl]
    left
    refine fZ hN hcf hfn I.rel I.glb hops g1 fun vc ι1 w1 hvr R1 E1 K1 N1 => ?_
    exact ih p' hz' (ga hi hc) (f9 hcl hi) (by omega) hpl' (I.next hsz ho' (dh hoo) g2 hvr R1 (E1.sub fun β k e => (I.rel.dom β k e).1) ⟨fun β hb => E1.old β (Nat.lt_of_lt_of_le hb I.nxt),E1.img⟩ (fun β hb => .inl (E1.old β (Nat.lt_of_lt_of_le hb I.nxs))) K1 N1 hip hpp hpen hpn)
  rcases Nat.lt_or_ge i p with hip | hip
  ·obtain ⟨his,hfree⟩:=I.pen i o hip ho' hnl
   have hst:=T.fst i o his ho'
   unfold eI at hst
   by_cases hflo : (p = s ∨ p = s + 1) ∧ HC P G base ops s es hs i o
   ·obtain ⟨hps,hw,v,g2,hlate⟩:=hflo
    unfold wpOp
    rw [ho]
    simp only
    rw [ig hrd,hw,if_pos rfl]
    left
    refine hlate p hps ι w a I.rel I.glb hops (I.flo i his hnl) _ _ fun vc ι1 w1 hvr R1 s1 E1 F1 K1 => ?_
    exact ih p hz' (ga hi hc) (f9 hcl hi) hsp hpl (I.next hsz ho' (dh hoo) g2 hvr R1 s1 E1 (fun β _ => (F1 β).imp_right fun q => ⟨his,q⟩) K1 (Nat.le_refl _) hip (Nat.le_refl _) (fun j h1 h2 => absurd h2 (by omega)) (.inl rfl))
   refine cont p hip (Nat.le_refl _) hpl (fun j h1 h2 => absurd h2 (by omega)) (.inl rfl) (Nat.le_refl _) (fun hw => ?_) (fun hw => ?_)
   ·rw [hw] at hst
    obtain ⟨h1,_⟩:=Prod.mk.inj (Option.some.inj hst)
    exact ⟨h1.symm,rfl⟩
   ·rcases hfree with hfree | ⟨hps,hsafe⟩
    rotate_left
    ·rcases hsafe with hsafe | hsafe
     ·exact hsafe p hps hw
     ·exact absurd ⟨hps,hsafe⟩ hflo
    rw [hw] at hst
    have key : ∃ v h1 h2,bY P cf o.op (es i) h1 = some (v,h2) ∧ es (i + 1) = aZ (es i) o.dst v:=by
     cases hqo : dX o.op with
     | true =>
      rw [hqo] at hst
      obtain ⟨⟨v,h1⟩,hp,hst⟩:=Option.bind_eq_some_iff.1 hst
      obtain ⟨h2,_⟩:=Prod.mk.inj (Option.some.inj hst)
      exact ⟨v,_,h1,hp,h2.symm⟩
     | false =>
      rw [hqo] at hst
      obtain ⟨⟨v,h1⟩,hp,hst⟩:=Option.bind_eq_some_iff.1 hst
      obtain ⟨hb,hst⟩:=ah hst
      obtain ⟨h2,_⟩:=Prod.mk.inj (Option.some.inj hst)
      exact ⟨v,_,h1,hp,h2.symm⟩
    obtain ⟨v,h1,h2,g1,g2⟩:=key
    exact ⟨v,ii hfree g1 (hs p),g2⟩
  ·have hie : i = p:=by
    rcases Nat.lt_or_ge p i with hl | hl
    ·rcases ht i (by omega) hil p hl with h1 | ⟨h1,_⟩
     ·exact absurd (I.low p (dJ hcl hi p h1)) (Nat.lt_irrefl _)
     ·omega
    ·omega
   subst hie
   have hst:=T.lst i o hsp hil ho'
   unfold dq at hst
   have hnx : (hs i).next ≤ (hs (i + 1)).next ∨ True:=.inr trivial
   have h0 : aY ops o (es i) = false → es (i + 1) = aZ (es i) o.dst undef ∧ hs (i + 1) = hs i:=fun hw => by
    rw [hw] at hst
    obtain ⟨h1,h2⟩:=Prod.mk.inj (Option.some.inj hst)
    exact ⟨h1.symm,h2.symm⟩
   have h1 : aY ops o (es i) = true → ∃ v,bY P cf o.op (es i) (hs i) = some (v,hs (i + 1)) ∧ es (i + 1) = aZ (es i) o.dst v:=fun hw => by
    rw [hw] at hst
    obtain ⟨⟨v,h1⟩,hp,hst⟩:=Option.bind_eq_some_iff.1 hst
    obtain ⟨h2,h3⟩:=Prod.mk.inj (Option.some.inj hst)
    refine ⟨v,?_,h2.symm⟩
    rw [hp]
    exact congrArg (fun x => some (v,x)) h3
   have hnx : (hs i).next ≤ (hs (i + 1)).next:=T.nx i o hsp hil ho'
   refine cont (i + 1) (by omega) (by omega) (by omega) (fun j h1 h2 => by omega) (.inr fun j o2 hj ho2 hnl2 => ?_) hnx h0 h1
   rcases ht i hsp hil j hj with h3 | ⟨_,o3,h4,h5 | ⟨h5,_⟩⟩
   ·exact absurd (dJ hcl hi j h3) hnl2
   ·rw [ho2] at h4
    injection h4 with h4
    exact .inl (h4 ▸ h5)
   ·exact .inr ⟨h5,by rw [h5]⟩
theorem nf {t i : Nat} : ∀ (l : List Oper) (x : Nat),Ez t i x l = true → ∀ k o,l[k]? = some o → x + k < i → o.dst ≠ some t
 | [],_,_,_,_,h,_ => by cases h
 | o :: l,x,h,k,o1,e1,hk => by
  unfold Ez at h
  rw [Bool.and_eq_true] at h
  cases k with
  | zero =>
   injection e1 with e1
   subst e1
   rcases Bool.or_eq_true _ _ ▸ h.1 with h1 | h1
   ·exact absurd (Nat.le_of_ble_eq_true h1) (by omega)
   ·intro e
    rw [e] at h1
    have h1 : (!(Nat.beq t t)) = true:=h1
    rw [Nat.beq_refl] at h1
    cases h1
  | succ k => exact nf l (x + 1) h.2 k o1 e1 (by omega)
theorem ng {e : Tr Value} {g0 : AH} {g m i : Nat} : ∀ (l : List Oper) (x : Nat),oU e g0 g m i x l = true → ∀ k o,l[k]? = some o → x + k < i → Nat.testBit m (x + k) = true ∨
  ∀ t τ,o.op = .load t (.tmp τ) → Ez τ i (x + k) (l.drop k) = true ∧ ∃ g',iB g0 (e.get τ) = some g' ∧ g' ≠ g
 | [],_,_,_,_,h,_ => by cases h
 | o :: l,x,h,k,o1,e1,hk => by
  unfold oU at h
  rw [Bool.and_eq_true] at h
  cases k with
  | zero =>
   injection e1 with e1
   subst e1
   rcases Bool.or_eq_true _ _ ▸ h.1 with h1 | h1
   ·exact absurd (Nat.le_of_ble_eq_true h1) (by omega)
   ·rcases Bool.or_eq_true _ _ ▸ h1 with h2 | h2
    ·exact .inl (gJ h2)
    ·refine .inr fun t τ ho => ?_
     rw [ho] at h2
     have h2 : (Ez τ i x (o :: l) && Ey g (iB g0 (e.get τ))) = true:=h2
     rw [Bool.and_eq_true] at h2
     refine ⟨h2.1,?_⟩
     have h3:=h2.2
     cases hg : iB g0 (e.get τ) with
     | none => rw [hg] at h3; cases h3
     | some g' =>
      rw [hg] at h3
      refine ⟨g',rfl,fun e => ?_⟩
      subst e
      have h3 : (!(Nat.beq g' g')) = true:=h3
      rw [Nat.beq_refl] at h3
      cases h3
  | succ k =>
   have:=ng l (x + 1) h.2 k o1 e1 (by omega)
   rwa [show x + 1 + k = x + (k + 1) by omega] at this
theorem gv (ops : List Oper) : ∀ (n x : Nat),Nat.testBit (fT ops n) x = true → x < n ∧ ∃ o t τ,ops[x]? = some o ∧ o.op = .load t (.tmp τ)
 | 0,x,h => by
  unfold fT at h
  rw [Nat.zero_testBit] at h
  cases h
 | n + 1,x,h => by
  unfold fT at h
  cases hb : loadAt ops n with
  | false =>
   rw [hb] at h
   obtain ⟨h1,h2⟩:=gv ops n x h
   exact ⟨Nat.lt_succ_of_lt h1,h2⟩
  | true =>
   rw [hb] at h
   have h : Nat.testBit (1 <<< n ||| fT ops n) x = true:=h
   rw [Nat.testBit_or,Bool.or_eq_true] at h
   rcases h with h | h
   ·rw [Nat.one_shiftLeft,Nat.testBit_two_pow] at h
    obtain rfl:=of_decide_eq_true h
    refine ⟨Nat.lt_succ_self _,?_⟩
    unfold loadAt at hb
    cases e : ops[n]? with
    | none => rw [e] at hb; cases hb
    | some o =>
     rw [e] at hb
     have hb : oT o.op = true:=hb
     unfold oT at hb
     split at hb
     ·rename_i t τ ho
      exact ⟨o,t,τ,rfl,ho⟩
     ·cases hb
   ·obtain ⟨h1,h2⟩:=gv ops n x h
    exact ⟨Nat.lt_succ_of_lt h1,h2⟩
theorem jt (fm lm i : Nat) : ∀ (l : List Nat) (n : Nat),j1 fm lm i n l = true → ∀ j,j < l.length → i ≤ n + j → ∀ x,x < n + j → Nat.testBit ((l[j]?).getD 0) x = true ∨ Nat.testBit fm x = true ∨ (n + j = i ∧ Nat.testBit lm x = true)
 | [],_,_,_,h,_,_,_ => absurd h (Nat.not_lt_zero _)
 | m :: r,n,h,j,hj,hi,x,hx => by
  unfold j1 at h
  rw [Bool.and_eq_true] at h
  cases j with
  | zero =>
   rcases Bool.or_eq_true _ _ ▸ h.1 with h1 | h1
   ·exact absurd (Nat.le_of_ble_eq_true h1) (by omega)
   ·have:=mZ h1 x hx
    rw [bN] at this
    split at this
    ·rename_i he
     have this : Nat.testBit (m ||| (fm ||| lm)) x = true:=this
     rw [Nat.testBit_or,Nat.testBit_or,Bool.or_eq_true,Bool.or_eq_true] at this
     rcases this with t | t | t
     ·exact .inl t
     ·exact .inr (.inl t)
     ·exact .inr (.inr ⟨he,t⟩)
    ·have this : Nat.testBit (m ||| fm) x = true:=this
     rw [Nat.testBit_or,Bool.or_eq_true] at this
     exact this.imp_right .inl
  | succ j =>
   have:=jt fm lm i r (n + 1) h.2 j (by simpa using hj) (by omega) x (by omega)
   rwa [show n + 1 + j = n + (j + 1) by omega] at this
theorem zv {h h' : AH} {β : Nat} {b : bT} {cs : List Value} (hr : h.rd β = some b) (hw : h.wr β b cs = some h') {γ : Nat} {c : bT} (hc : h.rd γ = some c) (hg : c.grp ≠ b.grp) : h'.rd γ = some c:=by
 obtain ⟨_,_,h3,h4,_⟩:=dP hr hw
 obtain ⟨q1,q2⟩:=aR hc
 have hne : γ ≠ β:=fun e => by
  subst e
  rw [(aR hr).1] at q1
  injection q1 with q1
  exact hg (by rw [← q1])
 refine dp (by rw [h3,if_neg hne]; exact q1) ?_
 show γ ∈ (h'.grps.get c.grp).getD [c.grp]
 rw [h4 _ hg]
 exact q2
theorem nh {t : TypeId} {a : Addr} {h h' : AH} {v : Value} (hv : cK P t (.pointer (some a)) h = some v) (hr : ∀ b,h.rd a.block = some b → h'.rd a.block = some b) : cK P t (.pointer (some a)) h' = some v:=by
 obtain ⟨b,hb,hv⟩:=Option.bind_eq_some_iff.1 hv
 show (h'.rd a.block).bind _ = _
 rw [hr b hb]
 exact hv
theorem zw (T : js P cf ops s es hs) (hsm : ∀ x,x ≤ s → f4 (hs x) (hs s)) (hwf : ∀ x,x ≤ s → WF (hs x)) (ht : s = ops.toList.length ∨ dO ops.toList s (es s) (hs s) = true) {G base : Nat} : nb P cf G base ops s es hs:=by
 intro j hsj hj x hx
 rcases ht with ht | ht
 ·omega
 unfold dO at ht
 rcases Bool.or_eq_true _ _ ▸ ht with ht | ht
 ·rcases rT ht j hj hsj x hx with h1 | ⟨h1,o,h2,h3⟩
  ·exact .inl h1
  ·exact .inr ⟨h1,o,h2,.inl h3⟩
 ·rw [Bool.and_eq_true] at ht
  obtain ⟨hS,hD⟩:=ht
  unfold mE at hS
  rw [Bool.and_eq_true] at hS
  have hm:=eA ops.toList MB.nil
  have hl : (dj ops.toList []).length = ops.toList.length:=eK ops.toList []
  rcases jt _ _ _ _ 0 hS.2 j (by rw [hm.1,hl]; exact hj) (by omega) x (by omega) with h1 | h1 | ⟨h0,h1⟩
  ·exact .inl (hm.2 j x h1)
  ·obtain ⟨q1,o,q2,q3⟩:=d8 _ _ _ h1
   exact .inr ⟨q1,o,q2,.inl q3⟩
  ·rw [Nat.zero_add] at h0
   subst h0
   obtain ⟨q1,o,t,τ,q2,q3⟩:=gv _ _ _ h1
   unfold CU at hD
   cases hst : storeAt ops.toList j with
   | none => rw [hst] at hD; cases hD
   | some d =>
    rw [hst] at hD
    simp only at hD
    cases hg : iB (hs j) ((es j).get d) with
    | none => rw [hg] at hD; cases hD
    | some g =>
     rw [hg] at hD
     simp only at hD
     rcases ng ops.toList 0 hD x o q2 (by omega) with r1 | r1
     ·rw [Nat.zero_add] at r1
      exact .inl (hm.2 j x r1)
     refine .inr ⟨q1,o,q2,.inr ⟨rfl,.inl fun p hp hw => ?_⟩⟩
     obtain ⟨r2,g',r3,r4⟩:=r1 t τ q3
     have he : (es j).get τ = (es x).get τ:=T.envLe (by omega) (by omega) fun k o' hk1 hk2 ho' =>
      nf _ _ r2 (k - x) o' (by rw [List.getElem?_drop,show x + (k - x) = k by omega]; exact ho') (by omega)
     rw [he] at r3
     obtain ⟨a,ha,b',hb',hgb⟩ : ∃ a,(es x).get τ = some (.pointer (some a)) ∧ ∃ b',(hs j).blks.get a.block = some b' ∧ b'.grp = g':=by
      unfold iB at r3
      split at r3
      ·rename_i a ha
       obtain ⟨b',q4,q5⟩:=Option.map_eq_some_iff.1 r3
       exact ⟨a,ha,b',q4,q5⟩
      ·cases r3
     have hstx:=T.fst x o q1 q2
     unfold eI at hstx
     have hqo : dX o.op = true:=by rw [q3]; rfl
     rw [hw,hqo] at hstx
     obtain ⟨⟨v,h1'⟩,hp1,hst2⟩:=Option.bind_eq_some_iff.1 hstx
     obtain ⟨hp2,_⟩:=Prod.mk.inj (Option.some.inj hst2)
     have hev : ev (es x) (.tmp τ) = .pointer (some a):=by
      show ((es x).get τ).getD undef = _
      rw [ha]
      rfl
     have hld : ∀ g : AH,bY P cf o.op (es x) g = (cK P t (.pointer (some a)) g).map fun v => (v,g):=fun g => by
      rw [q3]
      show (cK P t (ev (es x) (.tmp τ)) g).map _ = _
      rw [hev]
     rw [hld] at hp1
     obtain ⟨v',hv1,hv2⟩:=Option.map_eq_some_iff.1 hp1
     obtain ⟨rfl,_⟩:=Prod.mk.inj hv2
     have hrd : ∀ b,(hs x).rd a.block = some b → (hs j).rd a.block = some b:=fun b hb =>
      (mr (hwf x (by omega)) (hsm x (by omega)) ((hwf x (by omega)).lt (aR hb).1)).2 hb
     have hvs:=nh hv1 hrd
     refine ⟨v',?_,hp2.symm⟩
     rcases hp with rfl | rfl
     ·rw [hld,hvs]
      rfl
     ·-- behind the store
      obtain ⟨os,hos,hstd⟩ : ∃ os,ops.toList[j]? = some os ∧ ∃ t' vo,os.op = .store t' (.tmp d) vo:=by
       unfold storeAt at hst
       split at hst
       ·rename_i os hos
        split at hst
        ·rename_i t' d' vo hop
         injection hst with hst
         subst hst
         exact ⟨os,hos,t',vo,hop⟩
        ·cases hst
       ·cases hst
      obtain ⟨t',vo,hop⟩:=hstd
      have hl2:=T.lst j os (Nat.le_refl _) hj hos
      unfold dq at hl2
      have : cK P t (.pointer (some a)) (hs (j + 1)) = some v':=by
       rcases aN hl2 with hl2 | hl2
       ·obtain ⟨⟨v2,h2⟩,hp3,hst3⟩:=Option.bind_eq_some_iff.1 hl2
        obtain ⟨_,e2⟩:=Prod.mk.inj (Option.some.inj hst3)
        rw [hop] at hp3
        have hp3 : (dY P t' (ev (es j) (.tmp d)) (ev (es j) vo) (hs j)).map (fun h' => (undef,h')) = some (v2,h2):=hp3
        obtain ⟨h3,hs3,e3⟩:=Option.map_eq_some_iff.1 hp3
        obtain ⟨_,rfl⟩:=Prod.mk.inj e3
        have e2 : h3 = hs (j + 1):=e2
        subst e2
        have hevd : ∃ ad,(es j).get d = some (.pointer (some ad)) ∧ ∃ bd,(hs j).blks.get ad.block = some bd ∧ bd.grp = g:=by
         unfold iB at hg
         split at hg
         ·rename_i ad had
          obtain ⟨bd,q4,q5⟩:=Option.map_eq_some_iff.1 hg
          exact ⟨ad,had,bd,q4,q5⟩
         ·cases hg
        obtain ⟨ad,had,bd,hbd,hgd⟩:=hevd
        have hevd : ev (es j) (.tmp d) = .pointer (some ad):=by
         show ((es j).get d).getD undef = _
         rw [had]
         rfl
        rw [hevd] at hs3
        unfold dY at hs3
        obtain ⟨b2,hb2,hs3⟩:=Option.bind_eq_some_iff.1 hs3
        obtain ⟨sz,_,hs3⟩:=Option.bind_eq_some_iff.1 hs3
        obtain ⟨vs,_,hs3⟩:=Option.bind_eq_some_iff.1 hs3
        split at hs3
        ·obtain ⟨_,hs3⟩:=ah hs3
         refine nh hvs fun b hb => zv hb2 hs3 hb ?_
         have e4 : b = b':=Option.some.inj ((aR hb).1.symm.trans hb')
         have e5 : b2 = bd:=Option.some.inj ((aR hb2).1.symm.trans hbd)
         rw [e4,e5,hgb,hgd]
         exact r4
        ·cases hs3
       ·obtain ⟨_,e2⟩:=Prod.mk.inj (Option.some.inj hl2)
        rw [← e2]
        exact hvs
      rw [hld,this]
      rfl
theorem zx (hN : bW P = true) (hcf : bw P G cf) (hfn : cr P cf) (hC : eJ ops.toList = true) (hok : ops.toList.all (cy nt G) = true) {base : Nat} {Q : Exit → Act → World → Prop} (T : rD P cf ops s es hs) (ht : s = ops.toList.length ∨ dO ops.toList s (es s) (hs s) = true)
  {e' : Tr Value} {h' : AH} (hv : cz P cf ops (ops.toList.drop s) (es s) (hs s) = some (e',h')) {ι0 : bL} {w0 : World} (hq : ∀ a' w',eH P G nt ι0 base (hs 0) w0 e' h' a' w' → Q .normal a' w') :
  ∀ (fuel : Nat) {listed : Array Bool} {ι : bL} {w : World} {a : Act},listed.size = ops.size → vW listed.toList ≤ fuel → yv ops listed → vY G nt ops s es hs base ι0 w0 listed ι a w → wpAny P .any ops Q fuel listed a w:=by
 intro fuel
 obtain ⟨es2,hs2,g1,g2,g3,g4⟩:=jK _ hv
 let ES : Nat → Tr Value:=fun j => if j ≤ s then es j else es2 (j - s)
 let HS : Nat → AH:=fun j => if j ≤ s then hs j else hs2 (j - s)
 have hsl:=T.len
 have eS : ∀ j,j ≤ s → ES j = es j ∧ HS j = hs j:=fun j hj => ⟨if_pos hj,if_pos hj⟩
 have eT : ∀ d,ES (s + d) = es2 d ∧ HS (s + d) = hs2 d:=fun d => by
  rcases Nat.eq_zero_or_pos d with rfl | hd
  ·exact ⟨(eS s (Nat.le_refl _)).1.trans g1.symm,(eS s (Nat.le_refl _)).2.trans g2.symm⟩
  ·refine ⟨(if_neg (by omega)).trans ?_,(if_neg (by omega)).trans ?_⟩ <;> rw [Nat.add_sub_cancel_left]
 have hdl : (ops.toList.drop s).length = ops.toList.length - s:=List.length_drop
 have TT : js P cf ops s ES HS:=⟨fun k o hk ho => by
   rw [(eS k (by omega)).1,(eS k (by omega)).2,(eS (k + 1) (by omega)).1,(eS (k + 1) (by omega)).2]
   exact T.stp k o hk ho,fun k o hk hkl ho => by
   have:=g3 (k - s) o (by rw [hdl]; omega) (by rw [List.getElem?_drop,show s + (k - s) = k by omega]; exact ho)
   rw [← (eT (k - s)).1,← (eT (k - s)).2,← (eT (k - s + 1)).1,← (eT (k - s + 1)).2,show s + (k - s) = k by omega,show s + (k - s + 1) = k + 1 by omega] at this
   exact this,T.mld,fun k hk => by
   rw [(eS k hk).2]
   exact T.wf k hk⟩
 have hee : (e',h') = (ES ops.toList.length,HS ops.toList.length):=by
  rw [g4,hdl]
  have:=eT (ops.toList.length - s)
  rw [show s + (ops.toList.length - s) = ops.toList.length by omega] at this
  rw [this.1,this.2]
 obtain ⟨he1,he2⟩:=Prod.mk.inj hee
 have hTP : nb P cf G base ops s ES HS:=by
  refine zw TT (fun x hx => ?_) (fun x hx => ?_) (ht.imp_right fun q => ?_)
  ·rw [(eS x hx).2,(eS s (Nat.le_refl _)).2]
   exact T.sameLe hx (Nat.le_refl _)
  ·rw [(eS x hx).2]
   exact T.wf x hx
  ·rw [(eS s (Nat.le_refl _)).1,(eS s (Nat.le_refl _)).2]
   exact q
 have full : ∀ (fuel : Nat) {listed : Array Bool} {ι : bL} {w : World} {a : Act},listed.size = ops.size → vW listed.toList ≤ fuel → yv ops listed → vY G nt ops s es hs base ι0 w0 listed ι a w → (∀ j o,j < s → ops.toList[j]? = some o → d9 listed j ∨ dG o.op = true ∨ (Dd P cf ops s ES HS j o ∨ HC P G base ops s ES HS j o)) → wpAny P .any ops Q fuel listed a w:=by
  intro fuel listed ι w a hz hc hcl I hall
  refine rW hN hcf hfn hC hok (ι0:=ι0) (w0:=w0) (base:=base) TT hTP (fun a' w' p => hq a' w' ?_) fuel s (ι:=jm (hs s).next ι) hz hc hcl (Nat.le_refl _) hsl ⟨?_,fun t => ?_,I.dfr,I.glb.mono (e9 (T.sameLe (Nat.zero_le _) (Nat.le_refl _)).nxt ι),I.siz,I.low,fun j o hj ho hnl => ⟨hj,(hall j o hj ho).resolve_left hnl |>.imp_right fun q => ⟨.inl rfl,q⟩⟩,?_,I.kep,?_,Nat.le_refl _,fun j hj => ?_,fun j hj hnl β h1 h2 => ?_⟩
  ·rw [he1,he2,← (eS 0 (Nat.zero_le _)).2]
   exact p
  ·rw [(eS s (Nat.le_refl _)).2]
   exact I.rel s (Nat.le_refl _)
  ·rcases I.tmp t with ⟨j,o',hj,hl,ho',hd,hv'⟩ | ⟨hno,hv'⟩
   ·refine .inl ⟨j,o',hl,ho',hd,?_⟩
    rw [(eS (j + 1) (by omega)).1]
    exact hv'.mono (e9 (T.sameLe (by omega) (Nat.le_refl _)).nxt ι)
   ·refine .inr ⟨hno,?_⟩
    rw [(eS 0 (by omega)).1]
    exact hv'.mono (e9 (T.sameLe (Nat.zero_le _) (Nat.le_refl _)).nxt ι)
  ·rw [(eS 0 (by omega)).2]
   have n0:=(T.sameLe (Nat.zero_le s) (Nat.le_refl _)).nxt
   refine ⟨fun β hb => ?_,fun β k e => I.ext.img β k (cZ e).2⟩
   show (if β < (hs s).next then ι β else none) = _
   rw [if_pos (by omega)]
   exact I.ext.old β hb
  ·rw [(eS 0 (by omega)).2,(eS s (Nat.le_refl _)).2]
   exact (T.sameLe (Nat.zero_le s) (Nat.le_refl _)).nxt
  ·rw [(eS j (by omega)).2,(eS (j + 1) (by omega)).2,(eS s (Nat.le_refl _)).2]
   exact ⟨(T.sameLe (Nat.le_succ j) (by omega)).nxt,(T.sameLe (by omega) (Nat.le_refl _)).nxt⟩
  ·rw [(eS j (by omega)).2] at h1
   rw [(eS (j + 1) (by omega)).2] at h2
   cases hx : jm (hs s).next ι β with
   | none => rfl
   | some q =>
    exfalso
    rcases I.dom β q (cZ hx).2 with h3 | ⟨i,hi,hl,h3,h4⟩
    ·have:=(T.sameLe (Nat.zero_le j) (by omega : j ≤ s)).nxt
     omega
    ·rcases Nat.lt_trichotomy i j with h | h | h
     ·have:=(T.sameLe (show i + 1 ≤ j by omega) (by omega)).nxt
      omega
     ·exact hnl (h ▸ hl)
     ·have:=(T.sameLe (show j + 1 ≤ i by omega) (by omega)).nxt
      omega
 rw [Array.length_toList] at hsl
 induction fuel with
 | zero =>
  intro listed ι w a hz hc hcl I
  exact full 0 hz hc hcl I fun j o hj _ => .inl (mq hz (by omega) j (by omega))
 | succ fuel ih =>
  intro listed ι w a hz hc hcl I
  refine ⟨fun hr => (full (fuel + 1) hz hc hcl I fun j o hj _ => .inl (ib hz (Dc hC) hr j (by omega))).1 hr,fun i hi => ?_⟩
  rcases Nat.lt_or_ge i s with his | his
  ·refine I.step hN hcf hfn T hC hok hcl hi his fun ι' a' w' I' => ih (by rw [Array.size_setIfInBounds]; exact hz) (ga hi hc) (f9 hcl hi) I'
  ·refine (full (fuel + 1) hz hc hcl I fun j o hj ho => ?_).2 i hi
   obtain ⟨hsz,hnl⟩:=cB hi
   rcases hTP i his (by rw [Array.length_toList]; omega) j (by omega) with h1 | ⟨_,o2,h1,h2⟩
   ·exact .inl (dJ hcl hi j h1)
   ·rw [ho] at h1
    injection h1 with h1
    subst h1
    exact .inr (h2.imp_right fun q => q.2)
theorem rX (hm : P.follows .mixedOrders = true) (hN : bW P = true) (hcf : bw P G cf) (hfn : cr P cf) (hml : bm cf) (hC : gH ops = true) (hok : ops.toList.all (cy nt G) = true) (id : Nat) (ι : bL) (base : Nat) (h : AH) (w : World) (e e' : Tr Value) (h' : AH) (a : Act) (S : St P G nt ι base h w e a) (hv : jq P cf ops 0 ops.toList e h (e',h')) :
  (Code.region id ops true).wp P (fun ex a' w' => ex = .normal ∧ eH P G nt ι base h w e' h' a' w') a w:=by
 obtain ⟨s,es,hs,g1,rfl,rfl,g4,g5,g6⟩:=hv.trace
 rw [Nat.zero_add] at g6
 have T : rD P cf ops s es hs:=⟨hml,S.rel.wf,g1,g4⟩
 have hno : ∀ j,¬ d9 (Array.replicate ops.size false) j:=fun j hj => by
  unfold d9 at hj
  rw [Array.getD_eq_getD_getElem?,Array.getElem?_replicate] at hj
  split at hj <;> cases hj
 have hd:=fun β k (e : ι β = some k) => (S.rel.dom β k e).1
 refine wp_region_any hm (zx hN hcf hfn hC hok (ι0:=ι) (w0:=w) (base:=base) T g6 g5 (fun a' w' p => ⟨rfl,p⟩) ops.size (ι:=ι) (by simp) ?_ (fun j hj => absurd hj (hno j)) ⟨?_,?_,?_,S.dfr,?_,S.siz,fun j hj => absurd hj (hno j),ej.refl _ _ _,⟨Nat.le_refl _,fun _ _ _ => rfl,rfl,rfl⟩⟩)
 ·rw [Array.toList_replicate]
  generalize ops.size = n
  induction n with
  | zero => exact Nat.le_refl _
  | succ n ih =>
   rw [List.replicate_succ]
   exact Nat.succ_le_succ ih
 ·intro k hk
  have M:=T.sameLe (Nat.zero_le k) hk
  have e : jm (hs k).next ι = ι:=funext fun β => by
   unfold jm
   split
   ·rfl
   ·rename_i hn
    cases hb : ι β with
    | none => rfl
    | some q =>
     have:=hd β q hb
     have:=M.nxt
     omega
  rw [e]
  have R':=S.rel.up M
  exact ⟨R'.blk,R'.esz,R'.own,R'.gle,R'.dis,R'.dom,R'.new,R'.grp,R'.bas,R'.has,R'.map⟩
 ·exact fun β q hb => .inl (hd β q hb)
 ·exact fun t => .inr ⟨fun j o hj => absurd hj (hno j),(S.env t).mono fun β q hb => ie (hd β q hb) hb⟩
 ·exact S.glb.mono fun β q hb => ie (hd β q hb) hb
end Go.Proofs.YtjdomdndflfjdabGreatDoor.X
