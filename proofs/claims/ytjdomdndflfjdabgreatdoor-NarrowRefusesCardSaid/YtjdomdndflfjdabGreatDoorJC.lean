/- Joined texts: JC. -/
import Derived.Test.YtjdomdndflfjdabGreatDoorJB
import Derived.Test.YtjdomdndflfjdabGreatDoorTC
import Derived.Test.YtjdomdndflfjdabGreatDoorJA
namespace Go.Proofs.YtjdomdndflfjdabGreatDoor.Kb
open Go Go.Proofs Go.Proofs.YtjdomdndflfjdabGreatDoor.X
set_option linter.unusedSimpArgs false
set_option linter.unusedVariables false
def upd (τ : Nat → Nat) (n k : Nat) : Nat → Nat:=fun x => if x < n then τ x else k
theorem ot {τ : Nat → Nat} {n k x : Nat} (h : x < n) : upd τ n k x = τ x:=if_pos h
theorem vJ {τ : Nat → Nat} {n k x : Nat} (h : n ≤ x) : upd τ n k x = k:=if_neg (by omega)
structure Bt (m : Nat) (τ τ' : Nat → Nat) (g g' : AH) (S : List Nat) : Prop where
 wf : WF g'
 nxt : g.next ≤ g'.next
 lo1 : g'.low ≤ g.low
 lo2 : m ≤ g.low → m ≤ g'.low
 tag : ∀ x,x < g.next → τ' x = τ x
 same : ∀ x b,g.blks.get x = some b → τ b.grp ∉ S → g'.blks.get x = some b ∧ g'.grps.get b.grp = g.grps.get b.grp
 old : ∀ x,x < m → g'.blks.get x = g.blks.get x ∧ g'.grps.get x = g.grps.get x
theorem Bt.refl {m : Nat} {τ : Nat → Nat} {g : AH} (H : WF g) (S : List Nat) : Bt m τ τ g g S:=⟨H,Nat.le_refl _,Nat.le_refl _,id,fun _ _ => rfl,fun _ _ h _ => ⟨h,rfl⟩,fun _ _ => ⟨rfl,rfl⟩⟩
theorem Bt.trans {m : Nat} {τ τ1 τ2 : Nat → Nat} {g g1 g2 : AH} {S : List Nat} (H : WF g) (A : Bt m τ τ1 g g1 S) (B : Bt m τ1 τ2 g1 g2 S) : Bt m τ τ2 g g2 S :=
 ⟨B.wf,Nat.le_trans A.nxt B.nxt,Nat.le_trans B.lo1 A.lo1,fun h => B.lo2 (A.lo2 h),fun x hx => (B.tag x (Nat.lt_of_lt_of_le hx A.nxt)).trans (A.tag x hx),fun x b hb hS => by
  have hg : b.grp < g.next:=Nat.lt_of_le_of_lt (H.gle x b hb) (H.lt hb)
  obtain ⟨h1,h2⟩:=A.same x b hb hS
  obtain ⟨h3,h4⟩:=B.same x b h1 (by rw [A.tag _ hg]; exact hS)
  exact ⟨h3,h4.trans h2⟩,fun x hx => ⟨(B.old x hx).1.trans (A.old x hx).1,(B.old x hx).2.trans (A.old x hx).2⟩⟩
theorem Bt.mono {m : Nat} {τ τ1 : Nat → Nat} {g g1 : AH} {S S' : List Nat} (A : Bt m τ τ1 g g1 S) (h : ∀ k ∈ S,k ∈ S') : Bt m τ τ1 g g1 S' :=
 ⟨A.wf,A.nxt,A.lo1,A.lo2,A.tag,fun x b hb hS => A.same x b hb fun hk => hS (h _ hk),A.old⟩
theorem Bt.low {m : Nat} {τ τ1 : Nat → Nat} {g g1 : AH} {S : List Nat} (A : Bt m τ τ1 g g1 S) {x y : Nat} (h1 : y ≤ x) (h2 : m ≤ x → m ≤ y) : Bt m τ τ1 (setLow g x) (setLow g1 y) S :=
 ⟨A.wf.setLow y,A.nxt,h1,h2,A.tag,A.same,A.old⟩
def Rw (m : Nat) (τ : Nat → Nat) (k : Nat) (g : AH) (a : Option Addr) (z : Nat) (cs : List Value) : Prop :=
 (a = none ∧ cs = []) ∨ ∃ β G,a = some ⟨β,0,none⟩ ∧ g.blks.get β = some ⟨cs,z,G,false⟩ ∧ β ∈ g.members G ∧ m ≤ G ∧ τ G = k
theorem Rw.nil {m : Nat} {τ : Nat → Nat} {k : Nat} {g : AH} {z : Nat} : Rw m τ k g none z []:=.inl ⟨rfl,rfl⟩
theorem Rw.keep {m m0 : Nat} {τ τ' : Nat → Nat} {k : Nat} {g g' : AH} {a : Option Addr} {z : Nat} {cs : List Value} {S : List Nat} (H : WF g) (R : Rw m τ k g a z cs) (B : Bt m0 τ τ' g g' S) (hk : k ∉ S) : Rw m τ' k g' a z cs:=by
 rcases R with R | ⟨β,G,e,h1,h2,h3,h4⟩
 ·exact .inl R
 ·have hg : G < g.next:=Nat.lt_of_le_of_lt (H.gle β _ h1) (H.lt h1)
  obtain ⟨q1,q2⟩:=B.same β _ h1 (by show τ G ∉ S; rw [h4]; exact hk)
  refine .inr ⟨β,G,e,q1,?_,h3,(B.tag G hg).trans h4⟩
  unfold AH.members at h2 ⊢
  have q2 : g'.grps.get G = g.grps.get G:=q2
  rw [q2]
  exact h2
theorem Rw.rd {m : Nat} {τ : Nat → Nat} {k : Nat} {g : AH} {a : Option Addr} {z : Nat} {cs : List Value} (R : Rw m τ k g a z cs) {i : Nat} {x : Value} (hx : cs[i]? = some x) : ∃ β,a = some ⟨β,0,none⟩ ∧ ∀ o j,o + j = i → rdC g ⟨β,o,none⟩ j = some x:=by
 rcases R with ⟨_,e⟩ | ⟨β,G,e,h1,h2,h3,h4⟩
 ·rw [e] at hx
  cases hx
 ·refine ⟨β,e,fun o j hoj => ?_⟩
  have hr : g.rd β = some ⟨cs,z,G,false⟩:=dp h1 h2
  unfold rdC
  simp only [hr,Option.bind_some,hoj]
  exact hx
def bU (l : List Int) : List Value:=l.map fun x => .int .i64 x
theorem Cg (l : List Int) : (bU l).length = l.length:=List.length_map ..
theorem D3 {l : List Int} {i : Nat} {x : Int} (h : l[i]? = some x) : (bU l)[i]? = some (.int .i64 x):=by
 unfold bU
 rw [List.getElem?_map,h]
 rfl
theorem gR (l : List Int) (x : Int) : bU l ++ [.int .i64 x] = bU (l ++ [x]):=(List.map_append (f:=fun x => Go.Value.int .i64 x) (l₁:=l) (l₂:=[x])).symm
theorem Rw.ri {m : Nat} {τ : Nat → Nat} {k : Nat} {g : AH} {a : Option Addr} {l : List Int} (R : Rw m τ k g a 1 (bU l)) : RI g a l:=fun i x hx => by
 obtain ⟨β,e,h⟩:=R.rd (D3 hx)
 refine ⟨β,0,e,fun j y hy => ?_⟩
 cases j with
 | succ j => cases hy
 | zero =>
  injection hy with hy
  subst hy
  exact h _ _ (by omega)
def Ow (m : Nat) (τ : Nat → Nat) (k : Nat) (g : AH) (β : Nat) (cs : List Value) : Prop:=cp g β cs ∧ m ≤ β ∧ τ β = k
theorem Ow.lt {m : Nat} {τ : Nat → Nat} {k : Nat} {g : AH} {β : Nat} {cs : List Value} (H : WF g) (O : Ow m τ k g β cs) : β < g.next:=O.1.lt H
theorem Ow.rd {m : Nat} {τ : Nat → Nat} {k : Nat} {g : AH} {β : Nat} {cs : List Value} (O : Ow m τ k g β cs) (o i : Nat) : rdC g ⟨β,o,none⟩ i = cs[o + i]?:=O.1.rd o i
theorem Ow.keep {m m0 : Nat} {τ τ' : Nat → Nat} {k : Nat} {g g' : AH} {β : Nat} {cs : List Value} {S : List Nat} (H : WF g) (O : Ow m τ k g β cs) (B : Bt m0 τ τ' g g' S) (hk : k ∉ S) : Ow m τ' k g' β cs:=by
 have hb:=O.lt H
 obtain ⟨⟨z,h1,h2⟩,h3,h4⟩:=O
 obtain ⟨q1,q2⟩:=B.same β _ h1 (by show τ β ∉ S; rw [h4]; exact hk)
 exact ⟨⟨z,q1,q2.trans h2⟩,h3,(B.tag β hb).trans h4⟩
section
variable {m : Nat} {τ : Nat → Nat} {g : AH}
theorem bP (H : WF g) (hm : m ≤ g.next) (k z : Nat) (cs : List Value) : ∃ g1,aF g cs z = some (g.next,g1) ∧ Bt m τ (upd τ g.next k) g g1 [] ∧ Ow m (upd τ g.next k) k g1 g.next cs ∧ Rw m (upd τ g.next k) k g1 (some ⟨g.next,0,none⟩) z cs ∧ g1.next = g.next + 1 ∧ g1.low = g.low:=by
 have hgn : g.grps.get g.next = none:=(H.new _ (Nat.le_refl _)).2
 refine ⟨(g.new cs z).2,by rw [eM]; rfl,⟨(bH.new H cs z).wf,Nat.le_succ _,Nat.le_refl _,id,fun x hx => ot hx,fun x b hb _ => ⟨?_,rfl⟩,fun x hx => ⟨Tr.set_ne (by omega),rfl⟩⟩,⟨⟨z,Tr.set_eq,hgn⟩,hm,vJ (Nat.le_refl _)⟩,.inr ⟨g.next,g.next,rfl,Tr.set_eq,?_,hm,vJ (Nat.le_refl _)⟩,rfl,rfl⟩
 ·exact (Tr.set_ne (fun e => Nat.lt_irrefl _ (e ▸ H.lt hb))).trans hb
 ·show g.next ∈ (g.grps.get g.next).getD [g.next]
  rw [hgn]
  exact List.mem_singleton.2 rfl
theorem cM (H : WF g) {k β o : Nat} {cs vs : List Value} (O : Ow m τ k g β cs) (hf : o + vs.length ≤ cs.length) :
  ∃ g1,di g ⟨β,o,none⟩ vs = some g1 ∧ Bt m τ τ g g1 [k] ∧ Ow m τ k g1 β (putAt cs o vs) ∧ g1.next = g.next ∧ g1.low = cond (Nat.blt β g.low) β g.low:=by
 obtain ⟨⟨z,h1,h2⟩,h3,h4⟩:=O
 have hr : g.rd β = some ⟨cs,z,β,false⟩:=dp h1 (by
  show β ∈ (g.grps.get β).getD [β]
  rw [h2]
  exact List.mem_singleton.2 rfl)
 have hm : g.members β = [β]:=by
  show (g.grps.get β).getD [β] = _
  rw [h2]
  rfl
 have hw : g.wr β ⟨cs,z,β,false⟩ (putAt cs o vs) = some { blks:=g.blks.set β ⟨putAt cs o vs,z,β,false⟩,grps:=g.grps,next:=g.next,low:=cond (Nat.blt β g.low) β g.low }:=by
  unfold AH.wr
  simp only [hm,cond_false]
 refine ⟨{ blks:=g.blks.set β ⟨putAt cs o vs,z,β,false⟩,grps:=g.grps,next:=g.next,low:=cond (Nat.blt β g.low) β g.low },?_,⟨(bH.wr H hr hw).wf,Nat.le_refl _,(cl _ _).2,fun h => ?_,fun _ _ => rfl,fun x b hb hS => ⟨?_,rfl⟩,fun x hx => ⟨Tr.set_ne (by omega),rfl⟩⟩,⟨⟨z,Tr.set_eq,h2⟩,h3,h4⟩,rfl,rfl⟩
 ·unfold di
  simp only [hr,Option.bind_some,Nat.ble_eq_true_of_le hf,cond_true]
  exact hw
 ·show m ≤ cond (Nat.blt β g.low) β g.low
  cases Nat.blt β g.low
  ·exact h
  ·exact h3
 ·refine (Tr.set_ne fun e => hS ?_).trans hb
  subst e
  rw [h1] at hb
  injection hb with hb
  rw [← hb,h4]
  exact List.mem_singleton.2 rfl
def Gr (a : Option Addr) (n c z : Nat) (cs : List Value) : Prop:=cs.length = n * z ∧ (a = none → c = 0) ∧ (aG ≤ c ∨ (c = 0 ∧ n = 0))
theorem Gr.nil {z : Nat} : Gr none 0 0 z []:=⟨by simp,fun _ => rfl,.inr ⟨rfl,rfl⟩⟩
theorem rj {m' : Nat} (H : WF g) (hmm : m ≤ m') (hm : m' ≤ g.next) {k : Nat} {a : Option Addr} {n c z by_ : Nat} {cs : List Value} (vs : List Value) (R : Rw m' τ k g a z cs) (A : Gr a n c z cs) (hv : vs.length = z) (hz : 0 < z) (hb : (n + 1) * by_ ≤ 140737488355328) :
  ∃ g1 g2 a',aF g vs z = some (g.next,g1) ∧ dg z by_ (.slice a n c) (.slice (some ⟨g.next,0,none⟩) 1 1) g1 = some ((a',n + 1,aG),g2) ∧ Bt m τ (upd τ g.next k) g g2 [k] ∧ Rw m' (upd τ g.next k) k g2 a' z (cs ++ vs) ∧ Gr a' (n + 1) aG z (cs ++ vs) ∧ a' = some ⟨g.next + 1,0,none⟩ ∧ g2.next = g.next + 2:=by
 obtain ⟨g1,k1,B1,O1,R1,n1,l1⟩:=bP (τ:=τ) H (Nat.le_trans hmm hm) k z vs
 have H1:=B1.wf
 have hit:=pS O1.1 hv
 have hgr : Gr (some ⟨g.next + 1,0,none⟩) (n + 1) aG z (cs ++ vs):=⟨by rw [List.length_append,A.1,hv,Nat.add_mul,Nat.one_mul],(fun h => by cases h),.inl (Nat.le_refl _)⟩
 have hn1 : g1.grps.get g1.next = none:=(H1.new _ (Nat.le_refl _)).2
 have fresh : ∀ items,items = cs ++ vs → dg z by_ (.slice a n c) (.slice (some ⟨g.next,0,none⟩) 1 1) g1 = some ((some ⟨g1.next,0,none⟩,n + 1,aG),(g1.new items z).2) →
   ∃ g1 g2 a',aF g vs z = some (g.next,g1) ∧ dg z by_ (.slice a n c) (.slice (some ⟨g.next,0,none⟩) 1 1) g1 = some ((a',n + 1,aG),g2) ∧ Bt m τ (upd τ g.next k) g g2 [k] ∧ Rw m' (upd τ g.next k) k g2 a' z (cs ++ vs) ∧ Gr a' (n + 1) aG z (cs ++ vs) ∧ a' = some ⟨g.next + 1,0,none⟩ ∧ g2.next = g.next + 2:=by
  intro items hit2 hap
  subst hit2
  refine ⟨g1,(g1.new (cs ++ vs) z).2,some ⟨g1.next,0,none⟩,k1,hap,⟨(bH.new H1 _ z).wf,by show g.next ≤ g1.next + 1; omega,by show g1.low ≤ g.low; omega,fun h => by show m ≤ g1.low; omega,fun x hx => ot hx,fun x b hb2 hS => ?_,fun x hx => ⟨(Tr.set_ne (show x ≠ g1.next by omega)).trans (B1.old x hx).1,(B1.old x hx).2⟩⟩,.inr ⟨g1.next,g1.next,rfl,Tr.set_eq,?_,?_,vJ (by omega)⟩,?_,by rw [n1],by show g1.next + 1 = _; omega⟩
  ·obtain ⟨q1,q2⟩:=B1.same x b hb2 (List.not_mem_nil)
   exact ⟨(Tr.set_ne (fun e => Nat.lt_irrefl _ (e ▸ H1.lt q1))).trans q1,q2⟩
  ·show g1.next ∈ (g1.grps.get g1.next).getD [g1.next]
   rw [hn1]
   exact List.mem_singleton.2 rfl
  ·show m' ≤ g1.next
   rw [n1]
   exact Nat.le_succ_of_le hm
  ·rw [n1]
   exact hgr
 rcases A.2.2 with hc | ⟨hc,hn⟩
 ·rcases R with ⟨rfl,rfl⟩ | ⟨γ,G,rfl,r1,r2,r3,r4⟩
  ·have:=A.2.1 rfl
   rw [this] at hc
   exact absurd hc (by decide)
  ·have hgl:=H.gle γ _ r1
   have hγ:=H.lt r1
   have hgl : G ≤ γ:=hgl
   obtain ⟨q1,q2⟩:=B1.same γ _ r1 List.not_mem_nil
   have q2 : g1.grps.get G = g.grps.get G:=q2
   have r2' : γ ∈ g1.members G:=by
    unfold AH.members at r2 ⊢
    rw [q2]
    exact r2
   have hr : g1.rd γ = some ⟨cs,z,G,false⟩:=dp q1 r2'
   refine ⟨g1,g1.grow γ G (cs ++ vs) z (Nat.beq (0 + n * z) cs.length),some ⟨g1.next,0,none⟩,k1,?_,⟨(bH.grow H1 hr (cs ++ vs) z _).wf,by show g.next ≤ g1.next + 1; omega,by rw [← l1]; exact (cl _ _).2,fun h => ?_,fun x hx => ot hx,fun x b hb2 hS => ?_,fun x hx => ⟨(Tr.set_ne (show x ≠ g1.next by omega)).trans (B1.old x hx).1,(Tr.set_ne (show x ≠ G by omega)).trans (B1.old x hx).2⟩⟩,.inr ⟨g1.next,G,rfl,Tr.set_eq,?_,r3,?_⟩,by rw [n1]; exact hgr,by rw [n1],by show g1.next + 1 = _; omega⟩
   ·unfold dg dz kS
    have e1 : Nat.blt c aG = false:=by
     cases e : Nat.blt c aG with
     | false => rfl
     | true =>
      have:=Nat.le_of_ble_eq_true e
      omega
    have e2 : Nat.ble (0 + (n + 1) * z) cs.length = false:=by
     cases e : Nat.ble (0 + (n + 1) * z) cs.length with
     | false => rfl
     | true =>
      have:=Nat.le_of_ble_eq_true e
      rw [A.1,Nat.add_mul] at this
      omega
    have e3 : cj cs 0 (n * z) = some cs:=by
     unfold cj
     rw [← A.1,Nat.zero_add,Nat.ble_eq_true_of_le (Nat.le_refl _),List.drop_zero,List.take_length]
     rfl
    have e4 : Nat.beq z 0 = false:=by
     cases e : Nat.beq z 0 with
     | false => rfl
     | true =>
      have:=Nat.eq_of_beq_eq_true e
      omega
    simp only [Option.bind_some,hit]
    rw [show Nat.beq 1 0 = false from rfl,Nat.ble_eq_true_of_le hb]
    simp only [cond_false,cond_true,e1,hr,Option.bind_some,e2,e3,e4,Nat.beq_refl,Bool.not_true,Bool.or_false]
    rfl
   ·show m ≤ cond (Nat.blt G g1.low) G g1.low
    cases Nat.blt G g1.low
    ·show m ≤ g1.low
     omega
    ·exact Nat.le_trans hmm r3
   ·obtain ⟨u1,u2⟩:=B1.same x b hb2 List.not_mem_nil
    have hne : ¬ b.grp = G:=fun e => hS (by rw [e,r4]; exact List.mem_singleton.2 rfl)
    have hne' : ¬ G = b.grp:=fun e => hne e.symm
    refine ⟨(Tr.set_ne (fun e => Nat.lt_irrefl _ (e ▸ H1.lt u1))).trans u1,?_⟩
    show (g1.grps.set G _).get b.grp = _
    rw [Tr.get_set,if_neg (by first | exact hne | exact hne')]
    exact u2
   ·show g1.next ∈ ((g1.grps.set G (cond (Nat.beq (0 + n * z) cs.length) [γ,g1.next] [g1.next])).get G).getD [G]
    rw [Tr.get_set,if_pos rfl]
    cases Nat.beq (0 + n * z) cs.length <;> simp
   ·rw [ot (by omega)]
    exact r4
 ·subst hc
  subst hn
  have hcs : cs = []:=List.eq_nil_of_length_eq_zero (by rw [A.1,Nat.zero_mul])
  subst hcs
  refine fresh vs (by simp) ?_
  unfold dg dz kS
  simp only [Option.bind_some,hit]
  rw [show Nat.beq 1 0 = false from rfl]
  cases a with
  | none =>
   simp only [cond_false]
   rw [Nat.ble_eq_true_of_le (show 1 * by_ ≤ 140737488355328 by omega)]
   rfl
  | some ad =>
   have hsp : ad.spot = none:=by
    rcases R with ⟨e,_⟩ | ⟨γ,G,e,_⟩
    ·cases e
    ·injection e with e
     rw [e]
   simp only [hsp,cond_false]
   rw [Nat.ble_eq_true_of_le (show (0 + 1) * by_ ≤ 140737488355328 by omega)]
   rw [show Nat.blt 0 aG = true from rfl,show Nat.ble (0 + 1) 0 = false from rfl]
   have : bQ z 0 (.slice (some ad) 0 0) g1 = some []:=by
    unfold bQ
    simp only [hsp,Nat.zero_mul]
    rfl
   simp only [cond_true,cond_false,this,Option.bind_some]
   rfl
theorem gx (H : WF g) (hm : m ≤ g.next) {k : Nat} {a : Option Addr} {n c z by_ : Nat} {cs : List Value} (vs : List Value) (R : Rw m τ k g a z cs) (A : Gr a n c z cs) (hv : vs.length = z) (hz : 0 < z) (hb : (n + 1) * by_ ≤ 140737488355328) :
  ∃ g1 g2 a',aF g vs z = some (g.next,g1) ∧ dg z by_ (.slice a n c) (.slice (some ⟨g.next,0,none⟩) 1 1) g1 = some ((a',n + 1,aG),g2) ∧ Bt m τ (upd τ g.next k) g g2 [k] ∧ Rw m (upd τ g.next k) k g2 a' z (cs ++ vs) ∧ Gr a' (n + 1) aG z (cs ++ vs) ∧ a' = some ⟨g.next + 1,0,none⟩ ∧ g2.next = g.next + 2:=rj H (Nat.le_refl _) hm vs R A hv hz hb
end
theorem exW {h g : AH} (hl : g.low < h.next) (v : Go.Value) : ai h g v = (v,setLow g (cond (Nat.blt g.low h.low) g.low h.low)):=by
 unfold ai
 have e1 : Nat.beq g.low h.next = false:=by
  cases e : Nat.beq g.low h.next with
  | false => rfl
  | true =>
   have:=Nat.eq_of_beq_eq_true e
   omega
 have e2 : Nat.blt g.low h.next = true:=Nat.ble_eq_true_of_le hl
 rw [e1,e2]
 rfl
theorem Bt.exW {m : Nat} {τ τ1 : Nat → Nat} {h g : AH} {S : List Nat} (A : Bt m τ τ1 (setLow h h.next) g S) (hm : m ≤ h.next) : Bt m τ τ1 h (setLow g (cond (Nat.blt g.low h.low) g.low h.low)) S :=
 ⟨A.wf.setLow _,A.nxt,(cl _ _).2,fun h1 => by
  have h2:=A.lo2 hm
  show m ≤ cond (Nat.blt g.low h.low) g.low h.low
  cases Nat.blt g.low h.low
  ·exact h1
  ·exact h2,A.tag,A.same,A.old⟩
def rtg (τ : Nat → Nat) (n : Nat) : Nat → Nat:=fun x => if n ≤ x ∧ τ x = 11 then 1 else τ x
theorem Rw.rtg {m : Nat} {τ : Nat → Nat} {k : Nat} {g : AH} {a : Option Addr} {z n : Nat} {cs : List Value} (R : Rw m τ k g a z cs) (hk : k ≠ 11) : Rw m (rtg τ n) k g a z cs:=by
 rcases R with R | ⟨β,G,e,h1,h2,h3,h4⟩
 ·exact .inl R
 ·exact .inr ⟨β,G,e,h1,h2,h3,(if_neg (by omega)).trans h4⟩
theorem Rw.rtg11 {m : Nat} {τ : Nat → Nat} {g : AH} {a : Option Addr} {z n : Nat} {cs : List Value} (R : Rw n τ 11 g a z cs) (hm : m ≤ n) : Rw m (Kb.rtg τ n) 1 g a z cs:=by
 rcases R with R | ⟨β,G,e,h1,h2,h3,h4⟩
 ·exact .inl R
 ·exact .inr ⟨β,G,e,h1,h2,by omega,if_pos ⟨h3,h4⟩⟩
theorem Ow.rtg {m : Nat} {τ : Nat → Nat} {k : Nat} {g : AH} {β n : Nat} {cs : List Value} (O : Ow m τ k g β cs) (hk : k ≠ 11) : Ow m (Kb.rtg τ n) k g β cs:=⟨O.1,O.2.1,(if_neg (by have:=O.2.2; omega)).trans O.2.2⟩
theorem Bt.rtg {m : Nat} {τ τ' : Nat → Nat} {g g' : AH} {S : List Nat} {n : Nat} (A : Bt m τ τ' g g' S) (hn : g.next ≤ n) : Bt m τ (Kb.rtg τ' n) g g' S :=
 ⟨A.wf,A.nxt,A.lo1,A.lo2,fun x hx => (if_neg (by omega)).trans (A.tag x hx),A.same,A.old⟩
theorem pY {m : Nat} {τ : Nat → Nat} {k : Nat} {g : AH} {a : Option Addr} {z : Nat} {cs : List Value} (R : Rw m τ k g a z cs) (n c : Nat) : uv (.slice a n c) (.slice a n c) = true:=by
 have hn : ∀ n : Nat,Nat.beq n n = true:=Nat.beq_refl
 rcases R with ⟨rfl,_⟩ | ⟨β,G,rfl,_⟩
 ·show (Nat.beq n n && Nat.beq c c) = true
  rw [hn,hn]
  rfl
 ·show (Nat.beq β β && (Nat.beq 0 0 && (true && true)) && (Nat.beq n n && Nat.beq c c)) = true
  rw [hn β,hn n,hn c]
  rfl
theorem vK {m n : Nat} {τ : Nat → Nat} {g : AH} (H : WF g) (hmn : m ≤ n) {k β o : Nat} {cs vs : List Value} (O : Ow n τ k g β cs) (hf : o + vs.length ≤ cs.length) :
  ∃ g1,di g ⟨β,o,none⟩ vs = some g1 ∧ Bt m τ τ g g1 [k] ∧ Bt n τ τ g g1 [k] ∧ Ow n τ k g1 β (putAt cs o vs) ∧ g1.next = g.next:=by
 obtain ⟨g1,k1,A1,O1,n1,_⟩:=cM H O hf
 obtain ⟨g2,k2,A2,_⟩:=cM (m:=m) (k:=k) H ⟨O.1,Nat.le_trans hmn O.2.1,O.2.2⟩ hf
 rw [k1] at k2
 injection k2 with k2
 subst k2
 exact ⟨g1,k1,A2,A1,O1,n1⟩
theorem D5 {m n : Nat} {τ : Nat → Nat} {g : AH} (H : WF g) (hmn : m ≤ n) (hn : n ≤ g.next) {k : Nat} {a : Option Addr} {l c z by_ : Nat} {cs : List Value} (vs : List Value) (R : Rw n τ k g a z cs) (A : Gr a l c z cs) (hv : vs.length = z) (hz : 0 < z) (hb : (l + 1) * by_ ≤ 140737488355328) :
  ∃ g1 g2 a',aF g vs z = some (g.next,g1) ∧ dg z by_ (.slice a l c) (.slice (some ⟨g.next,0,none⟩) 1 1) g1 = some ((a',l + 1,aG),g2) ∧ Bt m τ (upd τ g.next k) g g2 [k] ∧ Bt n τ (upd τ g.next k) g g2 [k] ∧ Rw n (upd τ g.next k) k g2 a' z (cs ++ vs) ∧ Gr a' (l + 1) aG z (cs ++ vs) ∧ g2.next = g.next + 2:=by
 obtain ⟨g1,g2,a',k1,k2,A1,R1,G1,_,n1⟩:=gx (by_:=by_) H hn vs R A hv hz hb
 obtain ⟨g3,g4,a2,k3,k4,A2,_⟩:=rj (m:=m) (by_:=by_) H hmn hn vs R A hv hz hb
 rw [k1] at k3
 injection k3 with k3
 injection k3 with _ k3
 subst k3
 rw [k2] at k4
 injection k4 with k4
 injection k4 with _ k4
 subst k4
 exact ⟨g1,g2,a',k1,k2,A2,A1,R1,G1,n1⟩
theorem Bt.comp {m n : Nat} {τ τ1 τ2 : Nat → Nat} {h g g1 : AH} {S S1 : List Nat} (H : WF h) (A : Bt m τ τ1 h g S) (A1 : Bt m τ1 τ2 g g1 S1) (A2 : Bt n τ1 τ2 g g1 S1) (hn : h.next ≤ n) : Bt m τ τ2 h g1 S :=
 ⟨A1.wf,Nat.le_trans A.nxt A1.nxt,Nat.le_trans A1.lo1 A.lo1,fun q => A1.lo2 (A.lo2 q),fun x hx => (A1.tag x (Nat.lt_of_lt_of_le hx A.nxt)).trans (A.tag x hx),fun x b hb hS => by
  have hx:=H.lt hb
  have hg:=H.gle x b hb
  obtain ⟨q1,q2⟩:=A.same x b hb hS
  exact ⟨(A2.old x (by omega)).1.trans q1,(A2.old b.grp (by omega)).2.trans q2⟩,fun x hx => ⟨(A1.old x hx).1.trans (A.old x hx).1,(A1.old x hx).2.trans (A.old x hx).2⟩⟩
theorem Kq.bt {hb : AH} {m : Nat} {τ τ' : Nat → Nat} {g g' : AH} {S : List Nat} (K : Kq hb g) (hm : hb.next ≤ m) (A : Bt m τ τ' g g' S) : Kq hb g' :=
 ⟨bO A.wf _,rfl,Nat.le_trans K.nxt A.nxt,fun β hβ => by
  have h1:=K.old β hβ
  have h2:=A.old β (by omega)
  exact ⟨h2.1.trans h1.1,h2.2.trans h1.2⟩⟩
def IR (m : Nat) (τ : Nat → Nat) (g : AH) (cs : List Value) (IL : List bF) : Prop:=∀ i x,IL[i]? = some x →
 ∃ aa ac,(∀ k v,[Go.Value.int .i64 x.op,.int .i64 x.dest,.slice aa x.args.length ac,.int .u64 x.num,.int .i64 x.mem][k]? = some v → cs[i * 5 + k]? = some v) ∧ Rw m τ 1 g aa 1 (bU x.args)
theorem IR.nil {m : Nat} {τ : Nat → Nat} {g : AH} : IR m τ g [] []:=fun i x h => by cases h
theorem IR.keep {m : Nat} {τ τ' : Nat → Nat} {g g' : AH} {cs : List Value} {IL : List bF} {S : List Nat} (H : WF g) (R : IR m τ g cs IL) (A : Bt m τ τ' g g' S) (h1 : 1 ∉ S) : IR m τ' g' cs IL:=fun i x hx => by
 obtain ⟨aa,ac,q1,q2⟩:=R i x hx
 exact ⟨aa,ac,q1,q2.keep H A h1⟩
theorem IR.app {m : Nat} {τ : Nat → Nat} {g : AH} {cs : List Value} {IL : List bF} (R : IR m τ g cs IL) (hl : cs.length = IL.length * 5) (x : bF) {aa : Option Addr} {ac : Nat} (RA : Rw m τ 1 g aa 1 (bU x.args)) :
  IR m τ g (cs ++ [.int .i64 x.op,.int .i64 x.dest,.slice aa x.args.length ac,.int .u64 x.num,.int .i64 x.mem]) (IL ++ [x]):=fun i y hy => by
 rcases Nat.lt_or_ge i IL.length with h | h
 ·rw [List.getElem?_append_left h] at hy
  obtain ⟨aa,ac,q1,q2⟩:=R i y hy
  refine ⟨aa,ac,fun k v hv => ?_,q2⟩
  have:=q1 k v hv
  rw [List.getElem?_append_left (List.getElem?_eq_some_iff.1 this).1]
  exact this
 ·rw [List.getElem?_append_right h] at hy
  have hi : i = IL.length:=by
   rcases Nat.eq_or_lt_of_le h with e | e
   ·exact e.symm
   ·rw [List.getElem?_eq_none (by rw [List.length_singleton]; omega)] at hy
    cases hy
  subst hi
  rw [Nat.sub_self] at hy
  injection hy with hy
  subst hy
  refine ⟨aa,ac,fun k v hv => ?_,RA⟩
  rw [List.getElem?_append_right (by omega),show IL.length * 5 + k - cs.length = k by omega]
  exact hv
structure BS (m : Nat) (τ : Nat → Nat) (kI : Nat) (g : AH) (B : Nat) (nm M St E F : Go.Value) (WL HV : List Int) (IL : List bF) : Prop where
 wf : WF g
 lo : m ≤ g.low
 st : ∃ wa wc va vc ia ic ics,Ow m τ 2 g B [nm,.slice wa WL.length wc,M,St,E,F,.slice va HV.length vc,.slice ia IL.length ic] ∧ (Rw m τ 3 g wa 1 (bU WL) ∧ Gr wa WL.length wc 1 (bU WL)) ∧ (Rw m τ 4 g va 1 (bU HV) ∧ Gr va HV.length vc 1 (bU HV)) ∧ Rw m τ kI g ia 5 ics ∧ Gr ia IL.length ic 5 ics ∧ IR m τ g ics IL
 hv : ∀ x ∈ HV,0 ≤ x ∧ x < WL.length
 ki : 20 ≤ kI
section
variable {m : Nat} {τ : Nat → Nat} {kI : Nat} {h : AH} {B : Nat} {nm M St E F : Go.Value} {WL HV : List Int} {IL : List bF}
theorem BS.low (V : BS m τ kI h B nm M St E F WL HV IL) (x : Nat) (hx : m ≤ x) : BS m τ kI (setLow h x) B nm M St E F WL HV IL:=⟨V.wf.setLow x,hx,V.st,V.hv,V.ki⟩
theorem BS.mB (V : BS m τ kI h B nm M St E F WL HV IL) : m ≤ B ∧ B < h.next:=by
 obtain ⟨_,_,_,_,_,_,_,O,_⟩:=V.st
 exact ⟨O.2.1,O.lt V.wf⟩
theorem BS.keep {g' : AH} {τ' : Nat → Nat} {S : List Nat} (V : BS m τ kI h B nm M St E F WL HV IL) (A : Bt m τ τ' h g' S) (hS : ∀ k ∈ [1,2,3,4,kI],k ∉ S) : BS m τ' kI g' B nm M St E F WL HV IL:=by
 obtain ⟨wa,wc,va,vc,ia,ic,ics,O,⟨w1,w2⟩,⟨v1,v2⟩,i1,i2,i3⟩:=V.st
 exact ⟨A.wf,A.lo2 V.lo,⟨wa,wc,va,vc,ia,ic,ics,O.keep V.wf A (hS 2 (by simp)),⟨w1.keep V.wf A (hS 3 (by simp)),w2⟩,⟨v1.keep V.wf A (hS 4 (by simp)),v2⟩,i1.keep V.wf A (hS kI (by simp)),i2,i3.keep V.wf A (hS 1 (by simp))⟩,V.hv,V.ki⟩
theorem BS.exit {τ' : Nat → Nat} {g : AH} {S : List Nat} {nm' M' St' E' F' : Go.Value} {WL' HV' : List Int} {IL' : List bF} {kI' : Nat} (V : BS m τ kI h B nm M St E F WL HV IL) (W : BS m τ' kI' g B nm' M' St' E' F' WL' HV' IL') (A : Bt m τ τ' (setLow h h.next) g S) (hl : g.low ≤ B) (v : Go.Value) :
  ∃ g',ai h g v = (v,g') ∧ BS m τ' kI' g' B nm' M' St' E' F' WL' HV' IL' ∧ Bt m τ τ' h g' S ∧ g'.low ≤ B:=by
 obtain ⟨hmB,hB⟩:=V.mB
 refine ⟨_,exW (by omega) v,W.low _ ?_,A.exW (by omega),Nat.le_trans (cl _ _).1 hl⟩
 have:=V.lo
 have:=W.lo
 cases Nat.blt g.low h.low
 ·exact V.lo
 ·exact W.lo
theorem JO {n : Nat} (h : n < 9223372036854775807) : fC .i64 (Int.ofNat (n + 1)) 1 = (n : Int):=by
 unfold fC
 rw [IntKind.wrap_i64]
 show _ = (n : Int)
 have : Int.ofNat (n + 1) = (n : Int) + 1:=rfl
 rw [this]
 omega
theorem Ci (N : Nat) (hN : 1 ≤ N) (V : BS m τ kI h B nm M St E F WL HV IL) (w : Int) (hl : WL.length < 1000) :
  ∃ τ' g',az Tryz.prog N 39 [.pointer (some ⟨B,0,none⟩),.int .i64 w] h = some (.int .i64 WL.length,g') ∧ BS m τ' kI g' B nm M St E F (WL ++ [w]) HV IL ∧ Bt m τ τ' h g' [2,3] ∧ g'.low ≤ B:=by
 obtain ⟨n,rfl⟩ : ∃ n,N = n + 1:=⟨N - 1,by omega⟩
 obtain ⟨hmB,hB⟩:=V.mB
 obtain ⟨wa,wc,va,vc,ia,ic,ics,O,⟨w1,w2⟩,⟨v1,v2⟩,i1,i2,i3⟩:=(V.low h.next (by omega)).st
 have H0 : WF (setLow h h.next):=bO V.wf h.next
 obtain ⟨g1,g2,a',k1,k2,A,w1',w2',ea,en⟩:=gx (τ:=τ) (by_:=8) H0 (show m ≤ (setLow h h.next).next by rw [aD]; omega) [.int .i64 w] w1 w2 rfl (by omega) (by omega)
 have O2:=O.keep H0 A (by simp)
 obtain ⟨g3,k3,A3,O3,n3,l3⟩:=cM (o:=1) (vs:=[.slice a' (WL.length + 1) aG]) A.wf O2 (by simp)
 have hlow : g3.low ≤ B:=by
  rw [l3]
  exact (cl _ _).1
 have AA : Bt m τ _ (setLow h h.next) g3 [2,3]:=Bt.trans H0 (A.mono (by simp)) (A3.mono (by simp))
 have hl2 : (WL ++ [w]).length = WL.length + 1:=by simp
 rw [gR] at w1' w2'
 have W : BS m (upd τ (setLow h h.next).next 3) kI g3 B nm M St E F (WL ++ [w]) HV IL:=by
  have hk:=V.ki
  refine ⟨A3.wf,AA.lo2 (show m ≤ h.next by omega),⟨a',aG,va,vc,ia,ic,ics,?_,⟨w1'.keep A.wf A3 (by simp),?_⟩,⟨(v1.keep H0 A (by simp)).keep A.wf A3 (by simp),v2⟩,(i1.keep H0 A (by simp; omega)).keep A.wf A3 (by simp; omega),i2,(i3.keep H0 A (by simp)).keep A.wf A3 (by simp)⟩,fun x hx => ?_,V.ki⟩
  ·rw [hl2]
   exact O3
  ·rw [hl2]
   exact w2'
  ·have:=V.hv x hx
   rw [hl2]
   omega
 obtain ⟨g',e1,W',A',l'⟩:=V.exit W AA hlow (.int .i64 WL.length)
 refine ⟨_,g',GB ?_,W',A',l'⟩
 simp only [aD] at k1 k2
 simp only [O.rd,Nat.zero_add,Nat.add_zero,List.getElem?_cons_zero,List.getElem?_cons_succ,aj,Nat.reduceAdd,ak,ae,an,au,ap,aq,cond_true,cond_false,k1,k2,k3,O3.rd,vA,im,List.cons_append,List.nil_append,JO (show WL.length < 9223372036854775807 by omega)]
 exact congrArg some e1
theorem xL (N : Nat) (hN : 2 ≤ N) (V : BS m τ kI h B nm M St E F WL HV IL) (op w : Int) {aa : Option Addr} {ac : Nat} (AL : List Int) (RA : Rw m τ 1 h aa 1 (bU AL)) (num mem : Int) (hl : WL.length < 1000 ∧ HV.length < 1000 ∧ IL.length < 1000) :
  ∃ τ' g',az Tryz.prog N 79 [.pointer (some ⟨B,0,none⟩),.int .i64 op,.int .i64 w,.slice aa AL.length ac,.int .u64 num,.int .i64 mem] h = some (.int .i64 WL.length,g') ∧ BS m τ' kI g' B nm M St E F (WL ++ [w]) (HV ++ [(WL.length : Int)]) (IL ++ [⟨op,WL.length,AL,num,mem⟩]) ∧ Bt m τ τ' h g' [2,3,4,kI] ∧ g'.low ≤ B:=by
 obtain ⟨n,rfl⟩ : ∃ n,N = n + 1:=⟨N - 1,by omega⟩
 obtain ⟨hmB,hB⟩:=V.mB
 have hk:=V.ki
 have V0:=V.low h.next (by omega)
 have RA0 : Rw m τ 1 (setLow h h.next) aa 1 (bU AL):=RA
 obtain ⟨τ1,g1,r1,V1,A1,l1⟩:=Ci n (by omega) V0 w hl.1
 have RA1:=RA0.keep V0.wf A1 (by simp)
 have hm1 : m ≤ g1.next:=Nat.le_trans (show m ≤ h.next by omega) A1.nxt
 obtain ⟨wa,wc,va,vc,ia,ic,ics,O,⟨w1,w2⟩,⟨v1,v2⟩,i1,i2,i3⟩:=V1.st
 obtain ⟨g2,g3,a',k2,k3,A2,i1',i2',ea,en⟩:=gx (by_:=56) V1.wf hm1 [.int .i64 op,.int .i64 WL.length,.slice aa AL.length ac,.int .u64 num,.int .i64 mem] i1 i2 rfl (by omega) (by omega)
 have O3:=O.keep V1.wf A2 (by simp; omega)
 have RA3:=RA1.keep V1.wf A2 (by simp; omega)
 have i3':=(i3.keep V1.wf A2 (by simp; omega)).app i2.1 ⟨op,WL.length,AL,num,mem⟩ (ac:=ac) RA3
 obtain ⟨g4,k4,A4,O4,n4,l4⟩:=cM (o:=7) (vs:=[.slice a' (IL.length + 1) aG]) A2.wf O3 (by simp)
 have v1':=(v1.keep V1.wf A2 (by simp; omega)).keep A2.wf A4 (by simp)
 obtain ⟨g5,g6,a2,k5,k6,A6,v3,v4,_,_⟩:=gx (by_:=8) A4.wf (Nat.le_trans hm1 (by rw [n4]; exact A2.nxt)) [.int .i64 WL.length] v1' v2 rfl (by omega) (by omega)
 have O6:=O4.keep A4.wf A6 (by simp)
 obtain ⟨g7,k7,A7,O7,n7,l7⟩:=cM (o:=6) (vs:=[.slice a2 (HV.length + 1) aG]) A6.wf O6 (by simp [putAt])
 have S4 : ∀ k ∈ [1,3,4,kI],k ∉ [2]:=by simp; omega
 have AA : Bt m τ _ (setLow h h.next) g7 [2,3,4,kI] :=
  Bt.trans V0.wf (Bt.trans V0.wf (Bt.trans V0.wf (Bt.trans V0.wf (A1.mono (by simp)) (A2.mono (by simp))) (A4.mono (by simp))) (A6.mono (by simp))) (A7.mono (by simp))
 have hl7 : g7.low ≤ B:=by
  rw [l7]
  exact (cl _ _).1
 have e1 : (WL ++ [w]).length = WL.length + 1:=by simp
 have e2 : (HV ++ [(WL.length : Int)]).length = HV.length + 1:=by simp
 have e3 : (IL ++ [(⟨op,WL.length,AL,num,mem⟩ : bF)]).length = IL.length + 1:=by simp
 rw [gR] at v3 v4
 have W : BS m (upd (upd τ1 g1.next kI) g4.next 4) kI g7 B nm M St E F (WL ++ [w]) (HV ++ [(WL.length : Int)]) (IL ++ [⟨op,WL.length,AL,num,mem⟩]):=by
  refine ⟨A7.wf,AA.lo2 (show m ≤ h.next by omega),⟨wa,wc,a2,aG,a',aG,_,?_,⟨(((w1.keep V1.wf A2 (by simp; omega)).keep A2.wf A4 (by simp)).keep A4.wf A6 (by simp)).keep A6.wf A7 (by simp),w2⟩,⟨v3.keep A6.wf A7 (by simp),?_⟩,((i1'.keep A2.wf A4 (by simp; omega)).keep A4.wf A6 (by simp; omega)).keep A6.wf A7 (by simp; omega),?_,((i3'.keep A2.wf A4 (by simp)).keep A4.wf A6 (by simp)).keep A6.wf A7 (by simp)⟩,fun x hx => ?_,V.ki⟩
  ·rw [e2,e3]
   exact O7
  ·rw [e2]
   exact v4
  ·rw [e3]
   exact i2'
  ·rw [e1]
   rcases List.mem_append.1 hx with hx | hx
   ·have:=V.hv x hx
    omega
   ·rw [List.mem_singleton.1 hx]
    omega
 obtain ⟨g',q1,W',A',l'⟩:=V.exit W AA hl7 (.int .i64 WL.length)
 refine ⟨_,g',GH ?_,W',A',l'⟩
 simp only [r1,O.rd,Nat.zero_add,Nat.add_zero,List.getElem?_cons_zero,List.getElem?_cons_succ,aj,Nat.reduceAdd,ak,ae,an,au,ap,aq,cond_true,cond_false,k2,k3,k4,O4.rd,k5,k6,k7,putAt,im,List.cons_append,List.nil_append,List.drop_succ_cons,List.drop_zero,List.length_cons,List.length_nil]
 exact congrArg some q1
end
theorem ji {k : IntKind} {a : Int} {b : Nat} (ha : 0 ≤ a) (hb : 0 < b) : ∃ r : Nat,ce k a (b : Int) = (r : Int) ∧ r < b:=by
 obtain ⟨x,rfl⟩ : ∃ x : Nat,a = (x : Int):=⟨a.toNat,by omega⟩
 refine ⟨x % b,?_,Nat.mod_lt _ hb⟩
 unfold ce
 exact (Int.ofNat_tmod x b).symm
theorem ou (N : Nat) (hN : 1 ≤ N) (h : AH) (H : WF h) (x : Int) (hx : 0 ≤ x) : ∃ w,az Tryz.prog N 38 [.int .u8 x] h = some (.int .i64 w,h) ∧ 1 ≤ w ∧ w ≤ 64:=by
 obtain ⟨n,rfl⟩ : ∃ n,N = n + 1:=⟨N - 1,by omega⟩
 have W:=Wk.start H
 obtain ⟨g1,k1,F1,O1,l1,n1⟩:=cS (bO H h.next) [.int .i64 8,.int .i64 1,.int .i64 4,.int .i64 16,.int .i64 3,.int .i64 64,.int .i64 32,.int .i64 7] 1
 have W1:=W.fr F1 l1 (fun y hy => Nat.le_of_eq (List.mem_singleton.1 hy).symm)
 obtain ⟨r,hr,hr8⟩:=ji (k:=.u8) hx (show 0 < 8 by omega)
 have hr : ce .u8 x 8 = (r : Int):=hr
 rw [aD] at k1 O1
 have hc : ∃ w : Int,([.int .i64 8,.int .i64 1,.int .i64 4,.int .i64 16,.int .i64 3,.int .i64 64,.int .i64 32,.int .i64 7] : List Go.Value)[r]? = some (.int .i64 w) ∧ 1 ≤ w ∧ w ≤ 64:=by
  match r,hr8 with
  | 0,_ => exact ⟨8,rfl,by omega,by omega⟩
  | 1,_ => exact ⟨1,rfl,by omega,by omega⟩
  | 2,_ => exact ⟨4,rfl,by omega,by omega⟩
  | 3,_ => exact ⟨16,rfl,by omega,by omega⟩
  | 4,_ => exact ⟨3,rfl,by omega,by omega⟩
  | 5,_ => exact ⟨64,rfl,by omega,by omega⟩
  | 6,_ => exact ⟨32,rfl,by omega,by omega⟩
  | 7,_ => exact ⟨7,rfl,by omega,by omega⟩
 obtain ⟨w,hw,w1,w2⟩:=hc
 refine ⟨w,GA ?_,w1,w2⟩
 have eb:=aK (i:=(r : Int)) (n:=8) (by omega) (by omega)
 simp only [k1,hr,eb,ak,ae,an,au,ap,aq,cond_true,cond_false,Int.toNat_natCast,aj,O1.rd,Nat.zero_add,Nat.add_zero,Nat.mul_one,hw,EN W1]
theorem EU (N : Nat) (hN : 100 ≤ N) (h : AH) (H : WF h) (w : Int) (hw : w ≤ 64) : Ix h .u64 (az Tryz.prog N 35 [.int .i64 w] h):=by
 obtain ⟨n,rfl⟩ : ∃ n,N = n + 1:=⟨N - 1,by omega⟩
 have W:=Wk.start H
 have lp : ∀ (j i m0 : Nat) (x : Int),j < m0 → w - i ≤ j → i ≤ 64 → Ix h .u64 (xF n m0 h w x i (setLow h h.next)):=by
  intro j
  induction j with
  | zero =>
   intro i m0 x hj hi h6
   obtain ⟨m0,rfl⟩ : ∃ q,m0 = q + 1:=⟨m0 - 1,by omega⟩
   refine Ix.imp uf ?_
   rw [dF (by omega)]
   simp only [ak,ae,an,au,ap,aq,cond_true,cond_false,EN W]
   exact Ix.leaf
  | succ j ih =>
   intro i m0 x hj hi h6
   obtain ⟨m0,rfl⟩ : ∃ q,m0 = q + 1:=⟨m0 - 1,by omega⟩
   refine Ix.imp uf ?_
   refine Ix.cnd (fun e => ?_) (fun _ => by rw [EN W]; exact Ix.leaf)
   have:=lW e
   rw [dv (by omega)]
   exact ih (i + 1) m0 _ (by omega) (by omega) (by omega)
 refine Ix.imp GG ?_
 exact lp 64 0 n 0 (by omega) (by omega) (by omega)
section
variable {m : Nat} {τ : Nat → Nat} {kI : Nat} {h : AH} {B : Nat} {nm M St E F : Go.Value} {WL HV : List Int} {IL : List bF}
structure BG (m : Nat) (τ τ' : Nat → Nat) (kI : Nat) (h g : AH) (B : Nat) (nm M St E F : Go.Value) (WL HV : List Int) (IL : List bF) (d : Nat) (WL' HV' : List Int) (IL' : List bF) : Prop where
 st : BS m τ' kI g B nm M St E F WL' HV' IL'
 bt : Bt m τ τ' h g [2,3,4,kI]
 w : WL'.length ≤ WL.length + d
 v : HV'.length ≤ HV.length + d
 i : IL'.length ≤ IL.length + d
 a : (∀ x ∈ IL,x.args.length ≤ 3) → ∀ x ∈ IL',x.args.length ≤ 3
 wl : WL.length ≤ WL'.length
theorem BG.refl (V : BS m τ kI h B nm M St E F WL HV IL) (d : Nat) : BG m τ τ kI h h B nm M St E F WL HV IL d WL HV IL:=⟨V,Bt.refl V.wf _,by omega,by omega,by omega,id,Nat.le_refl _⟩
theorem BG.trans {τ1 τ2 : Nat → Nat} {g1 g2 : AH} {WL1 HV1 WL2 HV2 : List Int} {IL1 IL2 : List bF} {d1 d2 : Nat} (V : BS m τ kI h B nm M St E F WL HV IL) (G1 : BG m τ τ1 kI h g1 B nm M St E F WL HV IL d1 WL1 HV1 IL1) (G2 : BG m τ1 τ2 kI g1 g2 B nm M St E F WL1 HV1 IL1 d2 WL2 HV2 IL2) :
  BG m τ τ2 kI h g2 B nm M St E F WL HV IL (d1 + d2) WL2 HV2 IL2:=⟨G2.st,G1.bt.trans V.wf G2.bt,by have:=G1.w; have:=G2.w; omega,by have:=G1.v; have:=G2.v; omega,by have:=G1.i; have:=G2.i; omega,fun q => G2.a (G1.a q),Nat.le_trans G1.wl G2.wl⟩
theorem EV {g : AH} (H : WF h) (W : Wk h g) (hm : m ≤ h.next) (S : List Nat) : Bt m τ (upd τ h.next 10) (setLow h h.next) g S :=
 ⟨W.wf,W.nxt,Nat.le_of_eq W.low,fun _ => by rw [W.low]; exact hm,fun x hx => ot hx,fun x b hb _ => by
  have hx:=H.lt hb
  have hg:=H.gle x b hb
  exact ⟨(W.old x hx).1.trans hb,(W.old _ (Nat.lt_of_le_of_lt hg hx)).2⟩,fun x hx => W.old x (Nat.lt_of_lt_of_le hx hm)⟩
theorem Hc {j : Nat} (h : j < 9223372036854775807) : fC .i64 (j : Int) 1 = (j : Int) - 1:=by
 unfold fC
 rw [IntKind.wrap_i64]
 omega
theorem Cj {n : Int} (h0 : 0 ≤ n) (h1 : n < 256) : aQ .i64 n = n:=by
 unfold aQ
 rw [IntKind.wrap_i64]
 omega
theorem pZ (N : Nat) (hN : 1200 ≤ N) (V : BS m τ kI h B nm M St E F WL HV IL) (w n2 : Int) (hw : w ≤ 64) (hn0 : 0 ≤ n2) (hn1 : n2 < 256) (hl : WL.length < 1000 ∧ HV.length < 1000 ∧ IL.length < 1000) :
  ∃ v τ' g' WL' HV' IL',az Tryz.prog N 41 [.pointer (some ⟨B,0,none⟩),.int .i64 w,.int .u8 n2] h = some (.int .i64 v,g') ∧ BG m τ τ' kI h g' B nm M St E F WL HV IL 1 WL' HV' IL' ∧ ((g' = h ∧ τ' = τ ∧ WL' = WL ∧ HV' = HV ∧ IL' = IL) ∨ g'.low ≤ B):=by
 obtain ⟨n,rfl⟩ : ∃ n,N = n + 1:=⟨N - 1,by omega⟩
 obtain ⟨hmB,hB⟩:=V.mB
 have hk:=V.ki
 have V0:=V.low h.next (by omega)
 have H0:=V0.wf
 have k1 : ∀ g1,Wk h g1 → ∃ v τ' g' WL' HV' IL',xC n h ⟨B,0,none⟩ w n2 g1 = some (.int .i64 v,g') ∧ BG m τ τ' kI h g' B nm M St E F WL HV IL 1 WL' HV' IL' ∧ ((g' = h ∧ τ' = τ ∧ WL' = WL ∧ HV' = HV ∧ IL' = IL) ∨ g'.low ≤ B):=by
  intro g1 W
  have A1:=EV (m:=m) (τ:=τ) V.wf W (by omega) []
  have V1:=V0.keep A1 (by simp)
  obtain ⟨mk,hm1⟩:=EU n (by omega) g1 V1.wf w hw
  obtain ⟨τ2,g2,r2,V2,A2,l2⟩:=xL n (by omega) V1 1 w (aa:=none) (ac:=0) [] .nil (qI .u64 (aQ .u64 n2) mk) 0 hl
  have r2 : az Tryz.prog n 79 [.pointer (some ⟨B,0,none⟩),.int .i64 1,.int .i64 w,.slice none 0 0,.int .u64 (qI .u64 (aQ .u64 n2) mk),.int .i64 0] g1 = some (.int .i64 WL.length,g2):=r2
  have AA : Bt m τ τ2 (setLow h h.next) g2 [2,3,4,kI]:=Bt.trans H0 (A1.mono (by simp)) A2
  obtain ⟨g',q1,W',A',l'⟩:=V.exit V2 AA l2 (.int .i64 WL.length)
  refine ⟨(WL.length : Int),τ2,g',_,_,_,BE ?_,⟨W',A',by simp,by simp,by simp,fun q x hx => ?_,by simp⟩,.inr l'⟩
  ·skip
   simp only [hm1,ak,ae,an,au,ap,aq,cond_true,cond_false,r2]
   exact congrArg some q1
  ·rcases List.mem_append.1 hx with hx | hx
   ·exact q x hx
   ·rw [List.mem_singleton.1 hx]
    exact Nat.zero_le _
 have lp : ∀ (j m0 : Nat) (l : Option Addr) (ln lc G : Nat) (L : List Int) (g : AH),j < m0 → j ≤ HV.length → Wk h g → it g l ln lc 1 G (L.map fun x => .int .i64 x) → L.length = ln → ln + j ≤ HV.length → h.next ≤ G → G ≤ g.next →
   ∃ v τ' g' WL' HV' IL',t9 n m0 h ⟨B,0,none⟩ w n2 l ln lc ((j : Int) - 1) g = some (.int .i64 v,g') ∧ BG m τ τ' kI h g' B nm M St E F WL HV IL 1 WL' HV' IL' ∧ ((g' = h ∧ τ' = τ ∧ WL' = WL ∧ HV' = HV ∧ IL' = IL) ∨ g'.low ≤ B):=by
  intro j
  induction j with
  | zero =>
   intro m0 l ln lc G L g hj hjl W R hL hln hG1 hG2
   obtain ⟨m0,rfl⟩ : ∃ q,m0 = q + 1:=⟨m0 - 1,by omega⟩
   obtain ⟨v,τ',g',WL',HV',IL',q1,q2⟩:=k1 g W
   have k2 : aX (Int.ofNat ln) 0 = false → ∃ v,BD n h n2 l ln lc g = some (.int .i64 v,h):=fun e => by
    have hne : (ln : Int) ≠ 0:=DX e
    obtain ⟨r,hr,hrl⟩:=ji (k:=.i64) hn0 (show 0 < ln by omega)
    obtain ⟨x,hx⟩ : ∃ x,L[r]? = some x:=⟨_,List.getElem?_eq_getElem (by omega)⟩
    obtain ⟨β,o,p1,p2⟩:=BY R r x hx
    have p2:=p2 0 _ rfl
    refine ⟨x,BF ?_⟩
    have eb:=aK (i:=(r : Int)) (n:=ln) (by omega) (by omega)
    have hr' : ce .i64 n2 (Int.ofNat ln) = (r : Int):=hr
    rw [p1]
    simp only [e,Cj hn0 hn1,hr',eb,ak,ae,an,au,ap,aq,cond_true,cond_false,Int.toNat_natCast,aj,p2,EN W]
   have key : ∃ v τ' g' WL' HV' IL',rf aF n m0 h ⟨B,0,none⟩ w n2 l ln lc (((0 : Nat) : Int) - 1) g = some (.int .i64 v,g') ∧ BG m τ τ' kI h g' B nm M St E F WL HV IL 1 WL' HV' IL' ∧ ((g' = h ∧ τ' = τ ∧ WL' = WL ∧ HV' = HV ∧ IL' = IL) ∨ g'.low ≤ B):=by
    rw [ud,HU (by omega)]
    simp only [cond_false]
    cases e1 : aX (Int.ofNat ln) 0 with
    | true => exact ⟨v,τ',g',WL',HV',IL',q1,q2⟩
    | false =>
     simp only [cond_false]
     cases e2 : bS 250 n2 with
     | true => exact ⟨v,τ',g',WL',HV',IL',q1,q2⟩
     | false =>
      obtain ⟨v,hv⟩:=k2 e1
      exact ⟨v,τ,h,WL,HV,IL,hv,.refl V 1,.inl ⟨rfl,rfl,rfl,rfl,rfl⟩⟩
   obtain ⟨v,τ',g',WL',HV',IL',z1,z2⟩:=key
   exact ⟨v,τ',g',WL',HV',IL',ub z1,z2⟩
  | succ j ih =>
   intro m0 l ln lc G L g hj hjl W R hL hln hG1 hG2
   obtain ⟨m0,rfl⟩ : ∃ q,m0 = q + 1:=⟨m0 - 1,by omega⟩
   have A1:=EV (m:=m) (τ:=τ) V.wf W (by omega) []
   obtain ⟨wa,wc,va,vc,ia,ic,ics,O,⟨w1,w2⟩,⟨v1,v2⟩,i1,i2,i3⟩:=(V0.keep A1 (by simp)).st
   obtain ⟨x,hx⟩ : ∃ x,HV[j]? = some x:=⟨_,List.getElem?_eq_getElem (by omega)⟩
   obtain ⟨hx0,hx1⟩:=V.hv x (List.mem_of_getElem? hx)
   obtain ⟨y,hy⟩ : ∃ y,WL[x.toNat]? = some y:=⟨_,List.getElem?_eq_getElem (by omega)⟩
   obtain ⟨β1,o1,p1,p2⟩:=v1.ri j x hx
   have p2:=p2 0 _ rfl
   obtain ⟨β2,o2,p3,p4⟩:=w1.ri x.toNat y hy
   have p4:=p4 0 _ rfl
   obtain ⟨g1,g2,a',G',r1,r2,r3,r4,r5,r6,_⟩:=(y7 W).app (by_:=8) (Nat.le_refl _) R hG1 hG2 (vs:=[.int .i64 x]) rfl (by omega) (by omega)
   have nx1:=ih m0 l ln lc G L g (by omega) (by omega) W R hL (by omega) hG1 hG2
   have nx2:=ih m0 a' (ln + 1) aG G' (L ++ [x]) g2 (by omega) (by omega) (BX r4) (by rw [List.map_append]; exact r3) (by rw [List.length_append,hL]; rfl) (by omega) r5 r6
   have key : ∃ v τ' g' WL' HV' IL',rf aF n m0 h ⟨B,0,none⟩ w n2 l ln lc (((j + 1 : Nat) : Int) - 1) g = some (.int .i64 v,g') ∧ BG m τ τ' kI h g' B nm M St E F WL HV IL 1 WL' HV' IL' ∧ ((g' = h ∧ τ' = τ ∧ WL' = WL ∧ HV' = HV ∧ IL' = IL) ∨ g'.low ≤ B):=by
    rw [ud,show ((j + 1 : Nat) : Int) - 1 = (j : Int) by omega,y6 (by omega)]
    have eb:=aK (i:=(j : Int)) (n:=HV.length) (by omega) (by omega)
    have eb2:=aK (i:=x) (n:=WL.length) hx0 hx1
    rw [p1] at O
    rw [p3] at O
    simp only [ak,ae,an,au,ap,aq,cond_true,cond_false,O.rd,Nat.zero_add,Nat.add_zero,List.getElem?_cons_zero,List.getElem?_cons_succ,aj,Nat.reduceAdd,eb,eb2,Int.toNat_natCast,p2,p4,Hc (show j < 9223372036854775807 by omega),r1,r2]
    cases aX y w with
    | true => exact nx2
    | false => exact nx1
   obtain ⟨v,τ',g',WL',HV',IL',z1,z2⟩:=key
   exact ⟨v,τ',g',WL',HV',IL',ub z1,z2⟩
 obtain ⟨wa,wc,va,vc,ia,ic,ics,O,_⟩:=V0.st
 obtain ⟨v,τ',g',WL',HV',IL',z1,z2⟩:=lp HV.length n none 0 0 h.next [] (setLow h h.next) (by omega) (Nat.le_refl _) (Wk.start V.wf) (.nil _ _ _) rfl (by omega) (Nat.le_refl _) (Nat.le_refl _)
 refine ⟨v,τ',g',WL',HV',IL',GE ?_,z2⟩
 simp only [O.rd,Nat.zero_add,Nat.add_zero,List.getElem?_cons_zero,List.getElem?_cons_succ,aj,Nat.reduceAdd,ak,ae,an,au,ap,aq,cond_true,cond_false,dl,Hc (show HV.length < 9223372036854775807 by omega)]
 exact z1
end
theorem gy {h h' : AH} {a : Addr} {x : Go.Value} (h1 : rdC h a 0 = some x) (h2 : rdC h' a 0 = some x) (hx : uv x x = true) : cF h h' a 1 = true:=by
 have e1 : fB h a 0 = some x:=h1
 have e2 : fB h' a 0 = some x:=h2
 unfold cF cF
 rw [e1,e2]
 show (uv x x && true) = true
 rw [hx]
 rfl
theorem xM (k : IntKind) (n : Int) : uv (.int k n) (.int k n) = true:=by
 show (decide (k = k) && decide (n = n)) = true
 rw [decide_eq_true rfl,decide_eq_true rfl]
 rfl
theorem EW (b o n c : Nat) : uv (.slice (some ⟨b,o,none⟩) n c) (.slice (some ⟨b,o,none⟩) n c) = true:=by
 show (Nat.beq b b && (Nat.beq o o && (true && true)) && (Nat.beq n n && Nat.beq c c)) = true
 rw [Nat.beq_refl,Nat.beq_refl,Nat.beq_refl,Nat.beq_refl]
 rfl
def oR : List Go.Value:=[.string (ByteArray.mk (List.toArray [(OfNat.ofNat 97)])),.int .i64 8,.int .i64 5,.int .i64 0,.int .i64 0,.string (ByteArray.mk (List.toArray [(OfNat.ofNat 98)])),.int .i64 16,.int .i64 3,.int .i64 0,.int .i64 0]
section
variable {m : Nat} {τ : Nat → Nat} {kI : Nat} {h : AH} {B : Nat} {nm M St E F : Go.Value} {WL HV : List Int} {IL : List bF}
def AO (m : Nat) (τ : Nat → Nat) (kI : Nat) (h : AH) (B : Nat) (nm M St E F : Go.Value) (WL HV : List Int) (IL : List bF) (o : Option (Go.Value × AH)) : Prop :=
 ∃ τ' g' WL' HV' IL',o = some (.tuple #[],g') ∧ BG m τ τ' kI h g' B nm M St E F WL HV IL 5 WL' HV' IL' ∧ g'.low ≤ B
theorem AO.cnd {c : Bool} {X Y : Option (Go.Value × AH)} (h1 : c = true → AO m τ kI h B nm M St E F WL HV IL X) (h2 : c = false → AO m τ kI h B nm M St E F WL HV IL Y) : AO m τ kI h B nm M St E F WL HV IL (cond c X Y):=by
 cases c with
 | true => exact h1 rfl
 | false => exact h2 rfl
theorem AO.imp {X Y : Option (Go.Value × AH)} (f : ∀ {r},X = some r → Y = some r) (x : AO m τ kI h B nm M St E F WL HV IL X) : AO m τ kI h B nm M St E F WL HV IL Y:=by
 obtain ⟨τ',g',a,b,c,e,q⟩:=x
 exact ⟨τ',g',a,b,c,f e,q⟩
theorem BG.ext {τ1 τ2 : Nat → Nat} {g1 g2 : AH} {WL1 HV1 : List Int} {IL1 : List bF} {d : Nat} (V : WF h) (G : BG m τ τ1 kI h g1 B nm M St E F WL HV IL d WL1 HV1 IL1) (A : Bt m τ1 τ2 g1 g2 []) : BG m τ τ2 kI h g2 B nm M St E F WL HV IL d WL1 HV1 IL1 :=
 ⟨G.st.keep A (by simp),Bt.trans V G.bt (A.mono (by simp)),G.w,G.v,G.i,G.a,G.wl⟩
theorem BG.exit {τ1 : Nat → Nat} {g1 : AH} {WL1 HV1 : List Int} {IL1 : List bF} {d : Nat} (V : BS m τ kI h B nm M St E F WL HV IL) (G : BG m τ τ1 kI (setLow h h.next) g1 B nm M St E F WL HV IL d WL1 HV1 IL1) (hl : g1.low ≤ B) (v : Go.Value) :
  ∃ g',ai h g1 v = (v,g') ∧ BG m τ τ1 kI h g' B nm M St E F WL HV IL d WL1 HV1 IL1 ∧ g'.low ≤ B:=by
 obtain ⟨g',e,W,A,l⟩:=V.exit G.st G.bt hl v
 exact ⟨g',e,⟨W,A,G.w,G.v,G.i,G.a,G.wl⟩,l⟩
structure CX (m : Nat) (τ τ1 : Nat → Nat) (kI : Nat) (h g : AH) (B : Nat) (nm : Go.Value) (ma : Option Addr) (mc : Nat) (St E F : Go.Value) (WL HV : List Int) (IL : List bF) (d : Nat) (WL1 HV1 : List Int) (IL1 : List bF) (p : Nat) (pcs : List Go.Value) : Prop where
 gg : BG m τ τ1 kI (setLow h h.next) g B nm (.slice ma 2 mc) St E F WL HV IL d WL1 HV1 IL1
 o : Ow m τ1 8 g p pcs
 a : Rw m τ1 6 g ma 5 oR
variable {τ1 : Nat → Nat} {g : AH} {ma : Option Addr} {mc d p : Nat} {WL1 HV1 : List Int} {IL1 : List bF} {pcs : List Go.Value}
theorem CX.pick (V : BS m τ kI h B nm (.slice ma 2 mc) St E F WL HV IL) (C : CX m τ τ1 kI h g B nm ma mc St E F WL HV IL d WL1 HV1 IL1 p pcs) (hd : d ≤ 50) (hl : WL.length < 900 ∧ HV.length < 900 ∧ IL.length < 900) (N : Nat) (hN : 1200 ≤ N) (w n2 : Int) (hw : w ≤ 64) (hn0 : 0 ≤ n2) (hn1 : n2 < 256) :
  ∃ v τ' g' WL' HV' IL',az Tryz.prog N 41 [.pointer (some ⟨B,0,none⟩),.int .i64 w,.int .u8 n2] g = some (.int .i64 v,g') ∧ CX m τ τ' kI h g' B nm ma mc St E F WL HV IL (d + 1) WL' HV' IL' p pcs:=by
 have hk:=V.ki
 have:=C.gg.w
 have:=C.gg.v
 have:=C.gg.i
 obtain ⟨v,τ',g',WL',HV',IL',r,G,_⟩:=pZ N hN C.gg.st w n2 hw hn0 hn1 (by omega)
 have H0 : WF (setLow h h.next):=bO V.wf _
 have V0 : BS m τ kI (setLow h h.next) B nm (.slice ma 2 mc) St E F WL HV IL:=V.low _ (by have:=V.mB; omega)
 exact ⟨v,τ',g',WL',HV',IL',r,BG.trans V0 C.gg G,C.o.keep C.gg.st.wf G.bt (by simp; omega),C.a.keep C.gg.st.wf G.bt (by simp; omega)⟩
theorem CX.pick0 (V : BS m τ kI h B nm (.slice ma 2 mc) St E F WL HV IL) (C : CX m τ τ1 kI h g B nm ma mc St E F WL HV IL d WL1 HV1 IL1 p pcs) (hd : d ≤ 50) (hl : WL.length < 900 ∧ HV.length < 900 ∧ IL.length < 900) (N : Nat) (hN : 1200 ≤ N) (w n2 : Int) (hw : w ≤ 64) (hn0 : 0 ≤ n2) (hn1 : n2 < 256) :
  ∃ v g',az Tryz.prog N 41 [.pointer (some ⟨B,0,none⟩),.int .i64 w,.int .u8 n2] (setLow g g.next) = some (.int .i64 v,g') ∧ ((Nat.beq g'.low g.next = true ∧ setLow g' g.low = g) ∨ Nat.beq g'.low g.next = false):=by
 have hk:=V.ki
 have:=C.gg.w
 have:=C.gg.v
 have:=C.gg.i
 obtain ⟨hmB,hB⟩:=C.gg.st.mB
 obtain ⟨v,τ',g',WL',HV',IL',r,G,q⟩:=pZ N hN (C.gg.st.low g.next (by omega)) w n2 hw hn0 hn1 (by omega)
 refine ⟨v,g',r,?_⟩
 rcases q with ⟨rfl,_⟩ | q
 ·exact .inl ⟨Nat.beq_refl _,rfl⟩
 ·refine .inr ?_
  cases e : Nat.beq g'.low g.next with
  | false => rfl
  | true =>
   have:=Nat.eq_of_beq_eq_true e
   omega
theorem CX.new (V : BS m τ kI h B nm (.slice ma 2 mc) St E F WL HV IL) (C : CX m τ τ1 kI h g B nm ma mc St E F WL HV IL d WL1 HV1 IL1 p pcs) (AL : List Int) :
  ∃ τ' g',aF g (bU AL) 1 = some (g.next,g') ∧ CX m τ τ' kI h g' B nm ma mc St E F WL HV IL d WL1 HV1 IL1 p pcs ∧ Rw m τ' 1 g' (some ⟨g.next,0,none⟩) 1 (bU AL):=by
 obtain ⟨hmB,hB⟩:=C.gg.st.mB
 obtain ⟨g1,k1,A1,O1,R1,n1,l1⟩:=bP (τ:=τ1) C.gg.st.wf (show m ≤ g.next by omega) 1 1 (bU AL)
 have H0 : WF (setLow h h.next):=bO V.wf _
 exact ⟨_,g1,k1,⟨C.gg.ext H0 A1,C.o.keep C.gg.st.wf A1 (by simp),C.a.keep C.gg.st.wf A1 (by simp)⟩,R1⟩
theorem CX.fin (V : BS m τ kI h B nm (.slice ma 2 mc) St E F WL HV IL) (C : CX m τ τ1 kI h g B nm ma mc St E F WL HV IL d WL1 HV1 IL1 p pcs) (hd : d ≤ 4) (hl : WL.length < 900 ∧ HV.length < 900 ∧ IL.length < 900) (N : Nat) (hN : 2 ≤ N) (op w : Int) {aa : Option Addr} {ac : Nat} (AL : List Int) (ha : AL.length ≤ 3) (RA : Rw m τ1 1 g aa 1 (bU AL)) (num mem : Int) :
  ∃ v g2,az Tryz.prog N 79 [.pointer (some ⟨B,0,none⟩),.int .i64 op,.int .i64 w,.slice aa AL.length ac,.int .u64 num,.int .i64 mem] g = some (.int .i64 v,g2) ∧ AO m τ kI h B nm (.slice ma 2 mc) St E F WL HV IL (some (ai h g2 (.tuple #[]))):=by
 have:=C.gg.w
 have:=C.gg.v
 have:=C.gg.i
 obtain ⟨τ2,g2,r2,V2,A2,l2⟩:=xL N hN C.gg.st op w (ac:=ac) AL RA num mem (by omega)
 have H0 : WF (setLow h h.next):=bO V.wf _
 have G : BG m τ τ2 kI (setLow h h.next) g2 B nm (.slice ma 2 mc) St E F WL HV IL 5 (WL1 ++ [w]) (HV1 ++ [(WL1.length : Int)]) (IL1 ++ [⟨op,WL1.length,AL,num,mem⟩]) :=
  ⟨V2,Bt.trans H0 C.gg.bt A2,by simp; omega,by simp; omega,by simp; omega,fun q x hx => by
   rcases List.mem_append.1 hx with hx | hx
   ·exact C.gg.a q x hx
   ·rw [List.mem_singleton.1 hx]
    exact ha,by have:=C.gg.wl; simp; omega⟩
 obtain ⟨g',e,G',l'⟩:=BG.exit V G l2 (.tuple #[])
 exact ⟨WL1.length,g2,r2,τ2,g',_,_,_,congrArg some e,G',l'⟩
theorem CX.fin2 (V : BS m τ kI h B nm (.slice ma 2 mc) St E F WL HV IL) (C : CX m τ τ1 kI h g B nm ma mc St E F WL HV IL d WL1 HV1 IL1 p pcs) (hd : d ≤ 4) (hl : WL.length < 900 ∧ HV.length < 900 ∧ IL.length < 900) (op dest : Int) {aa : Option Addr} {ac : Nat} (AL : List Int) (ha : AL.length ≤ 3) (RA : Rw m τ1 1 g aa 1 (bU AL)) (num mem : Int) :
  ∃ ia ic g1 g2 a' g3,aF g [.int .i64 op,.int .i64 dest,.slice aa AL.length ac,.int .u64 num,.int .i64 mem] 5 = some (g.next,g1) ∧ dg 5 56 (.slice ia IL1.length ic) (.slice (some ⟨g.next,0,none⟩) 1 1) g1 = some ((a',IL1.length + 1,aG),g2) ∧ di g2 ⟨B,7,none⟩ [.slice a' (IL1.length + 1) aG] = some g3 ∧ rdC g ⟨B,7,none⟩ 0 = some (.slice ia IL1.length ic) ∧
   AO m τ kI h B nm (.slice ma 2 mc) St E F WL HV IL (some (ai h g3 (.tuple #[]))):=by
 have:=C.gg.w
 have:=C.gg.v
 have:=C.gg.i
 have hk:=V.ki
 have V1:=C.gg.st
 obtain ⟨hmB,hB⟩:=V1.mB
 have H0 : WF (setLow h h.next):=bO V.wf _
 obtain ⟨wa,wc,va,vc,ia,ic,ics,O,⟨w1,w2⟩,⟨v1,v2⟩,i1,i2,i3⟩:=V1.st
 obtain ⟨g2,g3,a',k2,k3,A2,i1',i2',ea,en⟩:=gx (by_:=56) V1.wf (show m ≤ g.next by omega) [.int .i64 op,.int .i64 dest,.slice aa AL.length ac,.int .u64 num,.int .i64 mem] i1 i2 rfl (by omega) (by omega)
 have O3:=O.keep V1.wf A2 (by simp; omega)
 have i3':=(i3.keep V1.wf A2 (by simp; omega)).app i2.1 ⟨op,dest,AL,num,mem⟩ (ac:=ac) (RA.keep V1.wf A2 (by simp; omega))
 obtain ⟨g4,k4,A4,O4,n4,l4⟩:=cM (o:=7) (vs:=[.slice a' (IL1.length + 1) aG]) A2.wf O3 (by simp)
 have hl4 : g4.low ≤ B:=by
  rw [l4]
  exact (cl _ _).1
 have e3 : (IL1 ++ [(⟨op,dest,AL,num,mem⟩ : bF)]).length = IL1.length + 1:=by simp
 have AA : Bt m τ1 _ g g4 [2,3,4,kI]:=Bt.trans V1.wf (A2.mono (by simp)) (A4.mono (by simp))
 have W : BS m (upd τ1 g.next kI) kI g4 B nm (.slice ma 2 mc) St E F WL1 HV1 (IL1 ++ [⟨op,dest,AL,num,mem⟩]):=by
  refine ⟨A4.wf,AA.lo2 V1.lo,⟨wa,wc,va,vc,a',aG,_,?_,⟨(w1.keep V1.wf A2 (by simp; omega)).keep A2.wf A4 (by simp),w2⟩,⟨(v1.keep V1.wf A2 (by simp; omega)).keep A2.wf A4 (by simp),v2⟩,i1'.keep A2.wf A4 (by simp; omega),?_,i3'.keep A2.wf A4 (by simp)⟩,V1.hv,V1.ki⟩
  ·rw [e3]
   exact O4
  ·rw [e3]
   exact i2'
 have G : BG m τ (upd τ1 g.next kI) kI (setLow h h.next) g4 B nm (.slice ma 2 mc) St E F WL HV IL 5 WL1 HV1 (IL1 ++ [⟨op,dest,AL,num,mem⟩]) :=
  ⟨W,Bt.trans H0 C.gg.bt AA,by omega,by omega,by simp; omega,fun q x hx => by
   rcases List.mem_append.1 hx with hx | hx
   ·exact C.gg.a q x hx
   ·rw [List.mem_singleton.1 hx]
    exact ha,C.gg.wl⟩
 obtain ⟨g',e,G',l'⟩:=BG.exit V G hl4 (.tuple #[])
 exact ⟨ia,ic,g2,g3,a',g4,k2,k3,k4,by rw [O.rd]; rfl,_,g',_,_,_,congrArg some e,G',l'⟩
theorem CX.fin3 (V : BS m τ kI h B nm (.slice ma 2 mc) St E F WL HV IL) (C : CX m τ τ1 kI h g B nm ma mc St E F WL HV IL d WL1 HV1 IL1 p pcs) (hd : d ≤ 4) (hl : WL.length < 900 ∧ HV.length < 900 ∧ IL.length < 900) (op dest : Int) (AL : List Int) (ha : AL.length ≤ 3) (ac : Nat) (num mem : Int) :
  ∃ ia ic g1 g2 g3 a' g4,aF g (bU AL) 1 = some (g.next,g1) ∧ aF g1 [.int .i64 op,.int .i64 dest,.slice (some ⟨g.next,0,none⟩) AL.length ac,.int .u64 num,.int .i64 mem] 5 = some (g1.next,g2) ∧ dg 5 56 (.slice ia IL1.length ic) (.slice (some ⟨g1.next,0,none⟩) 1 1) g2 = some ((a',IL1.length + 1,aG),g3) ∧ di g3 ⟨B,7,none⟩ [.slice a' (IL1.length + 1) aG] = some g4 ∧ rdC g ⟨B,7,none⟩ 0 = some (.slice ia IL1.length ic) ∧
   AO m τ kI h B nm (.slice ma 2 mc) St E F WL HV IL (some (ai h g4 (.tuple #[]))):=by
 obtain ⟨hmB,hB⟩:=C.gg.st.mB
 have hk:=V.ki
 obtain ⟨g1,k1,A1,O1,R1,n1,l1⟩:=bP (τ:=τ1) C.gg.st.wf (show m ≤ g.next by omega) 1 1 (bU AL)
 have H0 : WF (setLow h h.next):=bO V.wf _
 have C1 : CX m τ (upd τ1 g.next 1) kI h g1 B nm ma mc St E F WL HV IL d WL1 HV1 IL1 p pcs:=⟨C.gg.ext H0 A1,C.o.keep C.gg.st.wf A1 (by simp),C.a.keep C.gg.st.wf A1 (by simp)⟩
 obtain ⟨ia,ic,g2,g3,a',g4,r1,r2,r3,r4,X⟩:=C1.fin2 V hd hl op dest (ac:=ac) AL ha R1 num mem
 obtain ⟨_,_,_,_,ia0,ic0,_,O,_⟩:=C.gg.st.st
 have O2:=O.keep C.gg.st.wf A1 (by simp)
 have e1 : rdC g1 ⟨B,7,none⟩ 0 = some (.slice ia0 IL1.length ic0):=by
  rw [O2.rd]
  rfl
 rw [e1] at r4
 injection r4 with r4
 injection r4 with q1 q2 q3
 subst q1
 subst q3
 exact ⟨ia0,ic0,g1,g2,g3,a',g4,k1,r1,r2,r3,by rw [O.rd]; rfl,X⟩
end
theorem D6 {a b c : Int} (h1 : a ≤ c) (h2 : b ≤ c) : ge a b ≤ c:=by
 unfold ge
 cases decide (a < b) <;> assumption
theorem D7 {a b c : Int} (h1 : a ≤ c) (h2 : b ≤ c) : fM a b ≤ c:=by
 unfold fM
 cases decide (b < a) <;> assumption
theorem JP {n : Int} (h0 : 0 ≤ n) (h1 : n < 256) : 0 ≤ qH .u8 n 2 ∧ qH .u8 n 2 < 256:=by
 obtain ⟨x,rfl⟩ : ∃ x : Nat,n = (x : Int):=⟨n.toNat,by omega⟩
 have : qH .u8 (x : Int) 2 = ((x / 2 : Nat) : Int):=by
  unfold qH
  rw [show (x : Int).tdiv 2 = ((x / 2 : Nat) : Int) from (Int.ofNat_tdiv x 2).symm]
  rw [IntKind.wrap_u8]
  omega
 rw [this]
 omega
section
variable {m : Nat} {τ : Nat → Nat} {kI : Nat} {h : AH} {B : Nat} {nm M St E F : Go.Value} {WL HV : List Int} {IL : List bF} {ma : Option Addr} {mc : Nat}
theorem JQ (N : Nat) (hN : 1300 ≤ N) (V : BS m τ kI h B nm (.slice ma 2 mc) St E F WL HV IL) (hl : WL.length < 900 ∧ HV.length < 900 ∧ IL.length < 900) (RM : Rw m τ 6 h ma 5 oR)
  (pa pb pc pd pe pf : Int) (ha : 0 ≤ pa ∧ pa < 256) (hb : 0 ≤ pb ∧ pb < 256) (hc : 0 ≤ pc ∧ pc < 256) (hd : 0 ≤ pd ∧ pd < 256) (he : 0 ≤ pe ∧ pe < 256) :
  AO m τ kI h B nm (.slice ma 2 mc) St E F WL HV IL (az Tryz.prog N 40 [.pointer (some ⟨B,0,none⟩),.agg #[.int .u8 pa,.int .u8 pb,.int .u8 pc,.int .u8 pd,.int .u8 pe,.int .u64 pf]] h):=by
 obtain ⟨n,rfl⟩ : ∃ n,N = n + 1:=⟨N - 1,by omega⟩
 have hk:=V.ki
 obtain ⟨hmB,hB⟩:=V.mB
 have V0:=V.low h.next (by omega)
 have H0 : WF (setLow h h.next):=bO V.wf _
 obtain ⟨g0,k0,A0,O0,_,n0,l0⟩:=bP (τ:=τ) H0 (show m ≤ (setLow h h.next).next by rw [aD]; omega) 8 0 [.int .u8 pa,.int .u8 pb,.int .u8 pc,.int .u8 pd,.int .u8 pe,.int .u64 pf]
 have C0 : CX m τ (upd τ (setLow h h.next).next 8) kI h g0 B nm ma mc St E F WL HV IL 0 WL HV IL (setLow h h.next).next [.int .u8 pa,.int .u8 pb,.int .u8 pc,.int .u8 pd,.int .u8 pe,.int .u64 pf] :=
  ⟨BG.ext H0 (.refl V0 0) A0,O0,Rw.keep (g:=setLow h h.next) H0 RM A0 (by simp)⟩
 generalize upd τ (setLow h h.next).next 8 = τ0 at C0
 rw [aD] at k0 C0
 obtain ⟨w,hw,w1,w2⟩:=ou n (by omega) g0 C0.gg.st.wf pb hb.1
 refine AO.imp GC ?_
 simp only [k0,C0.o.rd,Nat.zero_add,Nat.add_zero,List.getElem?_cons_zero,List.getElem?_cons_succ,aj,Nat.reduceAdd,ak,ae,an,au,ap,aq,cond_true,cond_false,hw]
 generalize aT .i64 1 (ce .i64 (aQ .i64 pa) 28) = op
 refine AO.cnd (fun _ => ?_) (fun _ => ?_)
 ·obtain ⟨mk,hm1⟩:=EU n (by omega) (setLow g0 g0.next) (bO C0.gg.st.wf _) w w2
  obtain ⟨v,g2,r2,X⟩:=C0.fin V (by omega) hl n (by omega) op w (aa:=none) (ac:=0) [] (by simp) .nil (qI .u64 pf mk) 0
  have r2 : az Tryz.prog n 79 [.pointer (some ⟨B,0,none⟩),.int .i64 op,.int .i64 w,.slice none 0 0,.int .u64 (qI .u64 pf mk),.int .i64 0] g0 = some (.int .i64 v,g2):=r2
  simp only [hm1,ak,ae,an,au,ap,aq,cond_true,cond_false,aH,aI,aE,Nat.beq_refl,r2]
  exact X
 have two : ∀ (o u : Int),∃ v1 g1 v2 g2 g3 v4 g4,az Tryz.prog n 41 [.pointer (some ⟨B,0,none⟩),.int .i64 w,.int .u8 pc] g0 = some (.int .i64 v1,g1) ∧ rdC g1 ⟨h.next,3,none⟩ 0 = some (.int .u8 pd) ∧ az Tryz.prog n 41 [.pointer (some ⟨B,0,none⟩),.int .i64 w,.int .u8 pd] g1 = some (.int .i64 v2,g2) ∧
   aF g2 [.int .i64 v1,.int .i64 v2] 1 = some (g2.next,g3) ∧ az Tryz.prog n 79 [.pointer (some ⟨B,0,none⟩),.int .i64 o,.int .i64 u,.slice (some ⟨g2.next,0,none⟩) 2 2,.int .u64 0,.int .i64 0] g3 = some (.int .i64 v4,g4) ∧ AO m τ kI h B nm (.slice ma 2 mc) St E F WL HV IL (some (ai h g4 (.tuple #[]))):=fun o u => by
  obtain ⟨v1,τ1,g1,_,_,_,r1,C1⟩:=C0.pick V (by omega) hl n (by omega) w pc w2 hc.1 hc.2
  obtain ⟨v2,τ2,g2,_,_,_,r2,C2⟩:=C1.pick V (by omega) hl n (by omega) w pd w2 hd.1 hd.2
  obtain ⟨τ3,g3,r3,C3,R3⟩:=C2.new V [v1,v2]
  obtain ⟨v4,g4,r4,X⟩:=C3.fin V (by omega) hl n (by omega) o u (ac:=2) [v1,v2] (by simp) R3 0 0
  exact ⟨v1,g1,v2,g2,g3,v4,g4,r1,by rw [C1.o.rd]; rfl,r2,r3,r4,X⟩
 refine AO.cnd (fun _ => ?_) (fun _ => ?_)
 ·obtain ⟨v1,g1,v2,g2,g3,v4,g4,r1,q1,r2,r3,r4,X⟩:=two op w
  simp only [r1,ak,ae,an,au,ap,aq,cond_true,cond_false,q1,r2,r3,r4]
  exact X
 refine AO.cnd (fun _ => ?_) (fun _ => ?_)
 ·obtain ⟨v1,g1,v2,g2,g3,v4,g4,r1,q1,r2,r3,r4,X⟩:=two op 1
  simp only [r1,ak,ae,an,au,ap,aq,cond_true,cond_false,q1,r2,r3,r4]
  exact X
 refine AO.cnd (fun _ => ?_) (fun _ => ?_)
 ·obtain ⟨v1,τ1,g1,_,_,_,r1,C1⟩:=C0.pick V (by omega) hl n (by omega) 1 pe (by omega) he.1 he.2
  obtain ⟨v2,τ2,g2,_,_,_,r2,C2⟩:=C1.pick V (by omega) hl n (by omega) w pc w2 hc.1 hc.2
  obtain ⟨v3,τ3,g3,_,_,_,r3,C3⟩:=C2.pick V (by omega) hl n (by omega) w pd w2 hd.1 hd.2
  obtain ⟨τ4,g4,r4,C4,R4⟩:=C3.new V [v1,v2,v3]
  obtain ⟨v5,g5,r5,X⟩:=C4.fin V (by omega) hl n (by omega) op w (ac:=3) [v1,v2,v3] (by simp) R4 0 0
  have r4 : aF g3 [.int .i64 v1,.int .i64 v2,.int .i64 v3] 1 = some (g3.next,g4):=r4
  have r5 : az Tryz.prog n 79 [.pointer (some ⟨B,0,none⟩),.int .i64 op,.int .i64 w,.slice (some ⟨g3.next,0,none⟩) 3 3,.int .u64 0,.int .i64 0] g4 = some (.int .i64 v5,g5):=r5
  simp only [r1,ak,ae,an,au,ap,aq,cond_true,cond_false,C1.o.rd,C2.o.rd,Nat.zero_add,Nat.add_zero,List.getElem?_cons_zero,List.getElem?_cons_succ,aj,Nat.reduceAdd,r2,r3,r4,r5]
  exact X
 refine AO.cnd (fun _ => ?_) (fun _ => ?_)
 ·obtain ⟨u,hu,u1,u2⟩:=ou n (by omega) g0 C0.gg.st.wf pd hd.1
  simp only [hu,ak,ae,an,au,ap,aq,cond_true,cond_false,C0.o.rd,Nat.zero_add,Nat.add_zero,List.getElem?_cons_zero,List.getElem?_cons_succ,aj,Nat.reduceAdd]
  refine AO.cnd (fun _ => ?_) (fun _ => ?_)
  ·obtain ⟨v0,g',r0,q⟩:=C0.pick0 V (by omega) hl n (by omega) w pc w2 hc.1 hc.2
   rcases q with ⟨b1,b2⟩ | b1
   ·obtain ⟨v2,τ2,g2,_,_,_,r2,C2⟩:=C0.pick V (by omega) hl n (by omega) w pe w2 he.1 he.2
    obtain ⟨τ3,g3,r3,C3,R3⟩:=C2.new V [v0,v2]
    obtain ⟨v4,g4,r4,X⟩:=C3.fin V (by omega) hl n (by omega) 10 w (ac:=2) [v0,v2] (by simp) R3 0 0
    have r3 : aF g2 [.int .i64 v0,.int .i64 v2] 1 = some (g2.next,g3):=r3
    have r4 : az Tryz.prog n 79 [.pointer (some ⟨B,0,none⟩),.int .i64 10,.int .i64 w,.slice (some ⟨g2.next,0,none⟩) 2 2,.int .u64 0,.int .i64 0] g3 = some (.int .i64 v4,g4):=r4
    simp only [r0,b1,b2,ak,ae,an,au,ap,aq,cond_true,cond_false,C0.o.rd,Nat.zero_add,Nat.add_zero,List.getElem?_cons_zero,List.getElem?_cons_succ,aj,Nat.reduceAdd,r2,r3,r4]
    exact X
   ·obtain ⟨v1,τ1,g1,_,_,_,r1,C1⟩:=C0.pick V (by omega) hl n (by omega) w pc w2 hc.1 hc.2
    obtain ⟨v2,τ2,g2,_,_,_,r2,C2⟩:=C1.pick V (by omega) hl n (by omega) w pe w2 he.1 he.2
    obtain ⟨τ3,g3,r3,C3,R3⟩:=C2.new V [v1,v2]
    obtain ⟨v4,g4,r4,X⟩:=C3.fin V (by omega) hl n (by omega) 10 w (ac:=2) [v1,v2] (by simp) R3 0 0
    have r3 : aF g2 [.int .i64 v1,.int .i64 v2] 1 = some (g2.next,g3):=r3
    have r4 : az Tryz.prog n 79 [.pointer (some ⟨B,0,none⟩),.int .i64 10,.int .i64 w,.slice (some ⟨g2.next,0,none⟩) 2 2,.int .u64 0,.int .i64 0] g3 = some (.int .i64 v4,g4):=r4
    have sc : cF g1 g0 ⟨h.next,4,none⟩ 1 = true:=gy (x:=.int .u8 pe) (by rw [C1.o.rd]; rfl) (by rw [C0.o.rd]; rfl) (xM _ _)
    simp only [r0,b1,ak,ae,an,au,ap,aq,cond_true,cond_false,C0.o.rd,C1.o.rd,Nat.zero_add,Nat.add_zero,List.getElem?_cons_zero,List.getElem?_cons_succ,aj,Nat.reduceAdd,r1,r2,r3,r4,sc,Bool.and_true]
    exact X
  ·refine AO.cnd (fun _ => ?_) (fun _ => ?_)
   ·obtain ⟨v1,τ1,g1,_,_,_,r1,C1⟩:=C0.pick V (by omega) hl n (by omega) (ge w u) pc (D6 w2 u2) hc.1 hc.2
    obtain ⟨τ3,g3,r3,C3,R3⟩:=C1.new V [v1]
    obtain ⟨v4,g4,r4,X⟩:=C3.fin V (by omega) hl n (by omega) op (fM w u) (ac:=1) [v1] (by simp) R3 0 0
    have r3 : aF g1 [.int .i64 v1] 1 = some (g1.next,g3):=r3
    have r4 : az Tryz.prog n 79 [.pointer (some ⟨B,0,none⟩),.int .i64 op,.int .i64 (fM w u),.slice (some ⟨g1.next,0,none⟩) 1 1,.int .u64 0,.int .i64 0] g3 = some (.int .i64 v4,g4):=r4
    simp only [r1,ak,ae,an,au,ap,aq,cond_true,cond_false,r3,r4]
    exact X
   ·obtain ⟨v1,τ1,g1,_,_,_,r1,C1⟩:=C0.pick V (by omega) hl n (by omega) (fM w u) pc (D7 w2 u2) hc.1 hc.2
    obtain ⟨τ3,g3,r3,C3,R3⟩:=C1.new V [v1]
    obtain ⟨v4,g4,r4,X⟩:=C3.fin V (by omega) hl n (by omega) op (ge w u) (ac:=1) [v1] (by simp) R3 0 0
    have r3 : aF g1 [.int .i64 v1] 1 = some (g1.next,g3):=r3
    have r4 : az Tryz.prog n 79 [.pointer (some ⟨B,0,none⟩),.int .i64 op,.int .i64 (ge w u),.slice (some ⟨g1.next,0,none⟩) 1 1,.int .u64 0,.int .i64 0] g3 = some (.int .i64 v4,g4):=r4
    simp only [r1,ak,ae,an,au,ap,aq,cond_true,cond_false,r3,r4]
    exact X
 obtain ⟨r,hr,hr2⟩:=ji (k:=.i64) (show 0 ≤ aQ .i64 pe by rw [Cj he.1 he.2]; exact he.1) (show 0 < 2 by omega)
 have hr : ce .i64 (aQ .i64 pe) 2 = (r : Int):=hr
 have eb:=aK (i:=(r : Int)) (n:=2) (by omega) (by omega)
 obtain ⟨aw,haw,ha1⟩ : ∃ aw : Int,oR[r * 5 + 1]? = some (.int .i64 aw) ∧ aw ≤ 64:=by
  match r,hr2 with
  | 0,_ => exact ⟨8,rfl,by omega⟩
  | 1,_ => exact ⟨16,rfl,by omega⟩
 have marr : ∀ {τ1 g1 d WL1 HV1 IL1 p pcs},CX m τ τ1 kI h g1 B nm ma mc St E F WL HV IL d WL1 HV1 IL1 p pcs → rdC g1 ⟨B,2,none⟩ 0 = some (.slice ma 2 mc) ∧ ∃ β,ma = some ⟨β,0,none⟩ ∧ rdC g1 ⟨β,r * 5 + 1,none⟩ 0 = some (.int .i64 aw):=fun C => by
  obtain ⟨_,_,_,_,_,_,_,O,_⟩:=C.gg.st.st
  obtain ⟨β,e1,e2⟩:=C.a.rd haw
  exact ⟨by rw [O.rd]; rfl,β,e1,e2 _ _ (by omega)⟩
 refine AO.cnd (fun _ => ?_) (fun _ => ?_)
 ·obtain ⟨v1,τ1,g1,_,_,_,r1,C1⟩:=C0.pick V (by omega) hl n (by omega) 8 pc (by omega) hc.1 hc.2
  obtain ⟨z1,β,z2,z3⟩:=marr C1
  subst z2
  obtain ⟨v0,g',r0,q⟩:=C1.pick0 V (by omega) hl n (by omega) 1 pd (by omega) hd.1 hd.2
  rcases q with ⟨b1,b2⟩ | b1
  ·obtain ⟨τ3,g3,r3,C3,R3⟩:=C1.new V [v1,v0]
   obtain ⟨v4,g4,r4,X⟩:=C3.fin V (by omega) hl n (by omega) op aw (ac:=2) [v1,v0] (by simp) R3 0 r
   have r3 : aF g1 [.int .i64 v1,.int .i64 v0] 1 = some (g1.next,g3):=r3
   have r4 : az Tryz.prog n 79 [.pointer (some ⟨B,0,none⟩),.int .i64 op,.int .i64 aw,.slice (some ⟨g1.next,0,none⟩) 2 2,.int .u64 0,.int .i64 r] g3 = some (.int .i64 v4,g4):=r4
   simp only [r1,hr,z1,eb,Int.toNat_natCast,z3,r0,b1,b2,ak,ae,an,au,ap,aq,cond_true,cond_false,C1.o.rd,Nat.zero_add,Nat.add_zero,List.getElem?_cons_zero,List.getElem?_cons_succ,aj,Nat.reduceAdd,r3,r4]
   exact X
  ·obtain ⟨v2,τ2,g2,_,_,_,r2,C2⟩:=C1.pick V (by omega) hl n (by omega) 1 pd (by omega) hd.1 hd.2
   obtain ⟨τ3,g3,r3,C3,R3⟩:=C2.new V [v1,v2]
   obtain ⟨v4,g4,r4,X⟩:=C3.fin V (by omega) hl n (by omega) op aw (ac:=2) [v1,v2] (by simp) R3 0 r
   have r3 : aF g2 [.int .i64 v1,.int .i64 v2] 1 = some (g2.next,g3):=r3
   have r4 : az Tryz.prog n 79 [.pointer (some ⟨B,0,none⟩),.int .i64 op,.int .i64 aw,.slice (some ⟨g2.next,0,none⟩) 2 2,.int .u64 0,.int .i64 r] g3 = some (.int .i64 v4,g4):=r4
   obtain ⟨y1,β',y2,y3⟩:=marr C2
   injection y2 with y2
   injection y2 with y2
   subst y2
   obtain ⟨x1,β',x2,x3⟩:=marr C3
   injection x2 with x2
   injection x2 with x2
   subst x2
   have s1:=gy z1 y1 (EW _ _ _ _)
   have s2:=gy z1 x1 (EW _ _ _ _)
   have s3:=gy z3 y3 (xM _ _)
   have s4:=gy z3 x3 (xM _ _)
   simp only [r1,hr,z1,eb,Int.toNat_natCast,z3,r0,b1,ak,ae,an,au,ap,aq,cond_true,cond_false,C1.o.rd,Nat.zero_add,Nat.add_zero,List.getElem?_cons_zero,List.getElem?_cons_succ,aj,Nat.reduceAdd,r2,r3,r4,s1,s2,s3,s4,Bool.and_true]
   exact X
 refine AO.cnd (fun _ => ?_) (fun _ => ?_)
 ·obtain ⟨v1,τ1,g1,_,_,_,r1,C1⟩:=C0.pick V (by omega) hl n (by omega) 8 pc (by omega) hc.1 hc.2
  obtain ⟨z1,β,z2,z3⟩:=marr C1
  subst z2
  obtain ⟨v2,τ2,g2,_,_,_,r2,C2⟩:=C1.pick V (by omega) hl n (by omega) aw pd ha1 hd.1 hd.2
  obtain ⟨q0,q1⟩:=JP he.1 he.2
  obtain ⟨v3,τ3,g3,_,_,_,r3,C3⟩:=C2.pick V (by omega) hl n (by omega) 1 (qH .u8 pe 2) (by omega) q0 q1
  obtain ⟨ia,ic,g4,g5,g6,a',g7,r4,r5,r6,r7,r8,X⟩:=C3.fin3 V (by omega) hl op (-1) [v1,v2,v3] (by simp) 3 0 r
  have r4 : aF g3 [.int .i64 v1,.int .i64 v2,.int .i64 v3] 1 = some (g3.next,g4):=r4
  have r5 : aF g4 [.int .i64 op,.int .i64 (-1),.slice (some ⟨g3.next,0,none⟩) 3 3,.int .u64 0,.int .i64 r] 5 = some (g4.next,g5):=r5
  simp only [r1,hr,z1,eb,Int.toNat_natCast,z3,r2,ak,ae,an,au,ap,aq,cond_true,cond_false,C1.o.rd,C2.o.rd,Nat.zero_add,Nat.add_zero,List.getElem?_cons_zero,List.getElem?_cons_succ,aj,Nat.reduceAdd,r3,r4,r5,r6,r7,r8]
  exact X
 refine AO.cnd (fun _ => ?_) (fun _ => ?_)
 ·obtain ⟨v1,τ1,g1,_,_,_,r1,C1⟩:=C0.pick V (by omega) hl n (by omega) 1 pc (by omega) hc.1 hc.2
  obtain ⟨τ3,g3,r3,C3,R3⟩:=C1.new V [v1]
  obtain ⟨v4,g4,r4,X⟩:=C3.fin V (by omega) hl n (by omega) op 8 (ac:=1) [v1] (by simp) R3 0 0
  have r3 : aF g1 [.int .i64 v1] 1 = some (g1.next,g3):=r3
  have r4 : az Tryz.prog n 79 [.pointer (some ⟨B,0,none⟩),.int .i64 op,.int .i64 8,.slice (some ⟨g1.next,0,none⟩) 1 1,.int .u64 0,.int .i64 0] g3 = some (.int .i64 v4,g4):=r4
  simp only [r1,ak,ae,an,au,ap,aq,cond_true,cond_false,r3,r4]
  exact X
 ·obtain ⟨v1,τ1,g1,_,_,_,r1,C1⟩:=C0.pick V (by omega) hl n (by omega) 8 pc (by omega) hc.1 hc.2
  obtain ⟨v2,τ2,g2,_,_,_,r2,C2⟩:=C1.pick V (by omega) hl n (by omega) 1 pd (by omega) hd.1 hd.2
  obtain ⟨ia,ic,g4,g5,g6,a',g7,r4,r5,r6,r7,r8,X⟩:=C2.fin3 V (by omega) hl op (-1) [v1,v2] (by simp) 2 0 1
  have r4 : aF g2 [.int .i64 v1,.int .i64 v2] 1 = some (g2.next,g4):=r4
  have r5 : aF g4 [.int .i64 op,.int .i64 (-1),.slice (some ⟨g2.next,0,none⟩) 2 2,.int .u64 0,.int .i64 1] 5 = some (g4.next,g5):=r5
  simp only [r1,r2,ak,ae,an,au,ap,aq,cond_true,cond_false,C1.o.rd,Nat.zero_add,Nat.add_zero,List.getElem?_cons_zero,List.getElem?_cons_succ,aj,Nat.reduceAdd,r4,r5,r6,r7,r8]
  exact X
end
structure jW where
 a : Int
 b : Int
 c : Int
 d : Int
 e : Int
 f : Int
structure fF where
 params : List Int
 insts : List jW
 kind : Int
 t0 : Int
 t1 : Int
 k0 : Int
 k1 : Int
 k2 : Int
 k3 : Int
def U8 (x : Int) : Prop:=0 ≤ x ∧ x < 256
def RU (h : AH) (a : Option Addr) (l : List Int) : Prop:=∀ i x,l[i]? = some x → At h a 1 i [.int .u8 x] ∧ U8 x
def RP (h : AH) (a : Option Addr) (l : List jW) : Prop:=∀ i x,l[i]? = some x → At h a 6 i [.int .u8 x.a,.int .u8 x.b,.int .u8 x.c,.int .u8 x.d,.int .u8 x.e,.int .u64 x.f] ∧ U8 x.a ∧ U8 x.b ∧ U8 x.c ∧ U8 x.d ∧ U8 x.e
def RQ (h : AH) (a : Option Addr) (l : List fF) : Prop:=∀ i x,l[i]? = some x → ∃ qa qc ia ic,At h a 9 i [.slice qa x.params.length qc,.slice ia x.insts.length ic,.int .u8 x.kind,.int .u8 x.t0,.int .u8 x.t1,.int .u8 x.k0,.int .u8 x.k1,.int .u8 x.k2,.int .u8 x.k3] ∧
 RU h qa x.params ∧ RP h ia x.insts ∧ U8 x.kind ∧ U8 x.t0 ∧ U8 x.t1 ∧ U8 x.k0 ∧ U8 x.k1 ∧ U8 x.k2 ∧ U8 x.k3
theorem RU.kq {h g : AH} (H : WF h) (K : Kq h g) {a : Option Addr} {l : List Int} (R : RU h a l) : RU g a l:=fun i x hx => ⟨(R i x hx).1.kq H K,(R i x hx).2⟩
theorem RP.kq {h g : AH} (H : WF h) (K : Kq h g) {a : Option Addr} {l : List jW} (R : RP h a l) : RP g a l:=fun i x hx => ⟨(R i x hx).1.kq H K,(R i x hx).2⟩
theorem RQ.kq {h g : AH} (H : WF h) (K : Kq h g) {a : Option Addr} {l : List fF} (R : RQ h a l) : RQ g a l:=fun i x hx => by
 obtain ⟨qa,qc,ia,ic,h1,h2,h3,h4⟩:=R i x hx
 exact ⟨qa,qc,ia,ic,h1.kq H K,h2.kq H K,h3.kq H K,h4⟩
theorem H9 (x y : Int) : U8 (aT .u8 x y):=by
 unfold U8 aT
 rw [IntKind.wrap_u8]
 omega
theorem EY (h g : AH) (v : Go.Value) : ∃ g',ai h g v = (v,g') ∧ ((g' = h ∧ dA v = true) ∨ ∃ y,g' = setLow g y ∧ y ≤ h.low ∧ (y = g.low ∨ y = h.low)):=by
 unfold ai
 cases e1 : (Nat.beq g.low h.next && dA v) with
 | true =>
  rw [Bool.and_eq_true] at e1
  exact ⟨h,rfl,.inl ⟨rfl,e1.2⟩⟩
 | false =>
  refine ⟨_,rfl,.inr ⟨_,rfl,?_⟩⟩
  cases e2 : Nat.blt g.low h.next with
  | false => exact ⟨Nat.le_refl _,.inr rfl⟩
  | true =>
   refine ⟨(cl _ _).2,?_⟩
   show cond (Nat.blt g.low h.low) g.low h.low = g.low ∨ cond (Nat.blt g.low h.low) g.low h.low = h.low
   cases Nat.blt g.low h.low
   ·exact .inr rfl
   ·exact .inl rfl
section
variable {hb : AH} {m : Nat} {τ : Nat → Nat} {kI : Nat} {h : AH} {B : Nat} {nm M St E F : Go.Value} {WL HV : List Int} {IL : List bF}
theorem BG.loc {n : Nat} {τ1 τ2 : Nat → Nat} {g g1 : AH} {WL1 HV1 : List Int} {IL1 : List bF} {d : Nat} {S1 : List Nat} (Hh : WF h) (G : BG m τ τ1 kI h g B nm M St E F WL HV IL d WL1 HV1 IL1) (A1 : Bt m τ1 τ2 g g1 S1) (A2 : Bt n τ1 τ2 g g1 S1) (hn : h.next ≤ n) (hS : ∀ k ∈ [1,2,3,4,kI],k ∉ S1) :
  BG m τ τ2 kI h g1 B nm M St E F WL HV IL d WL1 HV1 IL1:=⟨G.st.keep A1 hS,G.bt.comp Hh A1 A2 hn,G.w,G.v,G.i,G.a,G.wl⟩
theorem BG.mono {τ1 : Nat → Nat} {g : AH} {WL1 HV1 : List Int} {IL1 : List bF} {d e : Nat} (G : BG m τ τ1 kI h g B nm M St E F WL HV IL d WL1 HV1 IL1) (hd : d ≤ e) : BG m τ τ1 kI h g B nm M St E F WL HV IL e WL1 HV1 IL1 :=
 ⟨G.st,G.bt,by have:=G.w; omega,by have:=G.v; omega,by have:=G.i; omega,G.a,G.wl⟩
theorem BS.rtg (V : BS m τ kI h B nm M St E F WL HV IL) (n : Nat) : BS m (Kb.rtg τ n) kI h B nm M St E F WL HV IL:=by
 obtain ⟨wa,wc,va,vc,ia,ic,ics,O,⟨w1,w2⟩,⟨v1,v2⟩,i1,i2,i3⟩:=V.st
 have:=V.ki
 exact ⟨V.wf,V.lo,⟨wa,wc,va,vc,ia,ic,ics,O.rtg (by omega),⟨w1.rtg (by omega),w2⟩,⟨v1.rtg (by omega),v2⟩,i1.rtg (by omega),i2,fun i x hx => by
  obtain ⟨aa,ac,q1,q2⟩:=i3 i x hx
  exact ⟨aa,ac,q1,q2.rtg (by omega)⟩⟩,V.hv,V.ki⟩
theorem BS.pick0 (V : BS m τ kI h B nm M St E F WL HV IL) (hl : WL.length < 1000 ∧ HV.length < 1000 ∧ IL.length < 1000) (N : Nat) (hN : 1200 ≤ N) (w n2 : Int) (hw : w ≤ 64) (hn0 : 0 ≤ n2) (hn1 : n2 < 256) :
  ∃ v g',az Tryz.prog N 41 [.pointer (some ⟨B,0,none⟩),.int .i64 w,.int .u8 n2] (setLow h h.next) = some (.int .i64 v,g') ∧ ((Nat.beq g'.low h.next = true ∧ setLow g' h.low = h) ∨ Nat.beq g'.low h.next = false):=by
 obtain ⟨hmB,hB⟩:=V.mB
 obtain ⟨v,τ',g',WL',HV',IL',r,G,q⟩:=pZ N hN (V.low h.next (by omega)) w n2 hw hn0 hn1 hl
 refine ⟨v,g',r,?_⟩
 rcases q with ⟨rfl,_⟩ | q
 ·exact .inl ⟨Nat.beq_refl _,rfl⟩
 ·refine .inr ?_
  cases e : Nat.beq g'.low h.next with
  | false => rfl
  | true =>
   have:=Nat.eq_of_beq_eq_true e
   omega
structure EX (hb : AH) (m : Nat) (τ τ1 : Nat → Nat) (kI : Nat) (h g : AH) (B : Nat) (nm M St E F : Go.Value) (WL HV : List Int) (IL : List bF) (d : Nat) (WL1 HV1 : List Int) (IL1 : List bF) (p t x : Nat) (pcs tcs : List Go.Value) (k : Int) (ea : Option Addr) (ec : Nat) (AL : List Int) : Prop where
 gg : BG m τ τ1 kI (setLow h h.next) g B nm M St E F WL HV IL d WL1 HV1 IL1
 kq : Kq hb g
 p : Ow h.next τ1 8 g p pcs
 t : Ow h.next τ1 8 g t tcs
 x : Ow h.next τ1 9 g x [.int .i64 k,.slice ea AL.length ec]
 r : Rw h.next τ1 11 g ea 1 (bU AL)
 a : Gr ea AL.length ec 1 (bU AL)
def EO (hb : AH) (m : Nat) (τ : Nat → Nat) (kI : Nat) (h : AH) (B : Nat) (nm M St E F : Go.Value) (WL HV : List Int) (IL : List bF) (o : Option (Go.Value × AH)) : Prop :=
 ∃ τ' g' WL' HV' IL' k ea ec AL,o = some (.agg #[.int .i64 k,.slice ea (List.length AL) ec],g') ∧ BG m τ τ' kI h g' B nm M St E F WL HV IL 4 WL' HV' IL' ∧ Kq hb g' ∧ Rw m τ' 1 g' ea 1 (bU AL) ∧ AL.length ≤ 4
theorem EO.imp {X Y : Option (Go.Value × AH)} (f : ∀ {r},X = some r → Y = some r) (x : EO hb m τ kI h B nm M St E F WL HV IL X) : EO hb m τ kI h B nm M St E F WL HV IL Y:=by
 obtain ⟨τ',g',a,b,c,k,ea,ec,AL,e,q⟩:=x
 exact ⟨τ',g',a,b,c,k,ea,ec,AL,f e,q⟩
theorem Ia (N : Nat) (hN : 1300 ≤ N) (Hb : WF hb) (hbm : hb.next ≤ m) (V : BS m τ kI h B nm M St E F WL HV IL) (K : Kq hb h) (hl : WL.length < 900 ∧ HV.length < 900 ∧ IL.length < 900)
  {pa : Option Addr} {pc : Nat} {parts : List fF} (RQ0 : RQ hb pa parts) (hp : 1 ≤ parts.length ∧ parts.length ≤ 5) (h4 : ∀ x ∈ parts,x.params.length ≤ 4) (rv : Option Addr) (rn rc : Nat) (to_ n3 : Int) (ht : U8 to_) :
  EO hb m τ kI h B nm M St E F WL HV IL (az Tryz.prog N 42 [.pointer (some ⟨B,0,none⟩),.agg #[.slice pa parts.length pc,.slice rv rn rc],.int .u8 to_,.int .u8 n3] h):=by
 obtain ⟨n,rfl⟩ : ∃ n,N = n + 1:=⟨N - 1,by omega⟩
 have hk:=V.ki
 obtain ⟨hmB,hB⟩:=V.mB
 have V0:=V.low h.next (by omega)
 have H0 : WF (setLow h h.next):=bO V.wf _
 have hmn : m ≤ h.next:=by omega
 have lp : ∀ (k : Nat) (P : fF),parts[k]? = some P → ∀ (j i m0 p t x d : Nat) (tcs : List Go.Value) (ea : Option Addr) (ec : Nat) (AL : List Int) (τ1 : Nat → Nat) (g : AH) (WL1 HV1 : List Int) (IL1 : List bF),j < m0 → i + j = P.params.length → AL.length = i → d = i →
   tcs.length = 2 → EX hb m τ τ1 kI h g B nm M St E F WL HV IL d WL1 HV1 IL1 p t x [.slice pa parts.length pc,.slice rv rn rc] tcs k ea ec AL →
   EO hb m τ kI h B nm M St E F WL HV IL (ol n m0 h ⟨B,0,none⟩ n3 ⟨p,0,none⟩ ⟨t,0,none⟩ k ⟨x,0,none⟩ i g):=by
  intro k P hP j
  have hPl:=h4 P (List.mem_of_getElem? hP)
  have hkl : k < parts.length:=(List.getElem?_eq_some_iff.1 hP).1
  have ebk:=aK (i:=(k : Int)) (n:=parts.length) (by omega) (by omega)
  induction j with
  | zero =>
   intro i m0 p t x d tcs ea ec AL τ1 g WL1 HV1 IL1 hj hi hA hd htc X
   obtain ⟨m0,rfl⟩ : ∃ q,m0 = q + 1:=⟨m0 - 1,by omega⟩
   obtain ⟨qa,qc,ia,ic,A,_⟩:=(RQ0.kq Hb X.kq) k P hP
   obtain ⟨β,o,p1,p2⟩:=A
   subst p1
   have e0:=p2 0 _ rfl
   obtain ⟨c1,c2,rfl⟩ : ∃ c1 c2,tcs = [c1,c2]:=by
    match tcs,htc with
    | [c1,c2],_ => exact ⟨c1,c2,rfl⟩
   obtain ⟨g1,k1,A1,A2,O1,n1⟩:=vK (m:=m) (o:=0) (vs:=[.int .i64 k,.slice ea AL.length ec]) X.gg.st.wf hmn X.t (by simp)
   have hw1:=X.gg.st.wf
   have G1:=X.gg.loc H0 A1 A2 (Nat.le_refl _) (by simp; omega)
   have K1:=X.kq.bt hbm A1
   have R1:=X.r.keep hw1 A1 (by simp)
   obtain ⟨g',e1,q⟩:=EY h g1 (.agg #[.int .i64 k,.slice ea AL.length ec])
   have key : EO hb m τ kI h B nm M St E F WL HV IL (some (ai h g1 (.agg #[.int .i64 k,.slice ea AL.length ec]))):=by
    rw [e1]
    rcases q with ⟨rfl,q⟩ | ⟨y,rfl,q1,q2⟩
    ·have hea : ea = none:=by
      cases ea with
      | none => rfl
      | some a => simp [dA,bq] at q
     subst hea
     have hAL : AL = []:=by
      rcases R1 with ⟨_,r⟩ | ⟨_,_,r,_⟩
      ·exact List.map_eq_nil_iff.1 r
      ·cases r
     subst hAL
     exact ⟨τ,g',WL,HV,IL,k,none,ec,[],rfl,.refl V 4,K,.nil,by simp⟩
    ·have hy : m ≤ y:=by
      rcases q2 with rfl | rfl
      ·exact G1.st.lo
      ·exact V.lo
     refine ⟨Kb.rtg τ1 h.next,setLow g1 y,WL1,HV1,IL1,k,ea,ec,AL,rfl,BG.mono ⟨(G1.st.low y hy).rtg h.next,?_,G1.w,G1.v,G1.i,G1.a,G1.wl⟩ (show d ≤ 4 by omega),K1,R1.rtg11 hmn,by omega⟩
     have:=G1.bt.rtg (n:=h.next) (Nat.le_refl _)
     exact ⟨bO this.wf _,this.nxt,q1,fun _ => hy,this.tag,this.same,this.old⟩
   refine EO.imp ue ?_
   simp only [X.p.rd,X.x.rd,Nat.zero_add,Nat.add_zero,List.getElem?_cons_zero,List.getElem?_cons_succ,aj,Nat.reduceAdd,ak,ae,an,au,ap,aq,cond_true,cond_false,ebk,Int.toNat_natCast,e0,dl,dF (show ¬ (i : Int) < P.params.length by omega),k1,O1.rd,im,List.cons_append,List.nil_append]
   exact key
  | succ j ih =>
   intro i m0 p t x d tcs ea ec AL τ1 g WL1 HV1 IL1 hj hi hA hd htc X
   obtain ⟨m0,rfl⟩ : ∃ q,m0 = q + 1:=⟨m0 - 1,by omega⟩
   obtain ⟨qa,qc,ia,ic,A,RU0,_⟩:=(RQ0.kq Hb X.kq) k P hP
   obtain ⟨β,o,p1,p2⟩:=A
   subst p1
   have e0:=p2 0 _ rfl
   obtain ⟨y,hy⟩ : ∃ y,P.params[i]? = some y:=⟨_,List.getElem?_eq_getElem (by omega)⟩
   obtain ⟨⟨β2,o2,p3,p4⟩,hy8⟩:=RU0 i y hy
   subst p3
   have p4:=p4 0 _ rfl
   have ebi:=aK (i:=(i : Int)) (n:=P.params.length) (by omega) (by omega)
   have hw1:=X.gg.st.wf
   have lw:=X.gg.w
   have lv:=X.gg.v
   have li:=X.gg.i
   have nx : ∀ (τ2 : Nat → Nat) (g2 : AH) (WL2 HV2 : List Int) (IL2 : List bF) (v : Int),EX hb m τ τ2 kI h g2 B nm M St E F WL HV IL (d + 1) WL2 HV2 IL2 p t x [.slice (some ⟨β,o,none⟩) parts.length pc,.slice rv rn rc] tcs k ea ec AL →
     ∃ g3 g4 a' g5,aF g2 [.int .i64 v] 1 = some (g2.next,g3) ∧ dg 1 8 (.slice ea AL.length ec) (.slice (some ⟨g2.next,0,none⟩) 1 1) g3 = some ((a',AL.length + 1,aG),g4) ∧ di g4 ⟨x,1,none⟩ [.slice a' (AL.length + 1) aG] = some g5 ∧ rdC g3 ⟨x,1,none⟩ 0 = some (.slice ea AL.length ec) ∧
      EO hb m τ kI h B nm M St E F WL HV IL (ol n m0 h ⟨B,0,none⟩ n3 ⟨p,0,none⟩ ⟨t,0,none⟩ k ⟨x,0,none⟩ ((i + 1 : Nat) : Int) g5):=by
    intro τ2 g2 WL2 HV2 IL2 v X2
    have hn2 : h.next ≤ g2.next:=X2.gg.bt.nxt
    have hw2:=X2.gg.st.wf
    obtain ⟨g3,g4,a',k3,k4,A3,A4,R4,G4,n4⟩:=D5 (m:=m) (by_:=8) hw2 hmn hn2 [.int .i64 v] X2.r X2.a rfl (by omega) (by omega)
    obtain ⟨g3',k3',A3',_⟩:=bP (m:=m) (τ:=τ2) hw2 (by omega) 11 1 [.int .i64 v]
    rw [k3] at k3'
    injection k3' with k3'
    injection k3' with _ k3'
    subst k3'
    have O3:=X2.x.keep hw2 A3' (by simp)
    have O4:=X2.x.keep hw2 A3 (by simp)
    obtain ⟨g5,k5,A5,A6,O5,n5⟩:=vK (m:=m) (o:=1) (vs:=[.slice a' (AL.length + 1) aG]) A3.wf hmn O4 (by simp)
    refine ⟨g3,g4,a',g5,k3,k4,k5,by rw [O3.rd]; rfl,?_⟩
    have eAL : (AL ++ [v]).length = AL.length + 1:=by simp
    have G3:=X2.gg.loc H0 A3 A4 (Nat.le_refl _) (by simp; omega)
    have G5:=G3.loc H0 A5 A6 (Nat.le_refl _) (by simp; omega)
    rw [gR] at R4 G4
    refine ih (i + 1) m0 p t x (d + 1) tcs a' aG (AL ++ [v]) _ g5 WL2 HV2 IL2 (by omega) (by omega) (by rw [eAL]; omega) (by omega) htc ⟨G5,(X2.kq.bt hbm A3).bt hbm A5,(X2.p.keep hw2 A3 (by simp)).keep A3.wf A5 (by simp),(X2.t.keep hw2 A3 (by simp)).keep A3.wf A5 (by simp),?_,R4.keep A3.wf A5 (by simp),?_⟩
    ·rw [eAL]
     exact O5
    ·rw [eAL]
     exact G4
   have hwid : ∀ g1,WF g1 → ∃ w,az Tryz.prog n 38 [.int .u8 y] g1 = some (.int .i64 w,g1) ∧ 1 ≤ w ∧ w ≤ 64:=fun g1 H1 => ou n (by omega) g1 H1 y hy8.1
   obtain ⟨w,hw,w1,w2⟩:=hwid (setLow g g.next) (bO hw1 _)
   obtain ⟨w',hw',w1',w2'⟩:=hwid g hw1
   obtain ⟨a0,a1⟩:=H9 n3 (aQ .u8 i)
   obtain ⟨v0,g',r0,q⟩:=X.gg.st.pick0 (by omega) n (by omega) w (aT .u8 n3 (aQ .u8 i)) w2 a0 a1
   refine EO.imp ue ?_
   rcases q with ⟨b1,b2⟩ | b1
   ·obtain ⟨g3,g4,a',g5,k3,k4,k5,k6,X5⟩:=nx τ1 g WL1 HV1 IL1 v0 ⟨X.gg.mono (Nat.le_succ _),X.kq,X.p,X.t,X.x,X.r,X.a⟩
    simp only [X.p.rd,X.x.rd,Nat.zero_add,Nat.add_zero,List.getElem?_cons_zero,List.getElem?_cons_succ,aj,Nat.reduceAdd,ak,ae,an,au,ap,aq,cond_true,cond_false,ebk,ebi,Int.toNat_natCast,e0,p4,dl,du (show (i : Int) < P.params.length by omega),hw,aH,aD,aI,aE,Nat.beq_refl,r0,b1,b2,k3,k4,k5,dv (show i < 9223372036854775807 by omega)]
    exact X5
   ·obtain ⟨v,τ2,g2,WL2,HV2,IL2,r2,G2,_⟩:=pZ n (by omega) X.gg.st w' (aT .u8 n3 (aQ .u8 i)) w2' a0 a1 (by omega)
    have X2 : EX hb m τ τ2 kI h g2 B nm M St E F WL HV IL (d + 1) WL2 HV2 IL2 p t x [.slice (some ⟨β,o,none⟩) parts.length pc,.slice rv rn rc] tcs k ea ec AL :=
     ⟨BG.trans V0 X.gg G2,X.kq.bt hbm G2.bt,X.p.keep hw1 G2.bt (by simp; omega),X.t.keep hw1 G2.bt (by simp; omega),X.x.keep hw1 G2.bt (by simp; omega),X.r.keep hw1 G2.bt (by simp; omega),X.a⟩
    obtain ⟨g3,g4,a',g5,k3,k4,k5,k6,X5⟩:=nx τ2 g2 WL2 HV2 IL2 v X2
    have z0 : rdC g ⟨x,1,none⟩ 0 = some (.slice ea AL.length ec):=by rw [X.x.rd]; rfl
    have z2 : rdC g2 ⟨x,1,none⟩ 0 = some (.slice ea AL.length ec):=by rw [X2.x.rd]; rfl
    have s0:=gy z0 z0 (pY X.r _ _)
    have s2:=gy z0 z2 (pY X.r _ _)
    have s3:=gy z0 k6 (pY X.r _ _)
    simp only [X.p.rd,X.x.rd,Nat.zero_add,Nat.add_zero,List.getElem?_cons_zero,List.getElem?_cons_succ,aj,Nat.reduceAdd,ak,ae,an,au,ap,aq,cond_true,cond_false,ebk,ebi,Int.toNat_natCast,e0,p4,dl,du (show (i : Int) < P.params.length by omega),hw,hw',aH,aD,aI,aE,Nat.beq_refl,r0,b1,r2,k3,k4,k5,s0,s2,s3,Bool.and_true,dv (show i < 9223372036854775807 by omega)]
    exact X5
 have new2 : ∀ (τ1 : Nat → Nat) (g : AH) (k : Nat) (cs : List Go.Value),WF g → h.next ≤ g.next → ∃ g1,aF g cs 0 = some (g.next,g1) ∧ Bt m τ1 (upd τ1 g.next k) g g1 [] ∧ Bt h.next τ1 (upd τ1 g.next k) g g1 [] ∧ Ow h.next (upd τ1 g.next k) k g1 g.next cs ∧ h.next ≤ g1.next:=fun τ1 g k cs H hg => by
  obtain ⟨g1,k1,A1,O1,_,n1,_⟩:=bP (m:=h.next) (τ:=τ1) H hg k 0 cs
  obtain ⟨g2,k2,A2,_⟩:=bP (m:=m) (τ:=τ1) H (by omega) k 0 cs
  rw [k1] at k2
  injection k2 with k2
  injection k2 with _ k2
  subst k2
  exact ⟨g1,k1,A2,A1,O1,by omega⟩
 have st : ∀ (k p t : Nat) (P : fF) (τ1 : Nat → Nat) (g : AH),parts[k]? = some P → BG m τ τ1 kI (setLow h h.next) g B nm M St E F WL HV IL 0 WL HV IL → Kq hb g → Ow h.next τ1 8 g p [.slice pa parts.length pc,.slice rv rn rc] → Ow h.next τ1 8 g t [.int .i64 0,.slice none 0 0] →
   EO hb m τ kI h B nm M St E F WL HV IL (xD n h ⟨B,0,none⟩ n3 ⟨p,0,none⟩ ⟨t,0,none⟩ k g):=by
  intro k p t P τ1 g hP G Kg Op Ot
  have hw:=G.st.wf
  obtain ⟨g1,k1,A1,A2,O1,n1⟩:=new2 τ1 g 9 [.int .i64 0,.slice none 0 0] hw G.bt.nxt
  obtain ⟨g2,k2,A3,A4,O2,n2⟩:=vK (m:=m) (o:=0) (vs:=[.int .i64 k,.slice none 0 0]) A1.wf hmn O1 (by simp)
  have hPl:=h4 P (List.mem_of_getElem? hP)
  have X:=lp k P hP P.params.length 0 n p t g.next 0 [.int .i64 0,.slice none 0 0] none 0 [] _ g2 WL HV IL (by omega) (by rw [Nat.zero_add]) rfl rfl rfl
   ⟨(G.loc H0 A1 A2 (Nat.le_refl _) (by simp)).loc H0 A3 A4 (Nat.le_refl _) (by simp; omega),(Kg.bt hbm A1).bt hbm A3,(Op.keep hw A1 (by simp)).keep A1.wf A3 (by simp),(Ot.keep hw A1 (by simp)).keep A1.wf A3 (by simp),O2,.nil,.nil⟩
  refine EO.imp BH ?_
  simp only [k1,k2,ak,ae,an,au,ap,aq,cond_true,cond_false]
  exact X
 obtain ⟨g0,k0,A0,A0',O0,n0⟩:=new2 τ (setLow h h.next) 8 [.slice pa parts.length pc,.slice rv rn rc] H0 (Nat.le_refl _)
 obtain ⟨g1,k1,A1,A1',O1,n1⟩:=new2 _ g0 8 [.int .i64 0,.slice none 0 0] A0.wf n0
 have G0 : BG m τ τ kI (setLow h h.next) (setLow h h.next) B nm M St E F WL HV IL 0 WL HV IL:=.refl V0 0
 have G1:=(G0.loc H0 A0 A0' (Nat.le_refl _) (by simp)).loc H0 A1 A1' (Nat.le_refl _) (by simp)
 have K1 : Kq hb g1:=(Kq.bt (g:=setLow h h.next) K hbm A0).bt hbm A1
 have Op:=O0.keep A0.wf A1 (by simp)
 refine EO.imp GF ?_
 rw [aD] at k0 Op
 simp only [k0,k1,Op.rd,Nat.zero_add,Nat.add_zero,List.getElem?_cons_zero,List.getElem?_cons_succ,aj,Nat.reduceAdd,ak,ae,an,au,ap,aq,cond_true,cond_false,dl]
 cases e1 : bZ 1 (parts.length : Int) with
 | false =>
  obtain ⟨P,hP⟩ : ∃ P,parts[0]? = some P:=⟨_,List.getElem?_eq_getElem (by omega)⟩
  simp only [ak,ae,an,au,ap,aq,cond_true,cond_false]
  exact st 0 h.next g0.next P _ g1 hP G1 K1 Op O1
 | true =>
  have h1:=lW e1
  obtain ⟨r,hr,hrl⟩:=ji (k:=.i64) (show 0 ≤ aQ .i64 to_ by rw [Cj ht.1 ht.2]; exact ht.1) (show 0 < parts.length - 1 by omega)
  have e2 : fC .i64 (parts.length : Int) 1 = ((parts.length - 1 : Nat) : Int):=by
   rw [Hc (by omega)]
   omega
  have e3 : aX ((parts.length - 1 : Nat) : Int) 0 = false:=by
   cases e : aX ((parts.length - 1 : Nat) : Int) 0 with
   | false => rfl
   | true =>
    have:=pV e
    omega
  obtain ⟨P,hP⟩ : ∃ P,parts[1 + r]? = some P:=⟨_,List.getElem?_eq_getElem (by omega)⟩
  have e4 : aT .i64 1 (r : Int) = ((1 + r : Nat) : Int):=by
   unfold aT
   rw [IntKind.wrap_i64]
   omega
  simp only [ak,ae,an,au,ap,aq,cond_true,cond_false,e2,e3,hr,e4]
  exact st (1 + r) h.next g0.next P _ g1 hP G1 K1 Op O1
end
theorem JR (N : Nat) {h : AH} (H : WF h) {pa : Option Addr} {pc : Nat} {parts : List fF} (R : RQ h pa parts) (rv : Option Addr) (rn rc : Nat) (hN : parts.length + 3 < N) (hx : parts.length ≤ 9223372036854775807) :
  ∃ r,az Tryz.prog N 11 [.agg #[.slice pa parts.length pc,.slice rv rn rc]] h = some (.bool r,h) ∧ (r = true → (1 ≤ parts.length ∧ parts.length ≤ 5) ∧ rn ≤ 3 ∧ ∀ x ∈ parts,x.params.length ≤ 4 ∧ x.insts.length ≤ 12):=by
 obtain ⟨n,rfl⟩ : ∃ n,N = n + 1:=⟨N - 1,by omega⟩
 have W : Wk h (loc h [[.slice pa parts.length pc,.slice rv rn rc]]):=dZ H _
 have O:=cP H [[.slice pa parts.length pc,.slice rv rn rc]] 0 _ rfl
 have hl1 : aF (setLow h h.next) [.slice pa parts.length pc,.slice rv rn rc] 0 = some (h.next,loc h [[.slice pa parts.length pc,.slice rv rn rc]]):=by
  simp only [bu h,aS,List.length_nil,Nat.add_zero,List.nil_append]
 have RQ1 : RQ (loc h [[.slice pa parts.length pc,.slice rv rn rc]]) pa parts:=R.kq H ((Kq.refl H).wk W)
 generalize loc h [[.slice pa parts.length pc,.slice rv rn rc]] = g at *
 have O : cp g h.next [.slice pa parts.length pc,.slice rv rn rc]:=O
 have lp : ∀ (j i m0 : Nat),j < m0 → i + j = parts.length → (∀ x ∈ parts.take i,x.params.length ≤ 4 ∧ x.insts.length ≤ 12) →
   Cx h ((1 ≤ parts.length ∧ parts.length ≤ 5) ∧ rn ≤ 3 ∧ ∀ x ∈ parts,x.params.length ≤ 4 ∧ x.insts.length ≤ 12) (xz n m0 h ⟨h.next,0,none⟩ i g):=by
  intro j
  induction j with
  | zero =>
   intro i m0 hj hi ht
   obtain ⟨m0,rfl⟩ : ∃ q,m0 = q + 1:=⟨m0 - 1,by omega⟩
   have hq : ∀ x ∈ parts,x.params.length ≤ 4 ∧ x.insts.length ≤ 12:=fun x hx => ht x (by rw [show i = parts.length by omega,List.take_length]; exact hx)
   refine Cx.imp tT ?_
   simp only [O.rd,Nat.zero_add,Nat.add_zero,List.getElem?_cons_zero,List.getElem?_cons_succ,aj,Nat.reduceAdd,ak,ae,an,au,ap,aq,cond_true,cond_false,dl,dF (show ¬ (i : Int) < parts.length by omega),dy W]
   refine Cx.cnd (fun e1 => Cx.cnd (fun e2 => Cx.leaf fun e3 => ⟨⟨?_,?_⟩,?_,hq⟩) (fun _ => Cx.fl)) (fun _ => Cx.fl)
   ·have:=kH e1
    omega
   ·have:=kH e2
    omega
   ·have:=kH e3
    omega
  | succ j ih =>
   intro i m0 hj hi ht
   obtain ⟨m0,rfl⟩ : ∃ q,m0 = q + 1:=⟨m0 - 1,by omega⟩
   obtain ⟨x,hx⟩ : ∃ x,parts[i]? = some x:=⟨_,List.getElem?_eq_getElem (by omega)⟩
   obtain ⟨qa,qc,ia,ic,A,_⟩:=RQ1 i x hx
   obtain ⟨β,o,p1,p2⟩:=A
   have e0:=p2 0 _ rfl
   have e1:=vH (p2 1 _ rfl)
   have eb:=aK (i:=(i : Int)) (n:=parts.length) (by omega) (by omega)
   have nx:=fun (h1 : x.params.length ≤ 4) (h2 : x.insts.length ≤ 12) => ih (i + 1) m0 (by omega) (by omega) fun y hy => by
    rw [List.take_add_one,hx] at hy
    rcases List.mem_append.1 hy with hy | hy
    ·exact ht y hy
    ·rw [List.mem_singleton.1 hy]
     exact (⟨h1,h2⟩ : x.params.length ≤ 4 ∧ x.insts.length ≤ 12)
   refine Cx.imp tT ?_
   subst p1
   simp only [O.rd,Nat.zero_add,Nat.add_zero,List.getElem?_cons_zero,List.getElem?_cons_succ,aj,Nat.reduceAdd,ak,ae,an,au,ap,aq,cond_true,cond_false,dl,du (show (i : Int) < parts.length by omega),eb,Int.toNat_natCast,e0,e1,dy W,dv (show i < 9223372036854775807 by omega)]
   refine Cx.cnd (fun _ => Cx.fl) (fun h1 => Cx.cnd (fun _ => Cx.fl) (fun h2 => ?_))
   have h1:=ef h1
   have h2:=ef h2
   exact nx (by omega) (by omega)
 obtain ⟨r,r1,r2⟩:=lp parts.length 0 n (by omega) (by rw [Nat.zero_add]) (fun x hx => by cases hx)
 refine ⟨r,Gy ?_,r2⟩
 rw [hl1]
 simp only [ak,ae,an,au,ap,aq,cond_true,cond_false]
 exact r1
theorem D8 {m : Nat} {τ : Nat → Nat} {g : AH} (H : WF g) (hm : m ≤ g.next) {k k2 β : Nat} (R : Rw m τ k g (some ⟨β,0,none⟩) 1 []) {la : Option Addr} {L : List Int} (R2 : Rw m τ k2 g la 1 (bU L)) (lc : Nat) (hL : L.length < 1000) :
  ∃ a' c' g2 τ2,dg 1 8 (.slice (some ⟨β,0,none⟩) 0 0) (.slice la L.length lc) g = some ((a',L.length,c'),g2) ∧ Bt m τ τ2 g g2 [] ∧ Rw m τ2 k g2 a' 1 (bU L) ∧ Gr a' L.length c' 1 (bU L):=by
 cases L with
 | nil =>
  refine ⟨some ⟨β,0,none⟩,0,g,τ,?_,.refl H _,R,⟨by simp [bU],(fun h => by cases h),.inr ⟨rfl,rfl⟩⟩⟩
  unfold dg dz kS bQ
  rcases R2 with ⟨rfl,_⟩ | ⟨γ,G,rfl,_⟩ <;> rfl
 | cons x L =>
  rcases R2 with ⟨_,e⟩ | ⟨γ,G,rfl,r1,r2,r3,r4⟩
  ·cases e
  ·have hr : g.rd γ = some ⟨bU (x :: L),1,G,false⟩:=dp r1 r2
   obtain ⟨g2,k2',A,O,R',n2,l2⟩:=bP (τ:=τ) H hm k 1 (bU (x :: L))
   have k2' : (g.new (bU (x :: L)) 1).2 = g2:=by
    rw [eM] at k2'
    injection k2' with k2'
    exact congrArg Prod.snd k2'
   have hlen:=Cg (x :: L)
   refine ⟨some ⟨g.next,0,none⟩,aG,g2,_,?_,A,R',⟨by rw [hlen,Nat.mul_one],(fun h => by cases h),.inl (Nat.le_refl _)⟩⟩
   have hit : bQ 1 (x :: L).length (.slice (some ⟨γ,0,none⟩) (x :: L).length lc) g = some (bU (x :: L)):=by
    unfold bQ
    simp only [hr,Option.bind_some,Nat.mul_one]
    rw [show Nat.beq (x :: L).length 0 = false from rfl]
    simp only [cond_false]
    unfold cj
    rw [Nat.zero_add,← hlen,Nat.ble_eq_true_of_le (Nat.le_refl _),List.drop_zero,List.take_length]
    rfl
   unfold dg dz kS
   simp only [Option.bind_some,hit]
   rw [show Nat.beq (x :: L).length 0 = false from rfl]
   simp only [cond_false]
   rw [Nat.ble_eq_true_of_le (show (0 + (x :: L).length) * 8 ≤ 140737488355328 by omega)]
   rw [show Nat.blt 0 aG = true from rfl,show Nat.ble (0 + (x :: L).length) 0 = false by rw [Nat.zero_add]; rfl]
   have : bQ 1 0 (.slice (some ⟨β,0,none⟩) 0 0) g = some []:=rfl
   simp only [cond_true,cond_false,this,Option.bind_some,List.nil_append,k2',Nat.zero_add]
   rfl
def vL : List Go.Value:=[.string (ByteArray.mk (List.toArray [(OfNat.ofNat 105),(OfNat.ofNat 110)])),.int .i64 8,.bool false,.string (ByteArray.mk (List.toArray [(OfNat.ofNat 111),(OfNat.ofNat 117),(OfNat.ofNat 116)])),.int .i64 8,.bool true]
def iv : Go.Value:=.string (ByteArray.mk (List.toArray [(OfNat.ofNat 102)]))
structure FR (h : AH) (τ : Nat → Nat) (g : AH) (p t : Nat) (pv rv : Go.Value) (ma sa : Option Addr) (ea : Option Addr) (EL : List Int) : Prop where
 kq : Kq h g
 p : Ow h.next τ 8 g p [pv,rv]
 t : Ow h.next τ 17 g t [.string (ByteArray.mk (List.toArray [])),.slice none 0 0,.slice none 0 0,.slice none 0 0,.slice none 0 0,.slice none 0 0]
 ma : Rw h.next τ 6 g ma 5 oR
 sa : Rw h.next τ 6 g sa 3 vL
 ea : Rw h.next τ 12 g ea 1 (bU EL)
theorem FR.keep {h : AH} {τ τ' : Nat → Nat} {g g' : AH} {p t : Nat} {pv rv : Go.Value} {ma sa ea : Option Addr} {EL : List Int} {S : List Nat} (H : WF g) (X : FR h τ g p t pv rv ma sa ea EL) (A : Bt h.next τ τ' g g' S) (hS : ∀ k ∈ [6,8,12,17],k ∉ S) : FR h τ' g' p t pv rv ma sa ea EL :=
 ⟨X.kq.bt (Nat.le_refl _) A,X.p.keep H A (hS 8 (by simp)),X.t.keep H A (hS 17 (by simp)),X.ma.keep H A (hS 6 (by simp)),X.sa.keep H A (hS 6 (by simp)),X.ea.keep H A (hS 12 (by simp))⟩
def PR (m : Nat) (τ : Nat → Nat) (g : AH) (w : Nat) (pcs : List Go.Value) (PL : List (List Int)) : Prop:=∀ i L,PL[i]? = some L →
 ∃ la lc,pcs[i]? = some (.slice la L.length lc) ∧ (Rw m τ (22 + 4 * i) g la 1 (bU L) ∧ Gr la L.length lc 1 (bU L)) ∧ L.length ≤ 4 ∧ ∀ x ∈ L,0 ≤ x ∧ x < w
theorem PR.keep {m : Nat} {τ τ' : Nat → Nat} {g g' : AH} {w w' : Nat} {pcs : List Go.Value} {PL : List (List Int)} {S : List Nat} (H : WF g) (X : PR m τ g w pcs PL) (A : Bt m τ τ' g g' S) (hw : w ≤ w') (hS : ∀ i,i < PL.length → 22 + 4 * i ∉ S) : PR m τ' g' w' pcs PL:=fun i L hi => by
 obtain ⟨la,lc,h1,⟨h2,h3⟩,h4,h5⟩:=X i L hi
 exact ⟨la,lc,h1,⟨h2.keep H A (hS i (List.getElem?_eq_some_iff.1 hi).1),h3⟩,h4,fun x hx => by have:=h5 x hx; omega⟩
def ER (m : Nat) (τ : Nat → Nat) (g : AH) (cs : List Go.Value) (TL : List fE) : Prop:=∀ i x,TL[i]? = some x →
 ∃ aa ac,(∀ k v,[Go.Value.int .i64 x.block,.slice aa x.args.length ac][k]? = some v → cs[i * 2 + k]? = some v) ∧ Rw m τ 1 g aa 1 (bU x.args)
def BK (m : Nat) (τ : Nat → Nat) (g : AH) (i : Nat) (cells : List Go.Value) (X : ba) : Prop:=∃ pa pc ia ic ta tc ra rc ics tcs,
 cells = [.slice pa X.params.length pc,.slice ia X.insts.length ic,.int .i64 X.kind,.int .i64 X.cond,.slice ta X.to.length tc,.slice ra X.rets.length rc,.int .i64 X.pipe,.int .i64 X.unr,.int .i64 X.line] ∧
 (Rw m τ (22 + 4 * i) g pa 1 (bU X.params) ∧ Gr pa X.params.length pc 1 (bU X.params)) ∧ (Rw m τ (21 + 4 * i) g ia 5 ics ∧ Gr ia X.insts.length ic 5 ics ∧ IR m τ g ics X.insts) ∧ (Rw m τ 1 g ta 2 tcs ∧ ER m τ g tcs X.to) ∧
 (Rw m τ (20 + 4 * i) g ra 1 (bU X.rets) ∧ Gr ra X.rets.length rc 1 (bU X.rets)) ∧
 X.params.length ≤ 4 ∧ X.insts.length ≤ 80 ∧ X.to.length ≤ 2 ∧ X.rets.length ≤ 3 ∧ (∀ x ∈ X.to,x.args.length ≤ 4) ∧ ∀ x ∈ X.insts,x.args.length ≤ 3
def BL (m : Nat) (τ : Nat → Nat) (g : AH) (fcs : List Go.Value) (LB : List ba) : Prop:=fcs.length = LB.length * 9 ∧ ∀ i X,LB[i]? = some X → ∃ cells,(∀ k v,cells[k]? = some v → fcs[i * 9 + k]? = some v) ∧ BK m τ g i cells X
def FN (m : Nat) (τ : Nat → Nat) (g : AH) (v : Go.Value) (WL EL : List Int) (LB : List ba) : Prop:=∃ wa wc ma sa ea ec fa fc fcs,
 v = .agg #[iv,.slice wa WL.length wc,.slice ma 2 2,.slice sa 2 2,.slice ea EL.length ec,.slice fa LB.length fc] ∧ Rw m τ 3 g wa 1 (bU WL) ∧ Rw m τ 6 g ma 5 oR ∧ Rw m τ 6 g sa 3 vL ∧ Rw m τ 12 g ea 1 (bU EL) ∧
 (Rw m τ 7 g fa 9 fcs ∧ Gr fa LB.length fc 9 fcs) ∧ BL m τ g fcs LB ∧ WL.length < 400 ∧ EL.length ≤ 3 ∧ 1 ≤ LB.length ∧ LB.length ≤ 5
def BO (h : AH) (o : Option (Go.Value × AH)) : Prop:=∃ τ v g' WL EL LB,o = some (v,g') ∧ WF g' ∧ Kq h g' ∧ FN h.next τ g' v WL EL LB
theorem BO.imp {h : AH} {X Y : Option (Go.Value × AH)} (f : ∀ {r},X = some r → Y = some r) (x : BO h X) : BO h Y:=by
 obtain ⟨τ,v,g',a,b,c,e,q⟩:=x
 exact ⟨τ,v,g',a,b,c,f e,q⟩
theorem FR.wf {h : AH} {τ : Nat → Nat} {g : AH} {p t : Nat} {pv rv : Go.Value} {ma sa ea : Option Addr} {EL : List Int} (X : FR h τ g p t pv rv ma sa ea EL) : WF g:=by
 have:=bO X.kq.wf g.low
 exact this
section
variable {h : AH} (H : WF h) {pa : Option Addr} {pc : Nat} {parts : List fF} (RQ0 : RQ h pa parts) {ra : Option Addr} {rc : Nat} {RL : List Int} (RU0 : RU h ra RL) {p t B : Nat} {ma sa : Option Addr} (n : Nat) (hn : 2000 ≤ n)
 include H RU0 hn
theorem LG (hR : RL.length ≤ 3) (nxt : ∀ (τ : Nat → Nat) (g : AH) (EL : List Int) (ea : Option Addr) (ec : Nat),EL.length = RL.length → (∀ x ∈ EL,x ≤ 64) → FR h τ g p t (.slice pa parts.length pc) (.slice ra RL.length rc) ma sa ea EL → h.next ≤ g.low → Ow h.next τ 2 g B [iv,.slice none 0 0,.slice ma 2 2,.slice sa 2 2,.slice ea EL.length ec,.slice none 0 0,.slice none 0 0,.slice none 0 0] →
   BO h (tU n n h ⟨p,0,none⟩ ⟨t,0,none⟩ ⟨B,0,none⟩ none 0 0 0 g)) :
  ∀ (j i m0 : Nat) (τ : Nat → Nat) (g : AH) (EL : List Int) (ea : Option Addr) (ec : Nat),j < m0 → i + j = RL.length → EL.length = i → (∀ x ∈ EL,x ≤ 64) → FR h τ g p t (.slice pa parts.length pc) (.slice ra RL.length rc) ma sa ea EL → h.next ≤ g.low → Gr ea EL.length ec 1 (bU EL) → Ow h.next τ 2 g B [iv,.slice none 0 0,.slice ma 2 2,.slice sa 2 2,.slice ea EL.length ec,.slice none 0 0,.slice none 0 0,.slice none 0 0] →
   BO h (pU n m0 h ⟨p,0,none⟩ ⟨t,0,none⟩ ⟨B,0,none⟩ i g):=by
 intro j
 induction j with
 | zero =>
  intro i m0 τ g EL ea ec hj hi hE h64 X hlo A O
  obtain ⟨m0,rfl⟩ : ∃ q,m0 = q + 1:=⟨m0 - 1,by omega⟩
  have:=nxt τ g EL ea ec (by omega) h64 X hlo O
  refine BO.imp tV ?_
  simp only [X.p.rd,Nat.zero_add,Nat.add_zero,List.getElem?_cons_zero,List.getElem?_cons_succ,aj,Nat.reduceAdd,ak,ae,an,au,ap,aq,cond_true,cond_false,dl,dF (show ¬ (i : Int) < RL.length by omega)]
  exact this
 | succ j ih =>
  intro i m0 τ g EL ea ec hj hi hE h64 X hlo A O
  obtain ⟨m0,rfl⟩ : ∃ q,m0 = q + 1:=⟨m0 - 1,by omega⟩
  have hw:=X.wf
  obtain ⟨x,hx⟩ : ∃ x,RL[i]? = some x:=⟨_,List.getElem?_eq_getElem (by omega)⟩
  obtain ⟨⟨β,o,p1,p2⟩,hx8⟩:=(RU0.kq H X.kq) i x hx
  have p2:=p2 0 _ rfl
  have eb:=aK (i:=(i : Int)) (n:=RL.length) (by omega) (by omega)
  obtain ⟨w,hwd,w1,w2⟩:=ou n (by omega) (setLow g g.next) (bO hw _) x hx8.1
  obtain ⟨g1,g2,a',k1,k2,A2,R2,G2,_,n2⟩:=gx (m:=h.next) (by_:=8) hw X.kq.nxt [.int .i64 w] X.ea A rfl (by omega) (by omega)
  have O2:=O.keep hw A2 (by simp)
  obtain ⟨g3,k3,A3,O3,n3,l3⟩:=cM (o:=4) (vs:=[.slice a' (EL.length + 1) aG]) A2.wf O2 (by simp)
  have eE : (EL ++ [w]).length = EL.length + 1:=by simp
  rw [gR] at R2 G2
  have X3 : FR h (upd τ g.next 12) g3 p t (.slice pa parts.length pc) (.slice ra RL.length rc) ma sa a' (EL ++ [w]) :=
   ⟨(X.kq.bt (Nat.le_refl _) A2).bt (Nat.le_refl _) A3,(X.p.keep hw A2 (by simp)).keep A2.wf A3 (by simp),(X.t.keep hw A2 (by simp)).keep A2.wf A3 (by simp),(X.ma.keep hw A2 (by simp)).keep A2.wf A3 (by simp),(X.sa.keep hw A2 (by simp)).keep A2.wf A3 (by simp),R2.keep A2.wf A3 (by simp)⟩
  have nx:=ih (i + 1) m0 _ g3 (EL ++ [w]) a' aG (by omega) (by omega) (by omega) (fun y hy => by
   rcases List.mem_append.1 hy with hy | hy
   ·exact h64 y hy
   ·rw [List.mem_singleton.1 hy]
    exact w2) X3 (A3.lo2 (A2.lo2 hlo)) (by rw [eE]; exact G2) (by rw [eE]; exact O3)
  subst p1
  refine BO.imp tV ?_
  simp only [X.p.rd,O.rd,Nat.zero_add,Nat.add_zero,List.getElem?_cons_zero,List.getElem?_cons_succ,aj,Nat.reduceAdd,ak,ae,an,au,ap,aq,cond_true,cond_false,dl,du (show (i : Int) < RL.length by omega),eb,Int.toNat_natCast,p2,hwd,aH,aI,aE,Nat.beq_refl,k1,k2,k3,dv (show i < 9223372036854775807 by omega)]
  exact nx
 omit H RU0 hn in
theorem PR.app {m : Nat} {τ : Nat → Nat} {g : AH} {w : Nat} {pcs : List Go.Value} {PL : List (List Int)} (R : PR m τ g w pcs PL) (hl : pcs.length = PL.length) {L : List Int} {la : Option Addr} {lc : Nat} (R1 : Rw m τ (22 + 4 * PL.length) g la 1 (bU L)) (G1 : Gr la L.length lc 1 (bU L)) (h4 : L.length ≤ 4) (hv : ∀ x ∈ L,0 ≤ x ∧ x < w) :
   PR m τ g w (pcs ++ [.slice la L.length lc]) (PL ++ [L]):=fun i K hK => by
  rcases Nat.lt_or_ge i PL.length with h | h
  ·rw [List.getElem?_append_left h] at hK
   obtain ⟨a,c,q1,q2⟩:=R i K hK
   exact ⟨a,c,by rw [List.getElem?_append_left (by omega)]; exact q1,q2⟩
  ·rw [List.getElem?_append_right h] at hK
   have hi : i = PL.length:=by
    rcases Nat.eq_or_lt_of_le h with e | e
    ·exact e.symm
    ·rw [List.getElem?_eq_none (by rw [List.length_singleton]; omega)] at hK
     cases hK
   subst hi
   rw [Nat.sub_self] at hK
   injection hK with hK
   subst hK
   exact ⟨la,lc,by rw [List.getElem?_append_right (by omega),hl,Nat.sub_self]; rfl,⟨R1,G1⟩,h4,hv⟩
structure S2 (h : AH) (pa : Option Addr) (pc : Nat) (parts : List fF) (ra : Option Addr) (rc : Nat) (RL : List Int) (p t B : Nat) (ma sa ea : Option Addr) (ec : Nat) (EL : List Int) (τ : Nat → Nat) (g : AH) (WL : List Int) (pr : Option Addr) (pc5 : Nat) (pcs : List Go.Value) (PL : List (List Int)) : Prop where
 b : BS h.next τ 21 g B iv (.slice ma 2 2) (.slice sa 2 2) (.slice ea EL.length ec) (.slice none 0 0) WL [] []
 f : FR h τ g p t (.slice pa parts.length pc) (.slice ra RL.length rc) ma sa ea EL
 r : Rw h.next τ 14 g pr 1 pcs
 a : Gr pr PL.length pc5 1 pcs
 q : PR h.next τ g WL.length pcs PL
variable {EL : List Int} {ea : Option Addr} {ec : Nat}
 include RQ0
theorem LH (h4 : ∀ x ∈ parts,x.params.length ≤ 4) (hp : parts.length ≤ 5)
  (nxt : ∀ (τ : Nat → Nat) (g : AH) (WL : List Int) (pr : Option Addr) (pc5 : Nat) (pcs : List Go.Value) (PL : List (List Int)),S2 h pa pc parts ra rc RL p t B ma sa ea ec EL τ g WL pr pc5 pcs PL → PL.length = parts.length → WL.length ≤ 20 →
   BO h (kG n n h ⟨p,0,none⟩ ⟨t,0,none⟩ ⟨B,0,none⟩ pr parts.length pc5 0 g)) :
  ∀ (j i m0 : Nat) (τ : Nat → Nat) (g : AH) (WL : List Int) (pr : Option Addr) (pc5 : Nat) (pcs : List Go.Value) (PL : List (List Int)),j < m0 → i + j = parts.length → PL.length = i → WL.length ≤ 4 * i → S2 h pa pc parts ra rc RL p t B ma sa ea ec EL τ g WL pr pc5 pcs PL →
   BO h (tU n m0 h ⟨p,0,none⟩ ⟨t,0,none⟩ ⟨B,0,none⟩ pr i pc5 i g):=by
 have _:=RU0
 intro j
 induction j with
 | zero =>
  intro i m0 τ g WL pr pc5 pcs PL hj hi hP hW X
  obtain ⟨m0,rfl⟩ : ∃ q,m0 = q + 1:=⟨m0 - 1,by omega⟩
  have:=nxt τ g WL pr pc5 pcs PL X (by omega) (by omega)
  refine BO.imp tW ?_
  simp only [X.f.p.rd,Nat.zero_add,Nat.add_zero,List.getElem?_cons_zero,List.getElem?_cons_succ,aj,Nat.reduceAdd,ak,ae,an,au,ap,aq,cond_true,cond_false,dl,dF (show ¬ (i : Int) < parts.length by omega)]
  rw [show i = parts.length by omega]
  exact this
 | succ j ih =>
  intro i m0 τ g WL pr pc5 pcs PL hj hi hP hW X
  obtain ⟨m0,rfl⟩ : ∃ q,m0 = q + 1:=⟨m0 - 1,by omega⟩
  obtain ⟨P,hPP⟩ : ∃ P,parts[i]? = some P:=⟨_,List.getElem?_eq_getElem (by omega)⟩
  have hP4:=h4 P (List.mem_of_getElem? hPP)
  have ebi:=aK (i:=(i : Int)) (n:=parts.length) (by omega) (by omega)
  have lp : ∀ (d k m1 : Nat) (τ : Nat → Nat) (g : AH) (WL : List Int) (la : Option Addr) (lc : Nat) (L : List Int),d < m1 → k + d = P.params.length → L.length = k → WL.length ≤ 4 * i + k → S2 h pa pc parts ra rc RL p t B ma sa ea ec EL τ g WL pr pc5 pcs PL → Rw h.next τ (22 + 4 * i) g la 1 (bU L) → Gr la L.length lc 1 (bU L) → (∀ x ∈ L,0 ≤ x ∧ x < WL.length) →
    BO h (xA n m1 m0 h ⟨p,0,none⟩ ⟨t,0,none⟩ ⟨B,0,none⟩ pr i pc5 i la k lc k g):=by
   intro d
   induction d with
   | zero =>
    intro k m1 τ g WL la lc L hd hk hL hW X R1 G1 hv
    obtain ⟨m1,rfl⟩ : ∃ q,m1 = q + 1:=⟨m1 - 1,by omega⟩
    have hw:=X.f.wf
    obtain ⟨qa,qc,ia,ic,A,_⟩:=(RQ0.kq H X.f.kq) i P hPP
    obtain ⟨β,o,p1,p2⟩:=A
    have e0:=p2 0 _ rfl
    obtain ⟨g1,g2,a',k1,k2,A2,R2,G2,_,n2⟩:=gx (m:=h.next) (by_:=24) hw X.f.kq.nxt [.slice la L.length lc] X.r X.a rfl (by omega) (by omega)
    have ePL : (PL ++ [L]).length = i + 1:=by simp; omega
    have nx:=ih (i + 1) m0 (upd τ g.next 14) g2 WL a' aG (pcs ++ [.slice la L.length lc]) (PL ++ [L]) (by omega) (by omega) ePL (by omega)
     ⟨X.b.keep A2 (by simp),X.f.keep hw A2 (by simp),R2,by rw [ePL,← hP]; exact G2,PR.app (X.q.keep hw A2 (Nat.le_refl _) (by simp; omega)) (by have:=X.a.1; omega) (by rw [hP]; exact R1.keep hw A2 (by simp; omega)) G1 (by omega) hv⟩
    subst p1
    rw [hP] at k2
    rw [hL] at k1
    refine BO.imp tX ?_
    simp only [X.f.p.rd,Nat.zero_add,Nat.add_zero,List.getElem?_cons_zero,List.getElem?_cons_succ,aj,Nat.reduceAdd,ak,ae,an,au,ap,aq,cond_true,cond_false,dl,ebi,Int.toNat_natCast,e0,dF (show ¬ (k : Int) < P.params.length by omega),k1,k2,dv (show i < 9223372036854775807 by omega)]
    exact nx
   | succ d ih2 =>
    intro k m1 τ g WL la lc L hd hk hL hW X R1 G1 hv
    obtain ⟨m1,rfl⟩ : ∃ q,m1 = q + 1:=⟨m1 - 1,by omega⟩
    have hw:=X.f.wf
    obtain ⟨qa,qc,ia,ic,A,RU1,_⟩:=(RQ0.kq H X.f.kq) i P hPP
    obtain ⟨β,o,p1,p2⟩:=A
    have e0:=p2 0 _ rfl
    obtain ⟨y,hy⟩ : ∃ y,P.params[k]? = some y:=⟨_,List.getElem?_eq_getElem (by omega)⟩
    obtain ⟨⟨β2,o2,p3,p4⟩,hy8⟩:=RU1 k y hy
    have p4:=p4 0 _ rfl
    have ebk:=aK (i:=(k : Int)) (n:=P.params.length) (by omega) (by omega)
    obtain ⟨w,hwd,w1,w2⟩:=ou n (by omega) g hw y hy8.1
    obtain ⟨τ1,g1,r1,B1,A1,l1⟩:=Ci n (by omega) X.b w (by omega)
    have hn1 : h.next ≤ g1.next:=Nat.le_trans X.f.kq.nxt A1.nxt
    obtain ⟨g2,g3,a',k2,k3,A3,R3,G3,_,n3⟩:=gx (m:=h.next) (by_:=8) A1.wf hn1 [.int .i64 WL.length] (R1.keep hw A1 (by simp; omega)) G1 rfl (by omega) (by omega)
    have eL : (L ++ [(WL.length : Int)]).length = L.length + 1:=by simp
    have eW : (WL ++ [w]).length = WL.length + 1:=by simp
    rw [gR] at R3 G3
    have X3 : S2 h pa pc parts ra rc RL p t B ma sa ea ec EL (upd τ1 g1.next (22 + 4 * i)) g3 (WL ++ [w]) pr pc5 pcs PL :=
     ⟨B1.keep A3 (by simp; omega),(X.f.keep hw A1 (by simp)).keep A1.wf A3 (by simp; omega),(X.r.keep hw A1 (by simp)).keep A1.wf A3 (by simp; omega),X.a,(X.q.keep hw A1 (by rw [eW]; omega) (by simp; omega)).keep A1.wf A3 (Nat.le_refl _) (by simp; omega)⟩
    have nx:=ih2 (k + 1) m1 _ g3 (WL ++ [w]) a' aG (L ++ [(WL.length : Int)]) (by omega) (by omega) (by omega) (by omega) X3 R3 (by rw [eL]; exact G3) (fun x hx => by
     rw [eW]
     rcases List.mem_append.1 hx with hx | hx
     ·have:=hv x hx
      omega
     ·rw [List.mem_singleton.1 hx]
      omega)
    subst p1
    subst p3
    rw [hL] at k3
    refine BO.imp tX ?_
    simp only [X.f.p.rd,Nat.zero_add,Nat.add_zero,List.getElem?_cons_zero,List.getElem?_cons_succ,aj,Nat.reduceAdd,ak,ae,an,au,ap,aq,cond_true,cond_false,dl,ebi,ebk,Int.toNat_natCast,e0,p4,du (show (k : Int) < P.params.length by omega),hwd,r1,k2,k3,dv (show k < 9223372036854775807 by omega)]
    exact nx
  have nx:=lp P.params.length 0 n τ g WL none 0 [] (by omega) (by rw [Nat.zero_add]) rfl (by omega) X .nil .nil (fun x hx => by cases hx)
  refine BO.imp tW ?_
  simp only [X.f.p.rd,Nat.zero_add,Nat.add_zero,List.getElem?_cons_zero,List.getElem?_cons_succ,aj,Nat.reduceAdd,ak,ae,an,au,ap,aq,cond_true,cond_false,dl,du (show (i : Int) < parts.length by omega)]
  exact nx
end
end Go.Proofs.YtjdomdndflfjdabGreatDoor.Kb
