/- Joined texts: JA. -/
import Derived.Test.YtjdomdndflfjdaaGreatDoorTA
import Derived.Test.YtjdomdndflfjdaaGreatDoorTB
import Derived.Test.YtjdomdndflfjdaaGreatDoorTC
namespace Go.Proofs.YtjdomdndflfjdaaGreatDoor.Kb
open Go Go.Proofs Go.Proofs.YtjdomdndflfjdaaGreatDoor.X
set_option linter.unusedSimpArgs false
set_option linter.unusedVariables false
theorem az {α β : Type} (a : α) (f : α → Option β) : (some a).bind f = f a:=Eq.trans (Eq.refl _) (Eq.refl _)
theorem dl (n : Nat) : Int.ofNat n = (n : Int):=rfl
theorem dt {a b : Int} (h : a < b) : cj a b = true:=decide_eq_true h
theorem dE {a b : Int} (h : ¬ a < b) : cj a b = false:=decide_eq_false h
theorem yI {a b : Int} (h : a ≤ b) : bV a b = true:=decide_eq_true h
theorem K8 {a b : Int} (h : ¬ a ≤ b) : bV a b = false:=decide_eq_false h
theorem lC {a b : Int} (h : cj a b = true) : a < b:=of_decide_eq_true h
theorem ef {a b : Int} (h : cj a b = false) : ¬ a < b:=of_decide_eq_false h
theorem ke {a b : Int} (h : bV a b = true) : a ≤ b:=of_decide_eq_true h
theorem fM {a b : Int} (h : bV a b = false) : ¬ a ≤ b:=of_decide_eq_false h
theorem pg {a b : Int} (h : aY a b = true) : a = b:=by
 have : (a == b) = true:=h
 exact eq_of_beq this
theorem FX {a b : Int} (h : aY a b = false) : a ≠ b:=by
 intro e
 subst e
 have : (a == a) = false:=h
 rw [beq_self_eq_true] at this
 cases this
theorem ph {a b : Int} (h : gv a b = false) : a = b:=by
 unfold gv at h
 cases e : (a == b) with
 | true => exact eq_of_beq e
 | false =>
  rw [bne,e] at h
  cases h
theorem aM {i : Int} {n : Nat} (h0 : 0 ≤ i) (h : i < n) : bO i n = true:=HZ h0 (by omega)
theorem du {i : Nat} (h : i < 9223372036854775807) : aU .i64 (i : Int) 1 = ((i + 1 : Nat) : Int):=by
 unfold aU
 rw [IntKind.wrap_i64]
 omega
structure bG where
 op : Int
 dest : Int
 args : List Int
 num : Int
 mem : Int
structure fB where
 block : Int
 args : List Int
structure bh where
 params : List Int
 insts : List bG
 kind : Int
 cond : Int
 to : List fB
 rets : List Int
 pipe : Int
 unr : Int
 line : Int
def At (h : AH) (a : Option Addr) (z i : Nat) (cs : List Value) : Prop:=∃ β o,a = some ⟨β,o,none⟩ ∧ ∀ k x,cs[k]? = some x → rdC h ⟨β,o + i * z,none⟩ k = some x
theorem At.wk {h g : AH} (H : WF h) (W : Wk h g) {a : Option Addr} {z i : Nat} {cs : List Value} (A : At h a z i cs) : At g a z i cs:=by
 obtain ⟨β,o,h1,h2⟩:=A
 exact ⟨β,o,h1,fun k x hx => W.rdC H (h2 k x hx)⟩
theorem At.kp {h g : AH} (H : WF h) (W : Kp h g) {a : Option Addr} {z i : Nat} {cs : List Value} (A : At h a z i cs) : At g a z i cs:=by
 obtain ⟨β,o,h1,h2⟩:=A
 exact ⟨β,o,h1,fun k x hx => W.rdC H (h2 k x hx)⟩
def RI (h : AH) (a : Option Addr) (l : List Int) : Prop:=∀ i x,l[i]? = some x → At h a 1 i [.int .i64 x]
def RN (h : AH) (a : Option Addr) (l : List bG) : Prop:=∀ i x,l[i]? = some x → ∃ aa ac,At h a 5 i [.int .i64 x.op,.int .i64 x.dest,.slice aa x.args.length ac,.int .u64 x.num,.int .i64 x.mem] ∧ RI h aa x.args
def RE (h : AH) (a : Option Addr) (l : List fB) : Prop:=∀ i x,l[i]? = some x → ∃ aa ac,At h a 2 i [.int .i64 x.block,.slice aa x.args.length ac] ∧ RI h aa x.args
def RB (h : AH) (a : Option Addr) (l : List bh) : Prop:=∀ i x,l[i]? = some x → ∃ pa pc ia ic ta tc ra rc,At h a 9 i [.slice pa x.params.length pc,.slice ia x.insts.length ic,.int .i64 x.kind,.int .i64 x.cond,.slice ta x.to.length tc,.slice ra x.rets.length rc,.int .i64 x.pipe,.int .i64 x.unr,.int .i64 x.line] ∧
 RI h pa x.params ∧ RN h ia x.insts ∧ RE h ta x.to ∧ RI h ra x.rets
def RT (h : AH) (a : Option Addr) (n : Nat) : Prop:=∀ i,i < n → ∃ b,At h a 1 i [.bool b]
def RS (h : AH) (a : Option Addr) (n : Nat) : Prop:=∀ i,i < n → ∃ s w b,s.size < 100 ∧ At h a 3 i [.string s,.int .i64 w,.bool b]
def RA (h : AH) (a : Option Addr) (n : Nat) : Prop:=∀ i,i < n → ∃ s w l k f,s.size < 100 ∧ At h a 5 i [.string s,.int .i64 w,.int .i64 l,.int .i64 k,.int .i64 f]
section
variable {h g : AH} (H : WF h) (W : Wk h g) {a : Option Addr}
 include H W
theorem RI.wk {l : List Int} (R : RI h a l) : RI g a l:=fun i x hx => (R i x hx).wk H W
theorem RN.wk {l : List bG} (R : RN h a l) : RN g a l:=fun i x hx => by
 obtain ⟨aa,ac,h1,h2⟩:=R i x hx
 exact ⟨aa,ac,h1.wk H W,RI.wk H W h2⟩
theorem RE.wk {l : List fB} (R : RE h a l) : RE g a l:=fun i x hx => by
 obtain ⟨aa,ac,h1,h2⟩:=R i x hx
 exact ⟨aa,ac,h1.wk H W,RI.wk H W h2⟩
theorem RB.wk {l : List bh} (R : RB h a l) : RB g a l:=fun i x hx => by
 obtain ⟨pa,pc,ia,ic,ta,tc,ra,rc,h1,h2,h3,h4,h5⟩:=R i x hx
 exact ⟨pa,pc,ia,ic,ta,tc,ra,rc,h1.wk H W,RI.wk H W h2,RN.wk H W h3,RE.wk H W h4,RI.wk H W h5⟩
theorem RT.wk {n : Nat} (R : RT h a n) : RT g a n:=fun i hi => (R i hi).imp fun _ q => q.wk H W
theorem RS.wk {n : Nat} (R : RS h a n) : RS g a n:=fun i hi => by
 obtain ⟨s,w,b,q0,q⟩:=R i hi
 exact ⟨s,w,b,q0,q.wk H W⟩
theorem RA.wk {n : Nat} (R : RA h a n) : RA g a n:=fun i hi => by
 obtain ⟨s,w,l,k,f,q0,q⟩:=R i hi
 exact ⟨s,w,l,k,f,q0,q.wk H W⟩
end
section
variable {h g : AH} (H : WF h) (W : Kp h g) {a : Option Addr}
 include H W
theorem RI.kp {l : List Int} (R : RI h a l) : RI g a l:=fun i x hx => (R i x hx).kp H W
theorem RN.kp {l : List bG} (R : RN h a l) : RN g a l:=fun i x hx => by
 obtain ⟨aa,ac,h1,h2⟩:=R i x hx
 exact ⟨aa,ac,h1.kp H W,RI.kp H W h2⟩
theorem RE.kp {l : List fB} (R : RE h a l) : RE g a l:=fun i x hx => by
 obtain ⟨aa,ac,h1,h2⟩:=R i x hx
 exact ⟨aa,ac,h1.kp H W,RI.kp H W h2⟩
theorem RB.kp {l : List bh} (R : RB h a l) : RB g a l:=fun i x hx => by
 obtain ⟨pa,pc,ia,ic,ta,tc,ra,rc,h1,h2,h3,h4,h5⟩:=R i x hx
 exact ⟨pa,pc,ia,ic,ta,tc,ra,rc,h1.kp H W,RI.kp H W h2,RN.kp H W h3,RE.kp H W h4,RI.kp H W h5⟩
theorem RT.kp {n : Nat} (R : RT h a n) : RT g a n:=fun i hi => (R i hi).imp fun _ q => q.kp H W
theorem RS.kp {n : Nat} (R : RS h a n) : RS g a n:=fun i hi => by
 obtain ⟨s,w,b,q0,q⟩:=R i hi
 exact ⟨s,w,b,q0,q.kp H W⟩
theorem RA.kp {n : Nat} (R : RA h a n) : RA g a n:=fun i hi => by
 obtain ⟨s,w,l,k,f,q0,q⟩:=R i hi
 exact ⟨s,w,l,k,f,q0,q.kp H W⟩
end
theorem RI.rd {h : AH} {a : Option Addr} {l : List Int} (R : RI h a l) {ρ : Type} {K : Int → Option ρ} {n : Nat} (hn : n = l.length) {i : Int} (h0 : 0 ≤ i) (hi : i < n) : ∃ x,l[i.toNat]? = some x ∧ (a.bind fun a0 => cond (bO i n) ((gI .i64 (rdC h (Addr.add a0 (i.toNat * 1)) 0)).bind K) none) = K x:=by
 obtain ⟨x,hx⟩ : ∃ x,l[i.toNat]? = some x:=⟨_,List.getElem?_eq_getElem (by omega)⟩
 obtain ⟨β,o,h1,h2⟩:=R _ x hx
 have h2:=h2 0 _ rfl
 refine ⟨x,hx,?_⟩
 rw [h1,az,aM h0 hi,cond_true,ak,h2,an,az]
theorem RT.rd {h : AH} {a : Option Addr} {n : Nat} (R : RT h a n) {ρ : Type} {K : Bool → Option ρ} {i : Int} (h0 : 0 ≤ i) (hi : i < n) : ∃ x,(a.bind fun a0 => cond (bO i n) ((gB (rdC h (Addr.add a0 (i.toNat * 1)) 0)).bind K) none) = K x:=by
 obtain ⟨x,β,o,h1,h2⟩:=R i.toNat (by omega)
 have h2:=h2 0 _ rfl
 refine ⟨x,?_⟩
 rw [h1,az,aM h0 hi,cond_true,ak,h2,ah,az]
theorem ql (N : Nat) (hN : 1 ≤ N) (h : AH) (H : WF h) (s : ByteArray) (b : Option Addr) (bn bc : Nat) (c : Option Addr) (cn cc : Nat) (d : Option Addr) (dn dc : Nat) (e : Option Addr) (en ec : Nat) (f : Option Addr) (fn fc : Nat) (v : Int) :
  au Tryz.prog N 16 [.agg #[.string s,.slice b bn bc,.slice c cn cc,.slice d dn dc,.slice e en ec,.slice f fn fc],.int .i64 v] h = some (.bool (bV 0 v && cj v bn),h):=by
 obtain ⟨n,rfl⟩ : ∃ n,N = n + 1:=⟨N - 1,by omega⟩
 refine H2 ?_
 rw [Nq]
 simp only [bu h,aI,aF,aJ,aX,aG,aT,bB,bM,Nat.beq_refl,ak,List.nil_append,List.cons_append,List.length_cons,List.length_nil,Nat.zero_add,Nat.add_zero,Nat.reduceAdd,an,ah,ap,aA,aq,az,cond_true,cond_false,L9 H,J1 H,lst H,J2 H,List.getElem?_cons_zero,List.getElem?_cons_succ,ie,u7,List.drop_succ_cons,List.drop_zero,List.drop_nil,List.set_cons_zero,List.set_cons_succ,List.append_nil,rQ,GQ]
 cases bV 0 v <;> simp only [an,ah,ap,aA,aq,az,cond_true,cond_false,aV,bp,aW,bC,bD,Bool.true_and,Bool.false_and,dl]
theorem K9 (N : Nat) (hN : 1 ≤ N) (h : AH) (op : Int) : au Tryz.prog N 40 [.int .i64 op] h = some (.bool (bV 2 op && bV op 20),h):=by
 obtain ⟨n,rfl⟩ : ∃ n,N = n + 1:=⟨N - 1,by omega⟩
 refine H7 ?_
 rw [Nv]
 cases bV 2 op <;> simp only [bu h,aI,aF,aJ,aX,aG,aT,bB,bM,Nat.beq_refl,ak,List.nil_append,List.cons_append,List.length_cons,List.length_nil,Nat.zero_add,Nat.add_zero,Nat.reduceAdd,an,ah,ap,aA,aq,az,cond_true,cond_false,aV,bp,aW,bC,bD,Bool.true_and,Bool.false_and]
theorem La (N : Nat) (hN : 1 ≤ N) (h : AH) (op : Int) : au Tryz.prog N 42 [.int .i64 op] h = some (.bool (bV 15 op && bV op 20),h):=by
 obtain ⟨n,rfl⟩ : ∃ n,N = n + 1:=⟨N - 1,by omega⟩
 refine H9 ?_
 rw [Nz]
 cases bV 15 op <;> simp only [bu h,aI,aF,aJ,aX,aG,aT,bB,bM,Nat.beq_refl,ak,List.nil_append,List.cons_append,List.length_cons,List.length_nil,Nat.zero_add,Nat.add_zero,Nat.reduceAdd,an,ah,ap,aA,aq,az,cond_true,cond_false,aV,bp,aW,bC,bD,Bool.true_and,Bool.false_and]
theorem right (N : Nat) (hN : 1 ≤ N) (h : AH) (w : Int) : au Tryz.prog N 39 [.int .i64 w] h = some (.bool (bV 1 w && bV w 64),h):=by
 obtain ⟨n,rfl⟩ : ∃ n,N = n + 1:=⟨N - 1,by omega⟩
 refine H5 ?_
 rw [Nu]
 cases bV 1 w <;> simp only [bu h,aI,aF,aJ,aX,aG,aT,bB,bM,Nat.beq_refl,ak,List.nil_append,List.cons_append,List.length_cons,List.length_nil,Nat.zero_add,Nat.add_zero,Nat.reduceAdd,an,ah,ap,aA,aq,az,cond_true,cond_false,aV,bp,aW,bC,bD,Bool.true_and,Bool.false_and]
def ar (op : Int) : Int:=cond (aY op 1) 0 (cond (bV 2 op && bV op 20 || (aY op 25 || aY op 28)) 2 (cond (aY op 21 || aY op 26) 3 (cond (aY op 22 || (aY op 23 || (aY op 24 || aY op 27))) 1 (-1))))
theorem Hl (op : Int) : ar op ≤ 3:=by
 unfold ar
 cases aY op 1 <;> cases (bV 2 op && bV op 20 || (aY op 25 || aY op 28)) <;> cases (aY op 21 || aY op 26) <;> cases (aY op 22 || (aY op 23 || (aY op 24 || aY op 27))) <;> decide
theorem Hm (N : Nat) (hN : 2 ≤ N) (h : AH) (op : Int) : au Tryz.prog N 17 [.int .i64 op] h = some (.int .i64 (ar op),h):=by
 obtain ⟨n,rfl⟩ : ∃ n,N = n + 1:=⟨N - 1,by omega⟩
 have k1 : ∀ b,we n h op b (loc h []) = some (.int .i64 (cond b 3 (cond (aY op 22 || (aY op 23 || (aY op 24 || aY op 27))) 1 (-1))),h):=fun b => by
  refine Ae ?_
  rw [Ag]
  cases b <;> cases aY op 22 <;> cases aY op 23 <;> cases aY op 24 <;> cases aY op 27 <;> simp only [an,ah,ap,aA,aq,az,cond_true,cond_false,aV,bp,aW,bC,bD,Bool.true_or,Bool.false_or,Bool.or_true,Bool.or_false]
 have k0 : ∀ b,rR n h op b (loc h []) = some (.int .i64 (cond b 2 (cond (aY op 21 || aY op 26) 3 (cond (aY op 22 || (aY op 23 || (aY op 24 || aY op 27))) 1 (-1)))),h):=fun b => by
  refine Ac ?_
  rw [Af]
  simp only [k1]
  cases b <;> cases aY op 21 <;> simp only [an,ah,ap,aA,aq,az,cond_true,cond_false,aV,bp,aW,bC,bD,Bool.true_or,Bool.false_or]
 refine H3 ?_
 rw [Nr]
 unfold ar
 simp only [bu h,aI,aF,aJ,aX,aG,aT,bB,bM,Nat.beq_refl,ak,List.nil_append,List.cons_append,List.length_cons,List.length_nil,Nat.zero_add,Nat.add_zero,Nat.reduceAdd,K9 n (by omega),k0,an,ah,ap,aA,aq,az,cond_true,cond_false]
 cases aY op 1 <;> cases (bV 2 op && bV op 20) <;> cases aY op 25 <;> simp only [an,ah,ap,aA,aq,az,cond_true,cond_false,aV,bp,aW,bC,bD,Bool.true_or,Bool.false_or]
def rs (op : Int) : Bool:=bV 0 (ar op) && (gv op 26 && gv op 28)
theorem vh (N : Nat) (hN : 3 ≤ N) (h : AH) (op : Int) : au Tryz.prog N 19 [.int .i64 op] h = some (.bool (rs op),h):=by
 obtain ⟨n,rfl⟩ : ∃ n,N = n + 1:=⟨N - 1,by omega⟩
 refine H4 ?_
 rw [Ns]
 unfold rs
 simp only [bu h,aI,aF,aJ,aX,aG,aT,bB,bM,Nat.beq_refl,ak,List.nil_append,List.cons_append,List.length_cons,List.length_nil,Nat.zero_add,Nat.add_zero,Nat.reduceAdd,Hm n (by omega),an,ah,ap,aA,aq,az,cond_true,cond_false]
 cases bV 0 (ar op) <;> cases gv op 26 <;> simp only [an,ah,ap,aA,aq,az,cond_true,cond_false,aV,bp,aW,bC,bD,Bool.true_and,Bool.false_and]
section
variable (s : ByteArray) (b : Option Addr) (bn bc : Nat) (c : Option Addr) (cn cc : Nat) (d : Option Addr) (dn dc : Nat) (e : Option Addr) (en ec : Nat) (f : Option Addr) (fn fc : Nat)
theorem FY (N : Nat) (hN : 300 ≤ N) (h : AH) (H : WF h) (l : Option Addr) (ln lc : Nat) (L : List Int) (hl : ln = L.length) (R : RI h l L) (hL : L.length < 100) (k : Option Addr) (kc : Nat) (T : RT h k bn) :
  ∃ r,au Tryz.prog N 18 [.agg #[.string s,.slice b bn bc,.slice c cn cc,.slice d dn dc,.slice e en ec,.slice f fn fc],.slice l ln lc,.slice k bn kc] h = some (.bool r,h) ∧ (r = true → ∀ x ∈ L,0 ≤ x ∧ x < bn):=by
 obtain ⟨n,rfl,hn⟩ : ∃ m,N = m + 1 ∧ 299 ≤ m:=⟨N - 1,by omega,by omega⟩
 have R' : RI (loc h [[.string s,.slice b bn bc,.slice c cn cc,.slice d dn dc,.slice e en ec,.slice f fn fc]]) l L:=R.wk H (dY H _)
 have T' : RT (loc h [[.string s,.slice b bn bc,.slice c cn cc,.slice d dn dc,.slice e en ec,.slice f fn fc]]) k bn:=T.wk H (dY H _)
 have lp : ∀ (j i m0 : Nat),j < m0 → i + j = L.length → ∃ r,wg n m0 h l ln lc k bn kc ⟨h.next,0,none⟩ i (loc h [[.string s,.slice b bn bc,.slice c cn cc,.slice d dn dc,.slice e en ec,.slice f fn fc]]) = some (.bool r,h) ∧ (r = true → ∀ x ∈ L.drop i,0 ≤ x ∧ x < bn):=by
  intro j
  induction j with
  | zero =>
   intro i m0 hm hi
   obtain ⟨m0,rfl⟩ : ∃ q,m0 = q + 1:=⟨m0 - 1,by omega⟩
   refine ⟨true,rS ?_,fun _ x hx => ?_⟩
   ·rw [rT,dl,dE (by omega)]
    simp only [an,ah,ap,aA,aq,az,cond_true,cond_false,aV,bp,aW,bC,bD]
   ·rw [List.drop_of_length_le (by omega)] at hx
    cases hx
  | succ j ih =>
   intro i m0 hm hi
   obtain ⟨m0,rfl⟩ : ∃ q,m0 = q + 1:=⟨m0 - 1,by omega⟩
   obtain ⟨x,hx⟩ : ∃ x,L[i]? = some x:=⟨_,List.getElem?_eq_getElem (by omega)⟩
   obtain ⟨β,o,hb,hc⟩:=R' i x hx
   have hc:=hc 0 _ rfl
   have hd : L.drop i = x :: L.drop (i + 1):=by
    rw [List.drop_eq_getElem_cons (by omega)]
    rw [List.getElem?_eq_getElem (by omega)] at hx
    injection hx with hx
    rw [hx]
   obtain ⟨r,r1,r2⟩:=ih (i + 1) m0 (by omega) (by omega)
   have key : ∃ r,vd aD n m0 h l ln lc k bn kc ⟨h.next,0,none⟩ i (loc h [[.string s,.slice b bn bc,.slice c cn cc,.slice d dn dc,.slice e en ec,.slice f fn fc]]) = some (.bool r,h) ∧ (r = true → ∀ x ∈ L.drop i,0 ≤ x ∧ x < bn):=by
    rw [rT,dl,dt (by omega)]
    simp only [bu h,aI,aF,aJ,aX,aG,aT,bB,bM,Nat.beq_refl,ak,List.nil_append,List.cons_append,List.length_cons,List.length_nil,Nat.zero_add,Nat.add_zero,Nat.reduceAdd,an,ah,ap,aA,aq,az,cond_true,cond_false,L9 H,J1 H,lst H,J2 H,List.getElem?_cons_zero,List.getElem?_cons_succ,ie,u7,List.drop_succ_cons,List.drop_zero,List.drop_nil,List.set_cons_zero,List.set_cons_succ,List.append_nil,rQ,GQ,hb,aM (Int.natCast_nonneg i) (show (i : Int) < ln by omega),Int.toNat_natCast,hc,ql n (by omega) (setLow (loc h [[.string s,.slice b bn bc,.slice c cn cc,.slice d dn dc,.slice e en ec,.slice f fn fc]]) (h.next + 1)) (bR (uS H _) _)]
    cases hw : (bV 0 x && cj x bn) with
    | false => exact ⟨false,by simp only [Bool.not_true,Bool.not_false,an,ah,ap,aA,aq,az,cond_true,cond_false,aV,bp,aW,bC,bD],fun h => by cases h⟩
    | true =>
     have hw2:=hw
     rw [Bool.and_eq_true] at hw2
     have h0:=ke hw2.1
     have h1:=lC hw2.2
     obtain ⟨t,γ,u,k1,k2⟩:=T' x.toNat (by omega)
     have k2:=k2 0 _ rfl
     simp only [Bool.not_true,Bool.not_false,an,ah,ap,aA,aq,az,cond_true,cond_false,bu h,aI,aF,aJ,aX,aG,aT,bB,bM,Nat.beq_refl,ak,List.nil_append,List.cons_append,List.length_cons,List.length_nil,Nat.zero_add,Nat.add_zero,Nat.reduceAdd,k1,aM h0 h1,k2]
     cases t with
     | false => exact ⟨false,by simp only [Bool.not_true,Bool.not_false,an,ah,ap,aA,aq,az,cond_true,cond_false,aV,bp,aW,bC,bD],fun h => by cases h⟩
     | true =>
      rw [hb,k1] at r1
      refine ⟨r,?_,fun hr y hy => ?_⟩
      ·simp only [Bool.not_true,Bool.not_false,an,ah,ap,aA,aq,az,cond_true,cond_false]
       rw [du (by omega)]
       exact r1
      ·rw [hd] at hy
       rcases List.mem_cons.1 hy with rfl | hy
       ·exact ⟨h0,h1⟩
       ·exact r2 hr y hy
   obtain ⟨r,q1,q2⟩:=key
   exact ⟨r,rS q1,q2⟩
 obtain ⟨r,r1,r2⟩:=lp L.length 0 n (by omega) (by omega)
 refine ⟨r,Ia ?_,fun hr => r2 hr⟩
 rw [NA]
 simp only [bu h,aI,aF,aJ,aX,aG,aT,bB,bM,Nat.beq_refl,ak,List.nil_append,List.cons_append,List.length_cons,List.length_nil,Nat.zero_add,Nat.add_zero,Nat.reduceAdd,an,ah,ap,aA,aq,az,cond_true,cond_false]
 exact r1
end
def Bx (h : AH) (o : Option (Go.Value × AH)) : Prop:=∃ r,o = some (.bool r,h)
theorem Bx.leaf {h : AH} {b : Bool} : Bx h (some (.bool b,h)):=⟨b,rfl⟩
theorem Bx.cnd {h : AH} {c : Bool} {A B : Option (Go.Value × AH)} (h1 : c = true → Bx h A) (h2 : c = false → Bx h B) : Bx h (cond c A B):=by
 cases c with
 | true => exact h1 rfl
 | false => exact h2 rfl
theorem Bx.imp {h : AH} {A B : Option (Go.Value × AH)} (f : ∀ {r},A = some r → B = some r) (x : Bx h A) : Bx h B:=by
 obtain ⟨r,e⟩:=x
 exact ⟨r,f e⟩
theorem dx {h g : AH} (W : Wk h g) (b : Bool) : aj h g (.bool b) = (.bool b,h):=W.exit rfl
theorem Hn {h g : AH} (W : Wk h g) (k : IntKind) (b : Int) : aj h g (.int k b) = (.int k b,h):=W.exit rfl
theorem Oy {h g : AH} (W : Wk h g) (a : Addr) (n c : Nat) : aj h g (.slice (some a) n c) = (.slice (some a) n c,setLow g h.low):=by
 unfold aj
 have e1 : Nat.blt h.next h.next = false:=by
  cases e : Nat.blt h.next h.next with
  | false => rfl
  | true => exact absurd (Nat.le_of_ble_eq_true e) (by omega)
 rw [W.low,Nat.beq_refl]
 show ((.slice (some a) n c : Go.Value),_) = _
 rw [e1]
 rfl
theorem Oz {h g : AH} (W : Wk h g) : aj h g (.slice none 0 0) = (.slice none 0 0,h):=W.exit rfl
theorem Mh {h g : AH} (W : Wk h g) : Kp h (setLow g h.low):=⟨W.wf.setLow _,rfl,W.nxt,W.old⟩
theorem D3 {h g : AH} (K : Kp (setLow h h.next) g) : Wk h g:=⟨K.wf,K.low,K.nxt,K.old⟩
theorem yJ {h g : AH} (W : Wk h g) : Kp (setLow h h.next) g:=⟨W.wf,W.low,W.nxt,W.old⟩
theorem cP {h : AH} (H : WF h) : ∀ (bs : List (List Value)) (j : Nat) (c : List Value),bs[j]? = some c → cz (loc h bs) (h.next + j) c:=by
 intro bs j c hj
 have hr:=qb H hj
 refine ⟨0,?_,(H.new _ (by omega)).2⟩
 exact (aS hr).1
theorem D5 {g : AH} {a : Option Addr} {n c G : Nat} {l : List Int} (R : il g a n c 1 G (l.map fun x => .int .i64 x)) : RI g a l:=by
 intro i x hx
 rcases R with ⟨_,_,_,e⟩ | ⟨β,e,r1,r2,r3,r4,r5,r6⟩
 ·have:=congrArg List.length e
  rw [List.length_map] at this
  rw [List.eq_nil_of_length_eq_zero this] at hx
  cases hx
 ·refine ⟨β,0,e,fun k y hy => ?_⟩
  have hk : k = 0:=by
   cases k with
   | zero => rfl
   | succ k => cases hy
  subst hk
  injection hy with hy
  subst hy
  have hr : g.rd β = some ⟨l.map fun x => .int .i64 x,1,G,false⟩:=dp r5 r6
  unfold rdC
  simp only [hr,Option.bind_some]
  rw [Nat.add_zero,Nat.zero_add,Nat.mul_one,List.getElem?_map,hx]
  rfl
theorem vj {g : AH} {β o k : Nat} {x : Go.Value} (h : rdC g ⟨β,o,none⟩ k = some x) : rdC g ⟨β,o + k,none⟩ 0 = some x:=by
 unfold rdC at h ⊢
 simp only [Nat.add_zero] at h ⊢
 exact h
theorem Ho (N : Nat) (hN : 1 ≤ N) (h : AH) (w : Int) : au Tryz.prog N 87 [.int .i64 w] h = some (.int .i64 (fJ (gb w 0) 64),h):=by
 obtain ⟨n,rfl⟩ : ∃ n,N = n + 1:=⟨N - 1,by omega⟩
 refine FC ?_
 rw [Mb]
 simp only [bu h,aI,aF,aJ,aX,aG,aT,bB,bM,Nat.beq_refl,ak,List.nil_append,List.cons_append,List.length_cons,List.length_nil,Nat.zero_add,Nat.add_zero,Nat.reduceAdd,aV,bp,aW,bC,bD]
theorem D6 (w : Int) : 0 ≤ fJ (gb w 0) 64 ∧ fJ (gb w 0) 64 ≤ 64:=by
 unfold fJ gb
 cases h1 : decide (0 > w) with
 | true => exact (by decide : (0 : Int) ≤ 0 ∧ (0 : Int) ≤ 64)
 | false =>
  have:=of_decide_eq_false h1
  rw [cond_false]
  cases h2 : decide (64 < w) with
  | true => exact (by decide : (0 : Int) ≤ 64 ∧ (64 : Int) ≤ 64)
  | false =>
   have:=of_decide_eq_false h2
   rw [cond_false]
   omega
theorem bits (N : Nat) (hN : 100 ≤ N) (h : AH) (H : WF h) (hl : h.low ≤ h.next) (w x : Int) : ∃ (a : Option Addr) (m c : Nat) (g : AH) (l : List Int),au Tryz.prog N 62 [.int .i64 w,.int .u64 x] h = some (.slice a m c,g) ∧ Kp h g ∧ RI g a l ∧ l.length = m ∧ m ≤ 64:=by
 obtain ⟨n,rfl,hn⟩ : ∃ m,N = m + 1 ∧ 99 ≤ m:=⟨N - 1,by omega,by omega⟩
 obtain ⟨q0,q1⟩:=D6 w
 have lp : ∀ (j i m0 : Nat) (x : Int) (g : AH) (a : Option Addr) (c G : Nat) (l : List Int),j < m0 → (i : Int) + j = fJ (gb w 0) 64 → Wk h g → il g a i c 1 G (l.map fun x => .int .i64 x) → l.length = i → h.next ≤ G → G ≤ g.next →
   ∃ (a1 : Option Addr) (m c1 : Nat) (g' : AH) (l : List Int),wm n m0 h w x a i c i g = some (.slice a1 m c1,g') ∧ Kp h g' ∧ RI g' a1 l ∧ l.length = m ∧ m ≤ 64:=by
  intro j
  induction j with
  | zero =>
   intro i m0 x g a c G l hm hi W R hl hG1 hG2
   obtain ⟨m0,rfl⟩ : ∃ q,m0 = q + 1:=⟨m0 - 1,by omega⟩
   have key : ve aD n m0 h w x a i c i g = some (aj h g (.slice a i c)):=by
    rw [rY]
    simp only [Ho n (by omega),an,ah,ap,aA,aq,az,cond_true,cond_false,dE (show ¬ (i : Int) < fJ (gb w 0) 64 by omega)]
   cases a with
   | none =>
    rcases R with ⟨_,e1,e2,e3⟩ | ⟨β,e,_⟩
    ·subst e2
     have hi0 : i = 0:=e1
     subst hi0
     exact ⟨none,0,0,h,[],nH (key.trans (by rw [Oz W])),Kp.refl H,(fun i x hx => absurd hx (by simp)),rfl,by omega⟩
    ·cases e
   | some a =>
    exact ⟨some a,i,c,setLow g h.low,l,nH (key.trans (by rw [Oy W])),Mh W,D5 R,hl,by omega⟩
  | succ j ih =>
   intro i m0 x g a c G l hm hi W R hl hG1 hG2
   obtain ⟨m0,rfl⟩ : ∃ q,m0 = q + 1:=⟨m0 - 1,by omega⟩
   obtain ⟨g1,g2,a',G',k1,k2,k3,k4,k5,k6,_⟩:=(yJ W).app (by_:=8) (Nat.le_refl _) R hG1 hG2 (vs:=[.int .i64 (aR .i64 (cm .u64 x 2))]) rfl (by omega) (by omega)
   obtain ⟨a2,m,c2,g',l2,r1,r2⟩:=ih (i + 1) m0 (pT .u64 x 2) g2 a' aH G' (l ++ [aR .i64 (cm .u64 x 2)]) (by omega) (by omega) (D3 k4) (by rw [List.map_append]; exact k3) (by rw [List.length_append,hl]; rfl) k5 k6
   refine ⟨a2,m,c2,g',l2,nH ?_,r2⟩
   rw [rY]
   simp only [Ho n (by omega),an,ah,ap,aA,aq,az,cond_true,cond_false,dt (show (i : Int) < fJ (gb w 0) 64 by omega),k1,k2]
   rw [du (by omega)]
   exact r1
 obtain ⟨a,m,c,g,l,r1,r2⟩:=lp (fJ (gb w 0) 64).toNat 0 n x (setLow h h.next) none 0 h.next [] (by omega) (by omega) (Wk.start H) (il.nil _ _ _) rfl (Nat.le_refl _) (Nat.le_refl _)
 refine ⟨a,m,c,g,l,Id ?_,r2⟩
 rw [ND]
 exact r1
theorem Mj (N : Nat) (hN : 100 ≤ N) (h : AH) (H : WF h) (a : Option Addr) (m c : Nat) (l : List Int) (R : RI h a l) (hl : l.length = m) (hm : m ≤ 64) : ∃ y,au Tryz.prog N 61 [.slice a m c] h = some (.int .u64 y,h):=by
 obtain ⟨n,rfl,hn⟩ : ∃ m,N = m + 1 ∧ 99 ≤ m:=⟨N - 1,by omega,by omega⟩
 have lp : ∀ (i m0 : Nat) (x : Int),i ≤ m → i < m0 → ∃ y,wj n m0 h a m c x ((i : Int) - 1) (setLow h h.next) = some (.int .u64 y,h):=by
  intro i
  induction i with
  | zero =>
   intro m0 x hi hm
   obtain ⟨m0,rfl⟩ : ∃ q,m0 = q + 1:=⟨m0 - 1,by omega⟩
   refine ⟨x,rW ?_⟩
   rw [rX,K8 (by omega)]
   simp only [an,ah,ap,aA,aq,az,cond_true,cond_false,Hn (Wk.start H)]
  | succ i ih =>
   intro m0 x hi hm
   obtain ⟨m0,rfl⟩ : ∃ q,m0 = q + 1:=⟨m0 - 1,by omega⟩
   obtain ⟨v,hv⟩ : ∃ v,l[i]? = some v:=⟨_,List.getElem?_eq_getElem (by omega)⟩
   obtain ⟨β,o,e1,e2⟩:=R i v hv
   have e2 : rdC (setLow h h.next) ⟨β,o + i * 1,none⟩ 0 = some (.int .i64 v):=e2 0 _ rfl
   obtain ⟨y,hy⟩:=ih m0 (aU .u64 (zU .u64 2 x) (aR .u64 v)) (by omega) (by omega)
   refine ⟨y,rW ?_⟩
   rw [rX,show ((i + 1 : Nat) : Int) - 1 = (i : Int) by omega,yI (by omega)]
   have e3 : fy .i64 (i : Int) 1 = (i : Int) - 1:=by
    unfold fy
    rw [IntKind.wrap_i64]
    omega
   rw [e1] at hy ⊢
   simp only [an,ah,ap,aA,aq,az,cond_true,cond_false,aM (Int.natCast_nonneg i) (show (i : Int) < m by omega),Int.toNat_natCast,ak,e2,e3]
   exact hy
 obtain ⟨y,hy⟩:=lp m n 0 (Nat.le_refl _) (by omega)
 refine ⟨y,Ic ?_⟩
 have e3 : fy .i64 (m : Int) 1 = (m : Int) - 1:=by
  unfold fy
  rw [IntKind.wrap_i64]
  omega
 rw [NC,dl,e3]
 exact hy
theorem OB (N : Nat) (hN : 110 ≤ N) (h : AH) (H : WF h) (w x : Int) : ∃ y,au Tryz.prog N 41 [.int .i64 w,.int .u64 x] h = some (.int .u64 y,h):=by
 obtain ⟨n,rfl,hn⟩ : ∃ m,N = m + 1 ∧ 109 ≤ m:=⟨N - 1,by omega,by omega⟩
 obtain ⟨a,m,c,g,l,r1,K,R,hl,hm⟩:=bits n (by omega) (setLow h h.next) (H.setLow _) (Nat.le_refl _) w x
 obtain ⟨y,hy⟩:=Mj n (by omega) g K.wf a m c l R hl hm
 refine ⟨y,H8 ?_⟩
 rw [Nw]
 simp only [r1,hy,an,ah,ap,aA,aq,az,cond_true,cond_false,Hn (D3 K)]
theorem I5 : bO 0 3 = true:=rfl
theorem I6 : bO 1 3 = true:=rfl
theorem I8 : bO 2 3 = true:=rfl
section
variable {h g : AH} (W : Wk h g) {s : ByteArray} {b : Option Addr} {bn bc : Nat} {c : Option Addr} {cn cc : Nat} {d : Option Addr} {dn dc : Nat} {e : Option Addr} {en ec : Nat} {f : Option Addr} {fn fc : Nat}
 {op dest : Int} {ia : Option Addr} {m ic : Nat} {num mem : Int} {β : Nat} {x0 x1 x2 : Int}
 (Of : cz g h.next [.string s,.slice b bn bc,.slice c cn cc,.slice d dn dc,.slice e en ec,.slice f fn fc]) (Oi : cz g (h.next + 1) [.int .i64 op,.int .i64 dest,.slice ia m ic,.int .u64 num,.int .i64 mem]) (Oa : cz g β [.int .i64 x0,.int .i64 x1,.int .i64 x2])
 (n : Nat) (hn : 200 ≤ n) (w : Int)
 include W Oi Oa hn
theorem Mk : Bx h (AD n h ⟨h.next + 1,0,none⟩ w (some ⟨β,0,none⟩) 3 3 g):=by
 refine Bx.imp AF ?_
 rw [AR]
 simp only [Oi.rd,Oa.rd,Nat.zero_add,Nat.add_zero,List.getElem?_cons_zero,List.getElem?_cons_succ,ak,Nat.reduceAdd,La n (by omega) g,an,ah,ap,aA,aq,az,cond_true,cond_false,I5,I6,I8,dx W]
 repeat' first | exact Bx.leaf | (refine Bx.cnd (fun _ => ?_) (fun _ => ?_))
theorem Ml (k : Int) (t : Bool) : Bx h (ww n h ⟨h.next + 1,0,none⟩ w (some ⟨β,0,none⟩) 3 3 k op t g):=by
 have h9:=Mk W Oi Oa n hn w
 refine Bx.imp AC ?_
 rw [AQ]
 simp only [Oi.rd,Oa.rd,Nat.zero_add,Nat.add_zero,List.getElem?_cons_zero,List.getElem?_cons_succ,ak,Nat.reduceAdd,an,ah,ap,aA,aq,az,cond_true,cond_false,I5,I6,I8,dx W]
 repeat' first | exact Bx.leaf | exact h9 | (refine Bx.cnd (fun _ => ?_) (fun _ => ?_))
theorem Lb (k : Int) : Bx h (r9 n h ⟨h.next + 1,0,none⟩ w (some ⟨β,0,none⟩) 3 3 k g):=by
 have h8:=fun t => Ml W Oi Oa n hn w k t
 obtain ⟨y,hy⟩:=OB n (by omega) (setLow g g.next) (W.wf.setLow _) w num
 refine Bx.imp Az ?_
 rw [AP]
 simp only [Oi.rd,Oa.rd,Nat.zero_add,Nat.add_zero,List.getElem?_cons_zero,List.getElem?_cons_succ,ak,Nat.reduceAdd,an,ah,ap,aA,aq,az,cond_true,cond_false,I5,I6,I8,dx W,hy,aI,aJ,aG,Nat.beq_refl]
 repeat' first | exact Bx.leaf | exact h8 _ | (refine Bx.cnd (fun _ => ?_) (fun _ => ?_))
 include Of
theorem Mm (t : Bool) (R : RS g d dn) (k : Int) : Bx h (Av n h ⟨h.next,0,none⟩ ⟨h.next + 1,0,none⟩ t w (some ⟨β,0,none⟩) 3 3 k g):=by
 have h7:=fun k => Lb W Oi Oa n hn w k
 refine Bx.imp Ax ?_
 rw [AN]
 simp only [Of.rd,Oi.rd,Oa.rd,Nat.zero_add,Nat.add_zero,List.getElem?_cons_zero,List.getElem?_cons_succ,ak,Nat.reduceAdd,an,ah,ap,aA,aq,az,cond_true,cond_false,dx W]
 refine Bx.cnd (fun _ => ?_) (fun _ => h7 _)
 refine Bx.cnd (fun _ => Bx.leaf) (fun e1 => ?_)
 refine Bx.cnd (fun _ => Bx.leaf) (fun e2 => ?_)
 have e1:=ef e1
 have e2:=fM e2
 rw [dl] at e2
 obtain ⟨s1,w1,b1,_,γ,o,q1,q2⟩:=R mem.toNat (by omega)
 have k1:=q2 1 _ rfl
 have k2:=q2 2 _ rfl
 have eb:=aM (i:=mem) (n:=dn) (by omega) (by omega)
 simp only [eb,q1,az,ak,Nat.add_zero,vj k1,vj k2,an,ah,ap,aA,aq,az,cond_true,cond_false]
 repeat' first | exact Bx.leaf | exact h7 _ | (refine Bx.cnd (fun _ => ?_) (fun _ => ?_))
theorem Mn (R : RA g c cn) : Bx h (wv n h ⟨h.next,0,none⟩ ⟨h.next + 1,0,none⟩ w (some ⟨β,0,none⟩) 3 3 g):=by
 have h7:=fun k => Lb W Oi Oa n hn w k
 refine Bx.imp Au ?_
 rw [AM]
 simp only [Of.rd,Oi.rd,Oa.rd,Nat.zero_add,Nat.add_zero,List.getElem?_cons_zero,List.getElem?_cons_succ,ak,Nat.reduceAdd,an,ah,ap,aA,aq,az,cond_true,cond_false,dx W]
 refine Bx.cnd (fun _ => Bx.leaf) (fun e1 => ?_)
 refine Bx.cnd (fun _ => Bx.leaf) (fun e2 => ?_)
 have e1:=ef e1
 have e2:=fM e2
 rw [dl] at e2
 obtain ⟨s1,w1,l1,k1,f1,_,γ,o,q1,q2⟩:=R mem.toNat (by omega)
 have k1:=q2 1 _ rfl
 have eb:=aM (i:=mem) (n:=cn) (by omega) (by omega)
 simp only [eb,q1,az,ak,Nat.add_zero,vj k1,an,ah,ap,aA,aq,az,cond_true,cond_false]
 exact h7 _
end
section
variable {h : AH} (H : WF h) {s : ByteArray} {b : Option Addr} {bn bc : Nat} {c : Option Addr} {cn cc : Nat} {d : Option Addr} {dn dc : Nat} {e : Option Addr} {en ec : Nat} {f : Option Addr} {fn fc : Nat}
 {op dest : Int} {ia : Option Addr} {m ic : Nat} {num mem : Int} {β : Nat}
 (n : Nat) (hn : 200 ≤ n) (w : Int) {WL IL : List Int} (RW : RI h b WL) (hb : bn = WL.length) (RL : RI h ia IL) (hm : m = IL.length) (hm3 : m ≤ 3) (hin : ∀ x ∈ IL,0 ≤ x ∧ x < bn) (Rc : RA h c cn) (Rd : RS h d dn)
 include H hn RW hb RL hm hm3 hin Rc Rd
theorem Mo (t : Bool) : ∀ (j i m0 : Nat) (g : AH) (x0 x1 x2 : Int),j < m0 → i + j = m → Wk h g → cz g h.next [.string s,.slice b bn bc,.slice c cn cc,.slice d dn dc,.slice e en ec,.slice f fn fc] → cz g (h.next + 1) [.int .i64 op,.int .i64 dest,.slice ia m ic,.int .u64 num,.int .i64 mem] → cz g β [.int .i64 x0,.int .i64 x1,.int .i64 x2] → h.next + 2 ≤ β →
  Bx h (wu n m0 h ⟨h.next,0,none⟩ ⟨h.next + 1,0,none⟩ t w (some ⟨β,0,none⟩) 3 3 i g):=by
 intro j
 induction j with
 | zero =>
  intro i m0 g x0 x1 x2 hj hi W Of Oi Oa hβ
  obtain ⟨m0,rfl⟩ : ∃ q,m0 = q + 1:=⟨m0 - 1,by omega⟩
  have h5:=Mn W Of Oi Oa n hn w (Rc.wk H W)
  have h6:=fun k => Mm W Of Oi Oa n hn w t (Rd.wk H W) k
  refine Bx.imp rZ ?_
  rw [sd]
  simp only [Oi.rd,Nat.zero_add,Nat.add_zero,List.getElem?_cons_zero,List.getElem?_cons_succ,ak,Nat.reduceAdd,an,ah,ap,aA,aq,az,cond_true,cond_false,dl,dE (show ¬ (i : Int) < m by omega)]
  repeat' first | exact h5 | exact h6 _ | (refine Bx.cnd (fun _ => ?_) (fun _ => ?_))
 | succ j ih =>
  intro i m0 g x0 x1 x2 hj hi W Of Oi Oa hβ
  obtain ⟨m0,rfl⟩ : ∃ q,m0 = q + 1:=⟨m0 - 1,by omega⟩
  obtain ⟨x,hx⟩ : ∃ x,IL[i]? = some x:=⟨_,List.getElem?_eq_getElem (by omega)⟩
  obtain ⟨β1,o1,p1,p2⟩:=RL.wk H W i x hx
  have p2:=p2 0 _ rfl
  obtain ⟨hx0,hx1⟩:=hin x (List.mem_of_getElem? hx)
  obtain ⟨y,hy⟩ : ∃ y,WL[x.toNat]? = some y:=⟨_,List.getElem?_eq_getElem (by omega)⟩
  obtain ⟨β2,o2,r1,r2⟩:=RW.wk H W x.toNat y hy
  have r2:=r2 0 _ rfl
  have hi3 : i < 3:=by omega
  obtain ⟨g',k1,k2,k3,k4,k5⟩:=ik (o:=i * 1) (vs:=[.int .i64 y]) W.wf Oa (by rw [W.low]; omega) (by show i * 1 + 1 ≤ 3; omega)
  have W' : Wk h g':=W.fr k2 k4 fun z hz => by rw [List.mem_singleton.1 hz]; omega
  have Of':=Of.fr k2 (by rw [List.mem_singleton]; omega)
  have Oi':=Oi.fr k2 (by rw [List.mem_singleton]; omega)
  obtain ⟨y0,y1,y2,hy3⟩ : ∃ y0 y1 y2 : Int,putAt [.int .i64 x0,.int .i64 x1,.int .i64 x2] (i * 1) [.int .i64 y] = [.int .i64 y0,.int .i64 y1,.int .i64 y2]:=by
   rcases (show i = 0 ∨ i = 1 ∨ i = 2 by omega) with rfl | rfl | rfl
   ·exact ⟨y,x1,x2,rfl⟩
   ·exact ⟨x0,y,x2,rfl⟩
   ·exact ⟨x0,x1,y,rfl⟩
  rw [hy3] at k3
  have hh:=ih (i + 1) m0 g' y0 y1 y2 (by omega) (by omega) W' Of' Oi' k3 hβ
  refine Bx.imp rZ ?_
  rw [sd]
  have eb:=aM (i:=(i : Int)) (n:=m) (by omega) (by omega)
  have eb2:=aM (i:=x) (n:=bn) hx0 hx1
  have eb3:=aM (i:=(i : Int)) (n:=3) (by omega) (by omega)
  simp only [Of.rd,Oi.rd,Nat.zero_add,Nat.add_zero,List.getElem?_cons_zero,List.getElem?_cons_succ,ak,Nat.reduceAdd,an,ah,ap,aA,aq,az,cond_true,cond_false,dl,dt (show (i : Int) < m by omega),p1,eb,Int.toNat_natCast,p2,r1,eb2,r2]
  simp only [an,ah,ap,aA,aq,az,cond_true,cond_false,eb3,ak,k1]
  rw [du (by omega)]
  exact hh
theorem Mq (t : Bool) {g : AH} (W : Wk h g) (Of : cz g h.next [.string s,.slice b bn bc,.slice c cn cc,.slice d dn dc,.slice e en ec,.slice f fn fc]) (Oi : cz g (h.next + 1) [.int .i64 op,.int .i64 dest,.slice ia m ic,.int .u64 num,.int .i64 mem]) (h2 : h.next + 2 ≤ g.next) :
  Bx h (ws n h ⟨h.next,0,none⟩ ⟨h.next + 1,0,none⟩ t w g):=by
 obtain ⟨g',k1,k2,k3,k4,k5⟩:=cS W.wf [.int .i64 0,.int .i64 0,.int .i64 0] 1
 have W' : Wk h g':=W.fr k2 k4 fun z hz => by rw [List.mem_singleton.1 hz]; omega
 have Of':=Of.fr k2 (by rw [List.mem_singleton]; omega)
 have Oi':=Oi.fr k2 (by rw [List.mem_singleton]; omega)
 have h4:=Mo (β:=g.next) H n hn w RW hb RL hm hm3 hin Rc Rd t m 0 n g' 0 0 0 (by omega) (by omega) W' Of' Oi' k3 h2
 refine Bx.imp Aq ?_
 rw [AK,k1]
 exact h4
theorem tP (hd : rs op = true → 0 ≤ dest ∧ dest < bn) : Bx h (au Tryz.prog (n + 1) 20 [.agg #[.string s,.slice b bn bc,.slice c cn cc,.slice d dn dc,.slice e en ec,.slice f fn fc],.agg #[.int .i64 op,.int .i64 dest,.slice ia m ic,.int .u64 num,.int .i64 mem]] h):=by
 have W : Wk h (loc h [[.string s,.slice b bn bc,.slice c cn cc,.slice d dn dc,.slice e en ec,.slice f fn fc],[.int .i64 op,.int .i64 dest,.slice ia m ic,.int .u64 num,.int .i64 mem]]):=dY H _
 have Of:=cP H [[.string s,.slice b bn bc,.slice c cn cc,.slice d dn dc,.slice e en ec,.slice f fn fc],[.int .i64 op,.int .i64 dest,.slice ia m ic,.int .u64 num,.int .i64 mem]] 0 _ rfl
 have Oi:=cP H [[.string s,.slice b bn bc,.slice c cn cc,.slice d dn dc,.slice e en ec,.slice f fn fc],[.int .i64 op,.int .i64 dest,.slice ia m ic,.int .u64 num,.int .i64 mem]] 1 _ rfl
 have h3:=fun t w => Mq H n hn w RW hb RL hm hm3 hin Rc Rd t W Of Oi (Nat.le_refl _)
 generalize hg : loc h [[.string s,.slice b bn bc,.slice c cn cc,.slice d dn dc,.slice e en ec,.slice f fn fc],[.int .i64 op,.int .i64 dest,.slice ia m ic,.int .u64 num,.int .i64 mem]] = g at *
 have Of : cz g h.next [.string s,.slice b bn bc,.slice c cn cc,.slice d dn dc,.slice e en ec,.slice f fn fc]:=Of
 have h2 : ∀ t,Bx h (wq n h ⟨h.next,0,none⟩ ⟨h.next + 1,0,none⟩ t g):=fun t => by
  refine Bx.imp Ao ?_
  rw [AJ]
  simp only [Of.rd,Oi.rd,Nat.zero_add,Nat.add_zero,List.getElem?_cons_zero,List.getElem?_cons_succ,ak,Nat.reduceAdd,an,ah,ap,aA,aq,az,cond_true,cond_false,vh n (by omega) g]
  refine Bx.cnd (fun e1 => ?_) (fun _ => h3 _ _)
  obtain ⟨d0,d1⟩:=hd e1
  obtain ⟨y,hy⟩ : ∃ y,WL[dest.toNat]? = some y:=⟨_,List.getElem?_eq_getElem (by omega)⟩
  obtain ⟨β2,o2,r1,r2⟩:=RW.wk H W dest.toNat y hy
  have r2:=r2 0 _ rfl
  have eb:=aM (i:=dest) (n:=bn) d0 d1
  have h3:=fun t w => h3 t w
  simp only [r1,az,eb,cond_true,ak,r2,an]
  exact h3 _ _
 have h1 : ∀ t,Bx h (wo n h ⟨h.next,0,none⟩ ⟨h.next + 1,0,none⟩ t g):=fun t => by
  refine Bx.imp Am ?_
  rw [AI]
  simp only [Oi.rd,Nat.zero_add,Nat.add_zero,List.getElem?_cons_zero,List.getElem?_cons_succ,ak,Nat.reduceAdd,an,ah,ap,aA,aq,az,cond_true,cond_false,dx W]
  repeat' first | exact Bx.leaf | exact h2 _ | (refine Bx.cnd (fun _ => ?_) (fun _ => ?_))
 have h0 : Bx h (wn n h ⟨h.next,0,none⟩ ⟨h.next + 1,0,none⟩ g):=by
  refine Bx.imp Ak ?_
  rw [AG]
  simp only [Oi.rd,Nat.zero_add,Nat.add_zero,List.getElem?_cons_zero,List.getElem?_cons_succ,ak,Nat.reduceAdd,an,ah,ap,aA,aq,az,cond_true,cond_false]
  repeat' first | exact Bx.leaf | exact h1 _ | (refine Bx.cnd (fun _ => ?_) (fun _ => ?_))
 refine Bx.imp Ie ?_
 rw [NE]
 simp only [bu h,aI,aF,aJ,aX,aG,aT,bB,bM,Nat.beq_refl,ak,List.nil_append,List.cons_append,List.length_cons,List.length_nil,Nat.zero_add,Nat.add_zero,Nat.reduceAdd,an,ah,ap,aA,aq,az,cond_true,cond_false,hg]
 simp only [Oi.rd,Nat.zero_add,Nat.add_zero,List.getElem?_cons_zero,List.getElem?_cons_succ,ak,Nat.reduceAdd,an,ah,ap,aA,aq,az,cond_true,cond_false,dx W]
 repeat' first | exact Bx.leaf | exact h0 | (refine Bx.cnd (fun _ => ?_) (fun _ => ?_))
end
section
variable {h : AH} (H : WF h) {s : ByteArray} {b : Option Addr} {bn bc : Nat} {c : Option Addr} {cn cc : Nat} {d : Option Addr} {dn dc : Nat} {e : Option Addr} {en ec : Nat} {f : Option Addr} {fn fc : Nat}
 (n : Nat) (hn : 302 ≤ n) {WL : List Int} {LB : List bh} (RW : RI h b WL) (hb : bn = WL.length) (RK : RB h f LB) (hf : fn = LB.length) {k : Option Addr} {kc : Nat} (T : RT h k bn)
 include H hn RW hb RK hf T
theorem edge (kb : Int) {ua : Option Addr} {un uc : Nat} {UL : List Int} (RU : RI h ua UL) (hu : un = UL.length) (hu1 : UL.length < 100) : Bx h (au Tryz.prog (n + 1) 43 [.agg #[.string s,.slice b bn bc,.slice c cn cc,.slice d dn dc,.slice e en ec,.slice f fn fc],.agg #[.int .i64 kb,.slice ua un uc],.slice k bn kc] h):=by
 have W : Wk h (loc h [[.string s,.slice b bn bc,.slice c cn cc,.slice d dn dc,.slice e en ec,.slice f fn fc],[.int .i64 kb,.slice ua un uc]]):=dY H _
 have Of:=cP H [[.string s,.slice b bn bc,.slice c cn cc,.slice d dn dc,.slice e en ec,.slice f fn fc],[.int .i64 kb,.slice ua un uc]] 0 _ rfl
 have Oe:=cP H [[.string s,.slice b bn bc,.slice c cn cc,.slice d dn dc,.slice e en ec,.slice f fn fc],[.int .i64 kb,.slice ua un uc]] 1 _ rfl
 generalize hg : loc h [[.string s,.slice b bn bc,.slice c cn cc,.slice d dn dc,.slice e en ec,.slice f fn fc],[.int .i64 kb,.slice ua un uc]] = g at *
 have Of : cz g h.next [.string s,.slice b bn bc,.slice c cn cc,.slice d dn dc,.slice e en ec,.slice f fn fc]:=Of
 obtain ⟨r,r1,r2⟩:=FY s b bn bc c cn cc d dn dc e en ec f fn fc n (by omega) g W.wf ua un uc UL hu (RU.wk H W) hu1 k kc (T.wk H W)
 have h1 : r = true → ∀ (pa : Option Addr) (pn pc : Nat) (PL : List Int),RI g pa PL → pn = PL.length → pn = un → ∀ (j i m0 : Nat),j < m0 → i + j = pn → Bx h (wz n m0 h ⟨h.next,0,none⟩ ⟨h.next + 1,0,none⟩ pa pn pc i g):=by
  intro hr pa pn pc PL RP hp hpu j
  induction j with
  | zero =>
   intro i m0 hj hi
   obtain ⟨m0,rfl⟩ : ∃ q,m0 = q + 1:=⟨m0 - 1,by omega⟩
   refine Bx.imp sq ?_
   rw [sr]
   simp only [dl,dE (show ¬ (i : Int) < pn by omega),cond_false,dx W]
   exact Bx.leaf
  | succ j ih =>
   intro i m0 hj hi
   obtain ⟨m0,rfl⟩ : ∃ q,m0 = q + 1:=⟨m0 - 1,by omega⟩
   obtain ⟨x,hx⟩ : ∃ x,PL[i]? = some x:=⟨_,List.getElem?_eq_getElem (by omega)⟩
   obtain ⟨β1,o1,p1,p2⟩:=RP i x hx
   have p2:=p2 0 _ rfl
   obtain ⟨y,hy⟩ : ∃ y,UL[i]? = some y:=⟨_,List.getElem?_eq_getElem (by omega)⟩
   obtain ⟨β2,o2,q1,q2⟩:=RU.wk H W i y hy
   have q2:=q2 0 _ rfl
   obtain ⟨y0,y1⟩:=r2 hr y (List.mem_of_getElem? hy)
   obtain ⟨v,hv⟩ : ∃ v,WL[y.toNat]? = some v:=⟨_,List.getElem?_eq_getElem (by omega)⟩
   obtain ⟨β3,o3,s1,s2⟩:=RW.wk H W y.toNat v hv
   have s2:=s2 0 _ rfl
   have hh:=ih (i + 1) m0 (by omega) (by omega)
   refine Bx.imp sq ?_
   rw [sr]
   have eb:=aM (i:=(i : Int)) (n:=pn) (by omega) (by omega)
   have eb1:=aM (i:=(i : Int)) (n:=un) (by omega) (by omega)
   have eb2:=aM (i:=y) (n:=bn) y0 y1
   simp only [Of.rd,Oe.rd,Nat.zero_add,Nat.add_zero,List.getElem?_cons_zero,List.getElem?_cons_succ,ak,Nat.reduceAdd,an,ah,ap,aA,aq,az,cond_true,cond_false,dl,dt (show (i : Int) < pn by omega),p1,eb,Int.toNat_natCast,p2,ql n (by omega) (setLow g g.next) (W.wf.setLow _),aI,aJ,aG,Nat.beq_refl,dx W]
   refine Bx.cnd (fun _ => Bx.leaf) (fun e1 => ?_)
   have e1 : (bV 0 x && cj x bn) = true:=by simpa using e1
   rw [Bool.and_eq_true] at e1
   have x0:=ke e1.1
   have x1:=lC e1.2
   obtain ⟨u,hu2⟩ : ∃ u,WL[x.toNat]? = some u:=⟨_,List.getElem?_eq_getElem (by omega)⟩
   obtain ⟨β4,o4,t1,t2⟩:=RW.wk H W x.toNat u hu2
   have t2:=t2 0 _ rfl
   have eb3:=aM (i:=x) (n:=bn) x0 x1
   simp only [p2,t1,az,eb3,cond_true,ak,t2,an,q1,eb1,Int.toNat_natCast,q2]
   rw [s1] at t1
   injection t1 with t1
   injection t1 with t3 t4
   subst t3
   subst t4
   simp only [eb2,cond_true,s2,an,az]
   refine Bx.cnd (fun _ => Bx.leaf) (fun _ => ?_)
   rw [du (by omega),← p1]
   exact hh
 refine Bx.imp Ih ?_
 rw [NG]
 simp only [bu h,aI,aF,aJ,aX,aG,aT,bB,bM,Nat.beq_refl,ak,List.nil_append,List.cons_append,List.length_cons,List.length_nil,Nat.zero_add,Nat.add_zero,Nat.reduceAdd,an,ah,ap,aA,aq,az,cond_true,cond_false,hg]
 simp only [Of.rd,Oe.rd,Nat.zero_add,Nat.add_zero,List.getElem?_cons_zero,List.getElem?_cons_succ,ak,Nat.reduceAdd,an,ah,ap,aA,aq,az,cond_true,cond_false,dx W,r1]
 refine Bx.cnd (fun _ => Bx.leaf) (fun e1 => ?_)
 refine Bx.cnd (fun _ => Bx.leaf) (fun e2 => ?_)
 refine Bx.cnd (fun _ => Bx.leaf) (fun e3 => ?_)
 have e1:=ef e1
 have e2:=fM e2
 rw [dl] at e2
 have e3 : r = true:=by simpa using e3
 obtain ⟨B,hB⟩ : ∃ B,LB[kb.toNat]? = some B:=⟨_,List.getElem?_eq_getElem (by omega)⟩
 obtain ⟨pa,pc,ia,ic,ta,tc,ra,rc,⟨β,o,A1,A2⟩,RP,_⟩:=RK.wk H W _ _ hB
 have A2:=A2 0 _ rfl
 have eb:=aM (i:=kb) (n:=fn) (by omega) (by omega)
 refine Bx.imp Bb ?_
 rw [Bd]
 simp only [Of.rd,Oe.rd,Nat.zero_add,Nat.add_zero,List.getElem?_cons_zero,List.getElem?_cons_succ,ak,Nat.reduceAdd,an,ah,ap,aA,aq,az,cond_true,cond_false,dx W,A1,eb,A2]
 refine Bx.cnd (fun _ => Bx.leaf) (fun e4 => ?_)
 have e4:=ph e4
 rw [dl,dl] at e4
 exact h1 e3 pa _ pc B.params RP rfl (by omega) B.params.length 0 n (by omega) (by rw [Nat.zero_add])
theorem vk {EL : List Int} (RR : RI h e EL) (he : en = EL.length) (kd cd : Int) {ta : Option Addr} {tn tc : Nat} {TL : List fB} (RT' : RE h ta TL) (ht : tn = TL.length) (htn : TL.length < 100) (hta : ∀ x ∈ TL,x.args.length < 100)
  {ra : Option Addr} {rn rc : Nat} {RL : List Int} (RQ : RI h ra RL) (hr : rn = RL.length) (hrn : RL.length < 100) : Bx h (au Tryz.prog (n + 3) 21 [.agg #[.string s,.slice b bn bc,.slice c cn cc,.slice d dn dc,.slice e en ec,.slice f fn fc],.agg #[.int .i64 kd,.int .i64 cd,.slice ta tn tc,.slice ra rn rc],.slice k bn kc] h):=by
 have W : Wk h (loc h [[.string s,.slice b bn bc,.slice c cn cc,.slice d dn dc,.slice e en ec,.slice f fn fc],[.int .i64 kd,.int .i64 cd,.slice ta tn tc,.slice ra rn rc]]):=dY H _
 have Of:=cP H [[.string s,.slice b bn bc,.slice c cn cc,.slice d dn dc,.slice e en ec,.slice f fn fc],[.int .i64 kd,.int .i64 cd,.slice ta tn tc,.slice ra rn rc]] 0 _ rfl
 have Ot:=cP H [[.string s,.slice b bn bc,.slice c cn cc,.slice d dn dc,.slice e en ec,.slice f fn fc],[.int .i64 kd,.int .i64 cd,.slice ta tn tc,.slice ra rn rc]] 1 _ rfl
 generalize hg : loc h [[.string s,.slice b bn bc,.slice c cn cc,.slice d dn dc,.slice e en ec,.slice f fn fc],[.int .i64 kd,.int .i64 cd,.slice ta tn tc,.slice ra rn rc]] = g at *
 have Of : cz g h.next [.string s,.slice b bn bc,.slice c cn cc,.slice d dn dc,.slice e en ec,.slice f fn fc]:=Of
 have h3 : ∀ (g : AH),Wk h g → cz g h.next [.string s,.slice b bn bc,.slice c cn cc,.slice d dn dc,.slice e en ec,.slice f fn fc] → cz g (h.next + 1) [.int .i64 kd,.int .i64 cd,.slice ta tn tc,.slice ra rn rc] → ∀ (j i m0 : Nat),j < m0 → i + j = tn → Bx h (si (n + 2) m0 h k bn kc ⟨h.next,0,none⟩ ⟨h.next + 1,0,none⟩ i g):=by
  intro g W Of Ot j
  induction j with
  | zero =>
   intro i m0 hj hi
   obtain ⟨m0,rfl⟩ : ∃ q,m0 = q + 1:=⟨m0 - 1,by omega⟩
   refine Bx.imp sj ?_
   rw [sm]
   simp only [Ot.rd,Nat.zero_add,Nat.add_zero,List.getElem?_cons_zero,List.getElem?_cons_succ,ak,Nat.reduceAdd,an,ah,ap,aA,aq,az,cond_true,cond_false,dl,dE (show ¬ (i : Int) < tn by omega),dx W]
   exact Bx.leaf
  | succ j ih =>
   intro i m0 hj hi
   obtain ⟨m0,rfl⟩ : ∃ q,m0 = q + 1:=⟨m0 - 1,by omega⟩
   obtain ⟨x,hx⟩ : ∃ x,TL[i]? = some x:=⟨_,List.getElem?_eq_getElem (by omega)⟩
   obtain ⟨aa,ac,⟨β1,o1,p1,p2⟩,RX⟩:=RT'.wk H W i x hx
   have p3:=p2 1 _ rfl
   have p2:=p2 0 _ rfl
   obtain ⟨r,hr⟩:=edge W.wf (n + 1) (by omega) (RW.wk H W) hb (RK.wk H W) hf (T.wk H W) (kc:=kc) (s:=s) (bc:=bc) (c:=c) (cn:=cn) (cc:=cc) (d:=d) (dn:=dn) (dc:=dc) (e:=e) (en:=en) (ec:=ec) (fc:=fc) x.block RX (uc:=ac) rfl (hta x (List.mem_of_getElem? hx))
   have hh:=ih (i + 1) m0 (by omega) (by omega)
   refine Bx.imp sj ?_
   rw [sm]
   have eb:=aM (i:=(i : Int)) (n:=tn) (by omega) (by omega)
   simp only [Of.rd,Ot.rd,Nat.zero_add,Nat.add_zero,List.getElem?_cons_zero,List.getElem?_cons_succ,ak,Nat.reduceAdd,an,ah,ap,aA,aq,az,cond_true,cond_false,dl,dt (show (i : Int) < tn by omega),dx W,p1,eb,Int.toNat_natCast,p2,p3,hr]
   refine Bx.cnd (fun _ => Bx.leaf) (fun _ => ?_)
   rw [du (by omega)]
   exact hh
 have h2 : Bx h (wy (n + 2) h k bn kc ⟨h.next,0,none⟩ ⟨h.next + 1,0,none⟩ g):=by
  obtain ⟨g',k1,k2,k3,k4,k5⟩:=cS W.wf [.int .i64 cd] 1
  have hgn : h.next + 2 ≤ g.next:=by rw [← hg]; exact Nat.le_refl _
  have W' : Wk h g':=W.fr k2 k4 fun z hz => by rw [List.mem_singleton.1 hz]; omega
  have Of':=Of.fr k2 (by rw [List.mem_singleton]; omega)
  have Ot':=Ot.fr k2 (by rw [List.mem_singleton]; omega)
  have RC : RI g' (some ⟨g.next,0,none⟩) [cd]:=fun i x hx => by
   cases i with
   | succ i => cases hx
   | zero =>
    injection hx with hx
    subst hx
    refine ⟨_,_,rfl,fun k y hy => ?_⟩
    cases k with
    | succ k => cases hy
    | zero =>
     injection hy with hy
     subst hy
     rw [k3.rd]
     rfl
  obtain ⟨r,r1,r2⟩:=FY s b bn bc c cn cc d dn dc e en ec f fn fc (n + 2) (by omega) g' W'.wf (some ⟨g.next,0,none⟩) 1 1 [cd] rfl RC (by show 1 < 100; decide) k kc (T.wk H W')
  refine Bx.imp AW ?_
  rw [AZ]
  simp only [Of.rd,Ot.rd,Nat.zero_add,Nat.add_zero,List.getElem?_cons_zero,List.getElem?_cons_succ,ak,Nat.reduceAdd,an,ah,ap,aA,aq,az,cond_true,cond_false,dx W]
  refine Bx.cnd (fun _ => ?_) (fun _ => Bx.cnd (fun _ => Bx.leaf) (fun _ => h3 g W Of Ot tn 0 (n + 2) (by omega) (by rw [Nat.zero_add])))
  simp only [k1,az,r1,ah,dx W']
  refine Bx.cnd (fun _ => Bx.leaf) (fun e1 => ?_)
  have e1 : r = true:=by simpa using e1
  obtain ⟨c0,c1⟩:=r2 e1 cd (List.mem_singleton.2 rfl)
  obtain ⟨v,hv⟩ : ∃ v,WL[cd.toNat]? = some v:=⟨_,List.getElem?_eq_getElem (by omega)⟩
  obtain ⟨β3,o3,s1,s2⟩:=RW.wk H W' cd.toNat v hv
  have s2:=s2 0 _ rfl
  have eb:=aM (i:=cd) (n:=bn) c0 c1
  simp only [Of'.rd,Ot'.rd,Nat.zero_add,Nat.add_zero,List.getElem?_cons_zero,List.getElem?_cons_succ,ak,Nat.reduceAdd,an,ah,ap,aA,aq,az,cond_true,cond_false,s1,eb,s2,dx W']
  exact Bx.cnd (fun _ => Bx.leaf) (fun _ => h3 g' W' Of' Ot' tn 0 (n + 2) (by omega) (by rw [Nat.zero_add]))
 have h0 : ∀ z,Bx h (se (n + 2) h k bn kc ⟨h.next,0,none⟩ ⟨h.next + 1,0,none⟩ z g):=fun z => by
  refine Bx.imp AT ?_
  rw [AY]
  simp only [Ot.rd,Nat.zero_add,Nat.add_zero,List.getElem?_cons_zero,List.getElem?_cons_succ,ak,Nat.reduceAdd,an,ah,ap,aA,aq,az,cond_true,cond_false,dx W]
  repeat' first | exact Bx.leaf | exact h2 | (refine Bx.cnd (fun _ => ?_) (fun _ => ?_))
 obtain ⟨r,r1,r2⟩:=FY s b bn bc c cn cc d dn dc e en ec f fn fc (n + 2) (by omega) g W.wf ra rn rc RL hr (RQ.wk H W) hrn k kc (T.wk H W)
 have h1 : r = true → rn = en → ∀ (j i m0 : Nat),j < m0 → i + j = rn → Bx h (wx (n + 2) m0 h k bn kc ⟨h.next,0,none⟩ ⟨h.next + 1,0,none⟩ 0 i g):=by
  intro hrt hre j
  induction j with
  | zero =>
   intro i m0 hj hi
   obtain ⟨m0,rfl⟩ : ∃ q,m0 = q + 1:=⟨m0 - 1,by omega⟩
   refine Bx.imp sf ?_
   rw [sk]
   simp only [Ot.rd,Nat.zero_add,Nat.add_zero,List.getElem?_cons_zero,List.getElem?_cons_succ,ak,Nat.reduceAdd,an,ah,ap,aA,aq,az,cond_true,cond_false,dl,dE (show ¬ (i : Int) < rn by omega)]
   exact h0 _
  | succ j ih =>
   intro i m0 hj hi
   obtain ⟨m0,rfl⟩ : ∃ q,m0 = q + 1:=⟨m0 - 1,by omega⟩
   obtain ⟨x,hx⟩ : ∃ x,RL[i]? = some x:=⟨_,List.getElem?_eq_getElem (by omega)⟩
   obtain ⟨β1,o1,p1,p2⟩:=RQ.wk H W i x hx
   have p2:=p2 0 _ rfl
   obtain ⟨x0,x1⟩:=r2 hrt x (List.mem_of_getElem? hx)
   obtain ⟨v,hv⟩ : ∃ v,WL[x.toNat]? = some v:=⟨_,List.getElem?_eq_getElem (by omega)⟩
   obtain ⟨β3,o3,s1,s2⟩:=RW.wk H W x.toNat v hv
   have s2:=s2 0 _ rfl
   obtain ⟨u,hu⟩ : ∃ u,EL[i]? = some u:=⟨_,List.getElem?_eq_getElem (by omega)⟩
   obtain ⟨β4,o4,t1,t2⟩:=RR.wk H W i u hu
   have t2:=t2 0 _ rfl
   have hh:=ih (i + 1) m0 (by omega) (by omega)
   refine Bx.imp sf ?_
   rw [sk]
   have eb:=aM (i:=(i : Int)) (n:=rn) (by omega) (by omega)
   have eb1:=aM (i:=(i : Int)) (n:=en) (by omega) (by omega)
   have eb2:=aM (i:=x) (n:=bn) x0 x1
   simp only [Of.rd,Ot.rd,Nat.zero_add,Nat.add_zero,List.getElem?_cons_zero,List.getElem?_cons_succ,ak,Nat.reduceAdd,an,ah,ap,aA,aq,az,cond_true,cond_false,dl,dt (show (i : Int) < rn by omega),dx W,p1,eb,Int.toNat_natCast,p2,s1,eb2,s2,t1,eb1,t2]
   refine Bx.cnd (fun _ => Bx.leaf) (fun _ => ?_)
   rw [du (by omega)]
   exact hh
 refine Bx.imp If ?_
 rw [NF]
 simp only [bu h,aI,aF,aJ,aX,aG,aT,bB,bM,Nat.beq_refl,ak,List.nil_append,List.cons_append,List.length_cons,List.length_nil,Nat.zero_add,Nat.add_zero,Nat.reduceAdd,an,ah,ap,aA,aq,az,cond_true,cond_false,hg]
 simp only [Of.rd,Ot.rd,Nat.zero_add,Nat.add_zero,List.getElem?_cons_zero,List.getElem?_cons_succ,ak,Nat.reduceAdd,an,ah,ap,aA,aq,az,cond_true,cond_false,dx W,r1]
 refine Bx.cnd (fun _ => h0 _) (fun _ => Bx.cnd (fun _ => h0 _) (fun _ => Bx.cnd (fun _ => ?_) (fun _ => Bx.leaf)))
 refine Bx.cnd (fun _ => Bx.leaf) (fun e1 => ?_)
 refine Bx.cnd (fun _ => Bx.leaf) (fun e2 => ?_)
 have e1:=ph e1
 rw [dl,dl] at e1
 have e2 : r = true:=by simpa using e2
 exact h1 e2 (by omega) rn 0 (n + 2) (by omega) (by rw [Nat.zero_add])
end
theorem I9 (N : Nat) (hN : 1 ≤ N) (h : AH) (c : Int) : Bx h (au Tryz.prog N 37 [.int .u8 c] h):=by
 obtain ⟨n,rfl⟩ : ∃ n,N = n + 1:=⟨N - 1,by omega⟩
 refine Bx.imp In ?_
 rw [NJ]
 simp only [bu h,aI,aF,aJ,aX,aG,aT,bB,bM,Nat.beq_refl,ak,List.nil_append,List.cons_append,List.length_cons,List.length_nil,Nat.zero_add,Nat.add_zero,Nat.reduceAdd,aV,bp,aW,bC,bD]
 repeat' first | exact Bx.leaf | (refine Bx.cnd (fun _ => ?_) (fun _ => ?_))
def Ix (h : AH) (k : IntKind) (o : Option (Go.Value × AH)) : Prop:=∃ r,o = some (.int k r,h)
theorem Ix.leaf {h : AH} {k : IntKind} {b : Int} : Ix h k (some (.int k b,h)):=⟨b,rfl⟩
theorem Ix.cnd {h : AH} {k : IntKind} {c : Bool} {A B : Option (Go.Value × AH)} (h1 : c = true → Ix h k A) (h2 : c = false → Ix h k B) : Ix h k (cond c A B):=by
 cases c with
 | true => exact h1 rfl
 | false => exact h2 rfl
theorem Ix.imp {h : AH} {k : IntKind} {A B : Option (Go.Value × AH)} (f : ∀ {r},A = some r → B = some r) (x : Ix h k A) : Ix h k B:=by
 obtain ⟨r,e⟩:=x
 exact ⟨r,f e⟩
theorem Lc (N : Nat) (hN : 1 ≤ N) (h : AH) (c d : Int) : Ix h .i64 (au Tryz.prog N 38 [.int .u8 c,.int .i64 d] h):=by
 obtain ⟨n,rfl⟩ : ∃ n,N = n + 1:=⟨N - 1,by omega⟩
 have h2 : ∀ x,Ix h .i64 (sI n h d x (loc h [])):=fun x => by
  refine Ix.imp BB ?_
  rw [BE]
  simp only [aV,bp,aW,bC,bD]
  repeat' first | exact Ix.leaf | (refine Ix.cnd (fun _ => ?_) (fun _ => ?_))
 have h1 : ∀ x,Ix h .i64 (sH n h c d x (loc h [])):=fun x => by
  refine Ix.imp Bz ?_
  rw [BD]
  repeat' first | exact h2 _ | (refine Ix.cnd (fun _ => ?_) (fun _ => ?_))
 have h0 : ∀ x,Ix h .i64 (sG n h c d x (loc h [])):=fun x => by
  refine Ix.imp Bw ?_
  rw [BC]
  repeat' first | exact h1 _ | (refine Ix.cnd (fun _ => ?_) (fun _ => ?_))
 refine Ix.imp Ip ?_
 rw [NK]
 simp only [bu h,aI,aF,aJ,aX,aG,aT,bB,bM,Nat.beq_refl,ak,List.nil_append,List.cons_append,List.length_cons,List.length_nil,Nat.zero_add,Nat.add_zero,Nat.reduceAdd]
 repeat' first | exact h0 _ | (refine Ix.cnd (fun _ => ?_) (fun _ => ?_))
theorem Ja (s : ByteArray) (i : Nat) (h : i < s.size) : ∃ v,JL s (i : Int) = some v:=by
 unfold JL
 rw [decide_eq_true (Int.natCast_nonneg i),cond_true,Int.toNat_natCast]
 rw [List.getElem?_eq_getElem (by rw [Array.length_toList]; exact h)]
 exact ⟨_,rfl⟩
theorem nN (N : Nat) (h : AH) (H : WF h) (s : ByteArray) (hs : s.size + 2 < N) (hm : s.size < 9223372036854775807) : Bx h (au Tryz.prog N 13 [.string s] h):=by
 obtain ⟨n,rfl⟩ : ∃ n,N = n + 1:=⟨N - 1,by omega⟩
 have W:=Wk.start H
 have lp : ∀ (j i m0 : Nat),j < m0 → i + j = s.size → Bx h (sD n m0 h s i (setLow h h.next)):=by
  intro j
  induction j with
  | zero =>
   intro i m0 hj hi
   obtain ⟨m0,rfl⟩ : ∃ q,m0 = q + 1:=⟨m0 - 1,by omega⟩
   refine Bx.imp sE ?_
   rw [sF]
   simp only [dl,dE (show ¬ (i : Int) < s.size by omega),cond_false,dx W]
   repeat' first | exact Bx.leaf | (refine Bx.cnd (fun _ => ?_) (fun _ => ?_))
  | succ j ih =>
   intro i m0 hj hi
   obtain ⟨m0,rfl⟩ : ∃ q,m0 = q + 1:=⟨m0 - 1,by omega⟩
   obtain ⟨v,hv⟩:=Ja s i (by omega)
   obtain ⟨r,hr⟩:=I9 n (by omega) (setLow h h.next) v
   obtain ⟨k,hk⟩:=Lc n (by omega) (setLow h h.next) v 10
   have hh:=ih (i + 1) m0 (by omega) (by omega)
   refine Bx.imp sE ?_
   rw [sF]
   simp only [dl,dt (show (i : Int) < s.size by omega),an,ah,ap,aA,aq,az,cond_true,cond_false,hv,hr,hk,dx W,du (show i < 9223372036854775807 by omega)]
   repeat' first | exact Bx.leaf | exact hh | (refine Bx.cnd (fun _ => ?_) (fun _ => ?_))
 refine Bx.imp Im ?_
 rw [NI]
 exact lp s.size 0 n (by omega) (by rw [Nat.zero_add])
theorem Mr (N : Nat) (h : AH) (H : WF h) (a : Option Addr) (m c : Nat) (L : List Int) (R : RI h a L) (hm : m = L.length) (hN : m + 2 < N) (hx : m < 9223372036854775807) (k : Int) : Bx h (au Tryz.prog N 15 [.slice a m c,.int .i64 k] h):=by
 obtain ⟨n,rfl⟩ : ∃ n,N = n + 1:=⟨N - 1,by omega⟩
 have W:=Wk.start H
 have lp : ∀ (j i m0 : Nat),j < m0 → i + j = m → Bx h (wi n m0 h a m c k i (setLow h h.next)):=by
  intro j
  induction j with
  | zero =>
   intro i m0 hj hi
   obtain ⟨m0,rfl⟩ : ∃ q,m0 = q + 1:=⟨m0 - 1,by omega⟩
   refine Bx.imp rU ?_
   rw [rV]
   simp only [dl,dE (show ¬ (i : Int) < m by omega),cond_false,dx W]
   exact Bx.leaf
  | succ j ih =>
   intro i m0 hj hi
   obtain ⟨m0,rfl⟩ : ∃ q,m0 = q + 1:=⟨m0 - 1,by omega⟩
   obtain ⟨x,hx⟩ : ∃ x,L[i]? = some x:=⟨_,List.getElem?_eq_getElem (by omega)⟩
   obtain ⟨β1,o1,p1,p2⟩:=R.wk H W i x hx
   have p2:=p2 0 _ rfl
   have hh:=ih (i + 1) m0 (by omega) (by omega)
   refine Bx.imp rU ?_
   rw [rV]
   have eb:=aM (i:=(i : Int)) (n:=m) (by omega) (by omega)
   rw [p1] at hh ⊢
   simp only [dl,dt (show (i : Int) < m by omega),an,ah,ap,aA,aq,az,cond_true,cond_false,eb,Int.toNat_natCast,ak,p2,right n (by omega),dx W,du (show i < 9223372036854775807 by omega)]
   exact Bx.cnd (fun _ => Bx.leaf) (fun _ => hh)
 refine Bx.imp Ib ?_
 rw [NB]
 exact lp m 0 n (by omega) (by rw [Nat.zero_add])
theorem Jb {g : AH} (H : WF g) {a : Option Addr} {n c z G : Nat} {cs : List Value} (R : il g a n c z G cs) (hl : g.low ≤ G) {o : Nat} {vs : List Value} (hf : o + vs.length ≤ cs.length) (hv : vs ≠ []) :
  ∃ β g',a = some ⟨β,0,none⟩ ∧ di g ⟨β,o,none⟩ vs = some g' ∧ il g' a n c z G (putAt cs o vs) ∧ Ch g g' [β,G] ∧ g'.low = g.low ∧ g'.next = g.next ∧ G ≤ β ∧ β < g.next:=by
 rcases R with ⟨_,_,_,e⟩ | ⟨β,e,r1,r2,r3,r4,r5,r6⟩
 ·subst e
  cases vs with
  | nil => exact absurd rfl hv
  | cons v vs => simp at hf
 ·have hr : g.rd β = some ⟨cs,z,G,false⟩:=dp r5 r6
  have hlow : Nat.blt G g.low = false:=by
   cases e : Nat.blt G g.low with
   | false => rfl
   | true =>
    have:=Nat.le_of_ble_eq_true e
    omega
  obtain ⟨g',hw⟩ : ∃ g',g.wr β ⟨cs,z,G,false⟩ (putAt cs o vs) = some g':=⟨_,rfl⟩
  obtain ⟨_,q2,q3,q4,q5⟩:=dO hr hw
  have M:=bJ.wr H hr hw
  refine ⟨β,g',e,?_,.inr ⟨β,e,by rw [jK hf,r1],r2,r3,by omega,by rw [q3,if_pos rfl],?_⟩,⟨fun γ hγ => ⟨by rw [q3,if_neg (FA hγ)],q4 γ (M4 hγ)⟩,by omega,M.wf⟩,?_,q2,r3,r4⟩
  ·unfold di
   simp only [hr,Option.bind_some,Nat.ble_eq_true_of_le hf,cond_true]
   exact hw
  ·unfold AH.wr at hw
   injection hw with hw
   subst hw
   show β ∈ (Tr.get (match g.members G with | [_] => g.grps | _ => g.grps.set G [β]) G).getD [G]
   split
   ·rename_i x hx
    exact r6
   ·rw [Tr.get_set,if_pos rfl]
    exact List.mem_singleton.2 rfl
  ·unfold AH.wr at hw
   injection hw with hw
   subst hw
   show cond (Nat.blt G g.low) G g.low = g.low
   rw [hlow]
   rfl
theorem Jc {g g1 : AH} {a : Option Addr} {n c z G : Nat} {cs : List Value} (R : il g a n c z G cs) (F : Ch g g1 [g.next]) (hn : g1.next = g.next + 1) (hG : G ≤ g.next) :
  ∃ G',il g1 a n c z G' cs ∧ G' ≠ g.next ∧ G' ≤ g1.next ∧ G ≤ G':=by
 rcases R with ⟨e1,e2,e3,e4⟩ | ⟨β,e,r1,r2,r3,r4,r5,r6⟩
 ·exact ⟨g1.next,.inl ⟨e1,e2,e3,e4⟩,by omega,Nat.le_refl _,by omega⟩
 ·refine ⟨G,il.fr (.inr ⟨β,e,r1,r2,r3,r4,r5,r6⟩) F (by rw [List.mem_singleton]; omega) (fun β' h => ?_),by omega,by omega,Nat.le_refl _⟩
  rw [e] at h
  injection h with h
  injection h with h
  rw [List.mem_singleton]
  omega
theorem Hp {g : AH} {a : Option Addr} {n c G : Nat} {l : List ByteArray} (R : il g a n c 1 G (l.map .string)) {i : Nat} {x : ByteArray} (hx : l[i]? = some x) : At g a 1 i [.string x]:=by
 rcases R with ⟨_,_,_,e⟩ | ⟨β,e,r1,r2,r3,r4,r5,r6⟩
 ·have:=congrArg List.length e
  rw [List.length_map] at this
  rw [List.eq_nil_of_length_eq_zero this] at hx
  cases hx
 ·refine ⟨β,0,e,fun k y hy => ?_⟩
  have hk : k = 0:=by
   cases k with
   | zero => rfl
   | succ k => cases hy
  subst hk
  injection hy with hy
  subst hy
  have hr : g.rd β = some ⟨l.map .string,1,G,false⟩:=dp r5 r6
  unfold rdC
  simp only [hr,Option.bind_some]
  rw [Nat.add_zero,Nat.zero_add,Nat.mul_one,List.getElem?_map,hx]
  rfl
section
variable {h : AH} (H : WF h) {s : ByteArray} {b : Option Addr} {bn bc : Nat} {c : Option Addr} {cn cc : Nat} {d : Option Addr} {dn dc : Nat} {e : Option Addr} {en ec : Nat} {f : Option Addr} {fn fc : Nat}
 (n : Nat) (hn : 402 ≤ n) (Rc : RA h c cn) (Rd : RS h d dn) (hc : cn ≤ 100) (hd : dn ≤ 100)
 include hn
theorem Ms (g : AH) (W : Wk h g) (Of : cz g h.next [.string s,.slice b bn bc,.slice c cn cc,.slice d dn dc,.slice e en ec,.slice f fn fc]) {a : Option Addr} {nn nc G : Nat} {l : List ByteArray} (R : il g a nn nc 1 G (l.map .string)) (hl : l.length = nn) (hnn : nn ≤ 200) (hs : ∀ x ∈ l,x.size < 100) :
  ∀ (j i m0 : Nat),j < m0 → i + j = nn → Bx h (wM n m0 h ⟨h.next,0,none⟩ a nn nc i g):=by
 intro j
 induction j with
 | zero =>
  intro i m0 hj hi
  obtain ⟨m0,rfl⟩ : ∃ q,m0 = q + 1:=⟨m0 - 1,by omega⟩
  refine Bx.imp sw ?_
  rw [sB]
  simp only [Of.rd,Nat.zero_add,Nat.add_zero,List.getElem?_cons_zero,List.getElem?_cons_succ,ak,Nat.reduceAdd,an,ah,ap,aA,aq,az,cond_true,cond_false,dl,dE (show ¬ (i : Int) < nn by omega),dx W]
  repeat' first | exact Bx.leaf | (refine Bx.cnd (fun _ => ?_) (fun _ => ?_))
 | succ j ih =>
  intro i m0 hj hi
  obtain ⟨m0,rfl⟩ : ∃ q,m0 = q + 1:=⟨m0 - 1,by omega⟩
  obtain ⟨x,hx⟩ : ∃ x,l[i]? = some x:=⟨_,List.getElem?_eq_getElem (by omega)⟩
  obtain ⟨β1,o1,p1,p2⟩:=Hp R hx
  have p2:=p2 0 _ rfl
  have hxs:=hs x (List.mem_of_getElem? hx)
  obtain ⟨r,hr⟩:=nN n g W.wf x (by omega) (by omega)
  have hh:=ih (i + 1) m0 (by omega) (by omega)
  have eb:=aM (i:=(i : Int)) (n:=nn) (by omega) (by omega)
  have h6 : ∀ (u k m1 : Nat),u < m1 → k + u = i → Bx h (wO n m1 m0 h ⟨h.next,0,none⟩ a nn nc i k g):=by
   intro u
   induction u with
   | zero =>
    intro k m1 hu hk
    obtain ⟨m1,rfl⟩ : ∃ q,m1 = q + 1:=⟨m1 - 1,by omega⟩
    refine Bx.imp sx ?_
    rw [sC]
    simp only [dE (show ¬ (k : Int) < i by omega),cond_false,du (show i < 9223372036854775807 by omega)]
    exact hh
   | succ u iu =>
    intro k m1 hu hk
    obtain ⟨m1,rfl⟩ : ∃ q,m1 = q + 1:=⟨m1 - 1,by omega⟩
    obtain ⟨y,hy⟩ : ∃ y,l[k]? = some y:=⟨_,List.getElem?_eq_getElem (by omega)⟩
    obtain ⟨β2,o2,q1,q2⟩:=Hp R hy
    have q2:=q2 0 _ rfl
    rw [p1] at q1
    injection q1 with q1
    injection q1 with q3 q4
    subst q3
    subst q4
    have h7:=iu (k + 1) m1 (by omega) (by omega)
    refine Bx.imp sx ?_
    rw [sC]
    have eb1:=aM (i:=(k : Int)) (n:=nn) (by omega) (by omega)
    rw [p1] at h7 ⊢
    simp only [dt (show (k : Int) < i by omega),an,ah,ap,aA,aq,az,cond_true,cond_false,eb,eb1,Int.toNat_natCast,ak,p2,q2,dx W,du (show k < 9223372036854775807 by omega)]
    exact Bx.cnd (fun _ => Bx.leaf) (fun _ => h7)
  have h60:=h6 i 0 n (by omega) (by rw [Nat.zero_add])
  refine Bx.imp sw ?_
  rw [sB]
  rw [p1] at h60 ⊢
  simp only [Nat.zero_add,Nat.add_zero,List.getElem?_cons_zero,List.getElem?_cons_succ,ak,Nat.reduceAdd,an,ah,ap,aA,aq,az,cond_true,cond_false,dl,dt (show (i : Int) < nn by omega),dx W,eb,Int.toNat_natCast,p2,hr]
  exact Bx.cnd (fun _ => Bx.leaf) (fun _ => h60)
 include H Rd hd
theorem Mt : ∀ (j i m0 : Nat) (g : AH) (a : Option Addr) (nn nc G : Nat) (l : List ByteArray),j < m0 → i + j = dn → Wk h g → cz g h.next [.string s,.slice b bn bc,.slice c cn cc,.slice d dn dc,.slice e en ec,.slice f fn fc] → il g a nn nc 1 G (l.map .string) → l.length = nn → nn + j ≤ 200 → (∀ x ∈ l,x.size < 100) → h.next < G → G ≤ g.next →
  Bx h (wK n m0 h ⟨h.next,0,none⟩ a nn nc i g):=by
 intro j
 induction j with
 | zero =>
  intro i m0 g a nn nc G l hj hi W Of R hl hnn hs hG1 hG2
  obtain ⟨m0,rfl⟩ : ∃ q,m0 = q + 1:=⟨m0 - 1,by omega⟩
  have h4:=Ms n hn g W Of R hl (by omega) hs nn 0 n (by omega) (by rw [Nat.zero_add])
  refine Bx.imp sv ?_
  rw [sA]
  simp only [Of.rd,Nat.zero_add,Nat.add_zero,List.getElem?_cons_zero,List.getElem?_cons_succ,ak,Nat.reduceAdd,an,ah,ap,aA,aq,az,cond_true,cond_false,dl,dE (show ¬ (i : Int) < dn by omega)]
  exact h4
 | succ j ih =>
  intro i m0 g a nn nc G l hj hi W Of R hl hnn hs hG1 hG2
  obtain ⟨m0,rfl⟩ : ∃ q,m0 = q + 1:=⟨m0 - 1,by omega⟩
  obtain ⟨x,wd,bo,hxs,β1,o1,p1,p2⟩:=Rd.wk H W i (by omega)
  have p3:=p2 0 _ rfl
  obtain ⟨g1,g2,a',G',k1,k2,k3,k4,k5,k6,k7,k8,k9,_⟩:=(yJ W).app (by_:=16) (Nat.le_refl _) R (show h.next ≤ G by omega) hG2 (vs:=[.string x]) rfl (by omega) (by omega)
  have W2:=D3 k4
  have Of2:=Of.fr k9 (by have:=W.nxt; simp only [List.mem_cons,List.not_mem_nil,or_false]; omega)
  obtain ⟨x2,wd2,bo2,hxs2,β2,o2,q1,q2⟩:=Rd.wk H W2 i (by omega)
  have q3:=q2 1 _ rfl
  have hG' : h.next < G':=by
   by_cases ha : a = none
   ·have:=k8 ha
    have:=W.nxt
    have:=Of.lt W.wf
    omega
   ·rw [k7 ha]
    exact hG1
  have hh:=ih (i + 1) m0 g2 a' (nn + 1) aH G' (l ++ [x]) (by omega) (by omega) W2 Of2 (by rw [List.map_append]; exact k3) (by rw [List.length_append,hl]; rfl) (by omega) (fun y hy => by
   rcases List.mem_append.1 hy with hy | hy
   ·exact hs y hy
   ·rw [List.mem_singleton.1 hy]; exact hxs) hG' k6
  refine Bx.imp sv ?_
  rw [sA]
  have eb:=aM (i:=(i : Int)) (n:=dn) (by omega) (by omega)
  simp only [Of.rd,Nat.zero_add,Nat.add_zero,List.getElem?_cons_zero,List.getElem?_cons_succ,ak,Nat.reduceAdd,an,ah,ap,aA,aq,az,cond_true,cond_false,dl,dt (show (i : Int) < dn by omega),p1,eb,Int.toNat_natCast,vj p3,p3,k1,k2]
  rw [p1] at q1
  injection q1 with q1
  injection q1 with q4 q5
  subst q4
  subst q5
  simp only [Of2.rd,Nat.zero_add,Nat.add_zero,List.getElem?_cons_zero,List.getElem?_cons_succ,ak,Nat.reduceAdd,an,ah,ap,aA,aq,az,cond_true,cond_false,p1,eb,Int.toNat_natCast,vj q3,right n (by omega),dx W2,du (show i < 9223372036854775807 by omega)]
  exact Bx.cnd (fun _ => Bx.leaf) (fun _ => hh)
 include Rc hc
theorem Mu : ∀ (j i m0 : Nat) (g : AH) (a : Option Addr) (nn nc G : Nat) (l : List ByteArray),j < m0 → i + j = cn → Wk h g → cz g h.next [.string s,.slice b bn bc,.slice c cn cc,.slice d dn dc,.slice e en ec,.slice f fn fc] → il g a nn nc 1 G (l.map .string) → l.length = nn → nn + j ≤ 100 → (∀ x ∈ l,x.size < 100) → h.next < G → G ≤ g.next →
  Bx h (o8 n m0 h ⟨h.next,0,none⟩ a nn nc i g):=by
 intro j
 induction j with
 | zero =>
  intro i m0 g a nn nc G l hj hi W Of R hl hnn hs hG1 hG2
  obtain ⟨m0,rfl⟩ : ∃ q,m0 = q + 1:=⟨m0 - 1,by omega⟩
  have h4:=Mt H n hn Rd hd dn 0 n g a nn nc G l (by omega) (by rw [Nat.zero_add]) W Of R hl (by omega) hs hG1 hG2
  refine Bx.imp su ?_
  rw [sy]
  simp only [Of.rd,Nat.zero_add,Nat.add_zero,List.getElem?_cons_zero,List.getElem?_cons_succ,ak,Nat.reduceAdd,an,ah,ap,aA,aq,az,cond_true,cond_false,dl,dE (show ¬ (i : Int) < cn by omega)]
  exact h4
 | succ j ih =>
  intro i m0 g a nn nc G l hj hi W Of R hl hnn hs hG1 hG2
  obtain ⟨m0,rfl⟩ : ∃ q,m0 = q + 1:=⟨m0 - 1,by omega⟩
  obtain ⟨x,v1,v2,v3,v4,hxs,β1,o1,p1,p2⟩:=Rc.wk H W i (by omega)
  have e0:=p2 0 _ rfl
  have e1:=p2 1 _ rfl
  have e2:=p2 2 _ rfl
  have e3:=p2 3 _ rfl
  have e4:=p2 4 _ rfl
  have hF:=Of.lt W.wf
  obtain ⟨g1,k1,F1,O1,l1,n1⟩:=cS W.wf [.string (ByteArray.mk #[]),.int .i64 0,.int .i64 0,.int .i64 0,.int .i64 0] 0
  obtain ⟨g2,k2,F2,O2,l2,n2⟩:=ik (o:=0) (vs:=[.string x,.int .i64 v1,.int .i64 v2,.int .i64 v3,.int .i64 v4]) F1.wf O1 (by rw [l1,W.low]; exact W.nxt) (Nat.le_refl _)
  have O2 : cz g2 g.next [.string x,.int .i64 v1,.int .i64 v2,.int .i64 v3,.int .i64 v4]:=O2
  obtain ⟨G1,R1,a1,a2,a3⟩:=Jc R F1 n1 hG2
  have R2 : il g2 a nn nc 1 G1 (l.map .string):=by
   rcases R1 with R1 | ⟨β,e,r1,r2,r3,r4,r5,r6⟩
   ·exact .inl R1
   ·have hβ : β ≠ g.next:=fun h => by
     subst h
     rcases R with ⟨q,_⟩ | ⟨β',q,_,_,_,r7,_⟩
     ·rw [q] at e
      cases e
     ·rw [q] at e
      injection e with e
      injection e with e
      omega
    refine il.fr (.inr ⟨β,e,r1,r2,r3,r4,r5,r6⟩) F2 (by rw [List.mem_singleton]; omega) (fun β' h => ?_)
    rw [e] at h
    injection h with h
    injection h with h
    rw [List.mem_singleton]
    omega
  have W1 : Wk h g1:=W.fr F1 l1 fun z hz => by rw [List.mem_singleton.1 hz]; exact W.nxt
  have W2 : Wk h g2:=W1.fr F2 l2 fun z hz => by rw [List.mem_singleton.1 hz]; exact W.nxt
  have Of2:=(Of.fr F1 (by rw [List.mem_singleton]; omega)).fr F2 (by rw [List.mem_singleton]; omega)
  obtain ⟨g3,g4,a',G',k3,k4,k5,k6,k7,k8,k9,k10,k11,_⟩:=(yJ W2).app (by_:=16) (Nat.le_refl _) R2 (show h.next ≤ G1 by omega) (by omega) (vs:=[.string x]) rfl (by omega) (by omega)
  have W4:=D3 k6
  have Of4:=Of2.fr k11 (by simp only [List.mem_cons,List.not_mem_nil,or_false]; omega)
  have OA:=O2.fr k11 (by simp only [List.mem_cons,List.not_mem_nil,or_false]; omega)
  have hG' : h.next < G':=by
   by_cases ha : a = none
   ·have:=k10 ha
    omega
   ·rw [k9 ha]
    omega
  have hh:=ih (i + 1) m0 g4 a' (nn + 1) aH G' (l ++ [x]) (by omega) (by omega) W4 Of4 (by rw [List.map_append]; exact k5) (by rw [List.length_append,hl]; rfl) (by omega) (fun y hy => by
   rcases List.mem_append.1 hy with hy | hy
   ·exact hs y hy
   ·rw [List.mem_singleton.1 hy]; exact hxs) hG' k8
  have hi1 : aU .i64 (i : Int) 1 = ((i + 1 : Nat) : Int):=du (by omega)
  have h5 : ∀ t,Bx h (wN n m0 h ⟨h.next,0,none⟩ a' (nn + 1) aH i ⟨g.next,0,none⟩ t g4):=fun t => by
   refine Bx.imp Bo ?_
   rw [Bs]
   simp only [OA.rd,Nat.zero_add,Nat.add_zero,List.getElem?_cons_zero,List.getElem?_cons_succ,ak,Nat.reduceAdd,an,ah,ap,aA,aq,az,cond_true,cond_false,dx W4,hi1]
   repeat' first | exact Bx.leaf | exact hh | (refine Bx.cnd (fun _ => ?_) (fun _ => ?_))
  have h3 : ∀ u t,Bx h (wL n m0 h ⟨h.next,0,none⟩ a' (nn + 1) aH i ⟨g.next,0,none⟩ u t g4):=fun u t => by
   refine Bx.imp Bl ?_
   rw [Br]
   simp only [OA.rd,Nat.zero_add,Nat.add_zero,List.getElem?_cons_zero,List.getElem?_cons_succ,ak,Nat.reduceAdd,an,ah,ap,aA,aq,az,cond_true,cond_false,dx W4,hi1]
   repeat' first | exact Bx.leaf | exact hh | exact h5 _ | (refine Bx.cnd (fun _ => ?_) (fun _ => ?_))
  have h1 : Bx h (Bg n m0 h ⟨h.next,0,none⟩ a' (nn + 1) aH i ⟨g.next,0,none⟩ g4):=by
   refine Bx.imp Bi ?_
   rw [Bq]
   simp only [OA.rd,Nat.zero_add,Nat.add_zero,List.getElem?_cons_zero,List.getElem?_cons_succ,ak,Nat.reduceAdd,an,ah,ap,aA,aq,az,cond_true,cond_false,dx W4]
   repeat' first | exact Bx.leaf | exact h3 _ _ | (refine Bx.cnd (fun _ => ?_) (fun _ => ?_))
  refine Bx.imp su ?_
  rw [sy]
  have eb:=aM (i:=(i : Int)) (n:=cn) (by omega) (by omega)
  simp only [Of.rd,Nat.zero_add,Nat.add_zero,List.getElem?_cons_zero,List.getElem?_cons_succ,ak,Nat.reduceAdd,an,ah,ap,aA,aq,az,cond_true,cond_false,dl,dt (show (i : Int) < cn by omega),p1,eb,Int.toNat_natCast,e0,e1,e2,e3,e4,ap]
  rw [show (aD g [.string (ByteArray.mk (List.toArray [])),.int .i64 0,.int .i64 0,.int .i64 0,.int .i64 0] 0) = some (g.next,g1) from k1]
  simp only [az,k2,O2.rd,Nat.zero_add,Nat.add_zero,List.getElem?_cons_zero,List.getElem?_cons_succ,ak,Nat.reduceAdd,ap,k3,k4,OA.rd,an,ah,ap,aA,aq,az,cond_true,cond_false,right n (by omega),dx W4]
  repeat' first | exact Bx.leaf | exact h1 | (refine Bx.cnd (fun _ => ?_) (fun _ => ?_))
theorem D7 : Bx h (au Tryz.prog (n + 1) 14 [.agg #[.string s,.slice b bn bc,.slice c cn cc,.slice d dn dc,.slice e en ec,.slice f fn fc]] h):=by
 have h0:=Mu H n hn Rc Rd hc hd cn 0 n (loc h [[.string s,.slice b bn bc,.slice c cn cc,.slice d dn dc,.slice e en ec,.slice f fn fc]]) none 0 0 (h.next + 1) [] (by omega) (by rw [Nat.zero_add]) (dY H _) (cP H [[.string s,.slice b bn bc,.slice c cn cc,.slice d dn dc,.slice e en ec,.slice f fn fc]] 0 _ rfl) (il.nil _ _ _) rfl (by omega) (fun x hx => by cases hx) (by omega) (Nat.le_refl _)
 refine Bx.imp Il ?_
 rw [NH]
 simp only [bu h,aI,aF,aJ,aX,aG,aT,bB,bM,Nat.beq_refl,ak,List.nil_append,List.cons_append,List.length_cons,List.length_nil,Nat.zero_add,Nat.add_zero,Nat.reduceAdd,an,ah,ap,aA,aq,az,cond_true,cond_false]
 exact h0
end
def BR (g : AH) (a : Option Addr) (n c G : Nat) : Prop:=∃ l : List Bool,l.length = n ∧ il g a n c 1 G (l.map .bool)
theorem BR.rt {g : AH} {a : Option Addr} {n c G : Nat} (R : BR g a n c G) : RT g a n:=by
 obtain ⟨l,hl,R⟩:=R
 intro i hi
 rcases R with ⟨_,_,_,e⟩ | ⟨β,e,r1,r2,r3,r4,r5,r6⟩
 ·have:=congrArg List.length e
  rw [List.length_map] at this
  simp only [List.length_nil] at this
  omega
 ·obtain ⟨x,hx⟩ : ∃ x,l[i]? = some x:=⟨_,List.getElem?_eq_getElem (by omega)⟩
  refine ⟨x,β,0,e,fun k y hy => ?_⟩
  have hk : k = 0:=by
   cases k with
   | zero => rfl
   | succ k => cases hy
  subst hk
  injection hy with hy
  subst hy
  have hr : g.rd β = some ⟨l.map .bool,1,G,false⟩:=dp r5 r6
  unfold rdC
  simp only [hr,Option.bind_some]
  rw [Nat.add_zero,Nat.zero_add,Nat.mul_one,List.getElem?_map,hx]
  rfl
theorem BR.bnd {g : AH} {a : Option Addr} {n c G : Nat} (R : BR g a n c G) : a = none ∨ (G ≤ rb a ∧ rb a < g.next):=by
 obtain ⟨_,_,R⟩:=R
 rcases R with R | ⟨β,e,r1,r2,r3,r4,r5,r6⟩
 ·exact .inl R.1
 ·rw [e]
  exact .inr ⟨r3,r4⟩
theorem BR.fr {g g' : AH} {a : Option Addr} {n c G : Nat} {L : List Nat} (R : BR g a n c G) (F : Ch g g' L) (h : a = none ∨ ∀ x ∈ L,x < G ∨ rb a < x) : BR g' a n c G:=by
 obtain ⟨l,hl,R⟩:=R
 refine ⟨l,hl,?_⟩
 rcases R with R | ⟨β,e,r1,r2,r3,r4,r5,r6⟩
 ·exact .inl R
 ·have h:=h.resolve_left (by rw [e]; intro h; cases h)
  have hb : rb a = β:=by rw [e]; rfl
  rw [hb] at h
  exact il.fr (.inr ⟨β,e,r1,r2,r3,r4,r5,r6⟩) F (fun hx => by have:=h _ hx; omega) (fun β' h' hx => by
   rw [e] at h'
   injection h' with h'
   injection h' with h'
   have:=h _ hx
   omega)
theorem BR.rd {g : AH} {a : Option Addr} {n c G : Nat} (R : BR g a n c G) {i : Int} (h0 : 0 ≤ i) (h1 : i < n) : ∃ x,∀ {ρ : Type} (K : Bool → Option ρ),(a.bind fun a0 => cond (bO i n) ((gB (rdC g (Addr.add a0 (i.toNat * 1)) 0)).bind K) none) = K x:=by
 obtain ⟨x,β,o,e1,e2⟩:=R.rt i.toNat (by omega)
 have e2:=e2 0 _ rfl
 refine ⟨x,fun K => ?_⟩
 rw [e1,az,aM h0 h1,cond_true,ak,e2,ah,az]
theorem BR.st {g : AH} (H : WF g) {a : Option Addr} {n c G : Nat} (R : BR g a n c G) (hl : g.low ≤ G) {i : Int} (h0 : 0 ≤ i) (h1 : i < n) :
  ∃ g',(∀ {ρ : Type} (K : AH → Option ρ),(a.bind fun a0 => cond (bO i n) ((di g (Addr.add a0 (i.toNat * 1)) [.bool true]).bind K) none) = K g') ∧ BR g' a n c G ∧ Ch g g' [rb a,G] ∧ g'.low = g.low ∧ g'.next = g.next ∧ G ≤ rb a ∧ rb a < g.next:=by
 obtain ⟨l,hl2,R⟩:=R
 obtain ⟨β,g',e,k1,k2,k3,k4,k5,k6,k7⟩:=Jb H R hl (o:=i.toNat * 1) (vs:=[.bool true]) (by rw [List.length_map,List.length_cons,List.length_nil]; omega) (by intro h; cases h)
 have hb : rb a = β:=by rw [e]; rfl
 refine ⟨g',fun K => ?_,⟨l.set i.toNat true,by rw [List.length_set]; exact hl2,?_⟩,by rw [hb]; exact k3,k4,k5,by rw [hb]; exact k6,by rw [hb]; exact k7⟩
 ·rw [e,az,aM h0 h1,cond_true,ak,Nat.zero_add,k1,az]
 ·have : putAt (l.map Go.Value.bool) (i.toNat * 1) [.bool true] = (l.set i.toNat true).map .bool:=by
   rw [Nat.mul_one,List.map_set]
   have hk : i.toNat < (l.map Go.Value.bool).length:=by rw [List.length_map]; omega
   clear k1 k2 R hl2
   generalize i.toNat = k at hk
   generalize l.map Go.Value.bool = m at hk
   induction k generalizing m with
   | zero =>
    cases m with
    | nil => cases hk
    | cons x m => rfl
   | succ k ih =>
    cases m with
    | nil => rfl
    | cons x m =>
     show x :: putAt m k _ = x :: m.set k _
     rw [ih m (Nat.lt_of_succ_lt_succ hk)]
  rw [← this]
  exact k2
theorem BR.app {h g : AH} (W : Wk h g) {a : Option Addr} {n c G : Nat} (R : BR g a n c G) (hG : h.next ≤ G) (hn : n < 1000) :
  ∃ g1 g2 a' G' L,aD g [.bool false] 1 = some (g.next,g1) ∧ dg 1 1 (.slice a n c) (.slice (some ⟨g.next,0,none⟩) 1 1) g1 = some ((a',n + 1,aH),g2) ∧ BR g2 a' (n + 1) aH G' ∧ Ch g g2 L ∧ g2.low = g.low ∧ (∀ x ∈ L,g.next ≤ x ∨ (a ≠ none ∧ x = G)) ∧ (G' = G ∨ g.next ≤ G'):=by
 have hb:=R.bnd
 obtain ⟨l,hl,R⟩:=R
 by_cases ha : a = none
 ·have R0 : il g a n c 1 g.next (l.map .bool):=by
   rcases R with R | ⟨β,e,_⟩
   ·exact .inl R
   ·rw [ha] at e
    cases e
  obtain ⟨g1,g2,a',G',k1,k2,k3,k4,k5,k6,k7,k8,k9,k10,_⟩:=(yJ W).app (by_:=1) (Nat.le_refl _) R0 W.nxt (Nat.le_refl _) (vs:=[.bool false]) rfl (by omega) (by omega)
  refine ⟨g1,g2,a',G',_,k1,k2,⟨l ++ [false],by rw [List.length_append,hl]; rfl,by rw [List.map_append]; exact k3⟩,k9,k4.low.trans W.low.symm,fun x hx => .inl ?_,.inr (k8 ha)⟩
  simp only [List.mem_cons,List.not_mem_nil,or_false] at hx
  omega
 ·have hb:=hb.resolve_left ha
  obtain ⟨g1,g2,a',G',k1,k2,k3,k4,k5,k6,k7,k8,k9,k10,_⟩:=(yJ W).app (by_:=1) (Nat.le_refl _) R hG (by omega) (vs:=[.bool false]) rfl (by omega) (by omega)
  refine ⟨g1,g2,a',G',_,k1,k2,⟨l ++ [false],by rw [List.length_append,hl]; rfl,by rw [List.map_append]; exact k3⟩,k9,k4.low.trans W.low.symm,fun x hx => ?_,.inl (k7 ha)⟩
  simp only [List.mem_cons,List.not_mem_nil,or_false] at hx
  rcases hx with rfl | rfl | rfl
  ·exact .inl (Nat.le_refl _)
  ·exact .inl (Nat.le_succ _)
  ·exact .inr ⟨ha,rfl⟩
section
variable {h : AH} (H : WF h) {s : ByteArray} {b : Option Addr} {bn bc : Nat} {c : Option Addr} {cn cc : Nat} {d : Option Addr} {dn dc : Nat} {e : Option Addr} {en ec : Nat} {f : Option Addr} {fn fc : Nat}
 (n : Nat) (hn : 500 ≤ n) {WL : List Int} {LB : List bh} {EL : List Int} (RW : RI h b WL) (hb : bn = WL.length) (hbn : bn < 400) (RR : RI h e EL) (he : en = EL.length) (RK : RB h f LB) (hf : fn = LB.length) (hfn : fn < 400) (Rc : RA h c cn) (Rd : RS h d dn)
 (hB : ∀ B ∈ LB,B.params.length < 100 ∧ B.insts.length < 100 ∧ B.to.length < 100 ∧ B.rets.length < 100 ∧ (∀ x ∈ B.to,x.args.length < 100) ∧ ∀ x ∈ B.insts,x.args.length < 100)
 {da : Option Addr} {dk GD : Nat}
structure VS (h g : AH) (fc0 : List Go.Value) (da : Option Addr) (bn dk GD : Nat) : Prop where
 w : Wk h g
 o : cz g h.next fc0
 d : BR g da bn dk GD
 l : h.next < GD
theorem VS.fr {h g g' : AH} {fc0 : List Go.Value} {L : List Nat} (V : VS h g fc0 da bn dk GD) (F : Ch g g' L) (hl : g'.low = g.low) (h1 : ∀ x ∈ L,h.next < x) (h2 : da = none ∨ ∀ x ∈ L,x < GD ∨ rb da < x) : VS h g' fc0 da bn dk GD :=
 ⟨V.w.fr F hl fun x hx => Nat.le_of_lt (h1 x hx),V.o.fr F fun hx => absurd (h1 _ hx) (by omega),V.d.fr F h2,V.l⟩
 include H hn RW hb RR he RK hf Rc Rd hB
theorem Mv {B : bh} (hBm : B ∈ LB) {pa pc ia ic ta tc ra rc} (m1 : Nat) (bi : Int) (X : Nat) {ka : Option Addr} {kk GK : Nat}
  (ih : ∀ g,VS h g [.string s,.slice b bn bc,.slice c cn cc,.slice d dn dc,.slice e en ec,.slice f fn fc] da bn dk GD → Bx h (vf n m1 h ⟨h.next,0,none⟩ da bn dk (aU .i64 bi 1) g))
  (RN0 : RN h ia B.insts) (RE0 : RE h ta B.to) (RR0 : RI h ra B.rets) (hX : h.next < X) (hX2 : da = none ∨ rb da < X) (hK : X < GK) :
  ∀ (j i m0 : Nat) (g : AH),j < m0 → i + j = B.insts.length → VS h g [.string s,.slice b bn bc,.slice c cn cc,.slice d dn dc,.slice e en ec,.slice f fn fc] da bn dk GD → cz g X [.slice pa B.params.length pc,.slice ia B.insts.length ic,.int .i64 B.kind,.int .i64 B.cond,.slice ta B.to.length tc,.slice ra B.rets.length rc,.int .i64 B.pipe,.int .i64 B.unr,.int .i64 B.line] →
  BR g ka bn kk GK → Bx h (Be n m0 m1 h ⟨h.next,0,none⟩ da bn dk bi ⟨X,0,none⟩ ka bn kk i g):=by
 obtain ⟨q1,q2,q3,q4,q5,q6⟩:=hB B hBm
 intro j
 induction j with
 | zero =>
  intro i m0 g hj hi V OX K
  obtain ⟨m0,rfl⟩ : ∃ q,m0 = q + 1:=⟨m0 - 1,by omega⟩
  have W:=V.w
  have Of:=V.o
  obtain ⟨r,hr⟩:=vk W.wf (n - 3) (by omega) (RW.wk H W) hb (RK.wk H W) hf K.rt (kc:=kk) (s:=s) (bc:=bc) (c:=c) (cn:=cn) (cc:=cc) (d:=d) (dn:=dn) (dc:=dc) (ec:=ec) (fc:=fc) (RR.wk H W) he B.kind B.cond (RE0.wk H W) rfl q3 q5 (RR0.wk H W) rfl q4 (tc:=tc) (rc:=rc)
  rw [show n - 3 + 3 = n by omega] at hr
  have hh:=ih g V
  refine Bx.imp wE ?_
  rw [wJ]
  simp only [Of.rd,OX.rd,Nat.zero_add,Nat.add_zero,List.getElem?_cons_zero,List.getElem?_cons_succ,ak,Nat.reduceAdd,an,ah,ap,aA,aq,az,cond_true,cond_false,dl,dE (show ¬ (i : Int) < B.insts.length by omega),hr,dx W]
  exact Bx.cnd (fun _ => Bx.leaf) (fun _ => hh)
 | succ j iu =>
  intro i m0 g hj hi V OX K
  obtain ⟨m0,rfl⟩ : ∃ q,m0 = q + 1:=⟨m0 - 1,by omega⟩
  have W:=V.w
  have Of:=V.o
  have hF:=Of.lt W.wf
  have hXg:=OX.lt W.wf
  obtain ⟨x,hx⟩ : ∃ x,B.insts[i]? = some x:=⟨_,List.getElem?_eq_getElem (by omega)⟩
  have hxm:=q6 x (List.mem_of_getElem? hx)
  obtain ⟨aa,ac,A,RX⟩:=RN0 i x hx
  obtain ⟨β1,o1,p1,p2⟩:=A.wk H W
  have e0:=p2 0 _ rfl
  have e1:=p2 1 _ rfl
  have e2:=p2 2 _ rfl
  have e3:=p2 3 _ rfl
  have e4:=p2 4 _ rfl
  obtain ⟨g1,k1,F1,O1,l1,n1⟩:=cS W.wf [.int .i64 0,.int .i64 0,.slice none 0 0,.int .u64 0,.int .i64 0] 0
  obtain ⟨g2,k2,F2,O2,l2,n2⟩:=ik (o:=0) (vs:=[.int .i64 x.op,.int .i64 x.dest,.slice aa x.args.length ac,.int .u64 x.num,.int .i64 x.mem]) F1.wf O1 (by rw [l1,W.low]; exact W.nxt) (Nat.le_refl _)
  have O2 : cz g2 g.next [.int .i64 x.op,.int .i64 x.dest,.slice aa x.args.length ac,.int .u64 x.num,.int .i64 x.mem]:=O2
  have F12:=F1.trans F2
  have hm : ∀ z ∈ [g.next] ++ [g.next],z = g.next:=fun z hz => by simpa using hz
  have V2 : VS h g2 [.string s,.slice b bn bc,.slice c cn cc,.slice d dn dc,.slice e en ec,.slice f fn fc] da bn dk GD:=V.fr F12 (l2.trans l1) (fun z hz => by rw [hm z hz]; exact hF) (V.d.bnd.imp_right fun q z hz => by rw [hm z hz]; exact .inr q.2)
  have OX2:=OX.fr F12 (fun hz => by have:=hm _ hz; omega)
  have K2 : BR g2 ka bn kk GK:=K.fr F12 (K.bnd.imp_right fun q z hz => by rw [hm z hz]; exact .inr q.2)
  have W2:=V2.w
  have Of2:=V2.o
  obtain ⟨r,r1,r2⟩:=FY s b bn bc c cn cc d dn dc e en ec f fn fc n (by omega) g2 W2.wf aa x.args.length ac x.args rfl (RX.wk H W2) hxm ka kk K2.rt
  have h8 : ar x.op = x.args.length → r = true → (rs x.op = true → 0 ≤ x.dest ∧ x.dest < bn) → Bx h (FJ n m0 m1 h ⟨h.next,0,none⟩ da bn dk bi ⟨X,0,none⟩ ka bn kk i ⟨g.next,0,none⟩ g2):=by
   intro ha hr hd
   have:=Hl x.op
   obtain ⟨t,ht⟩:=tP W2.wf (n - 1) (by omega) (s:=s) (bc:=bc) (c:=c) (cc:=cc) (d:=d) (dc:=dc) (e:=e) (en:=en) (ec:=ec) (f:=f) (fn:=fn) (fc:=fc) (ic:=ac) (num:=x.num) (mem:=x.mem) (RW.wk H W2) hb (RX.wk H W2) rfl (by omega) (r2 hr) (Rc.wk H W2) (Rd.wk H W2) hd
   rw [show n - 1 + 1 = n by omega] at ht
   refine Bx.imp FK ?_
   rw [FP]
   simp only [Of2.rd,O2.rd,Nat.zero_add,Nat.add_zero,List.getElem?_cons_zero,List.getElem?_cons_succ,ak,Nat.reduceAdd,an,ah,ap,aA,aq,az,cond_true,cond_false,ht,vh n (by omega) g2,dx W2,du (show i < 9223372036854775807 by omega)]
   refine Bx.cnd (fun _ => Bx.leaf) (fun _ => Bx.cnd (fun e5 => ?_) (fun _ => iu (i + 1) m0 g2 (by omega) (by omega) V2 OX2 K2))
   obtain ⟨d0,d1⟩:=hd e5
   obtain ⟨g3,s1,s2,s3,s4,s5,s6,s7⟩:=V2.d.st W2.wf (by rw [W2.low]; exact Nat.le_of_lt V2.l) d0 d1
   have hda : da ≠ none:=fun e => by
    obtain ⟨_,hl,R⟩:=V2.d
    rcases R with ⟨_,z,_⟩ | ⟨β,z,_⟩
    ·omega
    ·rw [e] at z
     cases z
   have hdX:=hX2.resolve_left hda
   have hm3 : ∀ z ∈ [rb da,GD],z < X ∧ h.next < z:=fun z hz => by
    have:=V2.l
    simp only [List.mem_cons,List.not_mem_nil,or_false] at hz
    rcases hz with rfl | rfl <;> omega
   have K3 : BR g3 ka bn kk GK:=K2.fr s3 (.inr fun z hz => .inl (by have:=hm3 z hz; omega))
   have W3 : Wk h g3:=W2.fr s3 s4 fun z hz => Nat.le_of_lt (hm3 z hz).2
   have Of3:=Of2.fr s3 (fun hz => by have:=hm3 _ hz; omega)
   have OX3:=OX2.fr s3 (fun hz => by have:=hm3 _ hz; omega)
   have O3:=O2.fr s3 (fun hz => by have:=hm3 _ hz; omega)
   obtain ⟨g4,t1,t2,t3,t4,t5,t6,t7⟩:=K3.st W3.wf (by rw [W3.low]; omega) d0 d1
   have hm4 : ∀ z ∈ [rb ka,GK],X < z:=fun z hz => by
    simp only [List.mem_cons,List.not_mem_nil,or_false] at hz
    rcases hz with rfl | rfl <;> omega
   have V4 : VS h g4 [.string s,.slice b bn bc,.slice c cn cc,.slice d dn dc,.slice e en ec,.slice f fn fc] da bn dk GD:=⟨W3.fr t3 t4 fun z hz => by have:=hm4 z hz; omega,Of3.fr t3 (fun hz => by have:=hm4 _ hz; omega),s2.fr t3 (.inr fun z hz => .inr (by have:=hm4 z hz; omega)),V2.l⟩
   have OX4:=OX3.fr t3 (fun hz => by have:=hm4 _ hz; omega)
   rw [s1]
   simp only [O3.rd,Nat.zero_add,Nat.add_zero,List.getElem?_cons_zero,List.getElem?_cons_succ,ak,Nat.reduceAdd,an,ah,ap,aA,aq,az,cond_true,cond_false]
   rw [t1]
   exact iu (i + 1) m0 g4 (by omega) (by omega) V4 OX4 t2
  have h7 : ar x.op = x.args.length → r = true → Bx h (Ik n m0 m1 h ⟨h.next,0,none⟩ da bn dk bi ⟨X,0,none⟩ ka bn kk i ⟨g.next,0,none⟩ g2):=by
   intro ha hr
   refine Bx.imp FI ?_
   rw [FO]
   simp only [Of2.rd,O2.rd,Nat.zero_add,Nat.add_zero,List.getElem?_cons_zero,List.getElem?_cons_succ,ak,Nat.reduceAdd,an,ah,ap,aA,aq,az,cond_true,cond_false,vh n (by omega) g2,ql n (by omega) g2 W2.wf,dx W2]
   refine Bx.cnd (fun e5 => ?_) (fun e5 => Bx.cnd (fun _ => Bx.leaf) (fun _ => h8 ha hr fun h => by rw [e5] at h; cases h))
   refine Bx.cnd (fun _ => Bx.leaf) (fun e6 => ?_)
   have e6 : (bV 0 x.dest && cj x.dest bn) = true:=by simpa using e6
   rw [Bool.and_eq_true] at e6
   obtain ⟨v,hv⟩:=V2.d.rd (ke e6.1) (lC e6.2)
   rw [hv]
   exact Bx.cnd (fun _ => Bx.leaf) (fun _ => h8 ha hr fun _ => ⟨ke e6.1,lC e6.2⟩)
  refine Bx.imp wE ?_
  rw [wJ]
  have eb:=aM (i:=(i : Int)) (n:=B.insts.length) (by omega) (by omega)
  simp only [Of.rd,OX.rd,Nat.zero_add,Nat.add_zero,List.getElem?_cons_zero,List.getElem?_cons_succ,ak,Nat.reduceAdd,an,ah,ap,aA,aq,az,cond_true,cond_false,dl,dt (show (i : Int) < B.insts.length by omega),p1,eb,Int.toNat_natCast,e0,e1,e2,e3,e4,k1,k2,O2.rd,Hm n (by omega),aI,aJ,aG,Nat.beq_refl,Of2.rd,r1,dx W2]
  refine Bx.cnd (fun _ => Bx.leaf) (fun e5 => Bx.cnd (fun _ => Bx.leaf) (fun e6 => h7 (ph e5) (by simpa using e6)))
theorem Mw {B : bh} (hBm : B ∈ LB) {pa pc ia ic ta tc ra rc} (m1 : Nat) (bi : Int) (X : Nat) {ka : Option Addr} {kk GK : Nat}
  (ih : ∀ g,VS h g [.string s,.slice b bn bc,.slice c cn cc,.slice d dn dc,.slice e en ec,.slice f fn fc] da bn dk GD → Bx h (vf n m1 h ⟨h.next,0,none⟩ da bn dk (aU .i64 bi 1) g))
  (RP0 : RI h pa B.params) (RN0 : RN h ia B.insts) (RE0 : RE h ta B.to) (RR0 : RI h ra B.rets) (hX : h.next < X) (hX2 : da = none ∨ rb da < X) (hK : X < GK) :
  ∀ (j i m0 : Nat) (g : AH),j < m0 → i + j = B.params.length → VS h g [.string s,.slice b bn bc,.slice c cn cc,.slice d dn dc,.slice e en ec,.slice f fn fc] da bn dk GD → cz g X [.slice pa B.params.length pc,.slice ia B.insts.length ic,.int .i64 B.kind,.int .i64 B.cond,.slice ta B.to.length tc,.slice ra B.rets.length rc,.int .i64 B.pipe,.int .i64 B.unr,.int .i64 B.line] →
  BR g ka bn kk GK → Bx h (FH n m0 m1 h ⟨h.next,0,none⟩ da bn dk bi ⟨X,0,none⟩ ka bn kk i g):=by
 obtain ⟨q1,q2,q3,q4,q5,q6⟩:=hB B hBm
 intro j
 induction j with
 | zero =>
  intro i m0 g hj hi V OX K
  obtain ⟨m0,rfl⟩ : ∃ q,m0 = q + 1:=⟨m0 - 1,by omega⟩
  have h6:=Mv H n hn RW hb RR he RK hf Rc Rd hB hBm m1 bi X ih RN0 RE0 RR0 hX hX2 hK B.insts.length 0 n g (by omega) (by rw [Nat.zero_add]) V OX K
  refine Bx.imp wD ?_
  rw [wI]
  simp only [OX.rd,Nat.zero_add,Nat.add_zero,List.getElem?_cons_zero,List.getElem?_cons_succ,ak,Nat.reduceAdd,an,ah,ap,aA,aq,az,cond_true,cond_false,dl,dE (show ¬ (i : Int) < B.params.length by omega)]
  exact h6
 | succ j iu =>
  intro i m0 g hj hi V OX K
  obtain ⟨m0,rfl⟩ : ∃ q,m0 = q + 1:=⟨m0 - 1,by omega⟩
  have W:=V.w
  have Of:=V.o
  obtain ⟨x,hx⟩ : ∃ x,B.params[i]? = some x:=⟨_,List.getElem?_eq_getElem (by omega)⟩
  obtain ⟨β1,o1,p1,p2⟩:=RP0.wk H W i x hx
  have p2:=p2 0 _ rfl
  refine Bx.imp wD ?_
  rw [wI]
  have eb:=aM (i:=(i : Int)) (n:=B.params.length) (by omega) (by omega)
  simp only [Of.rd,OX.rd,Nat.zero_add,Nat.add_zero,List.getElem?_cons_zero,List.getElem?_cons_succ,ak,Nat.reduceAdd,an,ah,ap,aA,aq,az,cond_true,cond_false,dl,dt (show (i : Int) < B.params.length by omega),p1,eb,Int.toNat_natCast,p2,ql n (by omega) g W.wf,dx W,du (show i < 9223372036854775807 by omega)]
  refine Bx.cnd (fun _ => Bx.leaf) (fun e6 => ?_)
  have e6 : (bV 0 x && cj x bn) = true:=by simpa using e6
  rw [Bool.and_eq_true] at e6
  have d0:=ke e6.1
  have d1:=lC e6.2
  obtain ⟨v,hv⟩:=V.d.rd d0 d1
  rw [hv]
  refine Bx.cnd (fun _ => Bx.leaf) (fun _ => ?_)
  obtain ⟨g3,s1,s2,s3,s4,s5,s6,s7⟩:=V.d.st W.wf (by rw [W.low]; exact Nat.le_of_lt V.l) d0 d1
  have hda : da ≠ none:=fun e => by
   obtain ⟨_,hl,R⟩:=V.d
   rcases R with ⟨_,z,_⟩ | ⟨β,z,_⟩
   ·omega
   ·rw [e] at z
    cases z
  have hdX:=hX2.resolve_left hda
  have hm3 : ∀ z ∈ [rb da,GD],z < X ∧ h.next < z:=fun z hz => by
   have:=V.l
   simp only [List.mem_cons,List.not_mem_nil,or_false] at hz
   rcases hz with rfl | rfl <;> omega
  have K3 : BR g3 ka bn kk GK:=K.fr s3 (.inr fun z hz => .inl (by have:=hm3 z hz; omega))
  have W3 : Wk h g3:=W.fr s3 s4 fun z hz => Nat.le_of_lt (hm3 z hz).2
  have Of3:=Of.fr s3 (fun hz => by have:=hm3 _ hz; omega)
  have OX3:=OX.fr s3 (fun hz => by have:=hm3 _ hz; omega)
  obtain ⟨g4,t1,t2,t3,t4,t5,t6,t7⟩:=K3.st W3.wf (by rw [W3.low]; omega) d0 d1
  have hm4 : ∀ z ∈ [rb ka,GK],X < z:=fun z hz => by
   simp only [List.mem_cons,List.not_mem_nil,or_false] at hz
   rcases hz with rfl | rfl <;> omega
  have V4 : VS h g4 [.string s,.slice b bn bc,.slice c cn cc,.slice d dn dc,.slice e en ec,.slice f fn fc] da bn dk GD:=⟨W3.fr t3 t4 fun z hz => by have:=hm4 z hz; omega,Of3.fr t3 (fun hz => by have:=hm4 _ hz; omega),s2.fr t3 (.inr fun z hz => .inr (by have:=hm4 z hz; omega)),V.l⟩
  have OX4:=OX3.fr t3 (fun hz => by have:=hm4 _ hz; omega)
  rw [s1,t1]
  exact iu (i + 1) m0 g4 (by omega) (by omega) V4 OX4 t2
 include hbn
theorem Mx {B : bh} (hBm : B ∈ LB) {pa pc ia ic ta tc ra rc} (m1 : Nat) (bi : Int) (X : Nat)
  (ih : ∀ g,VS h g [.string s,.slice b bn bc,.slice c cn cc,.slice d dn dc,.slice e en ec,.slice f fn fc] da bn dk GD → Bx h (vf n m1 h ⟨h.next,0,none⟩ da bn dk (aU .i64 bi 1) g))
  (RP0 : RI h pa B.params) (RN0 : RN h ia B.insts) (RE0 : RE h ta B.to) (RR0 : RI h ra B.rets) (hX : h.next < X) (hX2 : da = none ∨ rb da < X) :
  ∀ (j i m0 : Nat) (g : AH) (ka : Option Addr) (kk GK : Nat),j < m0 → i + j = bn → VS h g [.string s,.slice b bn bc,.slice c cn cc,.slice d dn dc,.slice e en ec,.slice f fn fc] da bn dk GD → cz g X [.slice pa B.params.length pc,.slice ia B.insts.length ic,.int .i64 B.kind,.int .i64 B.cond,.slice ta B.to.length tc,.slice ra B.rets.length rc,.int .i64 B.pipe,.int .i64 B.unr,.int .i64 B.line] →
  BR g ka i kk GK → X < GK → Bx h (FG n m0 m1 h ⟨h.next,0,none⟩ da bn dk bi ⟨X,0,none⟩ ka i kk bn i g):=by
 intro j
 induction j with
 | zero =>
  intro i m0 g ka kk GK hj hi V OX K hK
  obtain ⟨m0,rfl⟩ : ∃ q,m0 = q + 1:=⟨m0 - 1,by omega⟩
  obtain rfl : i = bn:=by omega
  have q1:=(hB B hBm).1
  have h5:=Mw H n hn RW hb RR he RK hf Rc Rd hB hBm m1 bi X ih RP0 RN0 RE0 RR0 hX hX2 hK B.params.length 0 n g (by omega) (by rw [Nat.zero_add]) V OX K
  refine Bx.imp wC ?_
  rw [wH]
  simp only [dE (show ¬ (i : Int) < i by omega),cond_false]
  exact h5
 | succ j iu =>
  intro i m0 g ka kk GK hj hi V OX K hK
  obtain ⟨m0,rfl⟩ : ∃ q,m0 = q + 1:=⟨m0 - 1,by omega⟩
  have hXg:=OX.lt V.w.wf
  obtain ⟨g1,g2,a',G',L,k1,k2,k3,k4,k5,k6,k7⟩:=BR.app V.w K (by omega) (by omega)
  have hL : ∀ x ∈ L,X < x:=fun x hx => by
   rcases k6 x hx with h | ⟨_,h⟩ <;> omega
  have V2 : VS h g2 [.string s,.slice b bn bc,.slice c cn cc,.slice d dn dc,.slice e en ec,.slice f fn fc] da bn dk GD:=V.fr k4 k5 (fun x hx => by have:=hL x hx; omega) (hX2.imp_right fun q x hx => .inr (by have:=hL x hx; omega))
  have OX2:=OX.fr k4 (fun hz => by have:=hL _ hz; omega)
  have hh:=iu (i + 1) m0 g2 a' aH G' (by omega) (by omega) V2 OX2 k3 (by rcases k7 with h | h <;> omega)
  refine Bx.imp wC ?_
  rw [wH]
  simp only [dt (show (i : Int) < bn by omega),an,ah,ap,aA,aq,az,cond_true,cond_false,k1,k2,du (show i < 9223372036854775807 by omega)]
  exact hh
 include hfn
theorem My : ∀ (j i m1 : Nat) (g : AH),j < m1 → i + j = fn → VS h g [.string s,.slice b bn bc,.slice c cn cc,.slice d dn dc,.slice e en ec,.slice f fn fc] da bn dk GD → Bx h (vf n m1 h ⟨h.next,0,none⟩ da bn dk i g):=by
 intro j
 induction j with
 | zero =>
  intro i m0 g hj hi V
  obtain ⟨m0,rfl⟩ : ∃ q,m0 = q + 1:=⟨m0 - 1,by omega⟩
  have W:=V.w
  have Of:=V.o
  refine Bx.imp wB ?_
  rw [wG]
  simp only [Of.rd,Nat.zero_add,Nat.add_zero,List.getElem?_cons_zero,List.getElem?_cons_succ,ak,Nat.reduceAdd,an,ah,ap,aA,aq,az,cond_true,cond_false,dl,dE (show ¬ (i : Int) < fn by omega),dx W]
  exact Bx.leaf
 | succ j iu =>
  intro i m0 g hj hi V
  obtain ⟨m0,rfl⟩ : ∃ q,m0 = q + 1:=⟨m0 - 1,by omega⟩
  have W:=V.w
  have Of:=V.o
  have hF:=Of.lt W.wf
  obtain ⟨B,hx⟩ : ∃ x,LB[i]? = some x:=⟨_,List.getElem?_eq_getElem (by omega)⟩
  have hBm:=List.mem_of_getElem? hx
  obtain ⟨pa,pc,ia,ic,ta,tc,ra,rc,A,RP,RN0,RE0,RR0⟩:=RK i B hx
  obtain ⟨β1,o1,p1,p2⟩:=A.wk H W
  have e0:=p2 0 _ rfl
  have e1:=p2 1 _ rfl
  have e2:=p2 2 _ rfl
  have e3:=p2 3 _ rfl
  have e4:=p2 4 _ rfl
  have e5:=p2 5 _ rfl
  have e6:=p2 6 _ rfl
  have e7:=p2 7 _ rfl
  have e8:=p2 8 _ rfl
  obtain ⟨g1,k1,F1,O1,l1,n1⟩:=cS W.wf [.slice none 0 0,.slice none 0 0,.int .i64 0,.int .i64 0,.slice none 0 0,.slice none 0 0,.int .i64 0,.int .i64 0,.int .i64 0] 0
  obtain ⟨g2,k2,F2,O2,l2,n2⟩:=ik (o:=0) (vs:=[.slice pa B.params.length pc,.slice ia B.insts.length ic,.int .i64 B.kind,.int .i64 B.cond,.slice ta B.to.length tc,.slice ra B.rets.length rc,.int .i64 B.pipe,.int .i64 B.unr,.int .i64 B.line]) F1.wf O1 (by rw [l1,W.low]; exact W.nxt) (Nat.le_refl _)
  have O2 : cz g2 g.next [.slice pa B.params.length pc,.slice ia B.insts.length ic,.int .i64 B.kind,.int .i64 B.cond,.slice ta B.to.length tc,.slice ra B.rets.length rc,.int .i64 B.pipe,.int .i64 B.unr,.int .i64 B.line]:=O2
  have F12:=F1.trans F2
  have hm : ∀ z ∈ [g.next] ++ [g.next],z = g.next:=fun z hz => by simpa using hz
  have V2 : VS h g2 [.string s,.slice b bn bc,.slice c cn cc,.slice d dn dc,.slice e en ec,.slice f fn fc] da bn dk GD:=V.fr F12 (l2.trans l1) (fun z hz => by rw [hm z hz]; exact hF) (V.d.bnd.imp_right fun q z hz => by rw [hm z hz]; exact .inr q.2)
  have W2:=V2.w
  have Of2:=V2.o
  have hi1 : aU .i64 (i : Int) 1 = ((i + 1 : Nat) : Int):=du (by omega)
  have h4:=Mx H n hn RW hb hbn RR he RK hf Rc Rd hB hBm m0 i g.next (fun g' V' => by rw [hi1]; exact iu (i + 1) m0 g' (by omega) (by omega) V') RP RN0 RE0 RR0 hF (V.d.bnd.imp_right fun q => q.2) bn 0 n g2 none 0 (g.next + 1) (by omega) (by rw [Nat.zero_add]) V2 O2 ⟨[],rfl,il.nil _ _ _⟩ (Nat.lt_succ_self _)
  have h3 : Bx h (Ij n m0 h ⟨h.next,0,none⟩ da bn dk i ⟨g.next,0,none⟩ g2):=by
   refine Bx.imp FF ?_
   rw [FM]
   simp only [Of2.rd,Nat.zero_add,Nat.add_zero,List.getElem?_cons_zero,List.getElem?_cons_succ,ak,Nat.reduceAdd,an,ah,ap,aA,aq,az,cond_true,cond_false,dl]
   exact h4
  refine Bx.imp wB ?_
  rw [wG]
  have eb:=aM (i:=(i : Int)) (n:=fn) (by omega) (by omega)
  simp only [Of.rd,Nat.zero_add,Nat.add_zero,List.getElem?_cons_zero,List.getElem?_cons_succ,ak,Nat.reduceAdd,an,ah,ap,aA,aq,az,cond_true,cond_false,dl,dt (show (i : Int) < fn by omega),p1,eb,Int.toNat_natCast,e0,e1,e2,e3,e4,e5,e6,e7,e8,k1,k2,O2.rd,dx W2]
  repeat' first | exact Bx.leaf | exact h3 | (refine Bx.cnd (fun _ => ?_) (fun _ => ?_))
theorem D8 (hc : cn ≤ 100) (hd : dn ≤ 100) (hen : en < 400) (hs : s.size < 100) : Bx h (au Tryz.prog (n + 1) 6 [.agg #[.string s,.slice b bn bc,.slice c cn cc,.slice d dn dc,.slice e en ec,.slice f fn fc]] h):=by
 have W : Wk h (loc h [[.string s,.slice b bn bc,.slice c cn cc,.slice d dn dc,.slice e en ec,.slice f fn fc]]):=dY H _
 have Of:=cP H [[.string s,.slice b bn bc,.slice c cn cc,.slice d dn dc,.slice e en ec,.slice f fn fc]] 0 _ rfl
 have hnx : (loc h [[.string s,.slice b bn bc,.slice c cn cc,.slice d dn dc,.slice e en ec,.slice f fn fc]]).next = h.next + 1:=rfl
 generalize hg : loc h [[.string s,.slice b bn bc,.slice c cn cc,.slice d dn dc,.slice e en ec,.slice f fn fc]] = g at *
 have Of : cz g h.next [.string s,.slice b bn bc,.slice c cn cc,.slice d dn dc,.slice e en ec,.slice f fn fc]:=Of
 have lp : ∀ (j i m0 : Nat) (g : AH) (da : Option Addr) (dk GD : Nat),j < m0 → i + j = bn → Wk h g → cz g h.next [.string s,.slice b bn bc,.slice c cn cc,.slice d dn dc,.slice e en ec,.slice f fn fc] → BR g da i dk GD → h.next < GD → Bx h (FE n m0 h ⟨h.next,0,none⟩ da i dk bn i g):=by
  intro j
  induction j with
  | zero =>
   intro i m0 g da dk GD hj hi W Of K hK
   obtain ⟨m0,rfl⟩ : ∃ q,m0 = q + 1:=⟨m0 - 1,by omega⟩
   obtain rfl : i = bn:=by omega
   have h2:=My H n hn RW hb hbn RR he RK hf hfn Rc Rd hB (da:=da) (dk:=dk) (GD:=GD) (s:=s) (bc:=bc) (cc:=cc) (dc:=dc) (ec:=ec) (fc:=fc) fn 0 n g (by omega) (by rw [Nat.zero_add]) ⟨W,Of,K,hK⟩
   refine Bx.imp wA ?_
   rw [wF]
   simp only [dE (show ¬ (i : Int) < i by omega),cond_false]
   exact h2
  | succ j iu =>
   intro i m0 g da dk GD hj hi W Of K hK
   obtain ⟨m0,rfl⟩ : ∃ q,m0 = q + 1:=⟨m0 - 1,by omega⟩
   have hF:=Of.lt W.wf
   obtain ⟨g1,g2,a',G',L,k1,k2,k3,k4,k5,k6,k7⟩:=BR.app W K (by omega) (by omega)
   have hL : ∀ x ∈ L,h.next < x:=fun x hx => by
    rcases k6 x hx with h | ⟨_,h⟩ <;> omega
   have hh:=iu (i + 1) m0 g2 a' aH G' (by omega) (by omega) (W.fr k4 k5 fun x hx => Nat.le_of_lt (hL x hx)) (Of.fr k4 fun hz => by have:=hL _ hz; omega) k3 (by rcases k7 with h | h <;> omega)
   refine Bx.imp wA ?_
   rw [wF]
   simp only [dt (show (i : Int) < bn by omega),an,ah,ap,aA,aq,az,cond_true,cond_false,k1,k2,du (show i < 9223372036854775807 by omega)]
   exact hh
 have h1:=lp bn 0 n g none 0 (h.next + 1) (by omega) (by rw [Nat.zero_add]) W Of ⟨[],rfl,il.nil _ _ _⟩ (Nat.lt_succ_self _)
 have h0 : Bx h (Ii n h ⟨h.next,0,none⟩ g):=by
  refine Bx.imp FD ?_
  rw [FL]
  simp only [Of.rd,Nat.zero_add,Nat.add_zero,List.getElem?_cons_zero,List.getElem?_cons_succ,ak,Nat.reduceAdd,an,ah,ap,aA,aq,az,cond_true,cond_false,dl]
  exact h1
 obtain ⟨r1,e1⟩:=nN n g W.wf s (by omega) (by omega)
 obtain ⟨r2,e2⟩:=D7 W.wf (n - 1) (by omega) (Rc.wk H W) (Rd.wk H W) hc hd (s:=s) (b:=b) (bn:=bn) (bc:=bc) (cc:=cc) (dc:=dc) (e:=e) (en:=en) (ec:=ec) (f:=f) (fn:=fn) (fc:=fc)
 rw [show n - 1 + 1 = n by omega] at e2
 obtain ⟨r3,e3⟩:=Kb.Mr n g W.wf b bn bc WL (RW.wk H W) hb (by omega) (by omega) 65536
 obtain ⟨r4,e4⟩:=Kb.Mr n g W.wf e en ec EL (RR.wk H W) he (by omega) (by omega) 64
 refine Bx.imp Kl ?_
 rw [t7]
 simp only [bu h,aI,aF,aJ,aX,aG,aT,bB,bM,Nat.beq_refl,ak,List.nil_append,List.cons_append,List.length_cons,List.length_nil,Nat.zero_add,Nat.add_zero,Nat.reduceAdd,an,ah,ap,aA,aq,az,cond_true,cond_false,hg]
 simp only [Of.rd,Nat.zero_add,Nat.add_zero,List.getElem?_cons_zero,List.getElem?_cons_succ,ak,Nat.reduceAdd,an,ah,ap,aA,aq,az,cond_true,cond_false,e1,e2,e3,e4,dx W]
 repeat' first | exact Bx.leaf | exact h0 | (refine Bx.cnd (fun _ => ?_) (fun _ => ?_))
end
end Go.Proofs.YtjdomdndflfjdaaGreatDoor.Kb
