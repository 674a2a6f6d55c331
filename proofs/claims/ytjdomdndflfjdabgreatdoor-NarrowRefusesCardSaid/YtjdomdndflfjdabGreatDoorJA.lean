/- Joined texts: JA. -/
import Derived.Test.YtjdomdndflfjdabGreatDoorTA
import Derived.Test.YtjdomdndflfjdabGreatDoorTB
import Derived.Test.YtjdomdndflfjdabGreatDoorTC
namespace Go.Proofs.YtjdomdndflfjdabGreatDoor.Kb
open Go Go.Proofs Go.Proofs.YtjdomdndflfjdabGreatDoor.X
set_option linter.unusedSimpArgs false
set_option linter.unusedVariables false
theorem aq {α β : Type} (a : α) (f : α → Option β) : (some a).bind f = f a:=Eq.trans (Eq.refl _) (Eq.refl _)
theorem dl (n : Nat) : Int.ofNat n = (n : Int):=rfl
theorem du {a b : Int} (h : a < b) : bZ a b = true:=decide_eq_true h
theorem dF {a b : Int} (h : ¬ a < b) : bZ a b = false:=decide_eq_false h
theorem y6 {a b : Int} (h : a ≤ b) : bS a b = true:=decide_eq_true h
theorem HU {a b : Int} (h : ¬ a ≤ b) : bS a b = false:=decide_eq_false h
theorem lW {a b : Int} (h : bZ a b = true) : a < b:=of_decide_eq_true h
theorem ef {a b : Int} (h : bZ a b = false) : ¬ a < b:=of_decide_eq_false h
theorem kH {a b : Int} (h : bS a b = true) : a ≤ b:=of_decide_eq_true h
theorem fP {a b : Int} (h : bS a b = false) : ¬ a ≤ b:=of_decide_eq_false h
theorem pV {a b : Int} (h : aX a b = true) : a = b:=by
 have : (a == b) = true:=h
 exact eq_of_beq this
theorem DX {a b : Int} (h : aX a b = false) : a ≠ b:=by
 intro e
 subst e
 have : (a == a) = false:=h
 rw [beq_self_eq_true] at this
 cases this
theorem pW {a b : Int} (h : gz a b = false) : a = b:=by
 unfold gz at h
 cases e : (a == b) with
 | true => exact eq_of_beq e
 | false =>
  rw [bne,e] at h
  cases h
theorem aK {i : Int} {n : Nat} (h0 : 0 ≤ i) (h : i < n) : bM i n = true:=Fw h0 (by omega)
theorem dv {i : Nat} (h : i < 9223372036854775807) : aT .i64 (i : Int) 1 = ((i + 1 : Nat) : Int):=by
 unfold aT
 rw [IntKind.wrap_i64]
 omega
structure bF where
 op : Int
 dest : Int
 args : List Int
 num : Int
 mem : Int
structure fE where
 block : Int
 args : List Int
structure ba where
 params : List Int
 insts : List bF
 kind : Int
 cond : Int
 to : List fE
 rets : List Int
 pipe : Int
 unr : Int
 line : Int
def At (h : AH) (a : Option Addr) (z i : Nat) (cs : List Value) : Prop:=∃ β o,a = some ⟨β,o,none⟩ ∧ ∀ k x,cs[k]? = some x → rdC h ⟨β,o + i * z,none⟩ k = some x
theorem At.wk {h g : AH} (H : WF h) (W : Wk h g) {a : Option Addr} {z i : Nat} {cs : List Value} (A : At h a z i cs) : At g a z i cs:=by
 obtain ⟨β,o,h1,h2⟩:=A
 exact ⟨β,o,h1,fun k x hx => W.rdC H (h2 k x hx)⟩
theorem At.kp {h g : AH} (H : WF h) (W : Kp h g) {a : Option Addr} {z i : Nat} {cs : List Value} (A : At h a z i cs) : At g a z i cs:=by
 obtain ⟨β,o,h1,h2⟩:=A
 exact ⟨β,o,h1,fun k x hx => W.rdC H (h2 k x hx)⟩
def RI (h : AH) (a : Option Addr) (l : List Int) : Prop:=∀ i x,l[i]? = some x → At h a 1 i [.int .i64 x]
def RN (h : AH) (a : Option Addr) (l : List bF) : Prop:=∀ i x,l[i]? = some x → ∃ aa ac,At h a 5 i [.int .i64 x.op,.int .i64 x.dest,.slice aa x.args.length ac,.int .u64 x.num,.int .i64 x.mem] ∧ RI h aa x.args
def RE (h : AH) (a : Option Addr) (l : List fE) : Prop:=∀ i x,l[i]? = some x → ∃ aa ac,At h a 2 i [.int .i64 x.block,.slice aa x.args.length ac] ∧ RI h aa x.args
def RB (h : AH) (a : Option Addr) (l : List ba) : Prop:=∀ i x,l[i]? = some x → ∃ pa pc ia ic ta tc ra rc,At h a 9 i [.slice pa x.params.length pc,.slice ia x.insts.length ic,.int .i64 x.kind,.int .i64 x.cond,.slice ta x.to.length tc,.slice ra x.rets.length rc,.int .i64 x.pipe,.int .i64 x.unr,.int .i64 x.line] ∧
 RI h pa x.params ∧ RN h ia x.insts ∧ RE h ta x.to ∧ RI h ra x.rets
def RT (h : AH) (a : Option Addr) (n : Nat) : Prop:=∀ i,i < n → ∃ b,At h a 1 i [.bool b]
def RS (h : AH) (a : Option Addr) (n : Nat) : Prop:=∀ i,i < n → ∃ s w b,s.size < 100 ∧ At h a 3 i [.string s,.int .i64 w,.bool b]
def RA (h : AH) (a : Option Addr) (n : Nat) : Prop:=∀ i,i < n → ∃ s w l k f,s.size < 100 ∧ At h a 5 i [.string s,.int .i64 w,.int .i64 l,.int .i64 k,.int .i64 f]
section
variable {h g : AH} (H : WF h) (W : Wk h g) {a : Option Addr}
 include H W
theorem RI.wk {l : List Int} (R : RI h a l) : RI g a l:=fun i x hx => (R i x hx).wk H W
theorem RN.wk {l : List bF} (R : RN h a l) : RN g a l:=fun i x hx => by
 obtain ⟨aa,ac,h1,h2⟩:=R i x hx
 exact ⟨aa,ac,h1.wk H W,RI.wk H W h2⟩
theorem RE.wk {l : List fE} (R : RE h a l) : RE g a l:=fun i x hx => by
 obtain ⟨aa,ac,h1,h2⟩:=R i x hx
 exact ⟨aa,ac,h1.wk H W,RI.wk H W h2⟩
theorem RB.wk {l : List ba} (R : RB h a l) : RB g a l:=fun i x hx => by
 obtain ⟨pa,pc,ia,ic,ta,tc,ra,rc,h1,h2,h3,h4,h5⟩:=R i x hx
 exact ⟨pa,pc,ia,ic,ta,tc,ra,rc,h1.wk H W,RI.wk H W h2,RN.wk H W h3,RE.wk H W h4,RI.wk H W h5⟩
theorem RT.wk {n : Nat} (R : RT h a n) : RT g a n:=fun i hi => (R i hi).imp fun _ q => q.wk H W
theorem RS.wk {n : Nat} (R : RS h a n) : RS g a n:=fun i hi => by
 obtain ⟨s,w,b,q0,q⟩:=R i hi
 exact ⟨s,w,b,q0,q.wk H W⟩
theorem RA.wk {n : Nat} (R : RA h a n) : RA g a n:=fun i hi => by
 obtain ⟨s,w,l,k,f,q0,q⟩:=R i hi
 exact ⟨s,w,l,k,f,q0,q.wk H W⟩
end
section
variable {h g : AH} (H : WF h) (W : Kp h g) {a : Option Addr}
 include H W
theorem RI.kp {l : List Int} (R : RI h a l) : RI g a l:=fun i x hx => (R i x hx).kp H W
theorem RN.kp {l : List bF} (R : RN h a l) : RN g a l:=fun i x hx => by
 obtain ⟨aa,ac,h1,h2⟩:=R i x hx
 exact ⟨aa,ac,h1.kp H W,RI.kp H W h2⟩
theorem RE.kp {l : List fE} (R : RE h a l) : RE g a l:=fun i x hx => by
 obtain ⟨aa,ac,h1,h2⟩:=R i x hx
 exact ⟨aa,ac,h1.kp H W,RI.kp H W h2⟩
theorem RB.kp {l : List ba} (R : RB h a l) : RB g a l:=fun i x hx => by
 obtain ⟨pa,pc,ia,ic,ta,tc,ra,rc,h1,h2,h3,h4,h5⟩:=R i x hx
 exact ⟨pa,pc,ia,ic,ta,tc,ra,rc,h1.kp H W,RI.kp H W h2,RN.kp H W h3,RE.kp H W h4,RI.kp H W h5⟩
theorem RT.kp {n : Nat} (R : RT h a n) : RT g a n:=fun i hi => (R i hi).imp fun _ q => q.kp H W
theorem RS.kp {n : Nat} (R : RS h a n) : RS g a n:=fun i hi => by
 obtain ⟨s,w,b,q0,q⟩:=R i hi
 exact ⟨s,w,b,q0,q.kp H W⟩
theorem RA.kp {n : Nat} (R : RA h a n) : RA g a n:=fun i hi => by
 obtain ⟨s,w,l,k,f,q0,q⟩:=R i hi
 exact ⟨s,w,l,k,f,q0,q.kp H W⟩
end
theorem RI.rd {h : AH} {a : Option Addr} {l : List Int} (R : RI h a l) {ρ : Type} {K : Int → Option ρ} {n : Nat} (hn : n = l.length) {i : Int} (h0 : 0 ≤ i) (hi : i < n) : ∃ x,l[i.toNat]? = some x ∧ (a.bind fun a0 => cond (bM i n) ((gI .i64 (rdC h (Addr.add a0 (i.toNat * 1)) 0)).bind K) none) = K x:=by
 obtain ⟨x,hx⟩ : ∃ x,l[i.toNat]? = some x:=⟨_,List.getElem?_eq_getElem (by omega)⟩
 obtain ⟨β,o,h1,h2⟩:=R _ x hx
 have h2:=h2 0 _ rfl
 refine ⟨x,hx,?_⟩
 rw [h1,aq,aK h0 hi,cond_true,aj,h2,ak,aq]
theorem RT.rd {h : AH} {a : Option Addr} {n : Nat} (R : RT h a n) {ρ : Type} {K : Bool → Option ρ} {i : Int} (h0 : 0 ≤ i) (hi : i < n) : ∃ x,(a.bind fun a0 => cond (bM i n) ((gB (rdC h (Addr.add a0 (i.toNat * 1)) 0)).bind K) none) = K x:=by
 obtain ⟨x,β,o,h1,h2⟩:=R i.toNat (by omega)
 have h2:=h2 0 _ rfl
 refine ⟨x,?_⟩
 rw [h1,aq,aK h0 hi,cond_true,aj,h2,ae,aq]
theorem rg (N : Nat) (hN : 1 ≤ N) (h : AH) (H : WF h) (s : ByteArray) (b : Option Addr) (bn bc : Nat) (c : Option Addr) (cn cc : Nat) (d : Option Addr) (dn dc : Nat) (e : Option Addr) (en ec : Nat) (f : Option Addr) (fn fc : Nat) (v : Int) :
  az Tryz.prog N 16 [.agg #[.string s,.slice b bn bc,.slice c cn cc,.slice d dn dc,.slice e en ec,.slice f fn fc],.int .i64 v] h = some (.bool (bS 0 v && bZ v bn),h):=by
 obtain ⟨n,rfl⟩ : ∃ n,N = n + 1:=⟨N - 1,by omega⟩
 refine Fx ?_
 simp only [bu h,aH,aD,aI,aW,aE,aS,bA,bJ,Nat.beq_refl,aj,List.nil_append,List.cons_append,List.length_cons,List.length_nil,Nat.zero_add,Nat.add_zero,Nat.reduceAdd,ak,ae,an,au,ap,aq,cond_true,cond_false,Ji H,HK H,lst H,HL H,List.getElem?_cons_zero,List.getElem?_cons_succ,im,vA,List.drop_succ_cons,List.drop_zero,List.drop_nil,List.set_cons_zero,List.set_cons_succ,List.append_nil,sW,EE]
 cases bS 0 v <;> simp only [ak,ae,an,au,ap,aq,cond_true,cond_false,aU,bp,aV,bB,bC,Bool.true_and,Bool.false_and,dl]
theorem HW (N : Nat) (hN : 1 ≤ N) (h : AH) (op : Int) : az Tryz.prog N 46 [.int .i64 op] h = some (.bool (bS 2 op && bS op 20),h):=by
 obtain ⟨n,rfl⟩ : ∃ n,N = n + 1:=⟨N - 1,by omega⟩
 refine FC ?_
 cases bS 2 op <;> simp only [bu h,aH,aD,aI,aW,aE,aS,bA,bJ,Nat.beq_refl,aj,List.nil_append,List.cons_append,List.length_cons,List.length_nil,Nat.zero_add,Nat.add_zero,Nat.reduceAdd,ak,ae,an,au,ap,aq,cond_true,cond_false,aU,bp,aV,bB,bC,Bool.true_and,Bool.false_and]
theorem HX (N : Nat) (hN : 1 ≤ N) (h : AH) (op : Int) : az Tryz.prog N 48 [.int .i64 op] h = some (.bool (bS 15 op && bS op 20),h):=by
 obtain ⟨n,rfl⟩ : ∃ n,N = n + 1:=⟨N - 1,by omega⟩
 refine FE ?_
 cases bS 15 op <;> simp only [bu h,aH,aD,aI,aW,aE,aS,bA,bJ,Nat.beq_refl,aj,List.nil_append,List.cons_append,List.length_cons,List.length_nil,Nat.zero_add,Nat.add_zero,Nat.reduceAdd,ak,ae,an,au,ap,aq,cond_true,cond_false,aU,bp,aV,bB,bC,Bool.true_and,Bool.false_and]
theorem right (N : Nat) (hN : 1 ≤ N) (h : AH) (w : Int) : az Tryz.prog N 45 [.int .i64 w] h = some (.bool (bS 1 w && bS w 64),h):=by
 obtain ⟨n,rfl⟩ : ∃ n,N = n + 1:=⟨N - 1,by omega⟩
 refine FB ?_
 cases bS 1 w <;> simp only [bu h,aH,aD,aI,aW,aE,aS,bA,bJ,Nat.beq_refl,aj,List.nil_append,List.cons_append,List.length_cons,List.length_nil,Nat.zero_add,Nat.add_zero,Nat.reduceAdd,ak,ae,an,au,ap,aq,cond_true,cond_false,aU,bp,aV,bB,bC,Bool.true_and,Bool.false_and]
def ar (op : Int) : Int:=cond (aX op 1) 0 (cond (bS 2 op && bS op 20 || (aX op 25 || aX op 28)) 2 (cond (aX op 21 || aX op 26) 3 (cond (aX op 22 || (aX op 23 || (aX op 24 || aX op 27))) 1 (-1))))
theorem EK (op : Int) : ar op ≤ 3:=by
 unfold ar
 cases aX op 1 <;> cases (bS 2 op && bS op 20 || (aX op 25 || aX op 28)) <;> cases (aX op 21 || aX op 26) <;> cases (aX op 22 || (aX op 23 || (aX op 24 || aX op 27))) <;> decide
theorem EM (N : Nat) (hN : 2 ≤ N) (h : AH) (op : Int) : az Tryz.prog N 17 [.int .i64 op] h = some (.int .i64 (ar op),h):=by
 obtain ⟨n,rfl⟩ : ∃ n,N = n + 1:=⟨N - 1,by omega⟩
 have k1 : ∀ b,wI n h op b (loc h []) = some (.int .i64 (cond b 3 (cond (aX op 22 || (aX op 23 || (aX op 24 || aX op 27))) 1 (-1))),h):=fun b => by
  refine Au ?_
  cases b <;> cases aX op 22 <;> cases aX op 23 <;> cases aX op 24 <;> cases aX op 27 <;> simp only [ak,ae,an,au,ap,aq,cond_true,cond_false,aU,bp,aV,bB,bC,Bool.true_or,Bool.false_or,Bool.or_true,Bool.or_false]
 have k0 : ∀ b,sX n h op b (loc h []) = some (.int .i64 (cond b 2 (cond (aX op 21 || aX op 26) 3 (cond (aX op 22 || (aX op 23 || (aX op 24 || aX op 27))) 1 (-1)))),h):=fun b => by
  refine As ?_
  simp only [k1]
  cases b <;> cases aX op 21 <;> simp only [ak,ae,an,au,ap,aq,cond_true,cond_false,aU,bp,aV,bB,bC,Bool.true_or,Bool.false_or]
 refine Fz ?_
 unfold ar
 simp only [bu h,aH,aD,aI,aW,aE,aS,bA,bJ,Nat.beq_refl,aj,List.nil_append,List.cons_append,List.length_cons,List.length_nil,Nat.zero_add,Nat.add_zero,Nat.reduceAdd,HW n (by omega),k0,ak,ae,an,au,ap,aq,cond_true,cond_false]
 cases aX op 1 <;> cases (bS 2 op && bS op 20) <;> cases aX op 25 <;> simp only [ak,ae,an,au,ap,aq,cond_true,cond_false,aU,bp,aV,bB,bC,Bool.true_or,Bool.false_or]
def rs (op : Int) : Bool:=bS 0 (ar op) && (gz op 26 && gz op 28)
theorem vG (N : Nat) (hN : 3 ≤ N) (h : AH) (op : Int) : az Tryz.prog N 19 [.int .i64 op] h = some (.bool (rs op),h):=by
 obtain ⟨n,rfl⟩ : ∃ n,N = n + 1:=⟨N - 1,by omega⟩
 refine FA ?_
 unfold rs
 simp only [bu h,aH,aD,aI,aW,aE,aS,bA,bJ,Nat.beq_refl,aj,List.nil_append,List.cons_append,List.length_cons,List.length_nil,Nat.zero_add,Nat.add_zero,Nat.reduceAdd,EM n (by omega),ak,ae,an,au,ap,aq,cond_true,cond_false]
 cases bS 0 (ar op) <;> cases gz op 26 <;> simp only [ak,ae,an,au,ap,aq,cond_true,cond_false,aU,bp,aV,bB,bC,Bool.true_and,Bool.false_and]
section
variable (s : ByteArray) (b : Option Addr) (bn bc : Nat) (c : Option Addr) (cn cc : Nat) (d : Option Addr) (dn dc : Nat) (e : Option Addr) (en ec : Nat) (f : Option Addr) (fn fc : Nat)
theorem DY (N : Nat) (hN : 300 ≤ N) (h : AH) (H : WF h) (l : Option Addr) (ln lc : Nat) (L : List Int) (hl : ln = L.length) (R : RI h l L) (hL : L.length < 100) (k : Option Addr) (kc : Nat) (T : RT h k bn) :
  ∃ r,az Tryz.prog N 18 [.agg #[.string s,.slice b bn bc,.slice c cn cc,.slice d dn dc,.slice e en ec,.slice f fn fc],.slice l ln lc,.slice k bn kc] h = some (.bool r,h) ∧ (r = true → ∀ x ∈ L,0 ≤ x ∧ x < bn):=by
 obtain ⟨n,rfl,hn⟩ : ∃ m,N = m + 1 ∧ 299 ≤ m:=⟨N - 1,by omega,by omega⟩
 have R' : RI (loc h [[.string s,.slice b bn bc,.slice c cn cc,.slice d dn dc,.slice e en ec,.slice f fn fc]]) l L:=R.wk H (dZ H _)
 have T' : RT (loc h [[.string s,.slice b bn bc,.slice c cn cc,.slice d dn dc,.slice e en ec,.slice f fn fc]]) k bn:=T.wk H (dZ H _)
 have lp : ∀ (j i m0 : Nat),j < m0 → i + j = L.length → ∃ r,wJ n m0 h l ln lc k bn kc ⟨h.next,0,none⟩ i (loc h [[.string s,.slice b bn bc,.slice c cn cc,.slice d dn dc,.slice e en ec,.slice f fn fc]]) = some (.bool r,h) ∧ (r = true → ∀ x ∈ L.drop i,0 ≤ x ∧ x < bn):=by
  intro j
  induction j with
  | zero =>
   intro i m0 hm hi
   obtain ⟨m0,rfl⟩ : ∃ q,m0 = q + 1:=⟨m0 - 1,by omega⟩
   refine ⟨true,sY ?_,fun _ x hx => ?_⟩
   ·rw [sZ,dl,dF (by omega)]
    simp only [ak,ae,an,au,ap,aq,cond_true,cond_false,aU,bp,aV,bB,bC]
   ·rw [List.drop_of_length_le (by omega)] at hx
    cases hx
  | succ j ih =>
   intro i m0 hm hi
   obtain ⟨m0,rfl⟩ : ∃ q,m0 = q + 1:=⟨m0 - 1,by omega⟩
   obtain ⟨x,hx⟩ : ∃ x,L[i]? = some x:=⟨_,List.getElem?_eq_getElem (by omega)⟩
   obtain ⟨β,o,hb,hc⟩:=R' i x hx
   have hc:=hc 0 _ rfl
   have hd : L.drop i = x :: L.drop (i + 1):=by
    rw [List.drop_eq_getElem_cons (by omega)]
    rw [List.getElem?_eq_getElem (by omega)] at hx
    injection hx with hx
    rw [hx]
   obtain ⟨r,r1,r2⟩:=ih (i + 1) m0 (by omega) (by omega)
   have key : ∃ r,vB aF n m0 h l ln lc k bn kc ⟨h.next,0,none⟩ i (loc h [[.string s,.slice b bn bc,.slice c cn cc,.slice d dn dc,.slice e en ec,.slice f fn fc]]) = some (.bool r,h) ∧ (r = true → ∀ x ∈ L.drop i,0 ≤ x ∧ x < bn):=by
    rw [sZ,dl,du (by omega)]
    simp only [bu h,aH,aD,aI,aW,aE,aS,bA,bJ,Nat.beq_refl,aj,List.nil_append,List.cons_append,List.length_cons,List.length_nil,Nat.zero_add,Nat.add_zero,Nat.reduceAdd,ak,ae,an,au,ap,aq,cond_true,cond_false,Ji H,HK H,lst H,HL H,List.getElem?_cons_zero,List.getElem?_cons_succ,im,vA,List.drop_succ_cons,List.drop_zero,List.drop_nil,List.set_cons_zero,List.set_cons_succ,List.append_nil,sW,EE,hb,aK (Int.natCast_nonneg i) (show (i : Int) < ln by omega),Int.toNat_natCast,hc,rg n (by omega) (setLow (loc h [[.string s,.slice b bn bc,.slice c cn cc,.slice d dn dc,.slice e en ec,.slice f fn fc]]) (h.next + 1)) (bO (vm H _) _)]
    cases hw : (bS 0 x && bZ x bn) with
    | false => exact ⟨false,by simp only [Bool.not_true,Bool.not_false,ak,ae,an,au,ap,aq,cond_true,cond_false,aU,bp,aV,bB,bC],fun h => by cases h⟩
    | true =>
     have hw2:=hw
     rw [Bool.and_eq_true] at hw2
     have h0:=kH hw2.1
     have h1:=lW hw2.2
     obtain ⟨t,γ,u,k1,k2⟩:=T' x.toNat (by omega)
     have k2:=k2 0 _ rfl
     simp only [Bool.not_true,Bool.not_false,ak,ae,an,au,ap,aq,cond_true,cond_false,bu h,aH,aD,aI,aW,aE,aS,bA,bJ,Nat.beq_refl,aj,List.nil_append,List.cons_append,List.length_cons,List.length_nil,Nat.zero_add,Nat.add_zero,Nat.reduceAdd,k1,aK h0 h1,k2]
     cases t with
     | false => exact ⟨false,by simp only [Bool.not_true,Bool.not_false,ak,ae,an,au,ap,aq,cond_true,cond_false,aU,bp,aV,bB,bC],fun h => by cases h⟩
     | true =>
      rw [hb,k1] at r1
      refine ⟨r,?_,fun hr y hy => ?_⟩
      ·simp only [Bool.not_true,Bool.not_false,ak,ae,an,au,ap,aq,cond_true,cond_false]
       rw [dv (by omega)]
       exact r1
      ·rw [hd] at hy
       rcases List.mem_cons.1 hy with rfl | hy
       ·exact ⟨h0,h1⟩
       ·exact r2 hr y hy
   obtain ⟨r,q1,q2⟩:=key
   exact ⟨r,sY q1,q2⟩
 obtain ⟨r,r1,r2⟩:=lp L.length 0 n (by omega) (by omega)
 refine ⟨r,FF ?_,fun hr => r2 hr⟩
 simp only [bu h,aH,aD,aI,aW,aE,aS,bA,bJ,Nat.beq_refl,aj,List.nil_append,List.cons_append,List.length_cons,List.length_nil,Nat.zero_add,Nat.add_zero,Nat.reduceAdd,ak,ae,an,au,ap,aq,cond_true,cond_false]
 exact r1
end
def Bx (h : AH) (o : Option (Go.Value × AH)) : Prop:=∃ r,o = some (.bool r,h)
theorem Bx.leaf {h : AH} {b : Bool} : Bx h (some (.bool b,h)):=⟨b,rfl⟩
theorem Bx.cnd {h : AH} {c : Bool} {A B : Option (Go.Value × AH)} (h1 : c = true → Bx h A) (h2 : c = false → Bx h B) : Bx h (cond c A B):=by
 cases c with
 | true => exact h1 rfl
 | false => exact h2 rfl
theorem Bx.imp {h : AH} {A B : Option (Go.Value × AH)} (f : ∀ {r},A = some r → B = some r) (x : Bx h A) : Bx h B:=by
 obtain ⟨r,e⟩:=x
 exact ⟨r,f e⟩
theorem dy {h g : AH} (W : Wk h g) (b : Bool) : ai h g (.bool b) = (.bool b,h):=W.exit rfl
theorem EN {h g : AH} (W : Wk h g) (k : IntKind) (b : Int) : ai h g (.int k b) = (.int k b,h):=W.exit rfl
theorem LD {h g : AH} (W : Wk h g) (a : Addr) (n c : Nat) : ai h g (.slice (some a) n c) = (.slice (some a) n c,setLow g h.low):=by
 unfold ai
 have e1 : Nat.blt h.next h.next = false:=by
  cases e : Nat.blt h.next h.next with
  | false => rfl
  | true => exact absurd (Nat.le_of_ble_eq_true e) (by omega)
 rw [W.low,Nat.beq_refl]
 show ((.slice (some a) n c : Go.Value),_) = _
 rw [e1]
 rfl
theorem LE {h g : AH} (W : Wk h g) : ai h g (.slice none 0 0) = (.slice none 0 0,h):=W.exit rfl
theorem Jn {h g : AH} (W : Wk h g) : Kp h (setLow g h.low):=⟨W.wf.setLow _,rfl,W.nxt,W.old⟩
theorem BX {h g : AH} (K : Kp (setLow h h.next) g) : Wk h g:=⟨K.wf,K.low,K.nxt,K.old⟩
theorem y7 {h g : AH} (W : Wk h g) : Kp (setLow h h.next) g:=⟨W.wf,W.low,W.nxt,W.old⟩
theorem cP {h : AH} (H : WF h) : ∀ (bs : List (List Value)) (j : Nat) (c : List Value),bs[j]? = some c → cp (loc h bs) (h.next + j) c:=by
 intro bs j c hj
 have hr:=qO H hj
 refine ⟨0,?_,(H.new _ (by omega)).2⟩
 exact (aR hr).1
theorem BY {g : AH} {a : Option Addr} {n c G : Nat} {l : List Int} (R : it g a n c 1 G (l.map fun x => .int .i64 x)) : RI g a l:=by
 intro i x hx
 rcases R with ⟨_,_,_,e⟩ | ⟨β,e,r1,r2,r3,r4,r5,r6⟩
 ·have:=congrArg List.length e
  rw [List.length_map] at this
  rw [List.eq_nil_of_length_eq_zero this] at hx
  cases hx
 ·refine ⟨β,0,e,fun k y hy => ?_⟩
  have hk : k = 0:=by
   cases k with
   | zero => rfl
   | succ k => cases hy
  subst hk
  injection hy with hy
  subst hy
  have hr : g.rd β = some ⟨l.map fun x => .int .i64 x,1,G,false⟩:=dp r5 r6
  unfold rdC
  simp only [hr,Option.bind_some]
  rw [Nat.add_zero,Nat.zero_add,Nat.mul_one,List.getElem?_map,hx]
  rfl
theorem vH {g : AH} {β o k : Nat} {x : Go.Value} (h : rdC g ⟨β,o,none⟩ k = some x) : rdC g ⟨β,o + k,none⟩ 0 = some x:=by
 unfold rdC at h ⊢
 simp only [Nat.add_zero] at h ⊢
 exact h
theorem EP (N : Nat) (hN : 1 ≤ N) (h : AH) (w : Int) : az Tryz.prog N 112 [.int .i64 w] h = some (.int .i64 (fM (ge w 0) 64),h):=by
 obtain ⟨n,rfl⟩ : ∃ n,N = n + 1:=⟨N - 1,by omega⟩
 refine DJ ?_
 simp only [bu h,aH,aD,aI,aW,aE,aS,bA,bJ,Nat.beq_refl,aj,List.nil_append,List.cons_append,List.length_cons,List.length_nil,Nat.zero_add,Nat.add_zero,Nat.reduceAdd,aU,bp,aV,bB,bC]
theorem BZ (w : Int) : 0 ≤ fM (ge w 0) 64 ∧ fM (ge w 0) 64 ≤ 64:=by
 unfold fM ge
 cases h1 : decide (0 > w) with
 | true => exact (by decide : (0 : Int) ≤ 0 ∧ (0 : Int) ≤ 64)
 | false =>
  have:=of_decide_eq_false h1
  rw [cond_false]
  cases h2 : decide (64 < w) with
  | true => exact (by decide : (0 : Int) ≤ 64 ∧ (64 : Int) ≤ 64)
  | false =>
   have:=of_decide_eq_false h2
   rw [cond_false]
   omega
theorem bits (N : Nat) (hN : 100 ≤ N) (h : AH) (H : WF h) (hl : h.low ≤ h.next) (w x : Int) : ∃ (a : Option Addr) (m c : Nat) (g : AH) (l : List Int),az Tryz.prog N 81 [.int .i64 w,.int .u64 x] h = some (.slice a m c,g) ∧ Kp h g ∧ RI g a l ∧ l.length = m ∧ m ≤ 64:=by
 obtain ⟨n,rfl,hn⟩ : ∃ m,N = m + 1 ∧ 99 ≤ m:=⟨N - 1,by omega,by omega⟩
 obtain ⟨q0,q1⟩:=BZ w
 have lp : ∀ (j i m0 : Nat) (x : Int) (g : AH) (a : Option Addr) (c G : Nat) (l : List Int),j < m0 → (i : Int) + j = fM (ge w 0) 64 → Wk h g → it g a i c 1 G (l.map fun x => .int .i64 x) → l.length = i → h.next ≤ G → G ≤ g.next →
   ∃ (a1 : Option Addr) (m c1 : Nat) (g' : AH) (l : List Int),wM n m0 h w x a i c i g = some (.slice a1 m c1,g') ∧ Kp h g' ∧ RI g' a1 l ∧ l.length = m ∧ m ≤ 64:=by
  intro j
  induction j with
  | zero =>
   intro i m0 x g a c G l hm hi W R hl hG1 hG2
   obtain ⟨m0,rfl⟩ : ∃ q,m0 = q + 1:=⟨m0 - 1,by omega⟩
   have key : vC aF n m0 h w x a i c i g = some (ai h g (.slice a i c)):=by
    rw [te]
    simp only [EP n (by omega),ak,ae,an,au,ap,aq,cond_true,cond_false,dF (show ¬ (i : Int) < fM (ge w 0) 64 by omega)]
   cases a with
   | none =>
    rcases R with ⟨_,e1,e2,e3⟩ | ⟨β,e,_⟩
    ·subst e2
     have hi0 : i = 0:=e1
     subst hi0
     exact ⟨none,0,0,h,[],oh (key.trans (by rw [LE W])),Kp.refl H,(fun i x hx => absurd hx (by simp)),rfl,by omega⟩
    ·cases e
   | some a =>
    exact ⟨some a,i,c,setLow g h.low,l,oh (key.trans (by rw [LD W])),Jn W,BY R,hl,by omega⟩
  | succ j ih =>
   intro i m0 x g a c G l hm hi W R hl hG1 hG2
   obtain ⟨m0,rfl⟩ : ∃ q,m0 = q + 1:=⟨m0 - 1,by omega⟩
   obtain ⟨g1,g2,a',G',k1,k2,k3,k4,k5,k6,_⟩:=(y7 W).app (by_:=8) (Nat.le_refl _) R hG1 hG2 (vs:=[.int .i64 (aQ .i64 (ce .u64 x 2))]) rfl (by omega) (by omega)
   obtain ⟨a2,m,c2,g',l2,r1,r2⟩:=ih (i + 1) m0 (qH .u64 x 2) g2 a' aG G' (l ++ [aQ .i64 (ce .u64 x 2)]) (by omega) (by omega) (BX k4) (by rw [List.map_append]; exact k3) (by rw [List.length_append,hl]; rfl) k5 k6
   refine ⟨a2,m,c2,g',l2,oh ?_,r2⟩
   rw [te]
   simp only [EP n (by omega),ak,ae,an,au,ap,aq,cond_true,cond_false,du (show (i : Int) < fM (ge w 0) 64 by omega),k1,k2]
   rw [dv (by omega)]
   exact r1
 obtain ⟨a,m,c,g,l,r1,r2⟩:=lp (fM (ge w 0) 64).toNat 0 n x (setLow h h.next) none 0 h.next [] (by omega) (by omega) (Wk.start H) (it.nil _ _ _) rfl (Nat.le_refl _) (Nat.le_refl _)
 refine ⟨a,m,c,g,l,FI ?_,r2⟩
 exact r1
theorem Jo (N : Nat) (hN : 100 ≤ N) (h : AH) (H : WF h) (a : Option Addr) (m c : Nat) (l : List Int) (R : RI h a l) (hl : l.length = m) (hm : m ≤ 64) : ∃ y,az Tryz.prog N 80 [.slice a m c] h = some (.int .u64 y,h):=by
 obtain ⟨n,rfl,hn⟩ : ∃ m,N = m + 1 ∧ 99 ≤ m:=⟨N - 1,by omega,by omega⟩
 have lp : ∀ (i m0 : Nat) (x : Int),i ≤ m → i < m0 → ∃ y,wL n m0 h a m c x ((i : Int) - 1) (setLow h h.next) = some (.int .u64 y,h):=by
  intro i
  induction i with
  | zero =>
   intro m0 x hi hm
   obtain ⟨m0,rfl⟩ : ∃ q,m0 = q + 1:=⟨m0 - 1,by omega⟩
   refine ⟨x,s9 ?_⟩
   rw [HU (by omega)]
   simp only [ak,ae,an,au,ap,aq,cond_true,cond_false,EN (Wk.start H)]
  | succ i ih =>
   intro m0 x hi hm
   obtain ⟨m0,rfl⟩ : ∃ q,m0 = q + 1:=⟨m0 - 1,by omega⟩
   obtain ⟨v,hv⟩ : ∃ v,l[i]? = some v:=⟨_,List.getElem?_eq_getElem (by omega)⟩
   obtain ⟨β,o,e1,e2⟩:=R i v hv
   have e2 : rdC (setLow h h.next) ⟨β,o + i * 1,none⟩ 0 = some (.int .i64 v):=e2 0 _ rfl
   obtain ⟨y,hy⟩:=ih m0 (aT .u64 (Ah .u64 2 x) (aQ .u64 v)) (by omega) (by omega)
   refine ⟨y,s9 ?_⟩
   rw [show ((i + 1 : Nat) : Int) - 1 = (i : Int) by omega,y6 (by omega)]
   have e3 : fC .i64 (i : Int) 1 = (i : Int) - 1:=by
    unfold fC
    rw [IntKind.wrap_i64]
    omega
   rw [e1] at hy ⊢
   simp only [ak,ae,an,au,ap,aq,cond_true,cond_false,aK (Int.natCast_nonneg i) (show (i : Int) < m by omega),Int.toNat_natCast,aj,e2,e3]
   exact hy
 obtain ⟨y,hy⟩:=lp m n 0 (Nat.le_refl _) (by omega)
 refine ⟨y,FH ?_⟩
 have e3 : fC .i64 (m : Int) 1 = (m : Int) - 1:=by
  unfold fC
  rw [IntKind.wrap_i64]
  omega
 rw [dl,e3]
 exact hy
theorem LF (N : Nat) (hN : 110 ≤ N) (h : AH) (H : WF h) (w x : Int) : ∃ y,az Tryz.prog N 47 [.int .i64 w,.int .u64 x] h = some (.int .u64 y,h):=by
 obtain ⟨n,rfl,hn⟩ : ∃ m,N = m + 1 ∧ 109 ≤ m:=⟨N - 1,by omega,by omega⟩
 obtain ⟨a,m,c,g,l,r1,K,R,hl,hm⟩:=bits n (by omega) (setLow h h.next) (H.setLow _) (Nat.le_refl _) w x
 obtain ⟨y,hy⟩:=Jo n (by omega) g K.wf a m c l R hl hm
 refine ⟨y,FD ?_⟩
 simp only [r1,hy,ak,ae,an,au,ap,aq,cond_true,cond_false,EN (BX K)]
theorem GL : bM 0 3 = true:=rfl
theorem GM : bM 1 3 = true:=rfl
theorem GN : bM 2 3 = true:=rfl
section
variable {h g : AH} (W : Wk h g) {s : ByteArray} {b : Option Addr} {bn bc : Nat} {c : Option Addr} {cn cc : Nat} {d : Option Addr} {dn dc : Nat} {e : Option Addr} {en ec : Nat} {f : Option Addr} {fn fc : Nat}
 {op dest : Int} {ia : Option Addr} {m ic : Nat} {num mem : Int} {β : Nat} {x0 x1 x2 : Int}
 (Of : cp g h.next [.string s,.slice b bn bc,.slice c cn cc,.slice d dn dc,.slice e en ec,.slice f fn fc]) (Oi : cp g (h.next + 1) [.int .i64 op,.int .i64 dest,.slice ia m ic,.int .u64 num,.int .i64 mem]) (Oa : cp g β [.int .i64 x0,.int .i64 x1,.int .i64 x2])
 (n : Nat) (hn : 200 ≤ n) (w : Int)
 include W Oi Oa hn
theorem Jp : Bx h (Aw n h ⟨h.next + 1,0,none⟩ w (some ⟨β,0,none⟩) 3 3 g):=by
 refine Bx.imp AG ?_
 simp only [Oi.rd,Oa.rd,Nat.zero_add,Nat.add_zero,List.getElem?_cons_zero,List.getElem?_cons_succ,aj,Nat.reduceAdd,HX n (by omega) g,ak,ae,an,au,ap,aq,cond_true,cond_false,GL,GM,GN,dy W]
 repeat' first | exact Bx.leaf | (refine Bx.cnd (fun _ => ?_) (fun _ => ?_))
theorem Jq (k : Int) (t : Bool) : Bx h (wT n h ⟨h.next + 1,0,none⟩ w (some ⟨β,0,none⟩) 3 3 k op t g):=by
 have h9:=Jp W Oi Oa n hn w
 refine Bx.imp AF ?_
 simp only [Oi.rd,Oa.rd,Nat.zero_add,Nat.add_zero,List.getElem?_cons_zero,List.getElem?_cons_succ,aj,Nat.reduceAdd,ak,ae,an,au,ap,aq,cond_true,cond_false,GL,GM,GN,dy W]
 repeat' first | exact Bx.leaf | exact h9 | (refine Bx.cnd (fun _ => ?_) (fun _ => ?_))
theorem HY (k : Int) : Bx h (tf n h ⟨h.next + 1,0,none⟩ w (some ⟨β,0,none⟩) 3 3 k g):=by
 have h8:=fun t => Jq W Oi Oa n hn w k t
 obtain ⟨y,hy⟩:=LF n (by omega) (setLow g g.next) (W.wf.setLow _) w num
 refine Bx.imp AE ?_
 simp only [Oi.rd,Oa.rd,Nat.zero_add,Nat.add_zero,List.getElem?_cons_zero,List.getElem?_cons_succ,aj,Nat.reduceAdd,ak,ae,an,au,ap,aq,cond_true,cond_false,GL,GM,GN,dy W,hy,aH,aI,aE,Nat.beq_refl]
 repeat' first | exact Bx.leaf | exact h8 _ | (refine Bx.cnd (fun _ => ?_) (fun _ => ?_))
 include Of
theorem Jr (t : Bool) (R : RS g d dn) (k : Int) : Bx h (Av n h ⟨h.next,0,none⟩ ⟨h.next + 1,0,none⟩ t w (some ⟨β,0,none⟩) 3 3 k g):=by
 have h7:=fun k => HY W Oi Oa n hn w k
 refine Bx.imp AD ?_
 simp only [Of.rd,Oi.rd,Oa.rd,Nat.zero_add,Nat.add_zero,List.getElem?_cons_zero,List.getElem?_cons_succ,aj,Nat.reduceAdd,ak,ae,an,au,ap,aq,cond_true,cond_false,dy W]
 refine Bx.cnd (fun _ => ?_) (fun _ => h7 _)
 refine Bx.cnd (fun _ => Bx.leaf) (fun e1 => ?_)
 refine Bx.cnd (fun _ => Bx.leaf) (fun e2 => ?_)
 have e1:=ef e1
 have e2:=fP e2
 rw [dl] at e2
 obtain ⟨s1,w1,b1,_,γ,o,q1,q2⟩:=R mem.toNat (by omega)
 have k1:=q2 1 _ rfl
 have k2:=q2 2 _ rfl
 have eb:=aK (i:=mem) (n:=dn) (by omega) (by omega)
 simp only [eb,q1,aq,aj,Nat.add_zero,vH k1,vH k2,ak,ae,an,au,ap,aq,cond_true,cond_false]
 repeat' first | exact Bx.leaf | exact h7 _ | (refine Bx.cnd (fun _ => ?_) (fun _ => ?_))
theorem Js (R : RA g c cn) : Bx h (wS n h ⟨h.next,0,none⟩ ⟨h.next + 1,0,none⟩ w (some ⟨β,0,none⟩) 3 3 g):=by
 have h7:=fun k => HY W Oi Oa n hn w k
 refine Bx.imp AC ?_
 simp only [Of.rd,Oi.rd,Oa.rd,Nat.zero_add,Nat.add_zero,List.getElem?_cons_zero,List.getElem?_cons_succ,aj,Nat.reduceAdd,ak,ae,an,au,ap,aq,cond_true,cond_false,dy W]
 refine Bx.cnd (fun _ => Bx.leaf) (fun e1 => ?_)
 refine Bx.cnd (fun _ => Bx.leaf) (fun e2 => ?_)
 have e1:=ef e1
 have e2:=fP e2
 rw [dl] at e2
 obtain ⟨s1,w1,l1,k1,f1,_,γ,o,q1,q2⟩:=R mem.toNat (by omega)
 have k1:=q2 1 _ rfl
 have eb:=aK (i:=mem) (n:=cn) (by omega) (by omega)
 simp only [eb,q1,aq,aj,Nat.add_zero,vH k1,ak,ae,an,au,ap,aq,cond_true,cond_false]
 exact h7 _
end
section
variable {h : AH} (H : WF h) {s : ByteArray} {b : Option Addr} {bn bc : Nat} {c : Option Addr} {cn cc : Nat} {d : Option Addr} {dn dc : Nat} {e : Option Addr} {en ec : Nat} {f : Option Addr} {fn fc : Nat}
 {op dest : Int} {ia : Option Addr} {m ic : Nat} {num mem : Int} {β : Nat}
 (n : Nat) (hn : 200 ≤ n) (w : Int) {WL IL : List Int} (RW : RI h b WL) (hb : bn = WL.length) (RL : RI h ia IL) (hm : m = IL.length) (hm3 : m ≤ 3) (hin : ∀ x ∈ IL,0 ≤ x ∧ x < bn) (Rc : RA h c cn) (Rd : RS h d dn)
 include H hn RW hb RL hm hm3 hin Rc Rd
theorem Jt (t : Bool) : ∀ (j i m0 : Nat) (g : AH) (x0 x1 x2 : Int),j < m0 → i + j = m → Wk h g → cp g h.next [.string s,.slice b bn bc,.slice c cn cc,.slice d dn dc,.slice e en ec,.slice f fn fc] → cp g (h.next + 1) [.int .i64 op,.int .i64 dest,.slice ia m ic,.int .u64 num,.int .i64 mem] → cp g β [.int .i64 x0,.int .i64 x1,.int .i64 x2] → h.next + 2 ≤ β →
  Bx h (wR n m0 h ⟨h.next,0,none⟩ ⟨h.next + 1,0,none⟩ t w (some ⟨β,0,none⟩) 3 3 i g):=by
 intro j
 induction j with
 | zero =>
  intro i m0 g x0 x1 x2 hj hi W Of Oi Oa hβ
  obtain ⟨m0,rfl⟩ : ∃ q,m0 = q + 1:=⟨m0 - 1,by omega⟩
  have h5:=Js W Of Oi Oa n hn w (Rc.wk H W)
  have h6:=fun k => Jr W Of Oi Oa n hn w t (Rd.wk H W) k
  refine Bx.imp tg ?_
  simp only [Oi.rd,Nat.zero_add,Nat.add_zero,List.getElem?_cons_zero,List.getElem?_cons_succ,aj,Nat.reduceAdd,ak,ae,an,au,ap,aq,cond_true,cond_false,dl,dF (show ¬ (i : Int) < m by omega)]
  repeat' first | exact h5 | exact h6 _ | (refine Bx.cnd (fun _ => ?_) (fun _ => ?_))
 | succ j ih =>
  intro i m0 g x0 x1 x2 hj hi W Of Oi Oa hβ
  obtain ⟨m0,rfl⟩ : ∃ q,m0 = q + 1:=⟨m0 - 1,by omega⟩
  obtain ⟨x,hx⟩ : ∃ x,IL[i]? = some x:=⟨_,List.getElem?_eq_getElem (by omega)⟩
  obtain ⟨β1,o1,p1,p2⟩:=RL.wk H W i x hx
  have p2:=p2 0 _ rfl
  obtain ⟨hx0,hx1⟩:=hin x (List.mem_of_getElem? hx)
  obtain ⟨y,hy⟩ : ∃ y,WL[x.toNat]? = some y:=⟨_,List.getElem?_eq_getElem (by omega)⟩
  obtain ⟨β2,o2,r1,r2⟩:=RW.wk H W x.toNat y hy
  have r2:=r2 0 _ rfl
  have hi3 : i < 3:=by omega
  obtain ⟨g',k1,k2,k3,k4,k5⟩:=ir (o:=i * 1) (vs:=[.int .i64 y]) W.wf Oa (by rw [W.low]; omega) (by show i * 1 + 1 ≤ 3; omega)
  have W' : Wk h g':=W.fr k2 k4 fun z hz => by rw [List.mem_singleton.1 hz]; omega
  have Of':=Of.fr k2 (by rw [List.mem_singleton]; omega)
  have Oi':=Oi.fr k2 (by rw [List.mem_singleton]; omega)
  obtain ⟨y0,y1,y2,hy3⟩ : ∃ y0 y1 y2 : Int,putAt [.int .i64 x0,.int .i64 x1,.int .i64 x2] (i * 1) [.int .i64 y] = [.int .i64 y0,.int .i64 y1,.int .i64 y2]:=by
   rcases (show i = 0 ∨ i = 1 ∨ i = 2 by omega) with rfl | rfl | rfl
   ·exact ⟨y,x1,x2,rfl⟩
   ·exact ⟨x0,y,x2,rfl⟩
   ·exact ⟨x0,x1,y,rfl⟩
  rw [hy3] at k3
  have hh:=ih (i + 1) m0 g' y0 y1 y2 (by omega) (by omega) W' Of' Oi' k3 hβ
  refine Bx.imp tg ?_
  have eb:=aK (i:=(i : Int)) (n:=m) (by omega) (by omega)
  have eb2:=aK (i:=x) (n:=bn) hx0 hx1
  have eb3:=aK (i:=(i : Int)) (n:=3) (by omega) (by omega)
  simp only [Of.rd,Oi.rd,Nat.zero_add,Nat.add_zero,List.getElem?_cons_zero,List.getElem?_cons_succ,aj,Nat.reduceAdd,ak,ae,an,au,ap,aq,cond_true,cond_false,dl,du (show (i : Int) < m by omega),p1,eb,Int.toNat_natCast,p2,r1,eb2,r2]
  simp only [ak,ae,an,au,ap,aq,cond_true,cond_false,eb3,aj,k1]
  rw [dv (by omega)]
  exact hh
theorem Ju (t : Bool) {g : AH} (W : Wk h g) (Of : cp g h.next [.string s,.slice b bn bc,.slice c cn cc,.slice d dn dc,.slice e en ec,.slice f fn fc]) (Oi : cp g (h.next + 1) [.int .i64 op,.int .i64 dest,.slice ia m ic,.int .u64 num,.int .i64 mem]) (h2 : h.next + 2 ≤ g.next) :
  Bx h (wQ n h ⟨h.next,0,none⟩ ⟨h.next + 1,0,none⟩ t w g):=by
 obtain ⟨g',k1,k2,k3,k4,k5⟩:=cS W.wf [.int .i64 0,.int .i64 0,.int .i64 0] 1
 have W' : Wk h g':=W.fr k2 k4 fun z hz => by rw [List.mem_singleton.1 hz]; omega
 have Of':=Of.fr k2 (by rw [List.mem_singleton]; omega)
 have Oi':=Oi.fr k2 (by rw [List.mem_singleton]; omega)
 have h4:=Jt (β:=g.next) H n hn w RW hb RL hm hm3 hin Rc Rd t m 0 n g' 0 0 0 (by omega) (by omega) W' Of' Oi' k3 h2
 refine Bx.imp AB ?_
 rw [k1]
 exact h4
theorem ug (hd : rs op = true → 0 ≤ dest ∧ dest < bn) : Bx h (az Tryz.prog (n + 1) 20 [.agg #[.string s,.slice b bn bc,.slice c cn cc,.slice d dn dc,.slice e en ec,.slice f fn fc],.agg #[.int .i64 op,.int .i64 dest,.slice ia m ic,.int .u64 num,.int .i64 mem]] h):=by
 have W : Wk h (loc h [[.string s,.slice b bn bc,.slice c cn cc,.slice d dn dc,.slice e en ec,.slice f fn fc],[.int .i64 op,.int .i64 dest,.slice ia m ic,.int .u64 num,.int .i64 mem]]):=dZ H _
 have Of:=cP H [[.string s,.slice b bn bc,.slice c cn cc,.slice d dn dc,.slice e en ec,.slice f fn fc],[.int .i64 op,.int .i64 dest,.slice ia m ic,.int .u64 num,.int .i64 mem]] 0 _ rfl
 have Oi:=cP H [[.string s,.slice b bn bc,.slice c cn cc,.slice d dn dc,.slice e en ec,.slice f fn fc],[.int .i64 op,.int .i64 dest,.slice ia m ic,.int .u64 num,.int .i64 mem]] 1 _ rfl
 have h3:=fun t w => Ju H n hn w RW hb RL hm hm3 hin Rc Rd t W Of Oi (Nat.le_refl _)
 generalize hg : loc h [[.string s,.slice b bn bc,.slice c cn cc,.slice d dn dc,.slice e en ec,.slice f fn fc],[.int .i64 op,.int .i64 dest,.slice ia m ic,.int .u64 num,.int .i64 mem]] = g at *
 have Of : cp g h.next [.string s,.slice b bn bc,.slice c cn cc,.slice d dn dc,.slice e en ec,.slice f fn fc]:=Of
 have h2 : ∀ t,Bx h (wP n h ⟨h.next,0,none⟩ ⟨h.next + 1,0,none⟩ t g):=fun t => by
  refine Bx.imp Az ?_
  simp only [Of.rd,Oi.rd,Nat.zero_add,Nat.add_zero,List.getElem?_cons_zero,List.getElem?_cons_succ,aj,Nat.reduceAdd,ak,ae,an,au,ap,aq,cond_true,cond_false,vG n (by omega) g]
  refine Bx.cnd (fun e1 => ?_) (fun _ => h3 _ _)
  obtain ⟨d0,d1⟩:=hd e1
  obtain ⟨y,hy⟩ : ∃ y,WL[dest.toNat]? = some y:=⟨_,List.getElem?_eq_getElem (by omega)⟩
  obtain ⟨β2,o2,r1,r2⟩:=RW.wk H W dest.toNat y hy
  have r2:=r2 0 _ rfl
  have eb:=aK (i:=dest) (n:=bn) d0 d1
  have h3:=fun t w => h3 t w
  simp only [r1,aq,eb,cond_true,aj,r2,ak]
  exact h3 _ _
 have h1 : ∀ t,Bx h (wO n h ⟨h.next,0,none⟩ ⟨h.next + 1,0,none⟩ t g):=fun t => by
  refine Bx.imp Ay ?_
  simp only [Oi.rd,Nat.zero_add,Nat.add_zero,List.getElem?_cons_zero,List.getElem?_cons_succ,aj,Nat.reduceAdd,ak,ae,an,au,ap,aq,cond_true,cond_false,dy W]
  repeat' first | exact Bx.leaf | exact h2 _ | (refine Bx.cnd (fun _ => ?_) (fun _ => ?_))
 have h0 : Bx h (wN n h ⟨h.next,0,none⟩ ⟨h.next + 1,0,none⟩ g):=by
  refine Bx.imp Ax ?_
  simp only [Oi.rd,Nat.zero_add,Nat.add_zero,List.getElem?_cons_zero,List.getElem?_cons_succ,aj,Nat.reduceAdd,ak,ae,an,au,ap,aq,cond_true,cond_false]
  repeat' first | exact Bx.leaf | exact h1 _ | (refine Bx.cnd (fun _ => ?_) (fun _ => ?_))
 refine Bx.imp FJ ?_
 simp only [bu h,aH,aD,aI,aW,aE,aS,bA,bJ,Nat.beq_refl,aj,List.nil_append,List.cons_append,List.length_cons,List.length_nil,Nat.zero_add,Nat.add_zero,Nat.reduceAdd,ak,ae,an,au,ap,aq,cond_true,cond_false,hg]
 simp only [Oi.rd,Nat.zero_add,Nat.add_zero,List.getElem?_cons_zero,List.getElem?_cons_succ,aj,Nat.reduceAdd,ak,ae,an,au,ap,aq,cond_true,cond_false,dy W]
 repeat' first | exact Bx.leaf | exact h0 | (refine Bx.cnd (fun _ => ?_) (fun _ => ?_))
end
section
variable {h : AH} (H : WF h) {s : ByteArray} {b : Option Addr} {bn bc : Nat} {c : Option Addr} {cn cc : Nat} {d : Option Addr} {dn dc : Nat} {e : Option Addr} {en ec : Nat} {f : Option Addr} {fn fc : Nat}
 (n : Nat) (hn : 302 ≤ n) {WL : List Int} {LB : List ba} (RW : RI h b WL) (hb : bn = WL.length) (RK : RB h f LB) (hf : fn = LB.length) {k : Option Addr} {kc : Nat} (T : RT h k bn)
 include H hn RW hb RK hf T
theorem edge (kb : Int) {ua : Option Addr} {un uc : Nat} {UL : List Int} (RU : RI h ua UL) (hu : un = UL.length) (hu1 : UL.length < 100) : Bx h (az Tryz.prog (n + 1) 49 [.agg #[.string s,.slice b bn bc,.slice c cn cc,.slice d dn dc,.slice e en ec,.slice f fn fc],.agg #[.int .i64 kb,.slice ua un uc],.slice k bn kc] h):=by
 have W : Wk h (loc h [[.string s,.slice b bn bc,.slice c cn cc,.slice d dn dc,.slice e en ec,.slice f fn fc],[.int .i64 kb,.slice ua un uc]]):=dZ H _
 have Of:=cP H [[.string s,.slice b bn bc,.slice c cn cc,.slice d dn dc,.slice e en ec,.slice f fn fc],[.int .i64 kb,.slice ua un uc]] 0 _ rfl
 have Oe:=cP H [[.string s,.slice b bn bc,.slice c cn cc,.slice d dn dc,.slice e en ec,.slice f fn fc],[.int .i64 kb,.slice ua un uc]] 1 _ rfl
 generalize hg : loc h [[.string s,.slice b bn bc,.slice c cn cc,.slice d dn dc,.slice e en ec,.slice f fn fc],[.int .i64 kb,.slice ua un uc]] = g at *
 have Of : cp g h.next [.string s,.slice b bn bc,.slice c cn cc,.slice d dn dc,.slice e en ec,.slice f fn fc]:=Of
 obtain ⟨r,r1,r2⟩:=DY s b bn bc c cn cc d dn dc e en ec f fn fc n (by omega) g W.wf ua un uc UL hu (RU.wk H W) hu1 k kc (T.wk H W)
 have h1 : r = true → ∀ (pa : Option Addr) (pn pc : Nat) (PL : List Int),RI g pa PL → pn = PL.length → pn = un → ∀ (j i m0 : Nat),j < m0 → i + j = pn → Bx h (wW n m0 h ⟨h.next,0,none⟩ ⟨h.next + 1,0,none⟩ pa pn pc i g):=by
  intro hr pa pn pc PL RP hp hpu j
  induction j with
  | zero =>
   intro i m0 hj hi
   obtain ⟨m0,rfl⟩ : ∃ q,m0 = q + 1:=⟨m0 - 1,by omega⟩
   refine Bx.imp tp ?_
   simp only [dl,dF (show ¬ (i : Int) < pn by omega),cond_false,dy W]
   exact Bx.leaf
  | succ j ih =>
   intro i m0 hj hi
   obtain ⟨m0,rfl⟩ : ∃ q,m0 = q + 1:=⟨m0 - 1,by omega⟩
   obtain ⟨x,hx⟩ : ∃ x,PL[i]? = some x:=⟨_,List.getElem?_eq_getElem (by omega)⟩
   obtain ⟨β1,o1,p1,p2⟩:=RP i x hx
   have p2:=p2 0 _ rfl
   obtain ⟨y,hy⟩ : ∃ y,UL[i]? = some y:=⟨_,List.getElem?_eq_getElem (by omega)⟩
   obtain ⟨β2,o2,q1,q2⟩:=RU.wk H W i y hy
   have q2:=q2 0 _ rfl
   obtain ⟨y0,y1⟩:=r2 hr y (List.mem_of_getElem? hy)
   obtain ⟨v,hv⟩ : ∃ v,WL[y.toNat]? = some v:=⟨_,List.getElem?_eq_getElem (by omega)⟩
   obtain ⟨β3,o3,s1,s2⟩:=RW.wk H W y.toNat v hv
   have s2:=s2 0 _ rfl
   have hh:=ih (i + 1) m0 (by omega) (by omega)
   refine Bx.imp tp ?_
   have eb:=aK (i:=(i : Int)) (n:=pn) (by omega) (by omega)
   have eb1:=aK (i:=(i : Int)) (n:=un) (by omega) (by omega)
   have eb2:=aK (i:=y) (n:=bn) y0 y1
   simp only [Of.rd,Oe.rd,Nat.zero_add,Nat.add_zero,List.getElem?_cons_zero,List.getElem?_cons_succ,aj,Nat.reduceAdd,ak,ae,an,au,ap,aq,cond_true,cond_false,dl,du (show (i : Int) < pn by omega),p1,eb,Int.toNat_natCast,p2,rg n (by omega) (setLow g g.next) (W.wf.setLow _),aH,aI,aE,Nat.beq_refl,dy W]
   refine Bx.cnd (fun _ => Bx.leaf) (fun e1 => ?_)
   have e1 : (bS 0 x && bZ x bn) = true:=by simpa using e1
   rw [Bool.and_eq_true] at e1
   have x0:=kH e1.1
   have x1:=lW e1.2
   obtain ⟨u,hu2⟩ : ∃ u,WL[x.toNat]? = some u:=⟨_,List.getElem?_eq_getElem (by omega)⟩
   obtain ⟨β4,o4,t1,t2⟩:=RW.wk H W x.toNat u hu2
   have t2:=t2 0 _ rfl
   have eb3:=aK (i:=x) (n:=bn) x0 x1
   simp only [p2,t1,aq,eb3,cond_true,aj,t2,ak,q1,eb1,Int.toNat_natCast,q2]
   rw [s1] at t1
   injection t1 with t1
   injection t1 with t3 t4
   subst t3
   subst t4
   simp only [eb2,cond_true,s2,ak,aq]
   refine Bx.cnd (fun _ => Bx.leaf) (fun _ => ?_)
   rw [dv (by omega),← p1]
   exact hh
 refine Bx.imp FM ?_
 simp only [bu h,aH,aD,aI,aW,aE,aS,bA,bJ,Nat.beq_refl,aj,List.nil_append,List.cons_append,List.length_cons,List.length_nil,Nat.zero_add,Nat.add_zero,Nat.reduceAdd,ak,ae,an,au,ap,aq,cond_true,cond_false,hg]
 simp only [Of.rd,Oe.rd,Nat.zero_add,Nat.add_zero,List.getElem?_cons_zero,List.getElem?_cons_succ,aj,Nat.reduceAdd,ak,ae,an,au,ap,aq,cond_true,cond_false,dy W,r1]
 refine Bx.cnd (fun _ => Bx.leaf) (fun e1 => ?_)
 refine Bx.cnd (fun _ => Bx.leaf) (fun e2 => ?_)
 refine Bx.cnd (fun _ => Bx.leaf) (fun e3 => ?_)
 have e1:=ef e1
 have e2:=fP e2
 rw [dl] at e2
 have e3 : r = true:=by simpa using e3
 obtain ⟨B,hB⟩ : ∃ B,LB[kb.toNat]? = some B:=⟨_,List.getElem?_eq_getElem (by omega)⟩
 obtain ⟨pa,pc,ia,ic,ta,tc,ra,rc,⟨β,o,A1,A2⟩,RP,_⟩:=RK.wk H W _ _ hB
 have A2:=A2 0 _ rfl
 have eb:=aK (i:=kb) (n:=fn) (by omega) (by omega)
 refine Bx.imp AK ?_
 simp only [Of.rd,Oe.rd,Nat.zero_add,Nat.add_zero,List.getElem?_cons_zero,List.getElem?_cons_succ,aj,Nat.reduceAdd,ak,ae,an,au,ap,aq,cond_true,cond_false,dy W,A1,eb,A2]
 refine Bx.cnd (fun _ => Bx.leaf) (fun e4 => ?_)
 have e4:=pW e4
 rw [dl,dl] at e4
 exact h1 e3 pa _ pc B.params RP rfl (by omega) B.params.length 0 n (by omega) (by rw [Nat.zero_add])
theorem vI {EL : List Int} (RR : RI h e EL) (he : en = EL.length) (kd cd : Int) {ta : Option Addr} {tn tc : Nat} {TL : List fE} (RT' : RE h ta TL) (ht : tn = TL.length) (htn : TL.length < 100) (hta : ∀ x ∈ TL,x.args.length < 100)
  {ra : Option Addr} {rn rc : Nat} {RL : List Int} (RQ : RI h ra RL) (hr : rn = RL.length) (hrn : RL.length < 100) : Bx h (az Tryz.prog (n + 3) 21 [.agg #[.string s,.slice b bn bc,.slice c cn cc,.slice d dn dc,.slice e en ec,.slice f fn fc],.agg #[.int .i64 kd,.int .i64 cd,.slice ta tn tc,.slice ra rn rc],.slice k bn kc] h):=by
 have W : Wk h (loc h [[.string s,.slice b bn bc,.slice c cn cc,.slice d dn dc,.slice e en ec,.slice f fn fc],[.int .i64 kd,.int .i64 cd,.slice ta tn tc,.slice ra rn rc]]):=dZ H _
 have Of:=cP H [[.string s,.slice b bn bc,.slice c cn cc,.slice d dn dc,.slice e en ec,.slice f fn fc],[.int .i64 kd,.int .i64 cd,.slice ta tn tc,.slice ra rn rc]] 0 _ rfl
 have Ot:=cP H [[.string s,.slice b bn bc,.slice c cn cc,.slice d dn dc,.slice e en ec,.slice f fn fc],[.int .i64 kd,.int .i64 cd,.slice ta tn tc,.slice ra rn rc]] 1 _ rfl
 generalize hg : loc h [[.string s,.slice b bn bc,.slice c cn cc,.slice d dn dc,.slice e en ec,.slice f fn fc],[.int .i64 kd,.int .i64 cd,.slice ta tn tc,.slice ra rn rc]] = g at *
 have Of : cp g h.next [.string s,.slice b bn bc,.slice c cn cc,.slice d dn dc,.slice e en ec,.slice f fn fc]:=Of
 have h3 : ∀ (g : AH),Wk h g → cp g h.next [.string s,.slice b bn bc,.slice c cn cc,.slice d dn dc,.slice e en ec,.slice f fn fc] → cp g (h.next + 1) [.int .i64 kd,.int .i64 cd,.slice ta tn tc,.slice ra rn rc] → ∀ (j i m0 : Nat),j < m0 → i + j = tn → Bx h (tj (n + 2) m0 h k bn kc ⟨h.next,0,none⟩ ⟨h.next + 1,0,none⟩ i g):=by
  intro g W Of Ot j
  induction j with
  | zero =>
   intro i m0 hj hi
   obtain ⟨m0,rfl⟩ : ∃ q,m0 = q + 1:=⟨m0 - 1,by omega⟩
   refine Bx.imp tl ?_
   simp only [Ot.rd,Nat.zero_add,Nat.add_zero,List.getElem?_cons_zero,List.getElem?_cons_succ,aj,Nat.reduceAdd,ak,ae,an,au,ap,aq,cond_true,cond_false,dl,dF (show ¬ (i : Int) < tn by omega),dy W]
   exact Bx.leaf
  | succ j ih =>
   intro i m0 hj hi
   obtain ⟨m0,rfl⟩ : ∃ q,m0 = q + 1:=⟨m0 - 1,by omega⟩
   obtain ⟨x,hx⟩ : ∃ x,TL[i]? = some x:=⟨_,List.getElem?_eq_getElem (by omega)⟩
   obtain ⟨aa,ac,⟨β1,o1,p1,p2⟩,RX⟩:=RT'.wk H W i x hx
   have p3:=p2 1 _ rfl
   have p2:=p2 0 _ rfl
   obtain ⟨r,hr⟩:=edge W.wf (n + 1) (by omega) (RW.wk H W) hb (RK.wk H W) hf (T.wk H W) (kc:=kc) (s:=s) (bc:=bc) (c:=c) (cn:=cn) (cc:=cc) (d:=d) (dn:=dn) (dc:=dc) (e:=e) (en:=en) (ec:=ec) (fc:=fc) x.block RX (uc:=ac) rfl (hta x (List.mem_of_getElem? hx))
   have hh:=ih (i + 1) m0 (by omega) (by omega)
   refine Bx.imp tl ?_
   have eb:=aK (i:=(i : Int)) (n:=tn) (by omega) (by omega)
   simp only [Of.rd,Ot.rd,Nat.zero_add,Nat.add_zero,List.getElem?_cons_zero,List.getElem?_cons_succ,aj,Nat.reduceAdd,ak,ae,an,au,ap,aq,cond_true,cond_false,dl,du (show (i : Int) < tn by omega),dy W,p1,eb,Int.toNat_natCast,p2,p3,hr]
   refine Bx.cnd (fun _ => Bx.leaf) (fun _ => ?_)
   rw [dv (by omega)]
   exact hh
 have h2 : Bx h (wV (n + 2) h k bn kc ⟨h.next,0,none⟩ ⟨h.next + 1,0,none⟩ g):=by
  obtain ⟨g',k1,k2,k3,k4,k5⟩:=cS W.wf [.int .i64 cd] 1
  have hgn : h.next + 2 ≤ g.next:=by rw [← hg]; exact Nat.le_refl _
  have W' : Wk h g':=W.fr k2 k4 fun z hz => by rw [List.mem_singleton.1 hz]; omega
  have Of':=Of.fr k2 (by rw [List.mem_singleton]; omega)
  have Ot':=Ot.fr k2 (by rw [List.mem_singleton]; omega)
  have RC : RI g' (some ⟨g.next,0,none⟩) [cd]:=fun i x hx => by
   cases i with
   | succ i => cases hx
   | zero =>
    injection hx with hx
    subst hx
    refine ⟨_,_,rfl,fun k y hy => ?_⟩
    cases k with
    | succ k => cases hy
    | zero =>
     injection hy with hy
     subst hy
     rw [k3.rd]
     rfl
  obtain ⟨r,r1,r2⟩:=DY s b bn bc c cn cc d dn dc e en ec f fn fc (n + 2) (by omega) g' W'.wf (some ⟨g.next,0,none⟩) 1 1 [cd] rfl RC (by show 1 < 100; decide) k kc (T.wk H W')
  refine Bx.imp AJ ?_
  simp only [Of.rd,Ot.rd,Nat.zero_add,Nat.add_zero,List.getElem?_cons_zero,List.getElem?_cons_succ,aj,Nat.reduceAdd,ak,ae,an,au,ap,aq,cond_true,cond_false,dy W]
  refine Bx.cnd (fun _ => ?_) (fun _ => Bx.cnd (fun _ => Bx.leaf) (fun _ => h3 g W Of Ot tn 0 (n + 2) (by omega) (by rw [Nat.zero_add])))
  simp only [k1,aq,r1,ae,dy W']
  refine Bx.cnd (fun _ => Bx.leaf) (fun e1 => ?_)
  have e1 : r = true:=by simpa using e1
  obtain ⟨c0,c1⟩:=r2 e1 cd (List.mem_singleton.2 rfl)
  obtain ⟨v,hv⟩ : ∃ v,WL[cd.toNat]? = some v:=⟨_,List.getElem?_eq_getElem (by omega)⟩
  obtain ⟨β3,o3,s1,s2⟩:=RW.wk H W' cd.toNat v hv
  have s2:=s2 0 _ rfl
  have eb:=aK (i:=cd) (n:=bn) c0 c1
  simp only [Of'.rd,Ot'.rd,Nat.zero_add,Nat.add_zero,List.getElem?_cons_zero,List.getElem?_cons_succ,aj,Nat.reduceAdd,ak,ae,an,au,ap,aq,cond_true,cond_false,s1,eb,s2,dy W']
  exact Bx.cnd (fun _ => Bx.leaf) (fun _ => h3 g' W' Of' Ot' tn 0 (n + 2) (by omega) (by rw [Nat.zero_add]))
 have h0 : ∀ z,Bx h (th (n + 2) h k bn kc ⟨h.next,0,none⟩ ⟨h.next + 1,0,none⟩ z g):=fun z => by
  refine Bx.imp AI ?_
  simp only [Ot.rd,Nat.zero_add,Nat.add_zero,List.getElem?_cons_zero,List.getElem?_cons_succ,aj,Nat.reduceAdd,ak,ae,an,au,ap,aq,cond_true,cond_false,dy W]
  repeat' first | exact Bx.leaf | exact h2 | (refine Bx.cnd (fun _ => ?_) (fun _ => ?_))
 obtain ⟨r,r1,r2⟩:=DY s b bn bc c cn cc d dn dc e en ec f fn fc (n + 2) (by omega) g W.wf ra rn rc RL hr (RQ.wk H W) hrn k kc (T.wk H W)
 have h1 : r = true → rn = en → ∀ (j i m0 : Nat),j < m0 → i + j = rn → Bx h (wU (n + 2) m0 h k bn kc ⟨h.next,0,none⟩ ⟨h.next + 1,0,none⟩ 0 i g):=by
  intro hrt hre j
  induction j with
  | zero =>
   intro i m0 hj hi
   obtain ⟨m0,rfl⟩ : ∃ q,m0 = q + 1:=⟨m0 - 1,by omega⟩
   refine Bx.imp tk ?_
   simp only [Ot.rd,Nat.zero_add,Nat.add_zero,List.getElem?_cons_zero,List.getElem?_cons_succ,aj,Nat.reduceAdd,ak,ae,an,au,ap,aq,cond_true,cond_false,dl,dF (show ¬ (i : Int) < rn by omega)]
   exact h0 _
  | succ j ih =>
   intro i m0 hj hi
   obtain ⟨m0,rfl⟩ : ∃ q,m0 = q + 1:=⟨m0 - 1,by omega⟩
   obtain ⟨x,hx⟩ : ∃ x,RL[i]? = some x:=⟨_,List.getElem?_eq_getElem (by omega)⟩
   obtain ⟨β1,o1,p1,p2⟩:=RQ.wk H W i x hx
   have p2:=p2 0 _ rfl
   obtain ⟨x0,x1⟩:=r2 hrt x (List.mem_of_getElem? hx)
   obtain ⟨v,hv⟩ : ∃ v,WL[x.toNat]? = some v:=⟨_,List.getElem?_eq_getElem (by omega)⟩
   obtain ⟨β3,o3,s1,s2⟩:=RW.wk H W x.toNat v hv
   have s2:=s2 0 _ rfl
   obtain ⟨u,hu⟩ : ∃ u,EL[i]? = some u:=⟨_,List.getElem?_eq_getElem (by omega)⟩
   obtain ⟨β4,o4,t1,t2⟩:=RR.wk H W i u hu
   have t2:=t2 0 _ rfl
   have hh:=ih (i + 1) m0 (by omega) (by omega)
   refine Bx.imp tk ?_
   have eb:=aK (i:=(i : Int)) (n:=rn) (by omega) (by omega)
   have eb1:=aK (i:=(i : Int)) (n:=en) (by omega) (by omega)
   have eb2:=aK (i:=x) (n:=bn) x0 x1
   simp only [Of.rd,Ot.rd,Nat.zero_add,Nat.add_zero,List.getElem?_cons_zero,List.getElem?_cons_succ,aj,Nat.reduceAdd,ak,ae,an,au,ap,aq,cond_true,cond_false,dl,du (show (i : Int) < rn by omega),dy W,p1,eb,Int.toNat_natCast,p2,s1,eb2,s2,t1,eb1,t2]
   refine Bx.cnd (fun _ => Bx.leaf) (fun _ => ?_)
   rw [dv (by omega)]
   exact hh
 refine Bx.imp FK ?_
 simp only [bu h,aH,aD,aI,aW,aE,aS,bA,bJ,Nat.beq_refl,aj,List.nil_append,List.cons_append,List.length_cons,List.length_nil,Nat.zero_add,Nat.add_zero,Nat.reduceAdd,ak,ae,an,au,ap,aq,cond_true,cond_false,hg]
 simp only [Of.rd,Ot.rd,Nat.zero_add,Nat.add_zero,List.getElem?_cons_zero,List.getElem?_cons_succ,aj,Nat.reduceAdd,ak,ae,an,au,ap,aq,cond_true,cond_false,dy W,r1]
 refine Bx.cnd (fun _ => h0 _) (fun _ => Bx.cnd (fun _ => h0 _) (fun _ => Bx.cnd (fun _ => ?_) (fun _ => Bx.leaf)))
 refine Bx.cnd (fun _ => Bx.leaf) (fun e1 => ?_)
 refine Bx.cnd (fun _ => Bx.leaf) (fun e2 => ?_)
 have e1:=pW e1
 rw [dl,dl] at e1
 have e2 : r = true:=by simpa using e2
 exact h1 e2 (by omega) rn 0 (n + 2) (by omega) (by rw [Nat.zero_add])
end
theorem GO (N : Nat) (hN : 1 ≤ N) (h : AH) (c : Int) : Bx h (az Tryz.prog N 43 [.int .u8 c] h):=by
 obtain ⟨n,rfl⟩ : ∃ n,N = n + 1:=⟨N - 1,by omega⟩
 refine Bx.imp FV ?_
 simp only [bu h,aH,aD,aI,aW,aE,aS,bA,bJ,Nat.beq_refl,aj,List.nil_append,List.cons_append,List.length_cons,List.length_nil,Nat.zero_add,Nat.add_zero,Nat.reduceAdd,aU,bp,aV,bB,bC]
 repeat' first | exact Bx.leaf | (refine Bx.cnd (fun _ => ?_) (fun _ => ?_))
def Ix (h : AH) (k : IntKind) (o : Option (Go.Value × AH)) : Prop:=∃ r,o = some (.int k r,h)
theorem Ix.leaf {h : AH} {k : IntKind} {b : Int} : Ix h k (some (.int k b,h)):=⟨b,rfl⟩
theorem Ix.cnd {h : AH} {k : IntKind} {c : Bool} {A B : Option (Go.Value × AH)} (h1 : c = true → Ix h k A) (h2 : c = false → Ix h k B) : Ix h k (cond c A B):=by
 cases c with
 | true => exact h1 rfl
 | false => exact h2 rfl
theorem Ix.imp {h : AH} {k : IntKind} {A B : Option (Go.Value × AH)} (f : ∀ {r},A = some r → B = some r) (x : Ix h k A) : Ix h k B:=by
 obtain ⟨r,e⟩:=x
 exact ⟨r,f e⟩
theorem HZ (N : Nat) (hN : 1 ≤ N) (h : AH) (c d : Int) : Ix h .i64 (az Tryz.prog N 44 [.int .u8 c,.int .i64 d] h):=by
 obtain ⟨n,rfl⟩ : ∃ n,N = n + 1:=⟨N - 1,by omega⟩
 have h2 : ∀ x,Ix h .i64 (tE n h d x (loc h [])):=fun x => by
  refine Ix.imp AV ?_
  simp only [aU,bp,aV,bB,bC]
  repeat' first | exact Ix.leaf | (refine Ix.cnd (fun _ => ?_) (fun _ => ?_))
 have h1 : ∀ x,Ix h .i64 (tD n h c d x (loc h [])):=fun x => by
  refine Ix.imp AU ?_
  repeat' first | exact h2 _ | (refine Ix.cnd (fun _ => ?_) (fun _ => ?_))
 have h0 : ∀ x,Ix h .i64 (tC n h c d x (loc h [])):=fun x => by
  refine Ix.imp AT ?_
  repeat' first | exact h1 _ | (refine Ix.cnd (fun _ => ?_) (fun _ => ?_))
 refine Ix.imp FW ?_
 simp only [bu h,aH,aD,aI,aW,aE,aS,bA,bJ,Nat.beq_refl,aj,List.nil_append,List.cons_append,List.length_cons,List.length_nil,Nat.zero_add,Nat.add_zero,Nat.reduceAdd]
 repeat' first | exact h0 _ | (refine Ix.cnd (fun _ => ?_) (fun _ => ?_))
theorem GP (s : ByteArray) (i : Nat) (h : i < s.size) : ∃ v,Hw s (i : Int) = some v:=by
 unfold Hw
 rw [decide_eq_true (Int.natCast_nonneg i),cond_true,Int.toNat_natCast]
 rw [List.getElem?_eq_getElem (by rw [Array.length_toList]; exact h)]
 exact ⟨_,rfl⟩
theorem om (N : Nat) (h : AH) (H : WF h) (s : ByteArray) (hs : s.size + 2 < N) (hm : s.size < 9223372036854775807) : Bx h (az Tryz.prog N 13 [.string s] h):=by
 obtain ⟨n,rfl⟩ : ∃ n,N = n + 1:=⟨N - 1,by omega⟩
 have W:=Wk.start H
 have lp : ∀ (j i m0 : Nat),j < m0 → i + j = s.size → Bx h (tw n m0 h s i (setLow h h.next)):=by
  intro j
  induction j with
  | zero =>
   intro i m0 hj hi
   obtain ⟨m0,rfl⟩ : ∃ q,m0 = q + 1:=⟨m0 - 1,by omega⟩
   refine Bx.imp tz ?_
   simp only [dl,dF (show ¬ (i : Int) < s.size by omega),cond_false,dy W]
   repeat' first | exact Bx.leaf | (refine Bx.cnd (fun _ => ?_) (fun _ => ?_))
  | succ j ih =>
   intro i m0 hj hi
   obtain ⟨m0,rfl⟩ : ∃ q,m0 = q + 1:=⟨m0 - 1,by omega⟩
   obtain ⟨v,hv⟩:=GP s i (by omega)
   obtain ⟨r,hr⟩:=GO n (by omega) (setLow h h.next) v
   obtain ⟨k,hk⟩:=HZ n (by omega) (setLow h h.next) v 10
   have hh:=ih (i + 1) m0 (by omega) (by omega)
   refine Bx.imp tz ?_
   simp only [dl,du (show (i : Int) < s.size by omega),ak,ae,an,au,ap,aq,cond_true,cond_false,hv,hr,hk,dy W,dv (show i < 9223372036854775807 by omega)]
   repeat' first | exact Bx.leaf | exact hh | (refine Bx.cnd (fun _ => ?_) (fun _ => ?_))
 refine Bx.imp FU ?_
 exact lp s.size 0 n (by omega) (by rw [Nat.zero_add])
theorem Jv (N : Nat) (h : AH) (H : WF h) (a : Option Addr) (m c : Nat) (L : List Int) (R : RI h a L) (hm : m = L.length) (hN : m + 2 < N) (hx : m < 9223372036854775807) (k : Int) : Bx h (az Tryz.prog N 15 [.slice a m c,.int .i64 k] h):=by
 obtain ⟨n,rfl⟩ : ∃ n,N = n + 1:=⟨N - 1,by omega⟩
 have W:=Wk.start H
 have lp : ∀ (j i m0 : Nat),j < m0 → i + j = m → Bx h (wK n m0 h a m c k i (setLow h h.next)):=by
  intro j
  induction j with
  | zero =>
   intro i m0 hj hi
   obtain ⟨m0,rfl⟩ : ∃ q,m0 = q + 1:=⟨m0 - 1,by omega⟩
   refine Bx.imp s8 ?_
   simp only [dl,dF (show ¬ (i : Int) < m by omega),cond_false,dy W]
   exact Bx.leaf
  | succ j ih =>
   intro i m0 hj hi
   obtain ⟨m0,rfl⟩ : ∃ q,m0 = q + 1:=⟨m0 - 1,by omega⟩
   obtain ⟨x,hx⟩ : ∃ x,L[i]? = some x:=⟨_,List.getElem?_eq_getElem (by omega)⟩
   obtain ⟨β1,o1,p1,p2⟩:=R.wk H W i x hx
   have p2:=p2 0 _ rfl
   have hh:=ih (i + 1) m0 (by omega) (by omega)
   refine Bx.imp s8 ?_
   have eb:=aK (i:=(i : Int)) (n:=m) (by omega) (by omega)
   rw [p1] at hh ⊢
   simp only [dl,du (show (i : Int) < m by omega),ak,ae,an,au,ap,aq,cond_true,cond_false,eb,Int.toNat_natCast,aj,p2,right n (by omega),dy W,dv (show i < 9223372036854775807 by omega)]
   exact Bx.cnd (fun _ => Bx.leaf) (fun _ => hh)
 refine Bx.imp FG ?_
 exact lp m 0 n (by omega) (by rw [Nat.zero_add])
theorem GQ {g : AH} (H : WF g) {a : Option Addr} {n c z G : Nat} {cs : List Value} (R : it g a n c z G cs) (hl : g.low ≤ G) {o : Nat} {vs : List Value} (hf : o + vs.length ≤ cs.length) (hv : vs ≠ []) :
  ∃ β g',a = some ⟨β,0,none⟩ ∧ di g ⟨β,o,none⟩ vs = some g' ∧ it g' a n c z G (putAt cs o vs) ∧ Ch g g' [β,G] ∧ g'.low = g.low ∧ g'.next = g.next ∧ G ≤ β ∧ β < g.next:=by
 rcases R with ⟨_,_,_,e⟩ | ⟨β,e,r1,r2,r3,r4,r5,r6⟩
 ·subst e
  cases vs with
  | nil => exact absurd rfl hv
  | cons v vs => simp at hf
 ·have hr : g.rd β = some ⟨cs,z,G,false⟩:=dp r5 r6
  have hlow : Nat.blt G g.low = false:=by
   cases e : Nat.blt G g.low with
   | false => rfl
   | true =>
    have:=Nat.le_of_ble_eq_true e
    omega
  obtain ⟨g',hw⟩ : ∃ g',g.wr β ⟨cs,z,G,false⟩ (putAt cs o vs) = some g':=⟨_,rfl⟩
  obtain ⟨_,q2,q3,q4,q5⟩:=dP hr hw
  have M:=bH.wr H hr hw
  refine ⟨β,g',e,?_,.inr ⟨β,e,by rw [j3 hf,r1],r2,r3,by omega,by rw [q3,if_pos rfl],?_⟩,⟨fun γ hγ => ⟨by rw [q3,if_neg (DH hγ)],q4 γ (Kw hγ)⟩,by omega,M.wf⟩,?_,q2,r3,r4⟩
  ·unfold di
   simp only [hr,Option.bind_some,Nat.ble_eq_true_of_le hf,cond_true]
   exact hw
  ·unfold AH.wr at hw
   injection hw with hw
   subst hw
   show β ∈ (Tr.get (match g.members G with | [_] => g.grps | _ => g.grps.set G [β]) G).getD [G]
   split
   ·rename_i x hx
    exact r6
   ·rw [Tr.get_set,if_pos rfl]
    exact List.mem_singleton.2 rfl
  ·unfold AH.wr at hw
   injection hw with hw
   subst hw
   show cond (Nat.blt G g.low) G g.low = g.low
   rw [hlow]
   rfl
theorem GR {g g1 : AH} {a : Option Addr} {n c z G : Nat} {cs : List Value} (R : it g a n c z G cs) (F : Ch g g1 [g.next]) (hn : g1.next = g.next + 1) (hG : G ≤ g.next) :
  ∃ G',it g1 a n c z G' cs ∧ G' ≠ g.next ∧ G' ≤ g1.next ∧ G ≤ G':=by
 rcases R with ⟨e1,e2,e3,e4⟩ | ⟨β,e,r1,r2,r3,r4,r5,r6⟩
 ·exact ⟨g1.next,.inl ⟨e1,e2,e3,e4⟩,by omega,Nat.le_refl _,by omega⟩
 ·refine ⟨G,it.fr (.inr ⟨β,e,r1,r2,r3,r4,r5,r6⟩) F (by rw [List.mem_singleton]; omega) (fun β' h => ?_),by omega,by omega,Nat.le_refl _⟩
  rw [e] at h
  injection h with h
  injection h with h
  rw [List.mem_singleton]
  omega
theorem EQ {g : AH} {a : Option Addr} {n c G : Nat} {l : List ByteArray} (R : it g a n c 1 G (l.map .string)) {i : Nat} {x : ByteArray} (hx : l[i]? = some x) : At g a 1 i [.string x]:=by
 rcases R with ⟨_,_,_,e⟩ | ⟨β,e,r1,r2,r3,r4,r5,r6⟩
 ·have:=congrArg List.length e
  rw [List.length_map] at this
  rw [List.eq_nil_of_length_eq_zero this] at hx
  cases hx
 ·refine ⟨β,0,e,fun k y hy => ?_⟩
  have hk : k = 0:=by
   cases k with
   | zero => rfl
   | succ k => cases hy
  subst hk
  injection hy with hy
  subst hy
  have hr : g.rd β = some ⟨l.map .string,1,G,false⟩:=dp r5 r6
  unfold rdC
  simp only [hr,Option.bind_some]
  rw [Nat.add_zero,Nat.zero_add,Nat.mul_one,List.getElem?_map,hx]
  rfl
section
variable {h : AH} (H : WF h) {s : ByteArray} {b : Option Addr} {bn bc : Nat} {c : Option Addr} {cn cc : Nat} {d : Option Addr} {dn dc : Nat} {e : Option Addr} {en ec : Nat} {f : Option Addr} {fn fc : Nat}
 (n : Nat) (hn : 402 ≤ n) (Rc : RA h c cn) (Rd : RS h d dn) (hc : cn ≤ 100) (hd : dn ≤ 100)
 include hn
theorem Jw (g : AH) (W : Wk h g) (Of : cp g h.next [.string s,.slice b bn bc,.slice c cn cc,.slice d dn dc,.slice e en ec,.slice f fn fc]) {a : Option Addr} {nn nc G : Nat} {l : List ByteArray} (R : it g a nn nc 1 G (l.map .string)) (hl : l.length = nn) (hnn : nn ≤ 200) (hs : ∀ x ∈ l,x.size < 100) :
  ∀ (j i m0 : Nat),j < m0 → i + j = nn → Bx h (xe n m0 h ⟨h.next,0,none⟩ a nn nc i g):=by
 intro j
 induction j with
 | zero =>
  intro i m0 hj hi
  obtain ⟨m0,rfl⟩ : ∃ q,m0 = q + 1:=⟨m0 - 1,by omega⟩
  refine Bx.imp tu ?_
  simp only [Of.rd,Nat.zero_add,Nat.add_zero,List.getElem?_cons_zero,List.getElem?_cons_succ,aj,Nat.reduceAdd,ak,ae,an,au,ap,aq,cond_true,cond_false,dl,dF (show ¬ (i : Int) < nn by omega),dy W]
  repeat' first | exact Bx.leaf | (refine Bx.cnd (fun _ => ?_) (fun _ => ?_))
 | succ j ih =>
  intro i m0 hj hi
  obtain ⟨m0,rfl⟩ : ∃ q,m0 = q + 1:=⟨m0 - 1,by omega⟩
  obtain ⟨x,hx⟩ : ∃ x,l[i]? = some x:=⟨_,List.getElem?_eq_getElem (by omega)⟩
  obtain ⟨β1,o1,p1,p2⟩:=EQ R hx
  have p2:=p2 0 _ rfl
  have hxs:=hs x (List.mem_of_getElem? hx)
  obtain ⟨r,hr⟩:=om n g W.wf x (by omega) (by omega)
  have hh:=ih (i + 1) m0 (by omega) (by omega)
  have eb:=aK (i:=(i : Int)) (n:=nn) (by omega) (by omega)
  have h6 : ∀ (u k m1 : Nat),u < m1 → k + u = i → Bx h (xg n m1 m0 h ⟨h.next,0,none⟩ a nn nc i k g):=by
   intro u
   induction u with
   | zero =>
    intro k m1 hu hk
    obtain ⟨m1,rfl⟩ : ∃ q,m1 = q + 1:=⟨m1 - 1,by omega⟩
    refine Bx.imp tv ?_
    simp only [dF (show ¬ (k : Int) < i by omega),cond_false,dv (show i < 9223372036854775807 by omega)]
    exact hh
   | succ u iu =>
    intro k m1 hu hk
    obtain ⟨m1,rfl⟩ : ∃ q,m1 = q + 1:=⟨m1 - 1,by omega⟩
    obtain ⟨y,hy⟩ : ∃ y,l[k]? = some y:=⟨_,List.getElem?_eq_getElem (by omega)⟩
    obtain ⟨β2,o2,q1,q2⟩:=EQ R hy
    have q2:=q2 0 _ rfl
    rw [p1] at q1
    injection q1 with q1
    injection q1 with q3 q4
    subst q3
    subst q4
    have h7:=iu (k + 1) m1 (by omega) (by omega)
    refine Bx.imp tv ?_
    have eb1:=aK (i:=(k : Int)) (n:=nn) (by omega) (by omega)
    rw [p1] at h7 ⊢
    simp only [du (show (k : Int) < i by omega),ak,ae,an,au,ap,aq,cond_true,cond_false,eb,eb1,Int.toNat_natCast,aj,p2,q2,dy W,dv (show k < 9223372036854775807 by omega)]
    exact Bx.cnd (fun _ => Bx.leaf) (fun _ => h7)
  have h60:=h6 i 0 n (by omega) (by rw [Nat.zero_add])
  refine Bx.imp tu ?_
  rw [p1] at h60 ⊢
  simp only [Nat.zero_add,Nat.add_zero,List.getElem?_cons_zero,List.getElem?_cons_succ,aj,Nat.reduceAdd,ak,ae,an,au,ap,aq,cond_true,cond_false,dl,du (show (i : Int) < nn by omega),dy W,eb,Int.toNat_natCast,p2,hr]
  exact Bx.cnd (fun _ => Bx.leaf) (fun _ => h60)
 include H Rd hd
theorem Jx : ∀ (j i m0 : Nat) (g : AH) (a : Option Addr) (nn nc G : Nat) (l : List ByteArray),j < m0 → i + j = dn → Wk h g → cp g h.next [.string s,.slice b bn bc,.slice c cn cc,.slice d dn dc,.slice e en ec,.slice f fn fc] → it g a nn nc 1 G (l.map .string) → l.length = nn → nn + j ≤ 200 → (∀ x ∈ l,x.size < 100) → h.next < G → G ≤ g.next →
  Bx h (w9 n m0 h ⟨h.next,0,none⟩ a nn nc i g):=by
 intro j
 induction j with
 | zero =>
  intro i m0 g a nn nc G l hj hi W Of R hl hnn hs hG1 hG2
  obtain ⟨m0,rfl⟩ : ∃ q,m0 = q + 1:=⟨m0 - 1,by omega⟩
  have h4:=Jw n hn g W Of R hl (by omega) hs nn 0 n (by omega) (by rw [Nat.zero_add])
  refine Bx.imp tt ?_
  simp only [Of.rd,Nat.zero_add,Nat.add_zero,List.getElem?_cons_zero,List.getElem?_cons_succ,aj,Nat.reduceAdd,ak,ae,an,au,ap,aq,cond_true,cond_false,dl,dF (show ¬ (i : Int) < dn by omega)]
  exact h4
 | succ j ih =>
  intro i m0 g a nn nc G l hj hi W Of R hl hnn hs hG1 hG2
  obtain ⟨m0,rfl⟩ : ∃ q,m0 = q + 1:=⟨m0 - 1,by omega⟩
  obtain ⟨x,wd,bo,hxs,β1,o1,p1,p2⟩:=Rd.wk H W i (by omega)
  have p3:=p2 0 _ rfl
  obtain ⟨g1,g2,a',G',k1,k2,k3,k4,k5,k6,k7,k8,k9,_⟩:=(y7 W).app (by_:=16) (Nat.le_refl _) R (show h.next ≤ G by omega) hG2 (vs:=[.string x]) rfl (by omega) (by omega)
  have W2:=BX k4
  have Of2:=Of.fr k9 (by have:=W.nxt; simp only [List.mem_cons,List.not_mem_nil,or_false]; omega)
  obtain ⟨x2,wd2,bo2,hxs2,β2,o2,q1,q2⟩:=Rd.wk H W2 i (by omega)
  have q3:=q2 1 _ rfl
  have hG' : h.next < G':=by
   by_cases ha : a = none
   ·have:=k8 ha
    have:=W.nxt
    have:=Of.lt W.wf
    omega
   ·rw [k7 ha]
    exact hG1
  have hh:=ih (i + 1) m0 g2 a' (nn + 1) aG G' (l ++ [x]) (by omega) (by omega) W2 Of2 (by rw [List.map_append]; exact k3) (by rw [List.length_append,hl]; rfl) (by omega) (fun y hy => by
   rcases List.mem_append.1 hy with hy | hy
   ·exact hs y hy
   ·rw [List.mem_singleton.1 hy]; exact hxs) hG' k6
  refine Bx.imp tt ?_
  have eb:=aK (i:=(i : Int)) (n:=dn) (by omega) (by omega)
  simp only [Of.rd,Nat.zero_add,Nat.add_zero,List.getElem?_cons_zero,List.getElem?_cons_succ,aj,Nat.reduceAdd,ak,ae,an,au,ap,aq,cond_true,cond_false,dl,du (show (i : Int) < dn by omega),p1,eb,Int.toNat_natCast,vH p3,p3,k1,k2]
  rw [p1] at q1
  injection q1 with q1
  injection q1 with q4 q5
  subst q4
  subst q5
  simp only [Of2.rd,Nat.zero_add,Nat.add_zero,List.getElem?_cons_zero,List.getElem?_cons_succ,aj,Nat.reduceAdd,ak,ae,an,au,ap,aq,cond_true,cond_false,p1,eb,Int.toNat_natCast,vH q3,right n (by omega),dy W2,dv (show i < 9223372036854775807 by omega)]
  exact Bx.cnd (fun _ => Bx.leaf) (fun _ => hh)
 include Rc hc
theorem Jy : ∀ (j i m0 : Nat) (g : AH) (a : Option Addr) (nn nc G : Nat) (l : List ByteArray),j < m0 → i + j = cn → Wk h g → cp g h.next [.string s,.slice b bn bc,.slice c cn cc,.slice d dn dc,.slice e en ec,.slice f fn fc] → it g a nn nc 1 G (l.map .string) → l.length = nn → nn + j ≤ 100 → (∀ x ∈ l,x.size < 100) → h.next < G → G ≤ g.next →
  Bx h (pT n m0 h ⟨h.next,0,none⟩ a nn nc i g):=by
 intro j
 induction j with
 | zero =>
  intro i m0 g a nn nc G l hj hi W Of R hl hnn hs hG1 hG2
  obtain ⟨m0,rfl⟩ : ∃ q,m0 = q + 1:=⟨m0 - 1,by omega⟩
  have h4:=Jx H n hn Rd hd dn 0 n g a nn nc G l (by omega) (by rw [Nat.zero_add]) W Of R hl (by omega) hs hG1 hG2
  refine Bx.imp tq ?_
  simp only [Of.rd,Nat.zero_add,Nat.add_zero,List.getElem?_cons_zero,List.getElem?_cons_succ,aj,Nat.reduceAdd,ak,ae,an,au,ap,aq,cond_true,cond_false,dl,dF (show ¬ (i : Int) < cn by omega)]
  exact h4
 | succ j ih =>
  intro i m0 g a nn nc G l hj hi W Of R hl hnn hs hG1 hG2
  obtain ⟨m0,rfl⟩ : ∃ q,m0 = q + 1:=⟨m0 - 1,by omega⟩
  obtain ⟨x,v1,v2,v3,v4,hxs,β1,o1,p1,p2⟩:=Rc.wk H W i (by omega)
  have e0:=p2 0 _ rfl
  have e1:=p2 1 _ rfl
  have e2:=p2 2 _ rfl
  have e3:=p2 3 _ rfl
  have e4:=p2 4 _ rfl
  have hF:=Of.lt W.wf
  obtain ⟨g1,k1,F1,O1,l1,n1⟩:=cS W.wf [.string (ByteArray.mk #[]),.int .i64 0,.int .i64 0,.int .i64 0,.int .i64 0] 0
  obtain ⟨g2,k2,F2,O2,l2,n2⟩:=ir (o:=0) (vs:=[.string x,.int .i64 v1,.int .i64 v2,.int .i64 v3,.int .i64 v4]) F1.wf O1 (by rw [l1,W.low]; exact W.nxt) (Nat.le_refl _)
  have O2 : cp g2 g.next [.string x,.int .i64 v1,.int .i64 v2,.int .i64 v3,.int .i64 v4]:=O2
  obtain ⟨G1,R1,a1,a2,a3⟩:=GR R F1 n1 hG2
  have R2 : it g2 a nn nc 1 G1 (l.map .string):=by
   rcases R1 with R1 | ⟨β,e,r1,r2,r3,r4,r5,r6⟩
   ·exact .inl R1
   ·have hβ : β ≠ g.next:=fun h => by
     subst h
     rcases R with ⟨q,_⟩ | ⟨β',q,_,_,_,r7,_⟩
     ·rw [q] at e
      cases e
     ·rw [q] at e
      injection e with e
      injection e with e
      omega
    refine it.fr (.inr ⟨β,e,r1,r2,r3,r4,r5,r6⟩) F2 (by rw [List.mem_singleton]; omega) (fun β' h => ?_)
    rw [e] at h
    injection h with h
    injection h with h
    rw [List.mem_singleton]
    omega
  have W1 : Wk h g1:=W.fr F1 l1 fun z hz => by rw [List.mem_singleton.1 hz]; exact W.nxt
  have W2 : Wk h g2:=W1.fr F2 l2 fun z hz => by rw [List.mem_singleton.1 hz]; exact W.nxt
  have Of2:=(Of.fr F1 (by rw [List.mem_singleton]; omega)).fr F2 (by rw [List.mem_singleton]; omega)
  obtain ⟨g3,g4,a',G',k3,k4,k5,k6,k7,k8,k9,k10,k11,_⟩:=(y7 W2).app (by_:=16) (Nat.le_refl _) R2 (show h.next ≤ G1 by omega) (by omega) (vs:=[.string x]) rfl (by omega) (by omega)
  have W4:=BX k6
  have Of4:=Of2.fr k11 (by simp only [List.mem_cons,List.not_mem_nil,or_false]; omega)
  have OA:=O2.fr k11 (by simp only [List.mem_cons,List.not_mem_nil,or_false]; omega)
  have hG' : h.next < G':=by
   by_cases ha : a = none
   ·have:=k10 ha
    omega
   ·rw [k9 ha]
    omega
  have hh:=ih (i + 1) m0 g4 a' (nn + 1) aG G' (l ++ [x]) (by omega) (by omega) W4 Of4 (by rw [List.map_append]; exact k5) (by rw [List.length_append,hl]; rfl) (by omega) (fun y hy => by
   rcases List.mem_append.1 hy with hy | hy
   ·exact hs y hy
   ·rw [List.mem_singleton.1 hy]; exact hxs) hG' k8
  have hi1 : aT .i64 (i : Int) 1 = ((i + 1 : Nat) : Int):=dv (by omega)
  have h5 : ∀ t,Bx h (xf n m0 h ⟨h.next,0,none⟩ a' (nn + 1) aG i ⟨g.next,0,none⟩ t g4):=fun t => by
   refine Bx.imp AR ?_
   simp only [OA.rd,Nat.zero_add,Nat.add_zero,List.getElem?_cons_zero,List.getElem?_cons_succ,aj,Nat.reduceAdd,ak,ae,an,au,ap,aq,cond_true,cond_false,dy W4,hi1]
   repeat' first | exact Bx.leaf | exact hh | (refine Bx.cnd (fun _ => ?_) (fun _ => ?_))
  have h3 : ∀ u t,Bx h (xd n m0 h ⟨h.next,0,none⟩ a' (nn + 1) aG i ⟨g.next,0,none⟩ u t g4):=fun u t => by
   refine Bx.imp AQ ?_
   simp only [OA.rd,Nat.zero_add,Nat.add_zero,List.getElem?_cons_zero,List.getElem?_cons_succ,aj,Nat.reduceAdd,ak,ae,an,au,ap,aq,cond_true,cond_false,dy W4,hi1]
   repeat' first | exact Bx.leaf | exact hh | exact h5 _ | (refine Bx.cnd (fun _ => ?_) (fun _ => ?_))
  have h1 : Bx h (AN n m0 h ⟨h.next,0,none⟩ a' (nn + 1) aG i ⟨g.next,0,none⟩ g4):=by
   refine Bx.imp AP ?_
   simp only [OA.rd,Nat.zero_add,Nat.add_zero,List.getElem?_cons_zero,List.getElem?_cons_succ,aj,Nat.reduceAdd,ak,ae,an,au,ap,aq,cond_true,cond_false,dy W4]
   repeat' first | exact Bx.leaf | exact h3 _ _ | (refine Bx.cnd (fun _ => ?_) (fun _ => ?_))
  refine Bx.imp tq ?_
  have eb:=aK (i:=(i : Int)) (n:=cn) (by omega) (by omega)
  simp only [Of.rd,Nat.zero_add,Nat.add_zero,List.getElem?_cons_zero,List.getElem?_cons_succ,aj,Nat.reduceAdd,ak,ae,an,au,ap,aq,cond_true,cond_false,dl,du (show (i : Int) < cn by omega),p1,eb,Int.toNat_natCast,e0,e1,e2,e3,e4,an]
  rw [show (aF g [.string (ByteArray.mk (List.toArray [])),.int .i64 0,.int .i64 0,.int .i64 0,.int .i64 0] 0) = some (g.next,g1) from k1]
  simp only [aq,k2,O2.rd,Nat.zero_add,Nat.add_zero,List.getElem?_cons_zero,List.getElem?_cons_succ,aj,Nat.reduceAdd,an,k3,k4,OA.rd,ak,ae,an,au,ap,aq,cond_true,cond_false,right n (by omega),dy W4]
  repeat' first | exact Bx.leaf | exact h1 | (refine Bx.cnd (fun _ => ?_) (fun _ => ?_))
theorem Ca : Bx h (az Tryz.prog (n + 1) 14 [.agg #[.string s,.slice b bn bc,.slice c cn cc,.slice d dn dc,.slice e en ec,.slice f fn fc]] h):=by
 have h0:=Jy H n hn Rc Rd hc hd cn 0 n (loc h [[.string s,.slice b bn bc,.slice c cn cc,.slice d dn dc,.slice e en ec,.slice f fn fc]]) none 0 0 (h.next + 1) [] (by omega) (by rw [Nat.zero_add]) (dZ H _) (cP H [[.string s,.slice b bn bc,.slice c cn cc,.slice d dn dc,.slice e en ec,.slice f fn fc]] 0 _ rfl) (it.nil _ _ _) rfl (by omega) (fun x hx => by cases hx) (by omega) (Nat.le_refl _)
 refine Bx.imp FT ?_
 simp only [bu h,aH,aD,aI,aW,aE,aS,bA,bJ,Nat.beq_refl,aj,List.nil_append,List.cons_append,List.length_cons,List.length_nil,Nat.zero_add,Nat.add_zero,Nat.reduceAdd,ak,ae,an,au,ap,aq,cond_true,cond_false]
 exact h0
end
def BR (g : AH) (a : Option Addr) (n c G : Nat) : Prop:=∃ l : List Bool,l.length = n ∧ it g a n c 1 G (l.map .bool)
theorem BR.rt {g : AH} {a : Option Addr} {n c G : Nat} (R : BR g a n c G) : RT g a n:=by
 obtain ⟨l,hl,R⟩:=R
 intro i hi
 rcases R with ⟨_,_,_,e⟩ | ⟨β,e,r1,r2,r3,r4,r5,r6⟩
 ·have:=congrArg List.length e
  rw [List.length_map] at this
  simp only [List.length_nil] at this
  omega
 ·obtain ⟨x,hx⟩ : ∃ x,l[i]? = some x:=⟨_,List.getElem?_eq_getElem (by omega)⟩
  refine ⟨x,β,0,e,fun k y hy => ?_⟩
  have hk : k = 0:=by
   cases k with
   | zero => rfl
   | succ k => cases hy
  subst hk
  injection hy with hy
  subst hy
  have hr : g.rd β = some ⟨l.map .bool,1,G,false⟩:=dp r5 r6
  unfold rdC
  simp only [hr,Option.bind_some]
  rw [Nat.add_zero,Nat.zero_add,Nat.mul_one,List.getElem?_map,hx]
  rfl
theorem BR.bnd {g : AH} {a : Option Addr} {n c G : Nat} (R : BR g a n c G) : a = none ∨ (G ≤ rb a ∧ rb a < g.next):=by
 obtain ⟨_,_,R⟩:=R
 rcases R with R | ⟨β,e,r1,r2,r3,r4,r5,r6⟩
 ·exact .inl R.1
 ·rw [e]
  exact .inr ⟨r3,r4⟩
theorem BR.fr {g g' : AH} {a : Option Addr} {n c G : Nat} {L : List Nat} (R : BR g a n c G) (F : Ch g g' L) (h : a = none ∨ ∀ x ∈ L,x < G ∨ rb a < x) : BR g' a n c G:=by
 obtain ⟨l,hl,R⟩:=R
 refine ⟨l,hl,?_⟩
 rcases R with R | ⟨β,e,r1,r2,r3,r4,r5,r6⟩
 ·exact .inl R
 ·have h:=h.resolve_left (by rw [e]; intro h; cases h)
  have hb : rb a = β:=by rw [e]; rfl
  rw [hb] at h
  exact it.fr (.inr ⟨β,e,r1,r2,r3,r4,r5,r6⟩) F (fun hx => by have:=h _ hx; omega) (fun β' h' hx => by
   rw [e] at h'
   injection h' with h'
   injection h' with h'
   have:=h _ hx
   omega)
theorem BR.rd {g : AH} {a : Option Addr} {n c G : Nat} (R : BR g a n c G) {i : Int} (h0 : 0 ≤ i) (h1 : i < n) : ∃ x,∀ {ρ : Type} (K : Bool → Option ρ),(a.bind fun a0 => cond (bM i n) ((gB (rdC g (Addr.add a0 (i.toNat * 1)) 0)).bind K) none) = K x:=by
 obtain ⟨x,β,o,e1,e2⟩:=R.rt i.toNat (by omega)
 have e2:=e2 0 _ rfl
 refine ⟨x,fun K => ?_⟩
 rw [e1,aq,aK h0 h1,cond_true,aj,e2,ae,aq]
theorem BR.st {g : AH} (H : WF g) {a : Option Addr} {n c G : Nat} (R : BR g a n c G) (hl : g.low ≤ G) {i : Int} (h0 : 0 ≤ i) (h1 : i < n) :
  ∃ g',(∀ {ρ : Type} (K : AH → Option ρ),(a.bind fun a0 => cond (bM i n) ((di g (Addr.add a0 (i.toNat * 1)) [.bool true]).bind K) none) = K g') ∧ BR g' a n c G ∧ Ch g g' [rb a,G] ∧ g'.low = g.low ∧ g'.next = g.next ∧ G ≤ rb a ∧ rb a < g.next:=by
 obtain ⟨l,hl2,R⟩:=R
 obtain ⟨β,g',e,k1,k2,k3,k4,k5,k6,k7⟩:=GQ H R hl (o:=i.toNat * 1) (vs:=[.bool true]) (by rw [List.length_map,List.length_cons,List.length_nil]; omega) (by intro h; cases h)
 have hb : rb a = β:=by rw [e]; rfl
 refine ⟨g',fun K => ?_,⟨l.set i.toNat true,by rw [List.length_set]; exact hl2,?_⟩,by rw [hb]; exact k3,k4,k5,by rw [hb]; exact k6,by rw [hb]; exact k7⟩
 ·rw [e,aq,aK h0 h1,cond_true,aj,Nat.zero_add,k1,aq]
 ·have : putAt (l.map Go.Value.bool) (i.toNat * 1) [.bool true] = (l.set i.toNat true).map .bool:=by
   rw [Nat.mul_one,List.map_set]
   have hk : i.toNat < (l.map Go.Value.bool).length:=by rw [List.length_map]; omega
   clear k1 k2 R hl2
   generalize i.toNat = k at hk
   generalize l.map Go.Value.bool = m at hk
   induction k generalizing m with
   | zero =>
    cases m with
    | nil => cases hk
    | cons x m => rfl
   | succ k ih =>
    cases m with
    | nil => rfl
    | cons x m =>
     show x :: putAt m k _ = x :: m.set k _
     rw [ih m (Nat.lt_of_succ_lt_succ hk)]
  rw [← this]
  exact k2
theorem BR.app {h g : AH} (W : Wk h g) {a : Option Addr} {n c G : Nat} (R : BR g a n c G) (hG : h.next ≤ G) (hn : n < 1000) :
  ∃ g1 g2 a' G' L,aF g [.bool false] 1 = some (g.next,g1) ∧ dg 1 1 (.slice a n c) (.slice (some ⟨g.next,0,none⟩) 1 1) g1 = some ((a',n + 1,aG),g2) ∧ BR g2 a' (n + 1) aG G' ∧ Ch g g2 L ∧ g2.low = g.low ∧ (∀ x ∈ L,g.next ≤ x ∨ (a ≠ none ∧ x = G)) ∧ (G' = G ∨ g.next ≤ G'):=by
 have hb:=R.bnd
 obtain ⟨l,hl,R⟩:=R
 by_cases ha : a = none
 ·have R0 : it g a n c 1 g.next (l.map .bool):=by
   rcases R with R | ⟨β,e,_⟩
   ·exact .inl R
   ·rw [ha] at e
    cases e
  obtain ⟨g1,g2,a',G',k1,k2,k3,k4,k5,k6,k7,k8,k9,k10,_⟩:=(y7 W).app (by_:=1) (Nat.le_refl _) R0 W.nxt (Nat.le_refl _) (vs:=[.bool false]) rfl (by omega) (by omega)
  refine ⟨g1,g2,a',G',_,k1,k2,⟨l ++ [false],by rw [List.length_append,hl]; rfl,by rw [List.map_append]; exact k3⟩,k9,k4.low.trans W.low.symm,fun x hx => .inl ?_,.inr (k8 ha)⟩
  simp only [List.mem_cons,List.not_mem_nil,or_false] at hx
  omega
 ·have hb:=hb.resolve_left ha
  obtain ⟨g1,g2,a',G',k1,k2,k3,k4,k5,k6,k7,k8,k9,k10,_⟩:=(y7 W).app (by_:=1) (Nat.le_refl _) R hG (by omega) (vs:=[.bool false]) rfl (by omega) (by omega)
  refine ⟨g1,g2,a',G',_,k1,k2,⟨l ++ [false],by rw [List.length_append,hl]; rfl,by rw [List.map_append]; exact k3⟩,k9,k4.low.trans W.low.symm,fun x hx => ?_,.inl (k7 ha)⟩
  simp only [List.mem_cons,List.not_mem_nil,or_false] at hx
  rcases hx with rfl | rfl | rfl
  ·exact .inl (Nat.le_refl _)
  ·exact .inl (Nat.le_succ _)
  ·exact .inr ⟨ha,rfl⟩
section
variable {h : AH} (H : WF h) {s : ByteArray} {b : Option Addr} {bn bc : Nat} {c : Option Addr} {cn cc : Nat} {d : Option Addr} {dn dc : Nat} {e : Option Addr} {en ec : Nat} {f : Option Addr} {fn fc : Nat}
 (n : Nat) (hn : 500 ≤ n) {WL : List Int} {LB : List ba} {EL : List Int} (RW : RI h b WL) (hb : bn = WL.length) (hbn : bn < 400) (RR : RI h e EL) (he : en = EL.length) (RK : RB h f LB) (hf : fn = LB.length) (hfn : fn < 400) (Rc : RA h c cn) (Rd : RS h d dn)
 (hB : ∀ B ∈ LB,B.params.length < 100 ∧ B.insts.length < 100 ∧ B.to.length < 100 ∧ B.rets.length < 100 ∧ (∀ x ∈ B.to,x.args.length < 100) ∧ ∀ x ∈ B.insts,x.args.length < 100)
 {da : Option Addr} {dk GD : Nat}
structure VS (h g : AH) (fc0 : List Go.Value) (da : Option Addr) (bn dk GD : Nat) : Prop where
 w : Wk h g
 o : cp g h.next fc0
 d : BR g da bn dk GD
 l : h.next < GD
theorem VS.fr {h g g' : AH} {fc0 : List Go.Value} {L : List Nat} (V : VS h g fc0 da bn dk GD) (F : Ch g g' L) (hl : g'.low = g.low) (h1 : ∀ x ∈ L,h.next < x) (h2 : da = none ∨ ∀ x ∈ L,x < GD ∨ rb da < x) : VS h g' fc0 da bn dk GD :=
 ⟨V.w.fr F hl fun x hx => Nat.le_of_lt (h1 x hx),V.o.fr F fun hx => absurd (h1 _ hx) (by omega),V.d.fr F h2,V.l⟩
 include H hn RW hb RR he RK hf Rc Rd hB
theorem Jz {B : ba} (hBm : B ∈ LB) {pa pc ia ic ta tc ra rc} (m1 : Nat) (bi : Int) (X : Nat) {ka : Option Addr} {kk GK : Nat}
  (ih : ∀ g,VS h g [.string s,.slice b bn bc,.slice c cn cc,.slice d dn dc,.slice e en ec,.slice f fn fc] da bn dk GD → Bx h (vD n m1 h ⟨h.next,0,none⟩ da bn dk (aT .i64 bi 1) g))
  (RN0 : RN h ia B.insts) (RE0 : RE h ta B.to) (RR0 : RI h ra B.rets) (hX : h.next < X) (hX2 : da = none ∨ rb da < X) (hK : X < GK) :
  ∀ (j i m0 : Nat) (g : AH),j < m0 → i + j = B.insts.length → VS h g [.string s,.slice b bn bc,.slice c cn cc,.slice d dn dc,.slice e en ec,.slice f fn fc] da bn dk GD → cp g X [.slice pa B.params.length pc,.slice ia B.insts.length ic,.int .i64 B.kind,.int .i64 B.cond,.slice ta B.to.length tc,.slice ra B.rets.length rc,.int .i64 B.pipe,.int .i64 B.unr,.int .i64 B.line] →
  BR g ka bn kk GK → Bx h (AM n m0 m1 h ⟨h.next,0,none⟩ da bn dk bi ⟨X,0,none⟩ ka bn kk i g):=by
 obtain ⟨q1,q2,q3,q4,q5,q6⟩:=hB B hBm
 intro j
 induction j with
 | zero =>
  intro i m0 g hj hi V OX K
  obtain ⟨m0,rfl⟩ : ∃ q,m0 = q + 1:=⟨m0 - 1,by omega⟩
  have W:=V.w
  have Of:=V.o
  obtain ⟨r,hr⟩:=vI W.wf (n - 3) (by omega) (RW.wk H W) hb (RK.wk H W) hf K.rt (kc:=kk) (s:=s) (bc:=bc) (c:=c) (cn:=cn) (cc:=cc) (d:=d) (dn:=dn) (dc:=dc) (ec:=ec) (fc:=fc) (RR.wk H W) he B.kind B.cond (RE0.wk H W) rfl q3 q5 (RR0.wk H W) rfl q4 (tc:=tc) (rc:=rc)
  rw [show n - 3 + 3 = n by omega] at hr
  have hh:=ih g V
  refine Bx.imp w8 ?_
  simp only [Of.rd,OX.rd,Nat.zero_add,Nat.add_zero,List.getElem?_cons_zero,List.getElem?_cons_succ,aj,Nat.reduceAdd,ak,ae,an,au,ap,aq,cond_true,cond_false,dl,dF (show ¬ (i : Int) < B.insts.length by omega),hr,dy W]
  exact Bx.cnd (fun _ => Bx.leaf) (fun _ => hh)
 | succ j iu =>
  intro i m0 g hj hi V OX K
  obtain ⟨m0,rfl⟩ : ∃ q,m0 = q + 1:=⟨m0 - 1,by omega⟩
  have W:=V.w
  have Of:=V.o
  have hF:=Of.lt W.wf
  have hXg:=OX.lt W.wf
  obtain ⟨x,hx⟩ : ∃ x,B.insts[i]? = some x:=⟨_,List.getElem?_eq_getElem (by omega)⟩
  have hxm:=q6 x (List.mem_of_getElem? hx)
  obtain ⟨aa,ac,A,RX⟩:=RN0 i x hx
  obtain ⟨β1,o1,p1,p2⟩:=A.wk H W
  have e0:=p2 0 _ rfl
  have e1:=p2 1 _ rfl
  have e2:=p2 2 _ rfl
  have e3:=p2 3 _ rfl
  have e4:=p2 4 _ rfl
  obtain ⟨g1,k1,F1,O1,l1,n1⟩:=cS W.wf [.int .i64 0,.int .i64 0,.slice none 0 0,.int .u64 0,.int .i64 0] 0
  obtain ⟨g2,k2,F2,O2,l2,n2⟩:=ir (o:=0) (vs:=[.int .i64 x.op,.int .i64 x.dest,.slice aa x.args.length ac,.int .u64 x.num,.int .i64 x.mem]) F1.wf O1 (by rw [l1,W.low]; exact W.nxt) (Nat.le_refl _)
  have O2 : cp g2 g.next [.int .i64 x.op,.int .i64 x.dest,.slice aa x.args.length ac,.int .u64 x.num,.int .i64 x.mem]:=O2
  have F12:=F1.trans F2
  have hm : ∀ z ∈ [g.next] ++ [g.next],z = g.next:=fun z hz => by simpa using hz
  have V2 : VS h g2 [.string s,.slice b bn bc,.slice c cn cc,.slice d dn dc,.slice e en ec,.slice f fn fc] da bn dk GD:=V.fr F12 (l2.trans l1) (fun z hz => by rw [hm z hz]; exact hF) (V.d.bnd.imp_right fun q z hz => by rw [hm z hz]; exact .inr q.2)
  have OX2:=OX.fr F12 (fun hz => by have:=hm _ hz; omega)
  have K2 : BR g2 ka bn kk GK:=K.fr F12 (K.bnd.imp_right fun q z hz => by rw [hm z hz]; exact .inr q.2)
  have W2:=V2.w
  have Of2:=V2.o
  obtain ⟨r,r1,r2⟩:=DY s b bn bc c cn cc d dn dc e en ec f fn fc n (by omega) g2 W2.wf aa x.args.length ac x.args rfl (RX.wk H W2) hxm ka kk K2.rt
  have h8 : ar x.op = x.args.length → r = true → (rs x.op = true → 0 ≤ x.dest ∧ x.dest < bn) → Bx h (DN n m0 m1 h ⟨h.next,0,none⟩ da bn dk bi ⟨X,0,none⟩ ka bn kk i ⟨g.next,0,none⟩ g2):=by
   intro ha hr hd
   have:=EK x.op
   obtain ⟨t,ht⟩:=ug W2.wf (n - 1) (by omega) (s:=s) (bc:=bc) (c:=c) (cc:=cc) (d:=d) (dc:=dc) (e:=e) (en:=en) (ec:=ec) (f:=f) (fn:=fn) (fc:=fc) (ic:=ac) (num:=x.num) (mem:=x.mem) (RW.wk H W2) hb (RX.wk H W2) rfl (by omega) (r2 hr) (Rc.wk H W2) (Rd.wk H W2) hd
   rw [show n - 1 + 1 = n by omega] at ht
   refine Bx.imp DR ?_
   simp only [Of2.rd,O2.rd,Nat.zero_add,Nat.add_zero,List.getElem?_cons_zero,List.getElem?_cons_succ,aj,Nat.reduceAdd,ak,ae,an,au,ap,aq,cond_true,cond_false,ht,vG n (by omega) g2,dy W2,dv (show i < 9223372036854775807 by omega)]
   refine Bx.cnd (fun _ => Bx.leaf) (fun _ => Bx.cnd (fun e5 => ?_) (fun _ => iu (i + 1) m0 g2 (by omega) (by omega) V2 OX2 K2))
   obtain ⟨d0,d1⟩:=hd e5
   obtain ⟨g3,s1,s2,s3,s4,s5,s6,s7⟩:=V2.d.st W2.wf (by rw [W2.low]; exact Nat.le_of_lt V2.l) d0 d1
   have hda : da ≠ none:=fun e => by
    obtain ⟨_,hl,R⟩:=V2.d
    rcases R with ⟨_,z,_⟩ | ⟨β,z,_⟩
    ·omega
    ·rw [e] at z
     cases z
   have hdX:=hX2.resolve_left hda
   have hm3 : ∀ z ∈ [rb da,GD],z < X ∧ h.next < z:=fun z hz => by
    have:=V2.l
    simp only [List.mem_cons,List.not_mem_nil,or_false] at hz
    rcases hz with rfl | rfl <;> omega
   have K3 : BR g3 ka bn kk GK:=K2.fr s3 (.inr fun z hz => .inl (by have:=hm3 z hz; omega))
   have W3 : Wk h g3:=W2.fr s3 s4 fun z hz => Nat.le_of_lt (hm3 z hz).2
   have Of3:=Of2.fr s3 (fun hz => by have:=hm3 _ hz; omega)
   have OX3:=OX2.fr s3 (fun hz => by have:=hm3 _ hz; omega)
   have O3:=O2.fr s3 (fun hz => by have:=hm3 _ hz; omega)
   obtain ⟨g4,t1,t2,t3,t4,t5,t6,t7⟩:=K3.st W3.wf (by rw [W3.low]; omega) d0 d1
   have hm4 : ∀ z ∈ [rb ka,GK],X < z:=fun z hz => by
    simp only [List.mem_cons,List.not_mem_nil,or_false] at hz
    rcases hz with rfl | rfl <;> omega
   have V4 : VS h g4 [.string s,.slice b bn bc,.slice c cn cc,.slice d dn dc,.slice e en ec,.slice f fn fc] da bn dk GD:=⟨W3.fr t3 t4 fun z hz => by have:=hm4 z hz; omega,Of3.fr t3 (fun hz => by have:=hm4 _ hz; omega),s2.fr t3 (.inr fun z hz => .inr (by have:=hm4 z hz; omega)),V2.l⟩
   have OX4:=OX3.fr t3 (fun hz => by have:=hm4 _ hz; omega)
   rw [s1]
   simp only [O3.rd,Nat.zero_add,Nat.add_zero,List.getElem?_cons_zero,List.getElem?_cons_succ,aj,Nat.reduceAdd,ak,ae,an,au,ap,aq,cond_true,cond_false]
   rw [t1]
   exact iu (i + 1) m0 g4 (by omega) (by omega) V4 OX4 t2
  have h7 : ar x.op = x.args.length → r = true → Bx h (FQ n m0 m1 h ⟨h.next,0,none⟩ da bn dk bi ⟨X,0,none⟩ ka bn kk i ⟨g.next,0,none⟩ g2):=by
   intro ha hr
   refine Bx.imp DQ ?_
   simp only [Of2.rd,O2.rd,Nat.zero_add,Nat.add_zero,List.getElem?_cons_zero,List.getElem?_cons_succ,aj,Nat.reduceAdd,ak,ae,an,au,ap,aq,cond_true,cond_false,vG n (by omega) g2,rg n (by omega) g2 W2.wf,dy W2]
   refine Bx.cnd (fun e5 => ?_) (fun e5 => Bx.cnd (fun _ => Bx.leaf) (fun _ => h8 ha hr fun h => by rw [e5] at h; cases h))
   refine Bx.cnd (fun _ => Bx.leaf) (fun e6 => ?_)
   have e6 : (bS 0 x.dest && bZ x.dest bn) = true:=by simpa using e6
   rw [Bool.and_eq_true] at e6
   obtain ⟨v,hv⟩:=V2.d.rd (kH e6.1) (lW e6.2)
   rw [hv]
   exact Bx.cnd (fun _ => Bx.leaf) (fun _ => h8 ha hr fun _ => ⟨kH e6.1,lW e6.2⟩)
  refine Bx.imp w8 ?_
  have eb:=aK (i:=(i : Int)) (n:=B.insts.length) (by omega) (by omega)
  simp only [Of.rd,OX.rd,Nat.zero_add,Nat.add_zero,List.getElem?_cons_zero,List.getElem?_cons_succ,aj,Nat.reduceAdd,ak,ae,an,au,ap,aq,cond_true,cond_false,dl,du (show (i : Int) < B.insts.length by omega),p1,eb,Int.toNat_natCast,e0,e1,e2,e3,e4,k1,k2,O2.rd,EM n (by omega),aH,aI,aE,Nat.beq_refl,Of2.rd,r1,dy W2]
  refine Bx.cnd (fun _ => Bx.leaf) (fun e5 => Bx.cnd (fun _ => Bx.leaf) (fun e6 => h7 (pW e5) (by simpa using e6)))
theorem JF {B : ba} (hBm : B ∈ LB) {pa pc ia ic ta tc ra rc} (m1 : Nat) (bi : Int) (X : Nat) {ka : Option Addr} {kk GK : Nat}
  (ih : ∀ g,VS h g [.string s,.slice b bn bc,.slice c cn cc,.slice d dn dc,.slice e en ec,.slice f fn fc] da bn dk GD → Bx h (vD n m1 h ⟨h.next,0,none⟩ da bn dk (aT .i64 bi 1) g))
  (RP0 : RI h pa B.params) (RN0 : RN h ia B.insts) (RE0 : RE h ta B.to) (RR0 : RI h ra B.rets) (hX : h.next < X) (hX2 : da = none ∨ rb da < X) (hK : X < GK) :
  ∀ (j i m0 : Nat) (g : AH),j < m0 → i + j = B.params.length → VS h g [.string s,.slice b bn bc,.slice c cn cc,.slice d dn dc,.slice e en ec,.slice f fn fc] da bn dk GD → cp g X [.slice pa B.params.length pc,.slice ia B.insts.length ic,.int .i64 B.kind,.int .i64 B.cond,.slice ta B.to.length tc,.slice ra B.rets.length rc,.int .i64 B.pipe,.int .i64 B.unr,.int .i64 B.line] →
  BR g ka bn kk GK → Bx h (DM n m0 m1 h ⟨h.next,0,none⟩ da bn dk bi ⟨X,0,none⟩ ka bn kk i g):=by
 obtain ⟨q1,q2,q3,q4,q5,q6⟩:=hB B hBm
 intro j
 induction j with
 | zero =>
  intro i m0 g hj hi V OX K
  obtain ⟨m0,rfl⟩ : ∃ q,m0 = q + 1:=⟨m0 - 1,by omega⟩
  have h6:=Jz H n hn RW hb RR he RK hf Rc Rd hB hBm m1 bi X ih RN0 RE0 RR0 hX hX2 hK B.insts.length 0 n g (by omega) (by rw [Nat.zero_add]) V OX K
  refine Bx.imp w7 ?_
  simp only [OX.rd,Nat.zero_add,Nat.add_zero,List.getElem?_cons_zero,List.getElem?_cons_succ,aj,Nat.reduceAdd,ak,ae,an,au,ap,aq,cond_true,cond_false,dl,dF (show ¬ (i : Int) < B.params.length by omega)]
  exact h6
 | succ j iu =>
  intro i m0 g hj hi V OX K
  obtain ⟨m0,rfl⟩ : ∃ q,m0 = q + 1:=⟨m0 - 1,by omega⟩
  have W:=V.w
  have Of:=V.o
  obtain ⟨x,hx⟩ : ∃ x,B.params[i]? = some x:=⟨_,List.getElem?_eq_getElem (by omega)⟩
  obtain ⟨β1,o1,p1,p2⟩:=RP0.wk H W i x hx
  have p2:=p2 0 _ rfl
  refine Bx.imp w7 ?_
  have eb:=aK (i:=(i : Int)) (n:=B.params.length) (by omega) (by omega)
  simp only [Of.rd,OX.rd,Nat.zero_add,Nat.add_zero,List.getElem?_cons_zero,List.getElem?_cons_succ,aj,Nat.reduceAdd,ak,ae,an,au,ap,aq,cond_true,cond_false,dl,du (show (i : Int) < B.params.length by omega),p1,eb,Int.toNat_natCast,p2,rg n (by omega) g W.wf,dy W,dv (show i < 9223372036854775807 by omega)]
  refine Bx.cnd (fun _ => Bx.leaf) (fun e6 => ?_)
  have e6 : (bS 0 x && bZ x bn) = true:=by simpa using e6
  rw [Bool.and_eq_true] at e6
  have d0:=kH e6.1
  have d1:=lW e6.2
  obtain ⟨v,hv⟩:=V.d.rd d0 d1
  rw [hv]
  refine Bx.cnd (fun _ => Bx.leaf) (fun _ => ?_)
  obtain ⟨g3,s1,s2,s3,s4,s5,s6,s7⟩:=V.d.st W.wf (by rw [W.low]; exact Nat.le_of_lt V.l) d0 d1
  have hda : da ≠ none:=fun e => by
   obtain ⟨_,hl,R⟩:=V.d
   rcases R with ⟨_,z,_⟩ | ⟨β,z,_⟩
   ·omega
   ·rw [e] at z
    cases z
  have hdX:=hX2.resolve_left hda
  have hm3 : ∀ z ∈ [rb da,GD],z < X ∧ h.next < z:=fun z hz => by
   have:=V.l
   simp only [List.mem_cons,List.not_mem_nil,or_false] at hz
   rcases hz with rfl | rfl <;> omega
  have K3 : BR g3 ka bn kk GK:=K.fr s3 (.inr fun z hz => .inl (by have:=hm3 z hz; omega))
  have W3 : Wk h g3:=W.fr s3 s4 fun z hz => Nat.le_of_lt (hm3 z hz).2
  have Of3:=Of.fr s3 (fun hz => by have:=hm3 _ hz; omega)
  have OX3:=OX.fr s3 (fun hz => by have:=hm3 _ hz; omega)
  obtain ⟨g4,t1,t2,t3,t4,t5,t6,t7⟩:=K3.st W3.wf (by rw [W3.low]; omega) d0 d1
  have hm4 : ∀ z ∈ [rb ka,GK],X < z:=fun z hz => by
   simp only [List.mem_cons,List.not_mem_nil,or_false] at hz
   rcases hz with rfl | rfl <;> omega
  have V4 : VS h g4 [.string s,.slice b bn bc,.slice c cn cc,.slice d dn dc,.slice e en ec,.slice f fn fc] da bn dk GD:=⟨W3.fr t3 t4 fun z hz => by have:=hm4 z hz; omega,Of3.fr t3 (fun hz => by have:=hm4 _ hz; omega),s2.fr t3 (.inr fun z hz => .inr (by have:=hm4 z hz; omega)),V.l⟩
  have OX4:=OX3.fr t3 (fun hz => by have:=hm4 _ hz; omega)
  rw [s1,t1]
  exact iu (i + 1) m0 g4 (by omega) (by omega) V4 OX4 t2
 include hbn
theorem JG {B : ba} (hBm : B ∈ LB) {pa pc ia ic ta tc ra rc} (m1 : Nat) (bi : Int) (X : Nat)
  (ih : ∀ g,VS h g [.string s,.slice b bn bc,.slice c cn cc,.slice d dn dc,.slice e en ec,.slice f fn fc] da bn dk GD → Bx h (vD n m1 h ⟨h.next,0,none⟩ da bn dk (aT .i64 bi 1) g))
  (RP0 : RI h pa B.params) (RN0 : RN h ia B.insts) (RE0 : RE h ta B.to) (RR0 : RI h ra B.rets) (hX : h.next < X) (hX2 : da = none ∨ rb da < X) :
  ∀ (j i m0 : Nat) (g : AH) (ka : Option Addr) (kk GK : Nat),j < m0 → i + j = bn → VS h g [.string s,.slice b bn bc,.slice c cn cc,.slice d dn dc,.slice e en ec,.slice f fn fc] da bn dk GD → cp g X [.slice pa B.params.length pc,.slice ia B.insts.length ic,.int .i64 B.kind,.int .i64 B.cond,.slice ta B.to.length tc,.slice ra B.rets.length rc,.int .i64 B.pipe,.int .i64 B.unr,.int .i64 B.line] →
  BR g ka i kk GK → X < GK → Bx h (DL n m0 m1 h ⟨h.next,0,none⟩ da bn dk bi ⟨X,0,none⟩ ka i kk bn i g):=by
 intro j
 induction j with
 | zero =>
  intro i m0 g ka kk GK hj hi V OX K hK
  obtain ⟨m0,rfl⟩ : ∃ q,m0 = q + 1:=⟨m0 - 1,by omega⟩
  obtain rfl : i = bn:=by omega
  have q1:=(hB B hBm).1
  have h5:=JF H n hn RW hb RR he RK hf Rc Rd hB hBm m1 bi X ih RP0 RN0 RE0 RR0 hX hX2 hK B.params.length 0 n g (by omega) (by rw [Nat.zero_add]) V OX K
  refine Bx.imp wZ ?_
  simp only [dF (show ¬ (i : Int) < i by omega),cond_false]
  exact h5
 | succ j iu =>
  intro i m0 g ka kk GK hj hi V OX K hK
  obtain ⟨m0,rfl⟩ : ∃ q,m0 = q + 1:=⟨m0 - 1,by omega⟩
  have hXg:=OX.lt V.w.wf
  obtain ⟨g1,g2,a',G',L,k1,k2,k3,k4,k5,k6,k7⟩:=BR.app V.w K (by omega) (by omega)
  have hL : ∀ x ∈ L,X < x:=fun x hx => by
   rcases k6 x hx with h | ⟨_,h⟩ <;> omega
  have V2 : VS h g2 [.string s,.slice b bn bc,.slice c cn cc,.slice d dn dc,.slice e en ec,.slice f fn fc] da bn dk GD:=V.fr k4 k5 (fun x hx => by have:=hL x hx; omega) (hX2.imp_right fun q x hx => .inr (by have:=hL x hx; omega))
  have OX2:=OX.fr k4 (fun hz => by have:=hL _ hz; omega)
  have hh:=iu (i + 1) m0 g2 a' aG G' (by omega) (by omega) V2 OX2 k3 (by rcases k7 with h | h <;> omega)
  refine Bx.imp wZ ?_
  simp only [du (show (i : Int) < bn by omega),ak,ae,an,au,ap,aq,cond_true,cond_false,k1,k2,dv (show i < 9223372036854775807 by omega)]
  exact hh
 include hfn
theorem JH : ∀ (j i m1 : Nat) (g : AH),j < m1 → i + j = fn → VS h g [.string s,.slice b bn bc,.slice c cn cc,.slice d dn dc,.slice e en ec,.slice f fn fc] da bn dk GD → Bx h (vD n m1 h ⟨h.next,0,none⟩ da bn dk i g):=by
 intro j
 induction j with
 | zero =>
  intro i m0 g hj hi V
  obtain ⟨m0,rfl⟩ : ∃ q,m0 = q + 1:=⟨m0 - 1,by omega⟩
  have W:=V.w
  have Of:=V.o
  refine Bx.imp wY ?_
  simp only [Of.rd,Nat.zero_add,Nat.add_zero,List.getElem?_cons_zero,List.getElem?_cons_succ,aj,Nat.reduceAdd,ak,ae,an,au,ap,aq,cond_true,cond_false,dl,dF (show ¬ (i : Int) < fn by omega),dy W]
  exact Bx.leaf
 | succ j iu =>
  intro i m0 g hj hi V
  obtain ⟨m0,rfl⟩ : ∃ q,m0 = q + 1:=⟨m0 - 1,by omega⟩
  have W:=V.w
  have Of:=V.o
  have hF:=Of.lt W.wf
  obtain ⟨B,hx⟩ : ∃ x,LB[i]? = some x:=⟨_,List.getElem?_eq_getElem (by omega)⟩
  have hBm:=List.mem_of_getElem? hx
  obtain ⟨pa,pc,ia,ic,ta,tc,ra,rc,A,RP,RN0,RE0,RR0⟩:=RK i B hx
  obtain ⟨β1,o1,p1,p2⟩:=A.wk H W
  have e0:=p2 0 _ rfl
  have e1:=p2 1 _ rfl
  have e2:=p2 2 _ rfl
  have e3:=p2 3 _ rfl
  have e4:=p2 4 _ rfl
  have e5:=p2 5 _ rfl
  have e6:=p2 6 _ rfl
  have e7:=p2 7 _ rfl
  have e8:=p2 8 _ rfl
  obtain ⟨g1,k1,F1,O1,l1,n1⟩:=cS W.wf [.slice none 0 0,.slice none 0 0,.int .i64 0,.int .i64 0,.slice none 0 0,.slice none 0 0,.int .i64 0,.int .i64 0,.int .i64 0] 0
  obtain ⟨g2,k2,F2,O2,l2,n2⟩:=ir (o:=0) (vs:=[.slice pa B.params.length pc,.slice ia B.insts.length ic,.int .i64 B.kind,.int .i64 B.cond,.slice ta B.to.length tc,.slice ra B.rets.length rc,.int .i64 B.pipe,.int .i64 B.unr,.int .i64 B.line]) F1.wf O1 (by rw [l1,W.low]; exact W.nxt) (Nat.le_refl _)
  have O2 : cp g2 g.next [.slice pa B.params.length pc,.slice ia B.insts.length ic,.int .i64 B.kind,.int .i64 B.cond,.slice ta B.to.length tc,.slice ra B.rets.length rc,.int .i64 B.pipe,.int .i64 B.unr,.int .i64 B.line]:=O2
  have F12:=F1.trans F2
  have hm : ∀ z ∈ [g.next] ++ [g.next],z = g.next:=fun z hz => by simpa using hz
  have V2 : VS h g2 [.string s,.slice b bn bc,.slice c cn cc,.slice d dn dc,.slice e en ec,.slice f fn fc] da bn dk GD:=V.fr F12 (l2.trans l1) (fun z hz => by rw [hm z hz]; exact hF) (V.d.bnd.imp_right fun q z hz => by rw [hm z hz]; exact .inr q.2)
  have W2:=V2.w
  have Of2:=V2.o
  have hi1 : aT .i64 (i : Int) 1 = ((i + 1 : Nat) : Int):=dv (by omega)
  have h4:=JG H n hn RW hb hbn RR he RK hf Rc Rd hB hBm m0 i g.next (fun g' V' => by rw [hi1]; exact iu (i + 1) m0 g' (by omega) (by omega) V') RP RN0 RE0 RR0 hF (V.d.bnd.imp_right fun q => q.2) bn 0 n g2 none 0 (g.next + 1) (by omega) (by rw [Nat.zero_add]) V2 O2 ⟨[],rfl,it.nil _ _ _⟩ (Nat.lt_succ_self _)
  have h3 : Bx h (FP n m0 h ⟨h.next,0,none⟩ da bn dk i ⟨g.next,0,none⟩ g2):=by
   refine Bx.imp DP ?_
   simp only [Of2.rd,Nat.zero_add,Nat.add_zero,List.getElem?_cons_zero,List.getElem?_cons_succ,aj,Nat.reduceAdd,ak,ae,an,au,ap,aq,cond_true,cond_false,dl]
   exact h4
  refine Bx.imp wY ?_
  have eb:=aK (i:=(i : Int)) (n:=fn) (by omega) (by omega)
  simp only [Of.rd,Nat.zero_add,Nat.add_zero,List.getElem?_cons_zero,List.getElem?_cons_succ,aj,Nat.reduceAdd,ak,ae,an,au,ap,aq,cond_true,cond_false,dl,du (show (i : Int) < fn by omega),p1,eb,Int.toNat_natCast,e0,e1,e2,e3,e4,e5,e6,e7,e8,k1,k2,O2.rd,dy W2]
  repeat' first | exact Bx.leaf | exact h3 | (refine Bx.cnd (fun _ => ?_) (fun _ => ?_))
theorem Cb (hc : cn ≤ 100) (hd : dn ≤ 100) (hen : en < 400) (hs : s.size < 100) : Bx h (az Tryz.prog (n + 1) 6 [.agg #[.string s,.slice b bn bc,.slice c cn cc,.slice d dn dc,.slice e en ec,.slice f fn fc]] h):=by
 have W : Wk h (loc h [[.string s,.slice b bn bc,.slice c cn cc,.slice d dn dc,.slice e en ec,.slice f fn fc]]):=dZ H _
 have Of:=cP H [[.string s,.slice b bn bc,.slice c cn cc,.slice d dn dc,.slice e en ec,.slice f fn fc]] 0 _ rfl
 have hnx : (loc h [[.string s,.slice b bn bc,.slice c cn cc,.slice d dn dc,.slice e en ec,.slice f fn fc]]).next = h.next + 1:=rfl
 generalize hg : loc h [[.string s,.slice b bn bc,.slice c cn cc,.slice d dn dc,.slice e en ec,.slice f fn fc]] = g at *
 have Of : cp g h.next [.string s,.slice b bn bc,.slice c cn cc,.slice d dn dc,.slice e en ec,.slice f fn fc]:=Of
 have lp : ∀ (j i m0 : Nat) (g : AH) (da : Option Addr) (dk GD : Nat),j < m0 → i + j = bn → Wk h g → cp g h.next [.string s,.slice b bn bc,.slice c cn cc,.slice d dn dc,.slice e en ec,.slice f fn fc] → BR g da i dk GD → h.next < GD → Bx h (DK n m0 h ⟨h.next,0,none⟩ da i dk bn i g):=by
  intro j
  induction j with
  | zero =>
   intro i m0 g da dk GD hj hi W Of K hK
   obtain ⟨m0,rfl⟩ : ∃ q,m0 = q + 1:=⟨m0 - 1,by omega⟩
   obtain rfl : i = bn:=by omega
   have h2:=JH H n hn RW hb hbn RR he RK hf hfn Rc Rd hB (da:=da) (dk:=dk) (GD:=GD) (s:=s) (bc:=bc) (cc:=cc) (dc:=dc) (ec:=ec) (fc:=fc) fn 0 n g (by omega) (by rw [Nat.zero_add]) ⟨W,Of,K,hK⟩
   refine Bx.imp wX ?_
   simp only [dF (show ¬ (i : Int) < i by omega),cond_false]
   exact h2
  | succ j iu =>
   intro i m0 g da dk GD hj hi W Of K hK
   obtain ⟨m0,rfl⟩ : ∃ q,m0 = q + 1:=⟨m0 - 1,by omega⟩
   have hF:=Of.lt W.wf
   obtain ⟨g1,g2,a',G',L,k1,k2,k3,k4,k5,k6,k7⟩:=BR.app W K (by omega) (by omega)
   have hL : ∀ x ∈ L,h.next < x:=fun x hx => by
    rcases k6 x hx with h | ⟨_,h⟩ <;> omega
   have hh:=iu (i + 1) m0 g2 a' aG G' (by omega) (by omega) (W.fr k4 k5 fun x hx => Nat.le_of_lt (hL x hx)) (Of.fr k4 fun hz => by have:=hL _ hz; omega) k3 (by rcases k7 with h | h <;> omega)
   refine Bx.imp wX ?_
   simp only [du (show (i : Int) < bn by omega),ak,ae,an,au,ap,aq,cond_true,cond_false,k1,k2,dv (show i < 9223372036854775807 by omega)]
   exact hh
 have h1:=lp bn 0 n g none 0 (h.next + 1) (by omega) (by rw [Nat.zero_add]) W Of ⟨[],rfl,it.nil _ _ _⟩ (Nat.lt_succ_self _)
 have h0 : Bx h (FO n h ⟨h.next,0,none⟩ g):=by
  refine Bx.imp DO ?_
  simp only [Of.rd,Nat.zero_add,Nat.add_zero,List.getElem?_cons_zero,List.getElem?_cons_succ,aj,Nat.reduceAdd,ak,ae,an,au,ap,aq,cond_true,cond_false,dl]
  exact h1
 obtain ⟨r1,e1⟩:=om n g W.wf s (by omega) (by omega)
 obtain ⟨r2,e2⟩:=Ca W.wf (n - 1) (by omega) (Rc.wk H W) (Rd.wk H W) hc hd (s:=s) (b:=b) (bn:=bn) (bc:=bc) (cc:=cc) (dc:=dc) (e:=e) (en:=en) (ec:=ec) (f:=f) (fn:=fn) (fc:=fc)
 rw [show n - 1 + 1 = n by omega] at e2
 obtain ⟨r3,e3⟩:=Kb.Jv n g W.wf b bn bc WL (RW.wk H W) hb (by omega) (by omega) 65536
 obtain ⟨r4,e4⟩:=Kb.Jv n g W.wf e en ec EL (RR.wk H W) he (by omega) (by omega) 64
 refine Bx.imp HN ?_
 simp only [bu h,aH,aD,aI,aW,aE,aS,bA,bJ,Nat.beq_refl,aj,List.nil_append,List.cons_append,List.length_cons,List.length_nil,Nat.zero_add,Nat.add_zero,Nat.reduceAdd,ak,ae,an,au,ap,aq,cond_true,cond_false,hg]
 simp only [Of.rd,Nat.zero_add,Nat.add_zero,List.getElem?_cons_zero,List.getElem?_cons_succ,aj,Nat.reduceAdd,ak,ae,an,au,ap,aq,cond_true,cond_false,e1,e2,e3,e4,dy W]
 repeat' first | exact Bx.leaf | exact h0 | (refine Bx.cnd (fun _ => ?_) (fun _ => ?_))
end
end Go.Proofs.YtjdomdndflfjdabGreatDoor.Kb
