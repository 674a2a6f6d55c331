/- Joined texts: YA. -/
import Derived.Test.YtpadjdokjppopaaGreatDoorXC
namespace Go.Proofs.YtpadjdokjppopaaGreatDoor.X
open Go
def iAdd (k : IntKind) (x y : Int) : Int:=k.wrap (x + y)
def iSub (k : IntKind) (x y : Int) : Int:=k.wrap (x - y)
def iMul (k : IntKind) (x y : Int) : Int:=k.wrap (x * y)
def iQuo (k : IntKind) (x y : Int) : Int:=k.wrap (x.tdiv y)
def iRem (_ : IntKind) (x y : Int) : Int:=x.tmod y
def iAnd (k : IntKind) (x y : Int) : Int:=k.wrap (BitVec.ofInt k.bits x &&& BitVec.ofInt k.bits y).toNat
def iOr (k : IntKind) (x y : Int) : Int:=k.wrap (BitVec.ofInt k.bits x ||| BitVec.ofInt k.bits y).toNat
def iXor (k : IntKind) (x y : Int) : Int:=k.wrap (BitVec.ofInt k.bits x ^^^ BitVec.ofInt k.bits y).toNat
def iAndNot (k : IntKind) (x y : Int) : Int:=k.wrap (BitVec.ofInt k.bits x &&& ~~~ BitVec.ofInt k.bits y).toNat
def iShl (k : IntKind) (x y : Int) : Int:=k.wrap (x * 2 ^ min y.toNat k.bits)
def iShr (k : IntKind) (x y : Int) : Int:=x.fdiv (2 ^ min y.toNat k.bits)
def iNeg (k : IntKind) (n : Int) : Int:=k.wrap (0 - n)
def iNot (k : IntKind) (n : Int) : Int:=k.wrap (BitVec.ofInt k.bits (if k.signed then -1 else k.max) ^^^ BitVec.ofInt k.bits n).toNat
def iConv (k : IntKind) (n : Int) : Int:=k.wrap n
def iEq (x y : Int) : Bool:=x == y
def iNe (x y : Int) : Bool:=x != y
def iLt (x y : Int) : Bool:=decide (x < y)
def iLe (x y : Int) : Bool:=decide (x ≤ y)
def iMax (x y : Int) : Int:=cond (decide (y > x)) y x
def iMin (x y : Int) : Int:=cond (decide (y < x)) y x
def inB (i : Int) (n : Nat) : Bool:=decide (0 ≤ i) && decide (i < (n : Int))
def vInt (k : IntKind) : Value → Option Int
 | .int k' n => cond (decide (k' = k)) (some n) none
 | _ => none
def vBool : Value → Option Bool
 | .bool b => some b
 | _ => none
def vStr : Value → Option ByteArray
 | .string s => some s
 | _ => none
def vSl : Value → Option (Option Addr × Nat × Nat)
 | .slice a n c => some (a,n,c)
 | _ => none
def vPtr : Value → Option (Option Addr)
 | .pointer a => some a
 | _ => none
def aggIs (n : Nat) : Value → Bool
 | .agg cs => Nat.beq cs.toList.length n
 | _ => false
def aggC (i : Nat) : Value → Option Value
 | .agg cs => cs.toList[i]?
 | _ => none
def tupIs (n : Nat) : Value → Bool
 | .tuple cs => Nat.beq cs.toList.length n
 | _ => false
def tupC (i : Nat) : Value → Option Value
 | .tuple cs => cs.toList[i]?
 | _ => none
def rdC (h : AH) (a : Addr) (i : Nat) : Option Value :=
 match a.spot with
 | none => (h.rd a.block).bind fun b => b.cells[a.off + i]?
 | some _ => none
section
variable (P : Program) {ρ : Type}
def viewA (t : TypeId) (v : Value) (K : Value → Option ρ) : Option ρ :=
 match P.underlying t with
 | some (.int k) => (vInt k v).bind fun n => K (.int k n)
 | some .bool => (vBool v).bind fun b => K (.bool b)
 | some .string => (vStr v).bind fun s => K (.string s)
 | some (.slice _) => (vSl v).bind fun s => K (.slice s.1 s.2.1 s.2.2)
 | some (.pointer _) => (vPtr v).bind fun a => K (.pointer a)
 | _ => K v
def viewL (rd : Nat → Option Value) : List TypeId → Nat → (List Value → Option ρ) → Option ρ
 | [],_,K => K []
 | t :: ts,i,K => (rd i).bind fun v => viewA P t v fun v' => viewL rd ts (i + 1) fun l => K (v' :: l)
def viewT (t : TypeId) (v : Value) (K : Value → Option ρ) : Option ρ :=
 (aggT P t).bind fun ag => cond ag
  ((P.cellTypes P.depth t).bind fun ts => cond (aggIs ts.length v) (viewL P (fun i => aggC i v) ts 0 fun l => K (.agg l.toArray)) none)
  (viewA P t v K)
def viewTs (v : Value) : List TypeId → Nat → (List Value → Option ρ) → Option ρ
 | [],_,K => K []
 | t :: ts,i,K => (tupC i v).bind fun x => viewT P t x fun x' => viewTs v ts (i + 1) fun l => K (x' :: l)
def viewR (ts : List TypeId) (v : Value) (K : Value → Option ρ) : Option ρ :=
 match ts with
 | [] => K v
 | [t] => viewT P t v K
 | ts => cond (tupIs ts.length v) (viewTs P v ts 0 fun l => K (.tuple l.toArray)) none
def kload (t : TypeId) (x : Value) (h : AH) (K : Value → Option ρ) : Option ρ :=
 match x with
 | .pointer a => a.bind fun ad => (aggT P t).bind fun ag => cond ag
   ((P.cellTypes P.depth t).bind fun ts => cond (decide (sizeT P t = some ts.length) && !(Nat.beq ts.length 0)) (viewL P (rdC h ad) ts 0 fun l => K (.agg l.toArray)) none)
   ((rdC h ad 0).bind fun v => viewA P t v K)
 | _ => none
def kcmp (op : BinOp) (x y : Int) (K : Value → Option ρ) : Option ρ :=
 match op with
 | .eql => K (.bool (iEq x y))
 | .neq => K (.bool (iNe x y))
 | .lss => K (.bool (iLt x y))
 | .leq => K (.bool (iLe x y))
 | .gtr => K (.bool (iLt y x))
 | .geq => K (.bool (iLe y x))
 | _ => none
def kint (op : BinOp) (k : IntKind) (x y : Int) (K : Value → Option ρ) : Option ρ :=
 match op with
 | .add => K (.int k (iAdd k x y))
 | .sub => K (.int k (iSub k x y))
 | .mul => K (.int k (iMul k x y))
 | .quo => cond (iEq y 0) none (K (.int k (iQuo k x y)))
 | .rem => cond (iEq y 0) none (K (.int k (iRem k x y)))
 | .and => K (.int k (iAnd k x y))
 | .or => K (.int k (iOr k x y))
 | .xor => K (.int k (iXor k x y))
 | .andNot => K (.int k (iAndNot k x y))
 | op => kcmp op x y K
def kshift (op : BinOp) (k : IntKind) (x y : Int) (K : Value → Option ρ) : Option ρ :=
 cond (iLt y 0) none (match op with
  | .shl => K (.int k (iShl k x y))
  | .shr => K (.int k (iShr k x y))
  | _ => none)
def keqF (xs ys : List Value) : List Field → (Bool → Option ρ) → Option ρ
 | [],K => K true
 | f :: fs,K => match P.underlying f.type,xs[f.offset]?,ys[f.offset]? with
  | some (.int k),some (.int k1 a),some (.int k2 b) => cond (decide (k1 = k) && (decide (k2 = k) && f.name != "_")) (cond (iEq a b) (keqF xs ys fs K) (K false)) none
  | _,_,_ => none
def keqI (c : Nat) (xs ys : List Value) : List Nat → (Bool → Option ρ) → Option ρ
 | [],K => K true
 | i :: is,K => match xs[i * c]?,ys[i * c]? with
  | some (.int k1 a),some (.int k2 b) => cond (decide (k1 = k2)) (cond (iEq a b) (keqI c xs ys is K) (K false)) none
  | _,_ => none
def kbin (op : BinOp) (t : TypeId) (x y : Value) (K : Value → Option ρ) : Option ρ :=
 match op,x,y with
 | .shl,.int k a,.int _ b => kshift .shl k a b K
 | .shr,.int k a,.int _ b => kshift .shr k a b K
 | .eql,.agg xs,.agg ys => match P.underlying t with
  | some (.struct fs) => cond (P.stoodInHeld t || P.eqGuardType P.depth t) none (keqF P xs.toList ys.toList fs.toList fun b => K (.bool b))
  | some (.array n el) => cond (P.eqGuardType P.depth t) none (match P.underlying el with
   | some (.int _) => keqI (P.cellsOf el) xs.toList ys.toList (List.range n) fun b => K (.bool b)
   | _ => none)
  | _ => none
 | .neq,.agg xs,.agg ys => match P.underlying t with
  | some (.struct fs) => cond (P.stoodInHeld t || P.eqGuardType P.depth t) none (keqF P xs.toList ys.toList fs.toList fun b => K (.bool !b))
  | some (.array n el) => cond (P.eqGuardType P.depth t) none (match P.underlying el with
   | some (.int _) => keqI (P.cellsOf el) xs.toList ys.toList (List.range n) fun b => K (.bool !b)
   | _ => none)
  | _ => none
 | op,.int k a,.int k' b => cond (decide (k = k')) (kint op k a b K) none
 | op,x,y => (binV P op t x y).bind K
def kun (op : UnOp) (x : Value) (K : Value → Option ρ) : Option ρ :=
 match op,x with
 | .neg,.int k n => K (.int k (iNeg k n))
 | .xor,.int k n => K (.int k (iNot k n))
 | .not,.bool b => K (.bool !b)
 | _,_ => none
def kconv (src dst : TypeId) (x : Value) (K : Value → Option ρ) : Option ρ :=
 (P.underlying src).bind fun _ => match P.underlying dst,x with
 | some (.int k),.int _ n => K (.int k (iConv k n))
 | some .string,.string s => K (.string s)
 | _,_ => none
def kindexAddr (t : TypeId) (x i : Value) (K : Value → Option ρ) : Option ρ :=
 match P.underlying t,x,i with
 | some (.array n el),.pointer a,.int _ i => a.bind fun ad => cond (inB i n) ((sizeT P el).bind fun s => K (.pointer (some (ad.add (i.toNat * s))))) none
 | some (.slice el),.slice a n _,.int _ i => a.bind fun ad => cond (inB i n) ((sizeT P el).bind fun s => K (.pointer (some (ad.add (i.toNat * s))))) none
 | _,_,_ => none
def sIx (s : ByteArray) (i : Int) : Option Int:=cond (decide (0 ≤ i)) ((s.data.toList[i.toNat]?).map fun b => (b.toNat : Int)) none
def kindex (t : TypeId) (x i : Value) (K : Value → Option ρ) : Option ρ :=
 match P.underlying t,x,i with
 | some .string,.string s,.int _ i => (sIx s i).bind fun n => K (.int .u8 n)
 | _,_,_ => (indexV P t x i).bind K
def kfieldAddr (s : TypeId) (x : Value) (f : Nat) (K : Value → Option ρ) : Option ρ :=
 match P.underlying s,x with
 | some (.struct fs),.pointer a => a.bind fun ad => (fs[f]?).bind fun fd => (sizeT P fd.type).bind fun z => cond (Nat.beq z 0) none (K (.pointer (some (ad.add fd.offset))))
 | _,_ => none
variable (cf : FuncId → List Value → AH → Option (Value × AH))
def kbuiltin (b : Builtin) (ts : List TypeId) (ty : TypeId) (args : List Value) (h : AH) (K : Value → AH → Option ρ) : Option ρ :=
 match b,args with
 | .append,args => (builtinV P .append ts args h).bind fun p => viewT P ty p.1 fun v => K v p.2
 | .copy,args => (builtinV P .copy ts args h).bind fun p => viewT P ty p.1 fun v => K v p.2
 | .max,[.int k x,.int _ y] => K (.int k (iMax x y)) h
 | .min,[.int k x,.int _ y] => K (.int k (iMin x y)) h
 | b,args => (builtinV P b ts args h).bind fun p => K p.1 p.2
def kcallF (f : Value) (args : List Value) (h : AH) (K : Value → AH → Option ρ) : Option ρ :=
 match f with
 | .func (.func g) first captured => (cf g (first.toList ++ (args ++ captured.toList)) h).bind fun p =>
   (P.funcs[g]?).bind fun fn => viewR P fn.resultTypes.toList p.1 fun v => K v p.2
 | _ => none
def kpick (c a b : Value) (K : Value → Option ρ) : Option ρ :=
 match c with
 | .bool t => cond t (K a) (K b)
 | _ => none
def lookV (t : TypeId) (x i : Value) (ok : Bool) (h : AH) : Option Value:=(P.underlying t).bind fun d => match d with
  | .map kt et => cond (keyFit P kt i) ((zeroM P et).bind fun z => (mapCells h x).bind fun cs => (entFind P kt i cs 0).map fun r => ansM ok z r) none
  | _ => none
def mupV (t : TypeId) (m k v : Value) (h : AH) : Option AH:=((P.underlying t).bind fun d => match d,m with
  | .map kt _,.map (some β) => (h.mp β).bind fun b => cond (keyFit P kt k && noTupV v) ((entFind P kt k b.cells 0).bind fun r => updM h β b k v r) none
  | _,_ => none).bind fun p => match p.1 with
  | .tuple cs => cond (Nat.beq cs.toList.length 0) (some p.2) none
  | _ => none
def knil (x : Value) (K : Value → Option ρ) : Option ρ :=
 match x with
 | .pointer a => a.bind fun ad => K (.pointer (some ad))
 | .func (.func g) f c => K (.func (.func g) f c)
 | _ => none
def kop (o : Op) (ty : TypeId) (e : Tr Value) (h : AH) (K : Value → AH → Option ρ) : Option ρ :=
 match o with
 | .move x | .assign x => K (ev e x) h
 | .pick c a b => kpick (ev e c) (ev e a) (ev e b) fun v => K v h
 | .load t x => kload P t (ev e x) h fun v => K v h
 | .nilCheck x => knil (ev e x) fun v => K v h
 | .lookup t x i ok => (lookV P t (ev e x) (ev e i) ok h).bind fun v => viewT P ty v fun v => K v h
 | .mapUpdate t m k v => (mupV P t (ev e m) (ev e k) (ev e v) h).bind fun h' => K undef h'
 | .makeFunc fn first captured => cond ((first.toList.all fun x => atomV (ev e x)) && (captured.toList.all fun x => atomV (ev e x))) (K (.func fn (first.toList.map (ev e)).toArray (captured.toList.map (ev e)).toArray) h) none
 | .store t x v => (storeV P t (ev e x) (ev e v) h).bind fun h' => K undef h'
 | .binOp op t x y _ => kbin P op t (ev e x) (ev e y) fun v => K v h
 | .unOp op _ x => kun op (ev e x) fun v => K v h
 | .convert s d x => cond (isSliceT P d) ((convBy P s d (ev e x) h).bind fun p => K p.1 p.2) (kconv P s d (ev e x) fun v => K v h)
 | .indexAddr t x i => kindexAddr P t (ev e x) (ev e i) fun v => K v h
 | .fieldAddr s x f => kfieldAddr P s (ev e x) f fun v => K v h
 | .index t x i => kindex P t (ev e x) (ev e i) fun v => K v h
 | .slice t x lo hi mx => (sliceV P t (ev e x) (lo.map (ev e)) (hi.map (ev e)) (mx.map (ev e)) h).bind fun v => viewT P ty v fun v => K v h
 | .call c => match c.callee with
  | .builtin b => kbuiltin P b c.argTypes.toList ty (c.args.toList.map (ev e)) h K
  | .value f => kcallF P cf (ev e f) (c.args.toList.map (ev e)) h K
  | .invoke _ _ => none
 | o => (opV P cf o e h).bind fun p => K p.1 p.2
def kwant (ops : Array Oper) (o : Oper) (e : Tr Value) (A B : Tr Value → Option ρ) : Option ρ :=
 match o.guard with
 | none => A e
 | some (j,w) => match (ops.toList[j]?).bind (·.dst) with
  | none => B e
  | some t => match e.get t with
   | some (.bool b) => cond w (cond b (A (e.set t (.bool true))) (B (e.set t (.bool false)))) (cond b (B (e.set t (.bool true))) (A (e.set t (.bool false))))
   | _ => B e
def kcond (c : Operand) (e : Tr Value) (A B : Tr Value → Option ρ) : Option ρ :=
 match c with
 | .tmp t => match e.get t with
  | some (.bool b) => cond b (A (e.set t (.bool true))) (B (e.set t (.bool false)))
  | _ => none
 | c => match ev e c with
  | .bool b => cond b (A e) (B e)
  | _ => none
def AH.mark (h : AH) : AH:={ h with low:=h.next }
inductive Fr where
 | seq (b : Code)
 | block (id : Nat)
inductive Nx where
 | code (c : Code)
 | ends (x : Ex)
end
def subC : Code → List Nat → Code
 | c,[] => c
 | .seq a b,i :: r => subC (cond (Nat.beq i 0) a b) r
 | .cond _ a b,i :: r => subC (cond (Nat.beq i 0) a b) r
 | .block _ c,_ :: r => subC c r
 | .loop c,_ :: r => subC c r
 | c,_ => c
def bodyC (fn : Func) : Code:=fn.body.getD .skip
variable {P : Program} {ρ : Type} {r : ρ}
theorem vInt_ok {k : IntKind} {v : Value} {n : Int} (h : vInt k v = some n) : v = .int k n:=by
 cases v <;> first | (cases h; done) | skip
 obtain ⟨hc,h2⟩:=cond_some' h
 have:=of_decide_eq_true hc
 injection h2 with h2
 rw [this,h2]
theorem vBool_ok {v : Value} {n : Bool} (h : vBool v = some n) : v = .bool n:=by
 cases v <;> first | (cases h; done) | skip
 injection h with h
 rw [h]
theorem vStr_ok {v : Value} {n : ByteArray} (h : vStr v = some n) : v = .string n:=by
 cases v <;> first | (cases h; done) | skip
 injection h with h
 rw [h]
theorem vSl_ok {v : Value} {n : Option Addr × Nat × Nat} (h : vSl v = some n) : v = .slice n.1 n.2.1 n.2.2:=by
 cases v <;> first | (cases h; done) | skip
 injection h with h
 rw [← h]
theorem vPtr_ok {v : Value} {n : Option Addr} (h : vPtr v = some n) : v = .pointer n:=by
 cases v <;> first | (cases h; done) | skip
 injection h with h
 rw [h]
theorem aggIs_ok {n : Nat} {v : Value} (h : aggIs n v = true) : ∃ cs,v = .agg cs ∧ cs.toList.length = n:=by
 cases v <;> first | (cases h; done) | skip
 exact ⟨_,rfl,Nat.eq_of_beq_eq_true h⟩
theorem tupIs_ok {n : Nat} {v : Value} (h : tupIs n v = true) : ∃ cs,v = .tuple cs ∧ cs.toList.length = n:=by
 cases v <;> first | (cases h; done) | skip
 exact ⟨_,rfl,Nat.eq_of_beq_eq_true h⟩
theorem viewA_ok {t : TypeId} {v : Value} {K : Value → Option ρ} (hv : viewA P t v K = some r) : K v = some r:=by
 unfold viewA at hv
 split at hv
 ·obtain ⟨n,hn,hk⟩:=Option.bind_eq_some_iff.1 hv
  rw [vInt_ok hn]
  exact hk
 ·obtain ⟨n,hn,hk⟩:=Option.bind_eq_some_iff.1 hv
  rw [vBool_ok hn]
  exact hk
 ·obtain ⟨n,hn,hk⟩:=Option.bind_eq_some_iff.1 hv
  rw [vStr_ok hn]
  exact hk
 ·obtain ⟨n,hn,hk⟩:=Option.bind_eq_some_iff.1 hv
  rw [vSl_ok hn]
  exact hk
 ·obtain ⟨n,hn,hk⟩:=Option.bind_eq_some_iff.1 hv
  rw [vPtr_ok hn]
  exact hk
 ·exact hv
theorem viewL_ok {rd : Nat → Option Value} : ∀ (ts : List TypeId) (i : Nat) {K : List Value → Option ρ},viewL P rd ts i K = some r → ∃ l : List Value,l.length = ts.length ∧ (∀ j x,l[j]? = some x → rd (i + j) = some x) ∧ K l = some r
 | [],i,K,hv => ⟨[],rfl,fun _ _ h => (by cases h),hv⟩
 | t :: ts,i,K,hv => by
  obtain ⟨v,h1,hv⟩:=Option.bind_eq_some_iff.1 hv
  obtain ⟨l,h2,h3,h4⟩:=viewL_ok ts (i + 1) (viewA_ok hv)
  refine ⟨v :: l,congrArg Nat.succ h2,fun j x hx => ?_,h4⟩
  cases j with
  | zero =>
   injection hx with hx
   subst hx
   exact h1
  | succ j =>
   rw [show i + (j + 1) = i + 1 + j by omega]
   exact h3 j x hx
theorem viewT_ok {t : TypeId} {v : Value} {K : Value → Option ρ} (hv : viewT P t v K = some r) : K v = some r:=by
 unfold viewT at hv
 obtain ⟨ag,_,hv⟩:=Option.bind_eq_some_iff.1 hv
 cases ag with
 | false => exact viewA_ok hv
 | true =>
  obtain ⟨ts,_,hv⟩:=Option.bind_eq_some_iff.1 hv
  obtain ⟨hc,hv⟩:=cond_some' hv
  obtain ⟨l,h2,h3,h4⟩:=viewL_ok ts 0 hv
  obtain ⟨cs,rfl,hc⟩:=aggIs_ok hc
  have e : l = cs.toList:=by
   apply List.ext_getElem?
   intro i
   cases hi : l[i]? with
   | some x =>
    have:=h3 i x hi
    rw [Nat.zero_add] at this
    exact this.symm
   | none =>
    have:=List.getElem?_eq_none_iff.1 hi
    exact (List.getElem?_eq_none (by omega)).symm
  rw [e] at h4
  exact h4
theorem viewTs_ok {v : Value} : ∀ (ts : List TypeId) (i : Nat) {K : List Value → Option ρ},viewTs P v ts i K = some r → ∃ l : List Value,l.length = ts.length ∧ (∀ j x,l[j]? = some x → tupC (i + j) v = some x) ∧ K l = some r
 | [],i,K,hv => ⟨[],rfl,fun _ _ h => (by cases h),hv⟩
 | t :: ts,i,K,hv => by
  obtain ⟨x,h1,hv⟩:=Option.bind_eq_some_iff.1 hv
  obtain ⟨l,h2,h3,h4⟩:=viewTs_ok ts (i + 1) (viewT_ok hv)
  refine ⟨x :: l,congrArg Nat.succ h2,fun j y hy => ?_,h4⟩
  cases j with
  | zero =>
   injection hy with hy
   subst hy
   exact h1
  | succ j =>
   rw [show i + (j + 1) = i + 1 + j by omega]
   exact h3 j y hy
theorem viewR_ok {ts : List TypeId} {v : Value} {K : Value → Option ρ} (hv : viewR P ts v K = some r) : K v = some r:=by
 unfold viewR at hv
 split at hv
 ·exact hv
 ·exact viewT_ok hv
 ·obtain ⟨hc,hv⟩:=cond_some' hv
  obtain ⟨l,h2,h3,h4⟩:=viewTs_ok _ 0 hv
  obtain ⟨cs,rfl,hc⟩:=tupIs_ok hc
  have e : l = cs.toList:=by
   apply List.ext_getElem?
   intro i
   cases hi : l[i]? with
   | some x =>
    have:=h3 i x hi
    rw [Nat.zero_add] at this
    exact this.symm
   | none =>
    have:=List.getElem?_eq_none_iff.1 hi
    exact (List.getElem?_eq_none (by omega)).symm
  rw [e] at h4
  exact h4
theorem rdC_ok {h : AH} {a : Addr} {i : Nat} {x : Value} (hx : rdC h a i = some x) : a.spot = none ∧ ∃ b,h.rd a.block = some b ∧ b.cells[a.off + i]? = some x:=by
 unfold rdC at hx
 split at hx
 ·rename_i hs
  obtain ⟨b,h1,h2⟩:=Option.bind_eq_some_iff.1 hx
  exact ⟨hs,b,h1,h2⟩
 ·cases hx
theorem kload_ok {t : TypeId} {x : Value} {h : AH} {K : Value → Option ρ} (hv : kload P t x h K = some r) : ∃ v,loadV P t x h = some v ∧ K v = some r:=by
 have hp : ∃ a,x = .pointer a:=by
  cases x <;> first | (cases hv; done) | exact ⟨_,rfl⟩
 obtain ⟨a,rfl⟩:=hp
 unfold kload at hv
 simp only at hv
 ·obtain ⟨ad,had,hv1⟩:=Option.bind_eq_some_iff.1 hv
  clear hv
  obtain ⟨ag,hag,hv⟩:=Option.bind_eq_some_iff.1 hv1
  clear hv1
  subst had
  cases ag with
  | false =>
   obtain ⟨v,hv1,hv⟩:=Option.bind_eq_some_iff.1 hv
   obtain ⟨hs,b,h1,h2⟩:=rdC_ok hv1
   refine ⟨v,?_,viewA_ok hv⟩
   unfold loadV
   simp only [h1,Option.bind_some,hs]
   unfold partT
   rw [hag]
   exact h2
  | true =>
   obtain ⟨ts,_,hv⟩:=Option.bind_eq_some_iff.1 hv
   obtain ⟨hc,hv⟩:=cond_some' hv
   rw [Bool.and_eq_true] at hc
   have hsz:=of_decide_eq_true hc.1
   obtain ⟨l,h2,h3,h4⟩:=viewL_ok ts 0 hv
   have hne : ts.length ≠ 0:=fun e => by
    rw [e] at hc
    cases hc.2
   have hl0 : 0 < l.length:=by omega
   obtain ⟨hs,b,h1,_⟩:=rdC_ok (h3 0 _ (List.getElem?_eq_getElem hl0))
   have hall : ∀ j x,l[j]? = some x → b.cells[ad.off + j]? = some x:=fun j x hx => by
    obtain ⟨_,b',h1',h5⟩:=rdC_ok (h3 j x hx)
    rw [h1] at h1'
    injection h1' with h1'
    subst h1'
    rwa [Nat.zero_add] at h5
   refine ⟨.agg l.toArray,?_,h4⟩
   unfold loadV
   simp only [h1,Option.bind_some,hs]
   unfold partT
   rw [hag]
   simp only [Option.bind_some,cond_true,hsz]
   have hfit : ad.off + l.length ≤ b.cells.length:=by
    have:=(List.getElem?_eq_some_iff.1 (hall (l.length - 1) _ (List.getElem?_eq_getElem (by omega)))).1
    omega
   have e : takeAt b.cells ad.off ts.length = some l:=by
    unfold takeAt
    rw [← h2,Nat.ble_eq_true_of_le hfit]
    refine congrArg some ?_
    apply List.ext_getElem?
    intro i
    rw [List.getElem?_take]
    split
    ·rename_i hi
     rw [List.getElem?_drop,hall i _ (List.getElem?_eq_getElem hi)]
     exact (List.getElem?_eq_getElem hi).symm
    ·exact (List.getElem?_eq_none (by omega)).symm
   rw [e]
   rfl
theorem kcmp_ok {op : BinOp} {k : IntKind} {x y : Int} {K : Value → Option ρ} (hv : kcmp op x y K = some r) : ∃ v,intOp op k x y = some v ∧ K v = some r:=by
 unfold kcmp at hv
 split at hv <;> first | exact ⟨_,rfl,hv⟩ | cases hv
theorem kint_ok {op : BinOp} {k : IntKind} {x y : Int} {K : Value → Option ρ} (hv : kint op k x y K = some r) : ∃ v,intOp op k x y = some v ∧ K v = some r:=by
 unfold kint at hv
 split at hv
 ·exact ⟨_,rfl,hv⟩
 ·exact ⟨_,rfl,hv⟩
 ·exact ⟨_,rfl,hv⟩
 ·cases h0 : iEq y 0 with
  | true =>
   rw [h0] at hv
   cases hv
  | false =>
   rw [h0] at hv
   refine ⟨_,?_,hv⟩
   have : ¬ y = 0:=fun e => by
    rw [e] at h0
    cases h0
   unfold intOp
   rw [decide_eq_false this]
   rfl
 ·cases h0 : iEq y 0 with
  | true =>
   rw [h0] at hv
   cases hv
  | false =>
   rw [h0] at hv
   refine ⟨_,?_,hv⟩
   have : ¬ y = 0:=fun e => by
    rw [e] at h0
    cases h0
   unfold intOp
   rw [decide_eq_false this]
   rfl
 ·exact ⟨_,rfl,hv⟩
 ·exact ⟨_,rfl,hv⟩
 ·exact ⟨_,rfl,hv⟩
 ·exact ⟨_,rfl,hv⟩
 ·exact kcmp_ok hv
theorem kshift_ok {op : BinOp} {k : IntKind} {x y : Int} {K : Value → Option ρ} (hv : kshift op k x y K = some r) : ∃ v,shiftOp op k x y = some v ∧ K v = some r:=by
 unfold kshift at hv
 cases h0 : iLt y 0 with
 | true =>
  rw [h0] at hv
  cases hv
 | false =>
  rw [h0] at hv
  have h0' : decide (y < 0) = false:=h0
  simp only [cond_false] at hv
  unfold shiftOp
  rw [h0']
  split at hv
  ·exact ⟨_,rfl,hv⟩
  ·exact ⟨_,rfl,hv⟩
  ·cases hv
theorem keqF_ok {xs ys : List Value} : ∀ (fs : List Field) {K : Bool → Option ρ},keqF P xs ys fs K = some r → ∃ b,fieldsEq P xs ys fs = some b ∧ K b = some r
 | [],K,hv => ⟨true,rfl,hv⟩
 | f :: fs,K,hv => by
  unfold keqF at hv
  split at hv
  ·rename_i k k1 a k2 b hu hx hy
   obtain ⟨hc,hv2⟩:=cond_some' hv
   clear hv
   rw [Bool.and_eq_true,Bool.and_eq_true] at hc
   obtain ⟨h1,h2,h3⟩:=hc
   have h1:=of_decide_eq_true h1
   have h2:=of_decide_eq_true h2
   rw [h1] at hx
   rw [h2] at hy
   have key : ∀ z : Bool → Option Bool,(cellEq (.int k a) (.int k b)).bind z = z (iEq a b):=fun z => by
    show (cond (decide (k = k)) (some (a == b)) none).bind z = _
    rw [decide_eq_true rfl]
    rfl
   unfold fieldsEq
   simp only [hu,hx,hy,Option.bind_some,kindIs,Bool.true_and,h3,cond_true,key]
   cases he : iEq a b with
   | true =>
    rw [he] at hv2
    exact keqF_ok fs hv2
   | false =>
    rw [he] at hv2
    exact ⟨false,rfl,hv2⟩
  ·cases hv
theorem keqI_ok {k : IntKind} {c : Nat} {xs ys : List Value} : ∀ (is : List Nat) {K : Bool → Option ρ},keqI c xs ys is K = some r → ∃ b,itemsEq (.int k) c xs ys is = some b ∧ K b = some r
 | [],K,hv => ⟨true,rfl,hv⟩
 | i :: is,K,hv => by
  unfold keqI at hv
  split at hv
  ·rename_i k1 a k2 b hx hy
   obtain ⟨hk,hv⟩:=cond_some' hv
   unfold itemsEq
   rw [hx,hy]
   have e1 : cellEq (.int k1 a) (.int k2 b) = some (iEq a b):=by
    show cond (decide (k1 = k2)) (some (a == b)) none = _
    rw [hk]
    rfl
   simp only [Option.bind_some,e1,kindIs,Bool.and_self,cond_true]
   cases hi : iEq a b with
   | true =>
    rw [hi] at hv
    obtain ⟨b',h1,h2⟩:=keqI_ok is hv
    exact ⟨b',by simpa using h1,h2⟩
   | false =>
    rw [hi] at hv
    exact ⟨false,rfl,hv⟩
  ·cases hv
theorem kbin_ok {op : BinOp} {t : TypeId} {x y : Value} {K : Value → Option ρ} (hv : kbin P op t x y K = some r) : ∃ v,binV P op t x y = some v ∧ K v = some r:=by
 unfold kbin at hv
 split at hv
 ·exact kshift_ok hv
 ·exact kshift_ok hv
 ·split at hv
  ·rename_i fs hu
   cases hc : (P.stoodInHeld t || P.eqGuardType P.depth t) with
   | true =>
    rw [hc] at hv
    cases hv
   | false =>
    rw [hc] at hv
    obtain ⟨b,h1,h2⟩:=keqF_ok _ hv
    refine ⟨.bool b,?_,h2⟩
    unfold binV
    simp only [hu,Option.bind_some,hc,cond_false,h1,Option.map_some]
  ·rename_i n el hu
   cases hc : P.eqGuardType P.depth t with
   | true =>
    rw [hc] at hv
    cases hv
   | false =>
    rw [hc] at hv
    rw [cond_false] at hv
    split at hv
    ·rename_i q he
     obtain ⟨b,h1,h2⟩:=keqI_ok (k:=q) (List.range n) hv
     refine ⟨.bool b,?_,h2⟩
     show ((P.underlying t).bind _) = _
     rw [hu]
     show cond (P.eqGuardType P.depth t) none ((P.underlying el).bind _) = _
     rw [hc,he]
     show (itemsEq (.int q) _ _ _ _).map _ = _
     rw [h1]
     rfl
    ·cases hv
  ·cases hv
 ·split at hv
  ·rename_i fs hu
   cases hc : (P.stoodInHeld t || P.eqGuardType P.depth t) with
   | true =>
    rw [hc] at hv
    cases hv
   | false =>
    rw [hc] at hv
    obtain ⟨b,h1,h2⟩:=keqF_ok _ hv
    refine ⟨.bool !b,?_,h2⟩
    unfold binV
    simp only [hu,Option.bind_some,hc,cond_false,h1,Option.map_some]
  ·rename_i n el hu
   cases hc : P.eqGuardType P.depth t with
   | true =>
    rw [hc] at hv
    cases hv
   | false =>
    rw [hc] at hv
    rw [cond_false] at hv
    split at hv
    ·rename_i q he
     obtain ⟨b,h1,h2⟩:=keqI_ok (k:=q) (List.range n) hv
     refine ⟨.bool !b,?_,h2⟩
     show ((P.underlying t).bind _) = _
     rw [hu]
     show cond (P.eqGuardType P.depth t) none ((P.underlying el).bind _) = _
     rw [hc,he]
     show (itemsEq (.int q) _ _ _ _).map _ = _
     rw [h1]
     rfl
    ·cases hv
  ·cases hv
 ·rename_i k a k' b n1 n2
  obtain ⟨hc,hv⟩:=cond_some' hv
  obtain ⟨v,h1,h2⟩:=kint_ok hv
  refine ⟨v,?_,h2⟩
  have hk:=of_decide_eq_true hc
  subst hk
  have key : cond (decide (k = k)) (intOp op k a b) none = some v:=by
   rw [decide_eq_true rfl]
   exact h1
  cases op <;> first | (exact absurd rfl n1) | (exact absurd rfl n2) | exact key
 ·obtain ⟨v,h1,h2⟩:=Option.bind_eq_some_iff.1 hv
  exact ⟨v,h1,h2⟩
theorem kun_ok {op : UnOp} {x : Value} {K : Value → Option ρ} (hv : kun op x K = some r) : ∃ v,unV op x = some v ∧ K v = some r:=by
 unfold kun at hv
 split at hv <;> first | exact ⟨_,rfl,hv⟩ | cases hv
theorem kconv_ok {s d : TypeId} {x : Value} {K : Value → Option ρ} (hv : kconv P s d x K = some r) : ∃ v,convV P s d x = some v ∧ K v = some r:=by
 unfold kconv at hv
 obtain ⟨u,hu,hv1⟩:=Option.bind_eq_some_iff.1 hv
 clear hv
 have hv:=hv1
 clear hv1
 unfold convV
 rw [hu]
 split at hv
 ·rename_i hd
  rw [hd]
  exact ⟨_,rfl,hv⟩
 ·rename_i hd
  rw [hd]
  exact ⟨_,rfl,hv⟩
 ·cases hv
theorem kindexAddr_ok {t : TypeId} {x i : Value} {K : Value → Option ρ} (hv : kindexAddr P t x i K = some r) : ∃ v,indexAddrV P t x i = some v ∧ K v = some r:=by
 unfold kindexAddr at hv
 split at hv
 ·rename_i hd
  obtain ⟨ad,had,hv1⟩:=Option.bind_eq_some_iff.1 hv
  obtain ⟨hc,hv2⟩:=cond_some' hv1
  obtain ⟨s,hs,hv3⟩:=Option.bind_eq_some_iff.1 hv2
  subst had
  refine ⟨_,?_,hv3⟩
  unfold indexAddrV
  simp only [hd,Option.bind_some,hs]
  unfold inB at hc
  rw [hc]
  rfl
 ·rename_i hd
  obtain ⟨ad,had,hv1⟩:=Option.bind_eq_some_iff.1 hv
  obtain ⟨hc,hv2⟩:=cond_some' hv1
  obtain ⟨s,hs,hv3⟩:=Option.bind_eq_some_iff.1 hv2
  subst had
  refine ⟨_,?_,hv3⟩
  unfold indexAddrV
  simp only [hd,Option.bind_some,hs]
  unfold inB at hc
  rw [hc]
  rfl
 ·cases hv
theorem kindex_ok {t : TypeId} {x i : Value} {K : Value → Option ρ} (hv : kindex P t x i K = some r) : ∃ v,indexV P t x i = some v ∧ K v = some r:=by
 unfold kindex at hv
 split at hv
 ·rename_i s k i hd
  obtain ⟨n,hn,hv1⟩:=Option.bind_eq_some_iff.1 hv
  refine ⟨_,?_,hv1⟩
  unfold sIx at hn
  obtain ⟨hc,hn⟩:=cond_some' hn
  obtain ⟨b,hb,e⟩:=Option.map_eq_some_iff.1 hn
  unfold indexV
  simp only [hd,Option.bind_some,hc,cond_true,hb,Option.map_some,e]
 ·obtain ⟨v,h1,h2⟩:=Option.bind_eq_some_iff.1 hv
  exact ⟨v,h1,h2⟩
theorem kfieldAddr_ok {s : TypeId} {x : Value} {f : Nat} {K : Value → Option ρ} (hv : kfieldAddr P s x f K = some r) : ∃ v,fieldAddrV P s x f = some v ∧ K v = some r:=by
 unfold kfieldAddr at hv
 split at hv
 ·rename_i hd
  obtain ⟨ad,had,hv1⟩:=Option.bind_eq_some_iff.1 hv
  obtain ⟨fd,hf,hv2⟩:=Option.bind_eq_some_iff.1 hv1
  obtain ⟨z,hz,hv3⟩:=Option.bind_eq_some_iff.1 hv2
  subst had
  cases hb : Nat.beq z 0 with
  | true =>
   rw [hb] at hv3
   cases hv3
  | false =>
   rw [hb] at hv3
   refine ⟨_,?_,hv3⟩
   unfold fieldAddrV
   simp only [hd,Option.bind_some,hf,hz,hb]
   rfl
 ·cases hv
variable {P : Program} {ρ : Type} {r : ρ} {cf : FuncId → List Value → AH → Option (Value × AH)}
theorem kop_ok {o : Op} {ty : TypeId} {e : Tr Value} {h : AH} {K : Value → AH → Option ρ} (hv : kop P cf o ty e h K = some r) : ∃ v h',opV P cf o e h = some (v,h') ∧ K v h' = some r:=by
 have dflt : ((opV P cf o e h).bind fun p => K p.1 p.2) = some r → ∃ v h',opV P cf o e h = some (v,h') ∧ K v h' = some r:=fun hv => by
  obtain ⟨p,h1,h2⟩:=Option.bind_eq_some_iff.1 hv
  exact ⟨p.1,p.2,h1,h2⟩
 cases o with
 | move x => exact ⟨_,_,rfl,hv⟩
 | assign x => exact ⟨_,_,rfl,hv⟩
 | pick c a b =>
  clear dflt
  have hv' : kpick (ev e c) (ev e a) (ev e b) (fun v => K v h) = some r:=hv
  unfold kpick at hv'
  unfold opV
  split at hv'
  ·rename_i t ht
   simp only [ht]
   cases t with
   | true => exact ⟨_,_,rfl,hv'⟩
   | false => exact ⟨_,_,rfl,hv'⟩
  ·cases hv'
 | load t x =>
  have hv' : kload P t (ev e x) h (fun v => K v h) = some r:=hv
  obtain ⟨v,h1,h2⟩:=kload_ok hv'
  exact ⟨v,h,congrArg (fun o => o.map fun v => (v,h)) h1,h2⟩
 | makeFunc fn first captured =>
  clear dflt
  have hv' : cond ((first.toList.all fun x => atomV (ev e x)) && (captured.toList.all fun x => atomV (ev e x))) (K (Value.func fn (first.toList.map (ev e)).toArray (captured.toList.map (ev e)).toArray) h) none = some r:=hv
  obtain ⟨hc,hv'⟩:=cond_some' hv'
  refine ⟨Value.func fn (first.toList.map (ev e)).toArray (captured.toList.map (ev e)).toArray,h,?_,hv'⟩
  show cond ((first.toList.all fun x => atomV (ev e x)) && (captured.toList.all fun x => atomV (ev e x))) (some (Value.func fn (first.map (ev e)) (captured.map (ev e)),h)) none = _
  rw [hc,cond_true]
  have e1 : ∀ a : Array Operand,(a.toList.map (ev e)).toArray = a.map (ev e):=fun a => by
   apply Array.ext'
   rw [List.toList_toArray,Array.toList_map]
  rw [e1,e1]
 | lookup t x i ok =>
  clear dflt
  obtain ⟨v,h1,h2⟩:=Option.bind_eq_some_iff.1 hv
  refine ⟨v,h,?_,viewT_ok h2⟩
  unfold lookV at h1
  show ((P.underlying t).bind fun d => match d with
   | .map kt et => cond (keyFit P kt (ev e i)) ((zeroM P et).bind fun z => (mapCells h (ev e x)).bind fun cs => (entFind P kt (ev e i) cs 0).map fun r => (ansM ok z r,h)) none
   | _ => none) = some (v,h)
  obtain ⟨d,hd,h1⟩:=Option.bind_eq_some_iff.1 h1
  rw [hd,Option.bind_some]
  split at h1
  ·obtain ⟨hc,h1⟩:=cond_some' h1
   obtain ⟨z,hz,h1⟩:=Option.bind_eq_some_iff.1 h1
   obtain ⟨cs,hcs,h1⟩:=Option.bind_eq_some_iff.1 h1
   obtain ⟨q,hq,h1⟩:=Option.map_eq_some_iff.1 h1
   simp only [hc,cond_true,hz,hcs,Option.bind_some,hq,Option.map_some,h1]
  ·cases h1
 | mapUpdate t m k v =>
  clear dflt
  obtain ⟨h',h1,h2⟩:=Option.bind_eq_some_iff.1 hv
  refine ⟨undef,h',?_,h2⟩
  unfold mupV at h1
  obtain ⟨p,h3,h4⟩:=Option.bind_eq_some_iff.1 h1
  have hp : p = (undef,h'):=by
   obtain ⟨v1,h5⟩:=p
   simp only at h4
   split at h4
   ·rename_i cs
    obtain ⟨hc,h4⟩:=cond_some' h4
    injection h4 with h4
    subst h4
    have:=List.eq_nil_of_length_eq_zero (Nat.eq_of_beq_eq_true hc)
    rw [show cs = #[] from Array.ext' (by rw [this])]
    rfl
   ·cases h4
  rw [← hp]
  exact h3
 | nilCheck x =>
  clear dflt
  have hv' : knil (ev e x) (fun v => K v h) = some r:=hv
  unfold knil at hv'
  unfold opV
  split at hv'
  ·rename_i a ha
   simp only [ha]
   obtain ⟨ad,rfl,h2⟩:=Option.bind_eq_some_iff.1 hv'
   exact ⟨_,_,rfl,h2⟩
  ·rename_i g f c ha
   simp only [ha]
   exact ⟨_,_,rfl,hv'⟩
  ·cases hv'
 | store t x v =>
  obtain ⟨h',h1,h2⟩:=Option.bind_eq_some_iff.1 hv
  exact ⟨undef,h',congrArg (fun o => o.map fun h' => (undef,h')) h1,h2⟩
 | binOp op t x y yt =>
  have hv' : kbin P op t (ev e x) (ev e y) (fun v => K v h) = some r:=hv
  obtain ⟨v,h1,h2⟩:=kbin_ok hv'
  exact ⟨v,h,congrArg (fun o => o.map fun v => (v,h)) h1,h2⟩
 | unOp op t x =>
  have hv' : kun op (ev e x) (fun v => K v h) = some r:=hv
  obtain ⟨v,h1,h2⟩:=kun_ok hv'
  exact ⟨v,h,congrArg (fun o => o.map fun v => (v,h)) h1,h2⟩
 | convert s d x =>
  have hv' : cond (isSliceT P d) ((convBy P s d (ev e x) h).bind fun p => K p.1 p.2) (kconv P s d (ev e x) fun v => K v h) = some r:=hv
  have hop : opV P cf (.convert s d x) e h = cond (isSliceT P d) (convBy P s d (ev e x) h) ((convV P s d (ev e x)).map fun v => (v,h)):=rfl
  cases hi : isSliceT P d with
  | true =>
   rw [hi,cond_true] at hv' hop
   obtain ⟨p,h1,h2⟩:=Option.bind_eq_some_iff.1 hv'
   exact ⟨p.1,p.2,hop.trans h1,h2⟩
  | false =>
   rw [hi,cond_false] at hv' hop
   obtain ⟨v,h1,h2⟩:=kconv_ok hv'
   exact ⟨v,h,hop.trans (congrArg (fun o => o.map fun v => (v,h)) h1),h2⟩
 | indexAddr t x i =>
  have hv' : kindexAddr P t (ev e x) (ev e i) (fun v => K v h) = some r:=hv
  obtain ⟨v,h1,h2⟩:=kindexAddr_ok hv'
  exact ⟨v,h,congrArg (fun o => o.map fun v => (v,h)) h1,h2⟩
 | index t x i =>
  have hv' : kindex P t (ev e x) (ev e i) (fun v => K v h) = some r:=hv
  obtain ⟨v,h1,h2⟩:=kindex_ok hv'
  exact ⟨v,h,congrArg (fun o => o.map fun v => (v,h)) h1,h2⟩
 | fieldAddr s x f =>
  have hv' : kfieldAddr P s (ev e x) f (fun v => K v h) = some r:=hv
  obtain ⟨v,h1,h2⟩:=kfieldAddr_ok hv'
  exact ⟨v,h,congrArg (fun o => o.map fun v => (v,h)) h1,h2⟩
 | slice t x lo hi mx =>
  obtain ⟨v,h1,h2⟩:=Option.bind_eq_some_iff.1 hv
  exact ⟨v,h,congrArg (fun o => o.map fun v => (v,h)) h1,viewT_ok h2⟩
 | call c =>
  clear dflt
  obtain ⟨callee,cargs,cts⟩:=c
  cases callee with
  | builtin b =>
   have hv' : kbuiltin P b cts.toList ty (cargs.toList.map (ev e)) h K = some r:=hv
   show ∃ v h',builtinV P b cts.toList (cargs.toList.map (ev e)) h = some (v,h') ∧ _
   clear hv
   generalize cargs.toList.map (ev e) = args at hv'
   unfold kbuiltin at hv'
   split at hv'
   ·obtain ⟨p,h1,h2⟩:=Option.bind_eq_some_iff.1 hv'
    exact ⟨_,_,h1,viewT_ok h2⟩
   ·obtain ⟨p,h1,h2⟩:=Option.bind_eq_some_iff.1 hv'
    exact ⟨_,_,h1,viewT_ok h2⟩
   ·exact ⟨_,_,rfl,hv'⟩
   ·exact ⟨_,_,rfl,hv'⟩
   ·obtain ⟨p,h1,h2⟩:=Option.bind_eq_some_iff.1 hv'
    exact ⟨_,_,h1,h2⟩
  | value f =>
   have hv' : kcallF P cf (ev e f) (cargs.toList.map (ev e)) h K = some r:=hv
   clear hv
   unfold opV
   simp only
   generalize ev e f = fv at hv'
   unfold kcallF at hv'
   split at hv'
   ·obtain ⟨p,h1,h2⟩:=Option.bind_eq_some_iff.1 hv'
    obtain ⟨fn,_,h3⟩:=Option.bind_eq_some_iff.1 h2
    exact ⟨p.1,p.2,by simp only [orC,h1],viewR_ok h3⟩
   ·cases hv'
  | invoke r m => cases hv
 | _ => exact dflt hv
theorem Tr.setF_same {α : Type} : ∀ (f : Nat) (t : Tr α) (n : Nat) (a : α),t.get n = some a → Tr.setF f t n a = t
 | 0,_,_,_,_ => rfl
 | f + 1,.nil,n,a,h => by
  rw [Tr.get_nil] at h
  cases h
 | f + 1,.node v l r,0,a,h => by
  have h : v = some a:=h
  subst h
  rfl
 | f + 1,.node v l r,m + 1,a,h => by
  rw [Tr.get_succ] at h
  show cond (Nat.beq (m % 2) 0) (Tr.node v (Tr.setF f l (m / 2) a) r) (Tr.node v l (Tr.setF f r (m / 2) a)) = _
  rw [cond_beq]
  split at h
  ·rename_i hm
   rw [if_pos hm,Tr.setF_same f l _ a h]
  ·rename_i hm
   rw [if_neg hm,Tr.setF_same f r _ a h]
theorem Tr.set_same {α : Type} {t : Tr α} {n : Nat} {a : α} (h : t.get n = some a) : t.set n a = t:=Tr.setF_same _ _ _ _ h
theorem kwant_ok {ops : Array Oper} {o : Oper} {e : Tr Value} {A B : Tr Value → Option ρ} (hv : kwant ops o e A B = some r) : (wantE ops o e = true ∧ A e = some r) ∨ (wantE ops o e = false ∧ B e = some r):=by
 unfold kwant at hv
 unfold wantE
 cases hg : o.guard with
 | none =>
  rw [hg] at hv
  exact .inl ⟨rfl,hv⟩
 | some p =>
  obtain ⟨j,w⟩:=p
  rw [hg] at hv
  simp only at hv ⊢
  generalize (ops.toList[j]?).bind (·.dst) = x at hv
  cases x with
  | none => exact .inr ⟨rfl,hv⟩
  | some t =>
   simp only [Option.map_some] at hv ⊢
   cases he : e.get t with
   | none =>
    rw [he] at hv
    exact .inr ⟨rfl,hv⟩
   | some x =>
    rw [he] at hv
    cases x with
    | bool b =>
     have hs:=Tr.set_same he
     cases w <;> cases b <;> (simp only [cond_true,cond_false,hs] at hv; first | exact .inl ⟨rfl,hv⟩ | exact .inr ⟨rfl,hv⟩)
    | _ => exact .inr ⟨rfl,hv⟩
theorem kcond_ok {c : Operand} {e : Tr Value} {A B : Tr Value → Option ρ} (hv : kcond c e A B = some r) : ∃ b,ev e c = .bool b ∧ (cond b (A e) (B e)) = some r:=by
 cases c with
 | tmp t =>
  have hv' : (match e.get t with | some (.bool b) => cond b (A (e.set t (.bool true))) (B (e.set t (.bool false))) | _ => none) = some r:=hv
  clear hv
  show ∃ b,(e.get t).getD undef = .bool b ∧ _
  cases he : e.get t with
  | none =>
   rw [he] at hv'
   cases hv'
  | some x =>
   rw [he] at hv'
   cases x with
   | bool b =>
    have hs:=Tr.set_same he
    refine ⟨b,rfl,?_⟩
    cases b <;> (simp only [cond_true,cond_false,hs] at hv' ⊢; exact hv')
   | _ => cases hv'
 | _ =>
  unfold kcond at hv
  simp only at hv
  split at hv
  ·rename_i b hb
   exact ⟨b,hb,hv⟩
  ·cases hv
theorem iter_succ {step : Tr Value → AH → Option (Ex × Tr Value × AH)} {k : Nat} {e : Tr Value} {h : AH} : iter step (k + 1) e h = (step e h).bind fun r => match r.1 with
  | .normal => iter step k r.2.1 r.2.2
  | _ => some r:=rfl
section
variable {α : Type}
theorem setF_nil (f n : Nat) (a : α) : Tr.setF (f + 1) .nil n a = Tr.setF (f + 1) (.node none .nil .nil) n a:=by
 cases n with
 | zero => rfl
 | succ m => rfl
theorem setF_succ (f : Nat) (v : Option α) (l r : Tr α) (m : Nat) (a : α) : Tr.setF (f + 1) (.node v l r) (m + 1) a = if m % 2 = 0 then .node v (Tr.setF f l (m / 2) a) r else .node v l (Tr.setF f r (m / 2) a):=by
 rw [← cond_beq]
 rfl
theorem setF_fuel : ∀ (f g : Nat) (t : Tr α) (n : Nat) (a : α),n < f → n < g → Tr.setF f t n a = Tr.setF g t n a:=by
 intro f
 induction f with
 | zero => exact fun _ _ _ _ h => absurd h (Nat.not_lt_zero _)
 | succ f ih =>
  intro g t n a hf hg
  cases g with
  | zero => exact absurd hg (Nat.not_lt_zero _)
  | succ g =>
   have key : ∀ v l r,Tr.setF (f + 1) (.node v l r) n a = Tr.setF (g + 1) (.node v l r) n a:=fun v l r => by
    cases n with
    | zero => rfl
    | succ m => rw [setF_succ,setF_succ,ih g l (m / 2) a (by omega) (by omega),ih g r (m / 2) a (by omega) (by omega)]
   cases t with
   | nil => rw [setF_nil,setF_nil,key]
   | node v l r => exact key v l r
theorem setF_over : ∀ (f : Nat) (t : Tr α) (n : Nat) (a b : α),n < f → Tr.setF f (Tr.setF f t n a) n b = Tr.setF f t n b:=by
 intro f
 induction f with
 | zero => exact fun _ _ _ _ h => absurd h (Nat.not_lt_zero _)
 | succ f ih =>
  intro t n a b hf
  have key : ∀ v l r,Tr.setF (f + 1) (Tr.setF (f + 1) (.node v l r) n a) n b = Tr.setF (f + 1) (.node v l r) n b:=fun v l r => by
   cases n with
   | zero => rfl
   | succ m =>
    rw [setF_succ,setF_succ]
    split
    ·rename_i h
     rw [setF_succ,if_pos h,ih l (m / 2) a b (by omega)]
    ·rename_i h
     rw [setF_succ,if_neg h,ih r (m / 2) a b (by omega)]
  cases t with
  | nil => rw [setF_nil,key,setF_nil]
  | node v l r => exact key v l r
theorem setF_comm : ∀ (f : Nat) (t : Tr α) (n m : Nat) (a b : α),n < f → m < f → n ≠ m → Tr.setF f (Tr.setF f t n a) m b = Tr.setF f (Tr.setF f t m b) n a:=by
 intro f
 induction f with
 | zero => exact fun _ _ _ _ _ h => absurd h (Nat.not_lt_zero _)
 | succ f ih =>
  intro t n m a b hn hm hne
  have key : ∀ v l r,Tr.setF (f + 1) (Tr.setF (f + 1) (.node v l r) n a) m b = Tr.setF (f + 1) (Tr.setF (f + 1) (.node v l r) m b) n a:=fun v l r => by
   cases n with
   | zero =>
    cases m with
    | zero => exact absurd rfl hne
    | succ m =>
     show Tr.setF (f + 1) (.node (some a) l r) (m + 1) b = _
     rw [setF_succ,setF_succ]
     split <;> rfl
   | succ n =>
    cases m with
    | zero =>
     show _ = Tr.setF (f + 1) (.node (some b) l r) (n + 1) a
     rw [setF_succ,setF_succ]
     split <;> rfl
    | succ m =>
     rw [setF_succ,setF_succ]
     by_cases h1 : n % 2 = 0
     ·by_cases h2 : m % 2 = 0
      ·rw [if_pos h1,if_pos h2,setF_succ,setF_succ,if_pos h1,if_pos h2,ih l (n / 2) (m / 2) a b (by omega) (by omega) (by omega)]
      ·rw [if_pos h1,if_neg h2,setF_succ,setF_succ,if_pos h1,if_neg h2]
     ·by_cases h2 : m % 2 = 0
      ·rw [if_neg h1,if_pos h2,setF_succ,setF_succ,if_neg h1,if_pos h2]
      ·rw [if_neg h1,if_neg h2,setF_succ,setF_succ,if_neg h1,if_neg h2,ih r (n / 2) (m / 2) a b (by omega) (by omega) (by omega)]
  cases t with
  | nil => rw [setF_nil,setF_nil f m,key]
  | node v l r => exact key v l r
theorem Tr.set_over (t : Tr α) (n : Nat) (a b : α) : (t.set n a).set n b = t.set n b:=setF_over _ _ _ _ _ (Nat.lt_succ_self n)
theorem Tr.set_comm (t : Tr α) {n m : Nat} (a b : α) (h : n ≠ m) : (t.set n a).set m b = (t.set m b).set n a:=by
 unfold Tr.set
 rw [setF_fuel (n + 1) (n + m + 1) _ n a (by omega) (by omega),setF_fuel (m + 1) (n + m + 1) _ m b (by omega) (by omega),setF_fuel (m + 1) (n + m + 1) t m b (by omega) (by omega),setF_fuel (n + 1) (n + m + 1) _ n a (by omega) (by omega)]
 exact setF_comm _ _ _ _ _ _ (by omega) (by omega) h
end
def locB : Tr ABlk → Nat → List (List Value) → Tr ABlk
 | t,_,[] => t
 | t,i,cs :: r => locB (t.set i ⟨cs,0,i,false⟩) (i + 1) r
def loc (h : AH) (bs : List (List Value)) : AH:={ blks:=locB h.blks h.next bs,grps:=h.grps,next:=h.next + bs.length,low:=h.next }
theorem locB_app : ∀ (bs : List (List Value)) (t : Tr ABlk) (i : Nat) (cs : List Value),locB t i (bs ++ [cs]) = (locB t i bs).set (i + bs.length) ⟨cs,0,i + bs.length,false⟩
 | [],t,i,cs => rfl
 | b :: bs,t,i,cs => by
  show locB _ (i + 1) (bs ++ [cs]) = (locB _ (i + 1) bs).set _ _
  rw [locB_app bs,List.length_cons,show i + 1 + bs.length = i + (bs.length + 1) by omega]
theorem new_loc (h : AH) (bs : List (List Value)) (cs : List Value) : (AH.new (loc h bs) cs 0).2 = loc h (bs ++ [cs]):=by
 unfold AH.new loc
 rw [locB_app,List.length_append]
 rfl
theorem loc_next (h : AH) (bs : List (List Value)) : (loc h bs).next = h.next + bs.length:=rfl
theorem loc_low (h : AH) (bs : List (List Value)) : (loc h bs).low = h.next:=rfl
theorem locB_old : ∀ (bs : List (List Value)) (t : Tr ABlk) (i β : Nat),β < i → (locB t i bs).get β = t.get β
 | [],_,_,_,_ => rfl
 | b :: bs,t,i,β,h => by
  show (locB _ (i + 1) bs).get β = _
  rw [locB_old bs _ _ _ (by omega),Tr.get_set,if_neg (by omega)]
theorem locB_get : ∀ (bs : List (List Value)) (t : Tr ABlk) (i j : Nat) (cs : List Value),bs[j]? = some cs → (locB t i bs).get (i + j) = some ⟨cs,0,i + j,false⟩
 | b :: bs,t,i,0,cs,h => by
  injection h with h
  subst h
  show (locB _ (i + 1) bs).get i = _
  rw [locB_old bs _ _ _ (by omega),Tr.get_set,if_pos rfl]
  rfl
 | b :: bs,t,i,j + 1,cs,h => by
  show (locB _ (i + 1) bs).get _ = _
  rw [show i + (j + 1) = i + 1 + j by omega]
  exact locB_get bs _ (i + 1) j cs h
theorem locB_set : ∀ (bs : List (List Value)) (t : Tr ABlk) (i j : Nat) (cs : List Value),j < bs.length → (locB t i bs).set (i + j) ⟨cs,0,i + j,false⟩ = locB t i (bs.set j cs)
 | b :: bs,t,i,0,cs,_ => by
  show (locB _ (i + 1) bs).set i ⟨cs,0,i,false⟩ = locB (t.set i ⟨cs,0,i,false⟩) (i + 1) bs
  have key : ∀ (bs : List (List Value)) (t : Tr ABlk) (k : Nat) (x : ABlk),i < k → (locB t k bs).set i x = locB (t.set i x) k bs:=by
   intro bs
   induction bs with
   | nil => exact fun _ _ _ _ => rfl
   | cons b bs ih =>
    intro t k x hk
    show (locB _ (k + 1) bs).set i x = locB _ (k + 1) bs
    rw [ih _ _ _ (by omega),Tr.set_comm t _ _ (by omega)]
  rw [key _ _ _ _ (by omega),Tr.set_over]
 | b :: bs,t,i,j + 1,cs,h => by
  show (locB _ (i + 1) bs).set _ _ = locB _ (i + 1) (bs.set j cs)
  rw [show i + (j + 1) = i + 1 + j by omega]
  exact locB_set bs _ (i + 1) j cs (Nat.lt_of_succ_lt_succ h)
variable {h : AH}
theorem loc_rd (H : WF h) {bs : List (List Value)} {j : Nat} {cs : List Value} (hj : bs[j]? = some cs) : (loc h bs).rd (h.next + j) = some ⟨cs,0,h.next + j,false⟩:=by
 refine rd_of (locB_get bs _ _ _ _ hj) ?_
 show h.next + j ∈ (h.grps.get (h.next + j)).getD [h.next + j]
 rw [(H.new _ (by omega)).2]
 exact List.mem_singleton.2 rfl
theorem loc_rdC (H : WF h) {bs : List (List Value)} {j o i : Nat} {cs : List Value} (hj : bs[j]? = some cs) : rdC (loc h bs) ⟨h.next + j,o,none⟩ i = cs[o + i]?:=by
 unfold rdC
 simp only [loc_rd H hj,Option.bind_some]
theorem loc_store (H : WF h) {P : Program} {t : TypeId} {bs : List (List Value)} {j o s : Nat} {cs vs : List Value} {v : Value} (hj : bs[j]? = some cs) (hs : sizeT P t = some s) (hv : cellsOfV v = some vs)
  (hl : vs.length = s) (hf : o + s ≤ cs.length) : storeV P t (.pointer (some ⟨h.next + j,o,none⟩)) v (loc h bs) = some (loc h (bs.set j (putAt cs o vs))):=by
 have hjl : j < bs.length:=(List.getElem?_eq_some_iff.1 hj).1
 unfold storeV
 simp only [loc_rd H hj,Option.bind_some,hs,hv]
 rw [show Nat.beq vs.length s = true from Nat.beq_eq.mpr hl,Nat.ble_eq_true_of_le hf]
 show (AH.wr (loc h bs) (h.next + j) ⟨cs,0,h.next + j,false⟩ (putAt cs o vs)) = _
 have hm : (loc h bs).members (h.next + j) = [h.next + j]:=by
  show (h.grps.get (h.next + j)).getD [h.next + j] = _
  rw [(H.new _ (by omega)).2]
  rfl
 unfold AH.wr
 simp only [cond_false,hm]
 refine congrArg some ?_
 unfold loc
 rw [List.length_set,← locB_set bs h.blks h.next j _ hjl]
 have : Nat.blt (h.next + j) h.next = false:=by
  cases e : Nat.blt (h.next + j) h.next with
  | false => rfl
  | true =>
   have:=Nat.le_of_ble_eq_true e
   omega
 simp only [this,cond_false]
theorem exitR_loc {bs : List (List Value)} {v : Value} (hv : plainV v = true) : exitR h (loc h bs) v = (v,h):=by
 unfold exitR
 rw [loc_low,Nat.beq_refl,hv]
 rfl
theorem loc_wf (H : WF h) (bs : List (List Value)) : WF (loc h bs):=by
 have key : ∀ (bs : List (List Value)) (t : Tr ABlk) (i : Nat),(∀ β b,t.get β = some b → b.grp ≤ β) → (∀ β,i ≤ β → t.get β = none) →
   (∀ β b,(locB t i bs).get β = some b → b.grp ≤ β) ∧ ∀ β,i + bs.length ≤ β → (locB t i bs).get β = none:=by
  intro bs
  induction bs with
  | nil => exact fun t i h1 h2 => ⟨h1,h2⟩
  | cons b bs ih =>
   intro t i h1 h2
   have:=ih (t.set i ⟨b,0,i,false⟩) (i + 1) (fun β c hc => by
    rw [Tr.get_set] at hc
    split at hc
    ·rename_i e
     injection hc with hc
     subst hc
     exact Nat.le_of_eq e.symm
    ·exact h1 β c hc) (fun β hβ => by rw [Tr.get_set,if_neg (by omega)]; exact h2 β (by omega))
   exact ⟨this.1,fun β hβ => this.2 β (by rw [List.length_cons] at hβ; omega)⟩
 have:=key bs h.blks h.next H.gle fun β hβ => (H.new β hβ).1
 exact ⟨this.1,fun β hβ => ⟨this.2 β hβ,(H.new β (by have : h.next + bs.length ≤ β:=hβ; omega)).2⟩⟩
theorem vInt_int (k : IntKind) (n : Int) : vInt k (.int k n) = some n:=by
 show cond (decide (k = k)) (some n) none = some n
 rw [decide_eq_true rfl]
 rfl
theorem add_lit (b o k : Nat) : Addr.add ⟨b,o,none⟩ k = ⟨b,o + k,none⟩:=add_none rfl k
theorem aggIs2 (a b : Value) : aggIs 2 (.agg #[a,b]) = true:=rfl
theorem aggC20 (a b : Value) : aggC 0 (.agg #[a,b]) = some a:=rfl
theorem aggC21 (a b : Value) : aggC 1 (.agg #[a,b]) = some b:=rfl
theorem tupIs2 (a b : Value) : tupIs 2 (.tuple #[a,b]) = true:=rfl
theorem tupC20 (a b : Value) : tupC 0 (.tuple #[a,b]) = some a:=rfl
theorem tupC21 (a b : Value) : tupC 1 (.tuple #[a,b]) = some b:=rfl
section
variable {h : AH} {bs : List (List Value)}
theorem exitR_bool (b : Bool) : exitR h (loc h bs) (.bool b) = (.bool b,h):=exitR_loc rfl
theorem exitR_int (k : IntKind) (n : Int) : exitR h (loc h bs) (.int k n) = (.int k n,h):=exitR_loc rfl
theorem exitR_ints (k k' : IntKind) (m n : Int) : exitR h (loc h bs) (.agg #[.int k m,.int k' n]) = (.agg #[.int k m,.int k' n],h):=exitR_loc rfl
theorem exitR_ii (k k' : IntKind) (m n : Int) : exitR h (loc h bs) (.tuple #[.int k m,.int k' n]) = (.tuple #[.int k m,.int k' n],h):=exitR_loc rfl
theorem exitR_ib (k : IntKind) (m : Int) (b : Bool) : exitR h (loc h bs) (.tuple #[.int k m,.bool b]) = (.tuple #[.int k m,.bool b],h):=exitR_loc rfl
variable {P : Program} {t : TypeId} {o s : Nat} {vs : List Value} {v : Value}
theorem st0 (H : WF h) {c0 : List Value} (hs : sizeT P t = some s) (hv : cellsOfV v = some vs) (hl : vs.length = s) (hf : o + s ≤ c0.length) :
  storeV P t (.pointer (some ⟨h.next,o,none⟩)) v (loc h (c0 :: bs)) = some (loc h (putAt c0 o vs :: bs)):=loc_store (j:=0) H rfl hs hv hl hf
end
theorem WF.mark {h : AH} (H : WF h) : WF (AH.mark h):=H.setLow _
theorem shut_ex {α : Type} (a : α) : ∃ x : α,x = a:=⟨a,rfl⟩
 noncomputable def shut {α : Type} (a : α) : α:=Classical.choose (shut_ex a)
theorem shut_eq {α : Type} (a : α) : shut a = a:=Classical.choose_spec (shut_ex a)
 noncomputable def runS : Program → Nat → FuncId → List Value → AH → Option (Value × AH):=shut run
theorem runS_eq : runS = run:=shut_eq run
 noncomputable def mulS : IntKind → Int → Int → Int:=shut iMul
theorem mulS_eq : mulS = iMul:=shut_eq iMul
def TOP : Nat:=2 ^ 4096 - 1
def maskOf : List Nat → Nat
 | [] => 0
 | i :: l => maskOf l ||| 2 ^ i
def okX (A : Nat) : Operand → Bool
 | .tmp t => A.testBit t
 | _ => true
def okOp (A : Nat) (o : Op) : Bool:=o.operands.toList.all (okX A)
def setA (A : Nat) : Option Tmp → Nat
 | some d => A ||| 2 ^ d
 | none => A
def okG (ops : Array Oper) (A : Nat) (o : Oper) : Bool :=
 match o.guard with
 | none => true
 | some (j,_) => match (ops.toList[j]?).bind (·.dst) with
  | none => true
  | some t => A.testBit t
def okOps (ops : Array Oper) : List Oper → Nat → Option Nat
 | [],A => some A
 | o :: r,A => cond (okG ops A o && okOp A o.op) (okOps ops r (setA A o.dst)) none
def okC (R : Nat) : Code → Nat → Option Nat
 | .skip,A => some A
 | .region _ ops d,A => cond (!d || noS ops.toList) (okOps ops ops.toList A) none
 | .seq a b,A => (okC R a A).bind fun A => okC R b A
 | .cond c x y,A => cond (okX A c) ((okC R x A).bind fun a => (okC R y A).map fun b => a &&& b) none
 | .block _ c,A => (okC R c A).map fun _ => A
 | .loop c,A => (okC R c A).map fun _ => TOP
 | .exit _,_ => some TOP
 | .ret,A => cond (Nat.beq (R &&& A) R) (some TOP) none
 | _,_ => none
inductive Fy where
 | seq (b : Code) (p : List Nat)
 | block (id : Nat)
 | loop (c : Code) (p : List Nat) (m : Nat)
inductive Ny where
 | code (c : Code) (p : List Nat)
 | raw (c : Code) (p : List Nat)
 | head (c : Code) (p : List Nat) (m : Nat)
 | ends (x : Ex)
def okF (R : Nat) : List Fy → Nat → Nat → Bool
 | [],A,_ => Nat.beq (R &&& A) R
 | .seq b _ :: fr,A,X => match okC R b A with
  | some A => okF R fr A X
  | none => false
 | .block _ :: fr,A,X => okF R fr (A &&& X) X
 | .loop c _ _ :: fr,A,X => (okC R c A).isSome && okF R fr TOP X
def okN (R : Nat) (L : Nat) : Ny → List Fy → Bool
 | .code c _,fr | .raw c _,fr => match okC R c L with
  | some A => okF R fr A L
  | none => false
 | .head c _ _,fr => (okC R c L).isSome && okF R fr TOP L
 | .ends _,_ => false
def resMask : List ResultVar → Nat
 | [] => 0
 | .tmp t :: l => resMask l ||| 2 ^ t
 | .cell a _ :: l => resMask l ||| 2 ^ a
section
variable (P : Program) (cf : FuncId → List Value → AH → Option (Value × AH)) (k : Nat)
def unwY : List Fy → Ex → Tr Value → AH → Option (Ex × Tr Value × AH)
 | [],x,e,h => some (x,e,h)
 | .seq b _ :: fr,x,e,h => match x with
  | .normal => (exec P cf k b e h).bind fun r => unwY fr r.1 r.2.1 r.2.2
  | x => unwY fr x e h
 | .block id :: fr,x,e,h => match x with
  | .exit j => cond (Nat.beq j id) (unwY fr .normal e h) (unwY fr (.exit j) e h)
  | x => unwY fr x e h
 | .loop c _ m :: fr,x,e,h => match x with
  | .normal => (iter (exec P cf k c) m e h).bind fun r => unwY fr r.1 r.2.1 r.2.2
  | x => unwY fr x e h
def denY (n : Ny) (fr : List Fy) (e : Tr Value) (h : AH) : Option (Ex × Tr Value × AH) :=
 match n with
 | .code c _ | .raw c _ => (exec P cf k c e h).bind fun r => unwY P cf k fr r.1 r.2.1 r.2.2
 | .head c _ m => (iter (exec P cf k c) m e h).bind fun r => unwY P cf k fr r.1 r.2.1 r.2.2
 | .ends x => unwY P cf k fr x e h
end
def zfin (P : Program) (fn : Func) (h0 : AH) (x : Ex) (e : Tr Value) (h : AH) : Option (Value × AH) :=
 match x with
 | .exit _ => none
 | _ => (resVs P e h fn.results.toList).bind fun vs => (packV vs).map fun v => exitR h0 h v
def resY1 (P : Program) (cf : FuncId → List Value → AH → Option (Value × AH)) (n : Nat) (fn : Func) (h0 : AH) (x : Ny) (fr : List Fy) (e : Tr Value) (h : AH) : Option (Value × AH) :=
 (denY P cf n x fr e h).bind fun r => zfin P fn h0 r.1 r.2.1 r.2.2
def resY0 (P : Program) (n : Nat) (fn : Func) (h0 : AH) (x : Ny) (fr : List Fy) (e : Tr Value) (h : AH) : Option (Value × AH) :=
 (denY P (run P n) n x fr e h).bind fun r => zfin P fn h0 r.1 r.2.1 r.2.2
 noncomputable def resY : Program → Nat → Func → AH → Ny → List Fy → Tr Value → AH → Option (Value × AH):=shut resY0
theorem resY_eq : resY = resY0:=shut_eq resY0
 noncomputable def resC : Program → (FuncId → List Value → AH → Option (Value × AH)) → Nat → Func → AH → Ny → List Fy → Tr Value → AH → Option (Value × AH):=shut resY1
theorem resC_eq : resC = resY1:=shut_eq resY1
 noncomputable def runC : Program → (FuncId → List Value → AH → Option (Value × AH)) → Nat → FuncId → List Value → AH → Option (Value × AH):=shut run1
theorem runC_eq : runC = run1:=shut_eq run1
def E : List (Nat × Value) → Tr Value
 | [] => .nil
 | p :: l => (E l).set p.1 p.2
def keep (e : Tr Value) : List Nat → List (Nat × Value)
 | [] => []
 | i :: l => match e.get i with
  | some v => (i,v) :: keep e l
  | none => keep e l
def gI (k : IntKind) (o : Option Value) : Option Int:=o.bind (vInt k)
def gB (o : Option Value) : Option Bool:=o.bind vBool
def gS (o : Option Value) : Option ByteArray:=o.bind vStr
def gL (o : Option Value) : Option (Option Addr × Nat × Nat):=o.bind vSl
def gP (o : Option Value) : Option (Option Addr):=o.bind vPtr
def hNew (h : AH) (cells : List Value) (z : Nat) : Option (Nat × AH):=some (AH.new h cells z)
abbrev NewF:=AH → List Value → Nat → Option (Nat × AH)
def stL (h : AH) (a : Addr) (vs : List Value) : Option AH :=
 match a.spot with
 | none => (h.rd a.block).bind fun b => cond (Nat.ble (a.off + vs.length) b.cells.length) (h.wr a.block b (putAt b.cells a.off vs)) none
 | some _ => none
def setLow (h : AH) (l : Nat) : AH:={ h with low:=l }
def appL (z by_ : Nat) (s x : Value) (h : AH) : Option ((Option Addr × Nat × Nat) × AH):=(appendV z by_ s x h).bind fun p => (vSl p.1).map fun s => (s,p.2)
section
variable (P : Program) {ρ : Type}
def viewC (t : TypeId) (o : Option Value) (K : Value → Option ρ) : Option ρ :=
 match P.underlying t with
 | some (.int k) => (gI k o).bind fun n => K (.int k n)
 | some .bool => (gB o).bind fun b => K (.bool b)
 | some .string => (gS o).bind fun s => K (.string s)
 | some (.slice _) => (gL o).bind fun s => K (.slice s.1 s.2.1 s.2.2)
 | some (.pointer _) => (gP o).bind fun a => K (.pointer a)
 | _ => o.bind fun v => K v
def viewM (rd : Nat → Option Value) : List TypeId → Nat → (List Value → Option ρ) → Option ρ
 | [],_,K => K []
 | t :: ts,i,K => viewC P t (rd i) fun v => viewM rd ts (i + 1) fun l => K (v :: l)
def yviewT (t : TypeId) (o : Option Value) (K : Value → Option ρ) : Option ρ :=
 (aggT P t).bind fun ag => cond ag
  (o.bind fun v => (P.cellTypes P.depth t).bind fun ts => cond (aggIs ts.length v) (viewM P (fun i => aggC i v) ts 0 fun l => K (.agg l.toArray)) none)
  (viewC P t o K)
def yviewTs (v : Value) : List TypeId → Nat → (List Value → Option ρ) → Option ρ
 | [],_,K => K []
 | t :: ts,i,K => yviewT P t (tupC i v) fun x => yviewTs v ts (i + 1) fun l => K (x :: l)
def yviewR (ts : List TypeId) (v : Value) (K : Value → Option ρ) : Option ρ :=
 match ts with
 | [] => K v
 | [t] => yviewT P t (some v) K
 | ts => cond (tupIs ts.length v) (yviewTs P v ts 0 fun l => K (.tuple l.toArray)) none
def yload (t : TypeId) (x : Value) (h : AH) (K : Value → Option ρ) : Option ρ :=
 match x with
 | .pointer a => a.bind fun ad => (aggT P t).bind fun ag => cond ag
   ((P.cellTypes P.depth t).bind fun ts => cond (decide (sizeT P t = some ts.length) && !(Nat.beq ts.length 0)) (viewM P (rdC h ad) ts 0 fun l => K (.agg l.toArray)) none)
   (viewC P t (rdC h ad 0) K)
 | _ => none
def ystore (t : TypeId) (x v : Value) (h : AH) (K : AH → Option ρ) : Option ρ :=
 match x with
 | .pointer a => a.bind fun ad => (sizeT P t).bind fun s => (cellsOfV v).bind fun vs => cond (Nat.beq vs.length s) ((stL h ad vs).bind K) none
 | _ => none
 noncomputable def ybin (op : BinOp) (t : TypeId) (x y : Value) (K : Value → Option ρ) : Option ρ :=
  match op,x,y with
  | .mul,.int k a,.int k' b => cond (decide (k = k')) (K (.int k (mulS k a b))) none
  | op,x,y => kbin P op t x y K
def ybuiltin (b : Builtin) (ts : List TypeId) (args : List Value) (h : AH) (D : Option ρ) (K : Value → AH → Option ρ) : Option ρ :=
 match b,ts,args with
 | .append,[t,u],[s,x] => (P.underlying t).bind fun d => (P.underlying u).bind fun d' => match d,d' with
  | .slice el,.slice _ => (sizeT P el).bind fun z => (bytesT P el).bind fun by_ => (zeroT P el).bind fun zz => (cellsOfV zz).bind fun zs =>
    cond (Nat.beq by_ 0 || !(Nat.beq zs.length z)) none ((appL z by_ s x h).bind fun p => K (.slice p.1.1 p.1.2.1 p.1.2.2) p.2)
  | _,_ => none
 | _,_,_ => D
def hasA (h : AH) (a : Addr) : Bool:=(h.blks.get a.block).isSome
def apartA (h : AH) (a b : Addr) : Bool:=match h.blks.get a.block,h.blks.get b.block with
 | some x,some y => !(Nat.beq y.grp x.grp)
 | _,_ => false
def dynY (e : Tr Value) (h : AH) (a : Addr) (m i : Nat) (A : Option ρ) : Nat → List Oper → Option ρ
 | _,[] => A
 | x,o :: r => cond (Nat.ble i x || bitIn m x) (dynY e h a m i A (x + 1) r) (match o.op with
  | .load _ (.tmp t) => cond (noW t i x (o :: r)) (match e.get t with
   | some (.pointer (some b)) => cond (apartA h a b) (dynY e h a m i A (x + 1) r) none
   | _ => none) none
  | _ => dynY e h a m i A (x + 1) r)
def dynK (l : List Oper) (i : Nat) (e : Tr Value) (h : AH) (A : Option ρ) : Option ρ:=match storeAt l i with
 | some d => match e.get d with
  | some (.pointer (some a)) => cond (hasA h a) (dynY e h a (((bmasks l [])[i]?).getD 0) i A 0 l) none
  | _ => none
 | none => none
def ycallF (cf : FuncId → List Value → AH → Option (Value × AH)) (f : Value) (args : List Value) (h : AH) (K : Value → AH → Option ρ) : Option ρ :=
 match f with
 | .func (.func g) first captured => (cf g (first.toList ++ (args ++ captured.toList)) h).bind fun p =>
   (P.funcs[g]?).bind fun fn => yviewR P fn.resultTypes.toList p.1 fun v => K v p.2
 | _ => none
variable (cf : FuncId → List Value → AH → Option (Value × AH)) (N : AH → List Value → Nat → Option (Nat × AH))
 noncomputable def yop (o : Op) (ty : TypeId) (e : Tr Value) (h : AH) (K : Value → AH → Option ρ) : Option ρ :=
  match o with
  | .alloc t => (zeroT P t).bind fun z => (cellsOfV z).bind fun vs => cond (vs.all plainC) ((N h vs 0).bind fun p => K (.pointer (some ⟨p.1,0,none⟩)) p.2) none
  | .box _ x => (cellsOfV (ev e x)).bind fun vs => (N h vs 0).bind fun p => K (.pointer (some ⟨p.1,0,none⟩)) p.2
  | .buildSlice t n ps => (P.underlying t).bind fun d => match d with
   | .slice el => (sizeT P el).bind fun s => (zeroT P el).bind fun z => (cellsOfV z).bind fun zs => cond (Nat.ble (n * s) 16777216 && (Nat.beq zs.length s && (zs.all plainC && Nat.ble n 9223372036854775807)))
     ((fillV (fun i => some (i * s,s)) (repl zs n) (ps.toList.map fun p => (p.1,ev e p.2))).bind fun cs => (N h cs s).bind fun p => K (.slice (some ⟨p.1,0,none⟩) n n) p.2) none
   | _ => none
  | .makeSlice t n c => (P.underlying t).bind fun d => match d,ev e n,ev e c with
   | .slice el,.int .i64 n,.int .i64 c => (sizeT P el).bind fun s => (zeroT P el).bind fun z => (bytesT P el).bind fun by_ => (cellsOfV z).bind fun zs => cond (Nat.beq zs.length s && zs.all plainC)
     (cond (iLe 0 n && (iLe n c && (iLe (c * by_) 140737488355328 && iLt c 9223372036854775808))) ((N h (repl zs c.toNat) s).bind fun p => K (.slice (some ⟨p.1,0,none⟩) n.toNat c.toNat) p.2) none) none
   | _,_,_ => none
  | .binOp op t x y _ => ybin P op t (ev e x) (ev e y) fun v => K v h
  | .load t x => yload P t (ev e x) h fun v => K v h
  | .store t x v => ystore P t (ev e x) (ev e v) h fun h' => K undef h'
  | .call c => match c.callee with
   | .builtin b => ybuiltin P b c.argTypes.toList (c.args.toList.map (ev e)) h (kop P cf o ty e h K) K
   | .value f => ycallF P cf (ev e f) (c.args.toList.map (ev e)) h K
   | .invoke _ _ => none
  | o => kop P cf o ty e h K
 noncomputable def yops (ops : Array Oper) : List Oper → Tr Value → AH → (Tr Value → AH → Option ρ) → Option ρ
  | [],e,h,K => K e h
  | o :: r,e,h,K => kwant ops o e (fun e => yop P cf N o.op o.type e h fun v h' => yops ops r (putE e o.dst v) h' K) (fun e => yops ops r (putE e o.dst undef) h K)
 noncomputable def yopsH (ops : Array Oper) : List Oper → Tr Value → AH → List AH → (Tr Value → AH → List AH → Option ρ) → Option ρ
  | [],e,h,H,K => K e h (H ++ [h])
  | o :: r,e,h,H,K => kwant ops o e (fun e => yop P cf N o.op o.type e h fun v h' => yopsH ops r (putE e o.dst v) h' (H ++ [h]) K) (fun e => yopsH ops r (putE e o.dst undef) h (H ++ [h]) K)
 noncomputable def ywrun (ops : Array Oper) (e : Tr Value) (h : AH) (K : Tr Value → AH → Option ρ) : Option ρ :=
  cond (tailW ops.toList) (yopsH P cf N ops ops.toList e h [] fun e h H => cond (wchk P ops.toList (bmasks ops.toList []) e H 0 ops.toList) (K e h) none) none
 noncomputable def ydraw (T : Bool) (ops : Array Oper) (F : Option ρ) : Nat → List Oper → Tr Value → AH → (Tr Value → AH → Option ρ) → Option ρ
  | _,[],e,h,K => K e h
  | i,o :: r,e,h,K => kwant ops o e
    (fun e => cond (quiet o.op) (yop P cf N o.op o.type e h fun v h' => ydraw T ops F (i + 1) r (putE e o.dst v) h' K)
     (cond (tailOK ops.toList i) (yops P cf N ops (o :: r) e h K) (cond (tailS ops.toList i) (cond T (dynK ops.toList i e h (yops P cf N ops (o :: r) e h K)) none)
      (yop P cf N o.op o.type e (setLow h h.next) fun v h' => cond (Nat.beq h'.low h.next) (ydraw T ops F (i + 1) r (putE e o.dst v) (setLow h' h.low) K) F))))
    (fun e => ydraw T ops F (i + 1) r (putE e o.dst undef) h K)
end
def yres (P : Program) {ρ : Type} (e : Tr Value) (h : AH) : List ResultVar → (List Value → Option ρ) → Option ρ
 | [],K => K []
 | .tmp t :: l,K => yres P e h l fun vs => K ((e.get t).getD undef :: vs)
 | .cell a t :: l,K => yload P t ((e.get a).getD undef) h fun v => yres P e h l fun vs => K (v :: vs)
def yfin (P : Program) (fn : Func) (h0 : AH) (x : Ex) (e : Tr Value) (h : AH) : Option (Value × AH) :=
 match x with
 | .exit _ => none
 | _ => yres P e h fn.results.toList fun vs => (packV vs).bind fun v => some (exitR h0 h v)
def beqL : List Nat → List Nat → Bool
 | [],[] => true
 | a :: l,b :: m => Nat.beq a b && beqL l m
 | _,_ => false
def hasW : List (List Nat × List Nat) → Bool
 | [] => false
 | q :: l => beqL q.1 [9] || hasW l
def hasT : List (List Nat × List Nat) → Bool
 | [] => false
 | q :: l => beqL q.1 [8] || hasT l
def look : List (List Nat × List Nat) → List Nat → Option (List Nat)
 | [],_ => none
 | q :: l,p => cond (beqL q.1 p) (some q.2) (look l p)
def isLoop : Code → Bool
 | .loop _ => true
 | _ => false
section
variable (P : Program) (cf : FuncId → List Value → AH → Option (Value × AH)) (n : Nat) (fn : Func) (h0 : AH) (plan : List (List Nat × List Nat)) (N : AH → List Value → Nat → Option (Nat × AH)) (C : Ny → List Fy → Tr Value → AH → Option (Value × AH))
def cutY (L : List Nat) (x : Ny) (fr : List Fy) (e : Tr Value) (h : AH) : Option (Value × AH) :=
 cond (okN (resMask fn.results.toList) (maskOf L) x fr) (C x fr (E (keep e L)) h) none
 noncomputable def ygo : Nat → Ny → List Fy → Tr Value → AH → Option (Value × AH)
  | 0,_,_,_,_ => none
  | f + 1,.ends x,fr,e,h => match fr with
   | [] => yfin P fn h0 x e h
   | .seq b p :: fr => match x with
    | .normal => ygo f (.code b p) fr e h
    | x => ygo f (.ends x) fr e h
   | .block id :: fr => match x with
    | .exit j => cond (Nat.beq j id) (ygo f (.ends .normal) fr e h) (ygo f (.ends (.exit j)) fr e h)
    | x => ygo f (.ends x) fr e h
   | .loop c p m :: fr => match x with
    | .normal => match look plan p with
     | some L => cutY fn C L (.head c p m) fr e h
     | none => none
    | x => ygo f (.ends x) fr e h
  | f + 1,.code c p,fr,e,h => match look plan p with
   | some L => cond (isLoop c) (ygo f (.raw c p) fr e h) (cutY fn C L (.code c p) fr e h)
   | none => ygo f (.raw c p) fr e h
  | _ + 1,.head c p m,fr,e,h => match look plan p with
   | some L => cutY fn C L (.head c p m) fr e h
   | none => none
  | f + 1,.raw c p,fr,e,h => match c with
   | .skip => ygo f (.ends .normal) fr e h
   | .region _ ops d => cond d (ydraw P cf N (hasT plan) ops (cond (hasW plan) (ywrun P cf N ops e h fun e h => ygo f (.ends .normal) fr e h) none) 0 ops.toList e h fun e h => ygo f (.ends .normal) fr e h) (yops P cf N ops ops.toList e h fun e h => ygo f (.ends .normal) fr e h)
   | .seq a b => ygo f (.code a (0 :: p)) (.seq b (1 :: p) :: fr) e h
   | .cond c x y => kcond c e (fun e => ygo f (.code x (0 :: p)) fr e h) (fun e => ygo f (.code y (1 :: p)) fr e h)
   | .block id c => ygo f (.code c (0 :: p)) (.block id :: fr) e h
   | .exit id => ygo f (.ends (.exit id)) fr e h
   | .ret => ygo f (.ends .ret) fr e h
   | .loop c => ygo f (.head c p n) fr e h
   | _ => none
 noncomputable def yhead (c : Code) (p : List Nat) (m : Nat) (fr : List Fy) (e : Tr Value) (h : AH) : Option (Value × AH):=ygo P cf n fn h0 plan N C 4000 (.raw c (0 :: p)) (.loop c p m :: fr) e h
 noncomputable def yfrom (c : Code) (p : List Nat) (fr : List Fy) (e : Tr Value) (h : AH) : Option (Value × AH):=ygo P cf n fn h0 plan N C 4000 (.raw c p) fr e h
end
 noncomputable def yrun (P : Program) (cf : FuncId → List Value → AH → Option (Value × AH)) (n : Nat) (plan : List (List Nat × List Nat)) (N : AH → List Value → Nat → Option (Nat × AH)) (C : Func → AH → Ny → List Fy → Tr Value → AH → Option (Value × AH)) (f : FuncId) (args : List Value) (h : AH) : Option (Value × AH) :=
  match P.funcs[f]? with
  | some fn => match fn.body with
   | some c => ygo P cf n fn h plan N (C fn h) 4000 (.raw c []) [] (envOf args 0 (env0 fn.ntmps)) (setLow h h.next)
   | none => none
  | none => none
variable {P : Program} {cf : FuncId → List Value → AH → Option (Value × AH)} {k : Nat}
def Agr (A : Nat) (e e' : Tr Value) : Prop:=∀ t,A.testBit t = true → e.get t = e'.get t
theorem testBit_setA (A d t : Nat) : (A ||| 2 ^ d).testBit t = (A.testBit t || decide (d = t)):=by
 rw [Nat.testBit_or,Nat.testBit_two_pow]
theorem agr_set {A : Nat} {e e' : Tr Value} (h : Agr A e e') (d : Nat) (v : Value) : Agr (A ||| 2 ^ d) (e.set d v) (e'.set d v):=fun t ht => by
 rw [testBit_setA,Bool.or_eq_true] at ht
 rw [Tr.get_set,Tr.get_set]
 split
 ·rfl
 ·rename_i hne
  rcases ht with ht | ht
  ·exact h t ht
  ·exact absurd (of_decide_eq_true ht).symm hne
theorem agr_put {A : Nat} {e e' : Tr Value} (h : Agr A e e') (d : Option Tmp) (v : Value) : Agr (setA A d) (putE e d v) (putE e' d v):=by
 cases d with
 | none => exact h
 | some d => exact agr_set h d v
theorem agr_sub {A B : Nat} {e e' : Tr Value} (h : Agr A e e') (hs : ∀ t,B.testBit t = true → A.testBit t = true) : Agr B e e':=fun t ht => h t (hs t ht)
theorem agr_and {A B : Nat} {e e' : Tr Value} (h : Agr A e e') : Agr (A &&& B) e e':=agr_sub h fun t ht => by
 rw [Nat.testBit_and,Bool.and_eq_true] at ht
 exact ht.1
theorem agr_and' {A B : Nat} {e e' : Tr Value} (h : Agr B e e') : Agr (A &&& B) e e':=agr_sub h fun t ht => by
 rw [Nat.testBit_and,Bool.and_eq_true] at ht
 exact ht.2
theorem agr_beq {A R : Nat} {e e' : Tr Value} (h : Agr A e e') (hb : Nat.beq (R &&& A) R = true) : Agr R e e':=by
 have hb:=Nat.eq_of_beq_eq_true hb
 rw [← hb]
 exact agr_and' h
theorem sub_setA {A : Nat} {d : Option Tmp} {t : Nat} (h : A.testBit t = true) : (setA A d).testBit t = true:=by
 cases d with
 | none => exact h
 | some d =>
  show (A ||| 2 ^ d).testBit t = true
  rw [testBit_setA,h]
  rfl
theorem okOps_sub {ops : Array Oper} : ∀ (l : List Oper) {A A' : Nat},okOps ops l A = some A' → ∀ t,A.testBit t = true → A'.testBit t = true
 | [],A,A',h,t,ht => by
  injection h with h
  rwa [← h]
 | o :: l,A,A',h,t,ht => okOps_sub l (cond_some' h).2 t (sub_setA ht)
theorem ev_agr {A : Nat} {e e' : Tr Value} (h : Agr A e e') {x : Operand} (hx : okX A x = true) : ev e x = ev e' x:=by
 cases x with
 | tmp t =>
  show (e.get t).getD undef = (e'.get t).getD undef
  rw [h t hx]
 | _ => rfl
theorem opV_agr {A : Nat} {e e' : Tr Value} (h : Agr A e e') {o : Op} (ho : okOp A o = true) (hp : AH) : opV P cf o e hp = opV P cf o e' hp:=by
 have al : ∀ x ∈ o.operands.toList,okX A x = true:=List.all_eq_true.1 ho
 have g : ∀ x ∈ o.operands.toList,ev e x = ev e' x:=fun x hx => ev_agr h (al x hx)
 have mp : ∀ l : List Operand,(∀ x ∈ l,x ∈ o.operands.toList) → l.map (ev e) = l.map (ev e'):=fun l hl => List.map_congr_left fun x hx => g x (hl x hx)
 have pp : ∀ l : List (Nat × Operand),(∀ x ∈ l.map (·.2),x ∈ o.operands.toList) → (l.map fun p => (p.1,ev e p.2)) = l.map fun p => (p.1,ev e' p.2):=fun l hl => List.map_congr_left fun x hx => by
  rw [g x.2 (hl _ (List.mem_map_of_mem hx))]
 have oo : ∀ x : Option Operand,(∀ y ∈ x.toList,y ∈ o.operands.toList) → x.map (ev e) = x.map (ev e'):=fun x hx => by
  cases x with
  | none => rfl
  | some y => exact congrArg some (g y (hx y (List.mem_singleton.2 rfl)))
 have aa : ∀ l : List Operand,(∀ x ∈ l,x ∈ o.operands.toList) → (l.all fun x => atomV (ev e x)) = l.all fun x => atomV (ev e' x):=fun l hl => by
  induction l with
  | nil => rfl
  | cons y l ih =>
   rw [List.all_cons,List.all_cons,g y (hl y (List.mem_cons_self ..)),ih fun x hx => hl x (List.mem_cons_of_mem _ hx)]
 have am : ∀ l : Array Operand,(∀ x ∈ l.toList,x ∈ o.operands.toList) → l.map (ev e) = l.map (ev e'):=fun l hl => by
  apply Array.toList_inj.1
  rw [Array.toList_map,Array.toList_map]
  exact mp _ hl
 cases o with
 | move x => unfold opV; simp only [g x (List.mem_singleton.2 rfl)]
 | assign x => unfold opV; simp only [g x (List.mem_singleton.2 rfl)]
 | pick c a b => unfold opV; simp only [g c (by simp [Op.operands]),g a (by simp [Op.operands]),g b (by simp [Op.operands])]
 | alloc t => rfl
 | box t x => unfold opV; simp only [g x (by simp [Op.operands])]
 | build t ps =>
  unfold opV
  simp only [pp ps.toList (fun x hx => by simpa [Op.operands] using hx)]
 | buildSlice t n ps =>
  unfold opV
  simp only [pp ps.toList (fun x hx => by simpa [Op.operands] using hx)]
 | load t x => unfold opV; simp only [g x (by simp [Op.operands])]
 | store t x v => unfold opV; simp only [g x (by simp [Op.operands]),g v (by simp [Op.operands])]
 | nilCheck x => unfold opV; simp only [g x (by simp [Op.operands])]
 | binOp op t x y yt => unfold opV; simp only [g x (by simp [Op.operands]),g y (by simp [Op.operands])]
 | unOp op t x => unfold opV; simp only [g x (by simp [Op.operands])]
 | convert s d x => unfold opV; simp only [g x (by simp [Op.operands])]
 | slice t x lo hi mx =>
  unfold opV
  simp only [g x (by simp [Op.operands]),oo lo (fun y hy => by simp only [Op.operands,Array.toList_append]; simp [hy] <;> simp_all),oo hi (fun y hy => by simp only [Op.operands,Array.toList_append]; simp_all),oo mx (fun y hy => by simp only [Op.operands,Array.toList_append]; simp_all)]
 | fieldAddr s x f => unfold opV; simp only [g x (by simp [Op.operands])]
 | field s x f => unfold opV; simp only [g x (by simp [Op.operands])]
 | indexAddr t x i => unfold opV; simp only [g x (by simp [Op.operands]),g i (by simp [Op.operands])]
 | index t x i => unfold opV; simp only [g x (by simp [Op.operands]),g i (by simp [Op.operands])]
 | extract x i => unfold opV; simp only [g x (by simp [Op.operands])]
 | makeSlice t n c => unfold opV; simp only [g n (by simp [Op.operands]),g c (by simp [Op.operands])]
 | makeFunc fn first captured =>
  have h1 : ∀ x ∈ first.toList,x ∈ (Op.makeFunc fn first captured).operands.toList:=fun x hx => by
   simp only [Op.operands,Array.toList_append,List.mem_append]
   exact .inl hx
  have h2 : ∀ x ∈ captured.toList,x ∈ (Op.makeFunc fn first captured).operands.toList:=fun x hx => by
   simp only [Op.operands,Array.toList_append,List.mem_append]
   exact .inr hx
  unfold opV
  simp only [aa first.toList h1,aa captured.toList h2,am first h1,am captured h2]
 | call c =>
  obtain ⟨callee,cargs,cts⟩:=c
  cases callee with
  | builtin b =>
   unfold opV
   simp only [mp cargs.toList (fun x hx => by simp only [Op.operands,Call.operands,Array.toList_append,List.mem_append]; exact .inr hx)]
  | value f =>
   unfold opV
   simp only [mp cargs.toList (fun x hx => by simp only [Op.operands,Call.operands,Array.toList_append,List.mem_append]; exact .inr hx),g f (by simp [Op.operands,Call.operands])]
  | invoke r m => rfl
 | makeMap t r => cases r <;> rfl
 | lookup t x i ok => unfold opV mapV; simp only [g x (by simp [Op.operands]),g i (by simp [Op.operands])]
 | mapUpdate t m k x => unfold opV mapV; simp only [g m (by simp [Op.operands]),g k (by simp [Op.operands]),g x (by simp [Op.operands])]
 | insert t m k x => unfold opV mapV; simp only [g m (by simp [Op.operands]),g k (by simp [Op.operands]),g x (by simp [Op.operands])]
 | mapEntry t m k => unfold opV mapV; simp only [g m (by simp [Op.operands]),g k (by simp [Op.operands])]
 | entryStore t m s x => unfold opV mapV; simp only [g m (by simp [Op.operands]),g s (by simp [Op.operands]),g x (by simp [Op.operands])]
 | _ => rfl
theorem wantE_agr {A : Nat} {e e' : Tr Value} (h : Agr A e e') {ops : Array Oper} {o : Oper} (ho : okG ops A o = true) : wantE ops o e = wantE ops o e':=by
 unfold wantE
 unfold okG at ho
 cases hg : o.guard with
 | none => rfl
 | some p =>
  obtain ⟨j,w⟩:=p
  rw [hg] at ho
  simp only at ho ⊢
  generalize (ops.toList[j]?).bind (·.dst) = x at ho
  cases x with
  | none => rfl
  | some t =>
   simp only [Option.map_some]
   rw [h t ho]
theorem opsV_agr {ops : Array Oper} : ∀ (l : List Oper) {A A' : Nat} {e e' : Tr Value} {h : AH} {r : Tr Value × AH},okOps ops l A = some A' → Agr A e e' → opsV P cf ops l e' h = some r →
  ∃ e1,opsV P cf ops l e h = some (e1,r.2) ∧ (∀ B,Agr B e e' → Agr B e1 r.1) ∧ Agr A' e1 r.1
 | [],A,A',e,e',h,r,hk,ha,hv => by
  injection hk with hk
  injection hv with hv
  subst hk
  subst hv
  exact ⟨e,rfl,fun _ h => h,ha⟩
 | o :: l,A,A',e,e',h,r,hk,ha,hv => by
  obtain ⟨hc,hk⟩:=cond_some' hk
  rw [Bool.and_eq_true] at hc
  have hv : cond (wantE ops o e') ((opV P cf o.op e' h).bind fun p => opsV P cf ops l (putE e' o.dst p.1) p.2) (opsV P cf ops l (putE e' o.dst undef) h) = some r:=hv
  show ∃ e1,cond (wantE ops o e) ((opV P cf o.op e h).bind fun p => opsV P cf ops l (putE e o.dst p.1) p.2) (opsV P cf ops l (putE e o.dst undef) h) = some (e1,r.2) ∧ _
  rw [wantE_agr ha hc.1,opV_agr ha hc.2 h]
  cases hw : wantE ops o e' with
  | true =>
   rw [hw] at hv
   obtain ⟨p,h1,h2⟩:=Option.bind_eq_some_iff.1 hv
   rw [h1]
   obtain ⟨e1,q1,q2,q3⟩:=opsV_agr l hk (agr_put ha o.dst p.1) h2
   exact ⟨e1,q1,fun B hB => q2 B (agr_sub (agr_put hB o.dst p.1) fun _ => sub_setA),q3⟩
  | false =>
   rw [hw] at hv
   obtain ⟨e1,q1,q2,q3⟩:=opsV_agr l hk (agr_put ha o.dst undef) hv
   exact ⟨e1,q1,fun B hB => q2 B (agr_sub (agr_put hB o.dst undef) fun _ => sub_setA),q3⟩
theorem tailT_noS {ops : List Oper} (hnS : noS ops = true) {i : Nat} {e : Tr Value} {h : AH} : tailT ops i e h = tailOK ops i:=by
 unfold tailT
 rcases noS_at hnS i with h1 | h1
 ·rw [h1]
  rfl
 ·rw [h1,Bool.false_and,Bool.or_false]
theorem opsH_agr {ops : Array Oper} : ∀ (l : List Oper) {A A' : Nat} {e e' : Tr Value} {h : AH} {H : List AH} {r : Tr Value × AH × List AH},okOps ops l A = some A' → Agr A e e' → opsH P cf ops l e' h H = some r →
  ∃ e1,opsH P cf ops l e h H = some (e1,r.2) ∧ (∀ B,Agr B e e' → Agr B e1 r.1) ∧ Agr A' e1 r.1
 | [],A,A',e,e',h,H,r,hk,ha,hv => by
  injection hk with hk
  injection hv with hv
  subst hk
  subst hv
  exact ⟨e,rfl,fun _ h => h,ha⟩
 | o :: l,A,A',e,e',h,H,r,hk,ha,hv => by
  obtain ⟨hc,hk⟩:=cond_some' hk
  rw [Bool.and_eq_true] at hc
  have hv : cond (wantE ops o e') ((opV P cf o.op e' h).bind fun p => opsH P cf ops l (putE e' o.dst p.1) p.2 (H ++ [h])) (opsH P cf ops l (putE e' o.dst undef) h (H ++ [h])) = some r:=hv
  show ∃ e1,cond (wantE ops o e) ((opV P cf o.op e h).bind fun p => opsH P cf ops l (putE e o.dst p.1) p.2 (H ++ [h])) (opsH P cf ops l (putE e o.dst undef) h (H ++ [h])) = some (e1,r.2) ∧ _
  rw [wantE_agr ha hc.1,opV_agr ha hc.2 h]
  cases hw : wantE ops o e' with
  | true =>
   rw [hw] at hv
   obtain ⟨p,h1,h2⟩:=Option.bind_eq_some_iff.1 hv
   rw [h1]
   obtain ⟨e1,q1,q2,q3⟩:=opsH_agr l hk (agr_put ha o.dst p.1) h2
   exact ⟨e1,q1,fun B hB => q2 B (agr_sub (agr_put hB o.dst p.1) fun _ => sub_setA),q3⟩
  | false =>
   rw [hw] at hv
   obtain ⟨e1,q1,q2,q3⟩:=opsH_agr l hk (agr_put ha o.dst undef) hv
   exact ⟨e1,q1,fun B hB => q2 B (agr_sub (agr_put hB o.dst undef) fun _ => sub_setA),q3⟩
theorem okOps_load {ops : Array Oper} : ∀ (l : List Oper) {A A' : Nat},okOps ops l A = some A' → ∀ o ∈ l,∀ t τ,o.op = .load t (.tmp τ) → A'.testBit τ = true
 | [],_,_,_,_,ho,_,_,_ => by cases ho
 | o :: l,A,A',h,o1,ho,t,τ,hop => by
  obtain ⟨hc,hk⟩:=cond_some' h
  rcases List.mem_cons.1 ho with rfl | ho
  ·rw [Bool.and_eq_true] at hc
   have h2:=hc.2
   rw [hop] at h2
   have h3 : okX A (.tmp τ) = true:=List.all_eq_true.1 h2 _ (by
    show Operand.tmp τ ∈ ((Op.load t (.tmp τ)).operands).toList
    exact List.mem_singleton.2 rfl)
   exact okOps_sub l hk _ (sub_setA h3)
  ·exact okOps_load l hk o1 ho t τ hop
theorem wchk_agr {l : List Oper} {ms : List Nat} {e e' : Tr Value} {H : List AH} : ∀ (r : List Oper) (n : Nat),(∀ o ∈ r,∀ t τ,o.op = .load t (.tmp τ) → e.get τ = e'.get τ) → wchk P l ms e H n r = wchk P l ms e' H n r
 | [],_,_ => rfl
 | o :: r,n,h => by
  unfold wchk
  rw [wchk_agr r (n + 1) fun o' ho' => h o' (List.mem_cons_of_mem _ ho')]
  have : wchk1 P l ms e H n o = wchk1 P l ms e' H n o:=by
   unfold wchk1
   split
   ·rename_i t τ hop
    rw [h o List.mem_cons_self t τ hop]
   ·rfl
   ·rfl
  rw [this]
theorem wrunV_agr {ops : Array Oper} {A A' : Nat} {e e' : Tr Value} {h : AH} (hk : okOps ops ops.toList A = some A') (ha : Agr A e e') (r : Tr Value × AH) (hv : wrunV P cf ops e' h = some r) :
  ∃ e1,wrunV P cf ops e h = some (e1,r.2) ∧ (∀ B,Agr B e e' → Agr B e1 r.1) ∧ Agr A' e1 r.1:=by
 obtain ⟨r1,r2⟩:=r
 obtain ⟨hW,H,hH,hck⟩:=wrunV_ok hv
 obtain ⟨e1,q1,q2,q3⟩:=opsH_agr ops.toList hk ha hH
 refine ⟨e1,?_,q2,q3⟩
 unfold wrunV
 rw [hW,q1]
 have : wchk P ops.toList (bmasks ops.toList []) e1 H 0 ops.toList = true:=by
  rw [wchk_agr (e':=r1) ops.toList 0 fun o ho t τ hop => q3 τ (okOps_load _ hk o ho t τ hop)]
  exact hck
 show cond (wchk P ops.toList (bmasks ops.toList []) e1 H 0 ops.toList) (some (e1,r2)) none = _
 rw [this]
 rfl
theorem drawV_agr {ops : Array Oper} (hnS : noS ops.toList = true) {F F' : Option (Tr Value × AH)} {e0 e0' : Tr Value} {A' : Nat} (hF : ∀ r,F' = some r → ∃ e1,F = some (e1,r.2) ∧ (∀ B,Agr B e0 e0' → Agr B e1 r.1) ∧ Agr A' e1 r.1) :
  ∀ (l : List Oper) {i A : Nat} {e e' : Tr Value} {h : AH} {r : Tr Value × AH},okOps ops l A = some A' → Agr A e e' → (∀ B,Agr B e0 e0' → Agr B e e') → drawV P cf ops F' i l e' h = some r →
  ∃ e1,drawV P cf ops F i l e h = some (e1,r.2) ∧ (∀ B,Agr B e0 e0' → Agr B e1 r.1) ∧ Agr A' e1 r.1
 | [],i,A,e,e',h,r,hk,ha,hB,hv => by
  injection hk with hk
  injection hv with hv
  subst hk
  subst hv
  exact ⟨e,rfl,hB,ha⟩
 | o :: l,i,A,e,e',h,r,hk0,ha,hB,hv => by
  obtain ⟨hc,hk⟩:=cond_some' hk0
  rw [Bool.and_eq_true] at hc
  have hv : cond (wantE ops o e')
   (cond (quiet o.op) ((opV P cf o.op e' h).bind fun p => drawV P cf ops F' (i + 1) l (putE e' o.dst p.1) p.2)
   (cond (tailT ops.toList i e' h) (opsV P cf ops (o :: l) e' h)
   ((opV P cf o.op e' { h with low:=h.next }).bind fun p => cond (Nat.beq p.2.low h.next) (drawV P cf ops F' (i + 1) l (putE e' o.dst p.1) { p.2 with low:=h.low }) F')))
   (drawV P cf ops F' (i + 1) l (putE e' o.dst undef) h) = some r:=hv
  show ∃ e1,cond (wantE ops o e)
   (cond (quiet o.op) ((opV P cf o.op e h).bind fun p => drawV P cf ops F (i + 1) l (putE e o.dst p.1) p.2)
   (cond (tailT ops.toList i e h) (opsV P cf ops (o :: l) e h)
   ((opV P cf o.op e { h with low:=h.next }).bind fun p => cond (Nat.beq p.2.low h.next) (drawV P cf ops F (i + 1) l (putE e o.dst p.1) { p.2 with low:=h.low }) F)))
   (drawV P cf ops F (i + 1) l (putE e o.dst undef) h) = some (e1,r.2) ∧ _
  rw [wantE_agr ha hc.1,opV_agr ha hc.2 h,opV_agr ha hc.2 { h with low:=h.next }]
  have go : ∀ (v : Value) (h' : AH),drawV P cf ops F' (i + 1) l (putE e' o.dst v) h' = some r → ∃ e1,drawV P cf ops F (i + 1) l (putE e o.dst v) h' = some (e1,r.2) ∧ (∀ B,Agr B e0 e0' → Agr B e1 r.1) ∧ Agr A' e1 r.1:=fun v h' hh =>
   drawV_agr hnS hF l hk (agr_put ha o.dst v) (fun B hb => agr_sub (agr_put (hB B hb) o.dst v) fun _ => sub_setA) hh
  cases hw : wantE ops o e' with
  | true =>
   rw [hw] at hv
   simp only [cond_true] at hv ⊢
   cases hq : quiet o.op with
   | true =>
    rw [hq] at hv
    simp only [cond_true] at hv ⊢
    obtain ⟨p,h1,h2⟩:=Option.bind_eq_some_iff.1 hv
    rw [h1]
    exact go p.1 p.2 h2
   | false =>
    rw [hq] at hv
    simp only [cond_false] at hv ⊢
    rw [tailT_noS hnS] at hv ⊢
    cases ht : tailOK ops.toList i with
    | true =>
     rw [ht] at hv
     simp only [cond_true] at hv ⊢
     obtain ⟨e1,q1,q2,q3⟩:=opsV_agr (o :: l) hk0 ha hv
     exact ⟨e1,q1,fun B hb => q2 B (hB B hb),q3⟩
    | false =>
     rw [ht] at hv
     simp only [cond_false] at hv ⊢
     obtain ⟨p,h1,h2⟩:=Option.bind_eq_some_iff.1 hv
     rw [h1]
     simp only [Option.bind_some]
     cases hb : Nat.beq p.2.low h.next with
     | true =>
      rw [hb] at h2
      exact go p.1 _ h2
     | false =>
      rw [hb] at h2
      exact hF r h2
  | false =>
   rw [hw] at hv
   exact go undef h hv
def Like (R A' : Nat) (e e' : Tr Value) (o : Option (Ex × Tr Value × AH)) (r : Ex × Tr Value × AH) : Prop :=
 ∃ e1,o = some (r.1,e1,r.2.2) ∧ (∀ B,Agr B e e' → Agr B e1 r.2.1) ∧ (r.1 = .normal → Agr A' e1 r.2.1) ∧ (r.1 = .ret → Agr R e1 r.2.1)
theorem iter_agr {R A A' : Nat} {step : Tr Value → AH → Option (Ex × Tr Value × AH)}
  (hs : ∀ (e e' : Tr Value) (h : AH) (r : Ex × Tr Value × AH),Agr A e e' → step e' h = some r → Like R A' e e' (step e h) r) :
  ∀ (m : Nat) {e e' : Tr Value} {h : AH} {r : Ex × Tr Value × AH},Agr A e e' → iter step m e' h = some r → r.1 ≠ .normal ∧ Like R A' e e' (iter step m e h) r
 | 0,_,_,_,_,_,hv => by cases hv
 | m + 1,e,e',h,r,ha,hv => by
  rw [iter_succ] at hv
  obtain ⟨q,h1,h2⟩:=Option.bind_eq_some_iff.1 hv
  obtain ⟨e1,g1,g2,g3,g4⟩:=hs _ _ _ _ ha h1
  rw [iter_succ,g1]
  obtain ⟨x,eq,hq⟩:=q
  cases x with
  | normal =>
   obtain ⟨n1,e2,q1,q2,q3,q4⟩:=iter_agr hs m (g2 A ha) h2
   exact ⟨n1,e2,q1,fun B hB => q2 B (g2 B hB),q3,q4⟩
  | exit j =>
   have h2 : some (Ex.exit j,eq,hq) = some r:=h2
   injection h2 with h2
   subst h2
   exact ⟨fun h => (by cases h),e1,rfl,g2,fun h => (by cases h),g4⟩
  | ret =>
   have h2 : some (Ex.ret,eq,hq) = some r:=h2
   injection h2 with h2
   subst h2
   exact ⟨fun h => (by cases h),e1,rfl,g2,fun h => (by cases h),g4⟩
theorem exec_agr {R : Nat} : ∀ (c : Code) {A A' : Nat} {e e' : Tr Value} {h : AH} {r : Ex × Tr Value × AH},okC R c A = some A' → Agr A e e' → exec P cf k c e' h = some r → Like R A' e e' (exec P cf k c e h) r
 | .skip,A,A',e,e',h,r,hk,ha,hv => by
  injection hk with hk
  have hv : some (Ex.normal,e',h) = some r:=hv
  injection hv with hv
  subst hv
  subst hk
  exact ⟨e,rfl,fun _ h => h,fun _ => ha,fun h => (by cases h)⟩
 | .region id ops d,A,A',e,e',h,r,hk,ha,hv => by
  have hk0 : cond (!d || noS ops.toList) (okOps ops ops.toList A) none = some A':=hk
  clear hk
  obtain ⟨hnS,hk⟩:=cond_some' hk0
  have hv : (cond d (drawV P cf ops (wrunV P cf ops e' h) 0 ops.toList e' h) (opsV P cf ops ops.toList e' h)).map (fun r => (Ex.normal,r.1,r.2)) = some r:=hv
  obtain ⟨q,h1,h2⟩:=Option.map_eq_some_iff.1 hv
  subst h2
  show Like R A' e e' ((cond d (drawV P cf ops (wrunV P cf ops e h) 0 ops.toList e h) (opsV P cf ops ops.toList e h)).map (fun r => (Ex.normal,r.1,r.2))) _
  have key : ∃ e1,cond d (drawV P cf ops (wrunV P cf ops e h) 0 ops.toList e h) (opsV P cf ops ops.toList e h) = some (e1,q.2) ∧ (∀ B,Agr B e e' → Agr B e1 q.1) ∧ Agr A' e1 q.1:=by
   cases d with
   | true => exact drawV_agr hnS (wrunV_agr hk ha) _ hk ha (fun _ h => h) h1
   | false => exact opsV_agr _ hk ha h1
  obtain ⟨e1,g1,g2,g3⟩:=key
  rw [g1]
  exact ⟨e1,rfl,g2,fun _ => g3,fun h => (by cases h)⟩
 | .seq a b,A,A',e,e',h,r,hk,ha,hv => by
  obtain ⟨A1,hk1,hk2⟩:=Option.bind_eq_some_iff.1 hk
  have hv : ((exec P cf k a e' h).bind fun r => match r.1 with
   | .normal => exec P cf k b r.2.1 r.2.2
   | _ => some r) = some r:=hv
  obtain ⟨⟨x,eq,hq⟩,h1,h2⟩:=Option.bind_eq_some_iff.1 hv
  obtain ⟨e1,g1,g2,g3,g4⟩:=exec_agr a hk1 ha h1
  show Like R A' e e' ((exec P cf k a e h).bind fun r => match r.1 with
   | .normal => exec P cf k b r.2.1 r.2.2
   | _ => some r) _
  rw [g1]
  cases x with
  | normal =>
   obtain ⟨e2,q1,q2,q3,q4⟩:=exec_agr b hk2 (g3 rfl) h2
   exact ⟨e2,q1,fun B hB => q2 B (g2 B hB),q3,q4⟩
  | exit j =>
   have h2 : some (Ex.exit j,eq,hq) = some r:=h2
   injection h2 with h2
   subst h2
   exact ⟨e1,rfl,g2,fun h => (by cases h),g4⟩
  | ret =>
   have h2 : some (Ex.ret,eq,hq) = some r:=h2
   injection h2 with h2
   subst h2
   exact ⟨e1,rfl,g2,fun h => (by cases h),g4⟩
 | .cond c x y,A,A',e,e',h,r,hk,ha,hv => by
  obtain ⟨hc,hk⟩:=cond_some' hk
  obtain ⟨a1,hx,hk⟩:=Option.bind_eq_some_iff.1 hk
  obtain ⟨b1,hy,hk⟩:=Option.map_eq_some_iff.1 hk
  subst hk
  have hv : (match ev e' c with
   | .bool t => cond t (exec P cf k x e' h) (exec P cf k y e' h)
   | _ => none) = some r:=hv
  show Like R _ e e' (match ev e c with
   | .bool t => cond t (exec P cf k x e h) (exec P cf k y e h)
   | _ => none) r
  rw [ev_agr ha hc]
  split at hv
  ·rename_i t _
   cases t with
   | true =>
    obtain ⟨e1,g1,g2,g3,g4⟩:=exec_agr x hx ha hv
    exact ⟨e1,g1,g2,fun h => agr_and (g3 h),g4⟩
   | false =>
    obtain ⟨e1,g1,g2,g3,g4⟩:=exec_agr y hy ha hv
    exact ⟨e1,g1,g2,fun h => agr_and' (g3 h),g4⟩
  ·cases hv
 | .block id c,A,A',e,e',h,r,hk,ha,hv => by
  obtain ⟨a1,hx,hk⟩:=Option.map_eq_some_iff.1 hk
  subst hk
  have hv : ((exec P cf k c e' h).bind fun r => match r.1 with
   | .exit j => cond (Nat.beq j id) (some (.normal,r.2.1,r.2.2)) (some r)
   | _ => some r) = some r:=hv
  obtain ⟨⟨x,eq,hq⟩,h1,h2⟩:=Option.bind_eq_some_iff.1 hv
  obtain ⟨e1,g1,g2,g3,g4⟩:=exec_agr c hx ha h1
  show Like R _ e e' ((exec P cf k c e h).bind fun r => match r.1 with
   | .exit j => cond (Nat.beq j id) (some (.normal,r.2.1,r.2.2)) (some r)
   | _ => some r) r
  rw [g1]
  cases x with
  | normal =>
   have h2 : some (Ex.normal,eq,hq) = some r:=h2
   injection h2 with h2
   subst h2
   exact ⟨e1,rfl,g2,fun _ => g2 _ ha,g4⟩
  | exit j =>
   have h2 : cond (Nat.beq j id) (some (Ex.normal,eq,hq)) (some (Ex.exit j,eq,hq)) = some r:=h2
   show Like R _ e e' (cond (Nat.beq j id) (some (Ex.normal,e1,hq)) (some (Ex.exit j,e1,hq))) r
   cases hj : Nat.beq j id with
   | true =>
    rw [hj] at h2
    injection h2 with h2
    subst h2
    exact ⟨e1,rfl,g2,fun _ => g2 _ ha,fun h => (by cases h)⟩
   | false =>
    rw [hj] at h2
    injection h2 with h2
    subst h2
    exact ⟨e1,rfl,g2,fun _ => g2 _ ha,fun h => (by cases h)⟩
  | ret =>
   have h2 : some (Ex.ret,eq,hq) = some r:=h2
   injection h2 with h2
   subst h2
   exact ⟨e1,rfl,g2,fun h => (by cases h),g4⟩
 | .loop c,A,A',e,e',h,r,hk,ha,hv => by
  obtain ⟨a1,hx,hk⟩:=Option.map_eq_some_iff.1 hk
  obtain ⟨n1,e1,g1,g2,g3,g4⟩:=iter_agr (step:=exec P cf k c) (A:=A) (R:=R) (A':=a1) (fun e e' h r ha hv => exec_agr c hx ha hv) k ha hv
  exact ⟨e1,g1,g2,fun h => absurd h n1,g4⟩
 | .exit id,A,A',e,e',h,r,hk,ha,hv => by
  have hv : some (Ex.exit id,e',h) = some r:=hv
  injection hv with hv
  subst hv
  exact ⟨e,rfl,fun _ h => h,fun h => (by cases h),fun h => (by cases h)⟩
 | .ret,A,A',e,e',h,r,hk,ha,hv => by
  obtain ⟨hc,hk⟩:=cond_some' hk
  have hv : some (Ex.ret,e',h) = some r:=hv
  injection hv with hv
  subst hv
  exact ⟨e,rfl,fun _ h => h,fun h => (by cases h),fun _ => agr_beq ha hc⟩
 | .rangeFunc ..,_,_,_,_,_,_,hk,_,_ => by cases hk
 | .scope _,_,_,_,_,_,_,hk,_,_ => by cases hk
 | .label _,_,_,_,_,_,_,hk,_,_ => by cases hk
 | .goto _,_,_,_,_,_,_,hk,_,_ => by cases hk
 | .refuse _,_,_,_,_,_,_,hk,_,_ => by cases hk
def Ends (R A X : Nat) (e e' : Tr Value) : Ex → Prop
 | .normal => Agr A e e'
 | .exit _ => Agr X e e'
 | .ret => Agr R e e'
theorem unwY_agr {R : Nat} : ∀ (fr : List Fy) {A X : Nat} {x : Ex} {e e' : Tr Value} {h : AH} {r : Ex × Tr Value × AH},okF R fr A X = true → Ends R A X e e' x → Agr X e e' → unwY P cf k fr x e' h = some r →
  ∃ e1,unwY P cf k fr x e h = some (r.1,e1,r.2.2) ∧ ((∀ j,r.1 ≠ .exit j) → Agr R e1 r.2.1)
 | [],A,X,x,e,e',h,r,hk,ha,hX,hv => by
  have hv : some (x,e',h) = some r:=hv
  injection hv with hv
  subst hv
  refine ⟨e,rfl,fun hx => ?_⟩
  cases x with
  | normal => exact agr_beq ha hk
  | exit j => exact absurd rfl (hx j)
  | ret => exact ha
 | .seq b p :: fr,A,X,x,e,e',h,r,hk,ha,hX,hv => by
  have hk : (match okC R b A with
   | some A => okF R fr A X
   | none => false) = true:=hk
  cases x with
  | normal =>
   have hv : ((exec P cf k b e' h).bind fun r => unwY P cf k fr r.1 r.2.1 r.2.2) = some r:=hv
   obtain ⟨q,h1,h2⟩:=Option.bind_eq_some_iff.1 hv
   split at hk
   ·rename_i A1 hb
    obtain ⟨e1,g1,g2,g3,g4⟩:=exec_agr b hb ha h1
    show ∃ e1,((exec P cf k b e h).bind fun r => unwY P cf k fr r.1 r.2.1 r.2.2) = _ ∧ _
    rw [g1]
    refine unwY_agr fr hk ?_ (g2 _ hX) h2
    cases hx : q.1 with
    | normal => exact g3 hx
    | exit j => exact g2 _ hX
    | ret => exact g4 hx
   ·cases hk
  | exit j =>
   split at hk
   ·exact unwY_agr fr (x:=.exit j) hk ha hX hv
   ·cases hk
  | ret =>
   split at hk
   ·exact unwY_agr fr (x:=.ret) hk ha hX hv
   ·cases hk
 | .block id :: fr,A,X,x,e,e',h,r,hk,ha,hX,hv => by
  cases x with
  | normal => exact unwY_agr fr (x:=.normal) (A:=A &&& X) hk (agr_and ha) hX hv
  | exit j =>
   have hv : cond (Nat.beq j id) (unwY P cf k fr .normal e' h) (unwY P cf k fr (.exit j) e' h) = some r:=hv
   show ∃ e1,cond (Nat.beq j id) (unwY P cf k fr .normal e h) (unwY P cf k fr (.exit j) e h) = _ ∧ _
   cases hj : Nat.beq j id with
   | true =>
    rw [hj] at hv
    exact unwY_agr fr (x:=.normal) (A:=A &&& X) hk (agr_and' ha) hX hv
   | false =>
    rw [hj] at hv
    exact unwY_agr fr (x:=.exit j) (A:=A &&& X) hk ha hX hv
  | ret => exact unwY_agr fr (x:=.ret) (A:=A &&& X) hk ha hX hv
 | .loop c p m :: fr,A,X,x,e,e',h,r,hk,ha,hX,hv => by
  have hk : ((okC R c A).isSome && okF R fr TOP X) = true:=hk
  rw [Bool.and_eq_true] at hk
  obtain ⟨A1,hc⟩:=Option.isSome_iff_exists.1 hk.1
  cases x with
  | normal =>
   have hv : ((iter (exec P cf k c) m e' h).bind fun r => unwY P cf k fr r.1 r.2.1 r.2.2) = some r:=hv
   obtain ⟨q,h1,h2⟩:=Option.bind_eq_some_iff.1 hv
   obtain ⟨n1,e1,g1,g2,g3,g4⟩:=iter_agr (step:=exec P cf k c) (A:=A) (R:=R) (A':=A1) (fun e e' h r ha hv => exec_agr c hc ha hv) m ha h1
   show ∃ e1,((iter (exec P cf k c) m e h).bind fun r => unwY P cf k fr r.1 r.2.1 r.2.2) = _ ∧ _
   rw [g1]
   refine unwY_agr fr hk.2 ?_ (g2 _ hX) h2
   cases hx : q.1 with
   | normal => exact absurd hx n1
   | exit j => exact g2 _ hX
   | ret => exact g4 hx
  | exit j =>
   have ha' : Agr X e e':=ha
   exact unwY_agr fr (x:=.exit j) (A:=TOP) hk.2 ha' hX hv
  | ret =>
   have ha' : Agr R e e':=ha
   exact unwY_agr fr (x:=.ret) (A:=TOP) hk.2 ha' hX hv
theorem resMask_mem : ∀ (l : List ResultVar) (t : Tmp),(.tmp t ∈ l ∨ ∃ ty,.cell t ty ∈ l) → (resMask l).testBit t = true
 | [],t,h => by
  rcases h with h | ⟨_,h⟩ <;> cases h
 | .tmp s :: l,t,h => by
  show (resMask l ||| 2 ^ s).testBit t = true
  rw [testBit_setA,Bool.or_eq_true]
  rcases h with h | ⟨ty,h⟩
  ·rcases List.mem_cons.1 h with h | h
   ·injection h with h
    exact .inr (decide_eq_true h.symm)
   ·exact .inl (resMask_mem l t (.inl h))
  ·rcases List.mem_cons.1 h with h | h
   ·cases h
   ·exact .inl (resMask_mem l t (.inr ⟨ty,h⟩))
 | .cell s _ :: l,t,h => by
  show (resMask l ||| 2 ^ s).testBit t = true
  rw [testBit_setA,Bool.or_eq_true]
  rcases h with h | ⟨ty,h⟩
  ·rcases List.mem_cons.1 h with h | h
   ·cases h
   ·exact .inl (resMask_mem l t (.inl h))
  ·rcases List.mem_cons.1 h with h | h
   ·injection h with h
    exact .inr (decide_eq_true h.symm)
   ·exact .inl (resMask_mem l t (.inr ⟨ty,h⟩))
theorem resVs_agr {e e' : Tr Value} {h : AH} : ∀ (l : List ResultVar),Agr (resMask l) e e' → resVs P e h l = resVs P e' h l
 | [],_ => rfl
 | .tmp t :: l,ha => by
  show (some ((e.get t).getD undef)).bind (fun v => (resVs P e h l).bind fun vs => some (v :: vs)) = (some ((e'.get t).getD undef)).bind (fun v => (resVs P e' h l).bind fun vs => some (v :: vs))
  rw [ha t (resMask_mem _ _ (.inl (List.mem_cons_self ..))),resVs_agr l (agr_sub ha fun t ht => by
   show (resMask l ||| 2 ^ _).testBit t = true
   rw [testBit_setA,ht]
   rfl)]
 | .cell t ty :: l,ha => by
  show (loadV P ty ((e.get t).getD undef) h).bind (fun v => (resVs P e h l).bind fun vs => some (v :: vs)) = (loadV P ty ((e'.get t).getD undef) h).bind (fun v => (resVs P e' h l).bind fun vs => some (v :: vs))
  rw [ha t (resMask_mem _ _ (.inr ⟨ty,List.mem_cons_self ..⟩)),resVs_agr l (agr_sub ha fun t ht => by
   show (resMask l ||| 2 ^ _).testBit t = true
   rw [testBit_setA,ht]
   rfl)]
theorem zfin_agr {fn : Func} {h0 : AH} {x : Ex} {e e' : Tr Value} {h : AH} (ha : (∀ j,x ≠ .exit j) → Agr (resMask fn.results.toList) e e') : zfin P fn h0 x e h = zfin P fn h0 x e' h:=by
 cases x with
 | exit j => rfl
 | normal =>
  unfold zfin
  simp only [resVs_agr _ (ha fun j h => (by cases h))]
 | ret =>
  unfold zfin
  simp only [resVs_agr _ (ha fun j h => (by cases h))]
theorem resY_agr {n : Nat} {fn : Func} {h0 : AH} {x : Ny} {fr : List Fy} {A : Nat} {e e' : Tr Value} {h : AH} {r : Value × AH} (hk : okN (resMask fn.results.toList) A x fr = true) (ha : Agr A e e')
  (hv : resY1 P cf n fn h0 x fr e' h = some r) : resY1 P cf n fn h0 x fr e h = some r:=by
 unfold resY1 at hv ⊢
 obtain ⟨q,h1,h2⟩:=Option.bind_eq_some_iff.1 hv
 have key : ∃ e1,denY P cf n x fr e h = some (q.1,e1,q.2.2) ∧ ((∀ j,q.1 ≠ .exit j) → Agr (resMask fn.results.toList) e1 q.2.1):=by
  have code : ∀ (c : Code),(match okC (resMask fn.results.toList) c A with
    | some A' => okF (resMask fn.results.toList) fr A' A
    | none => false) = true → ((exec P cf n c e' h).bind fun r => unwY P cf n fr r.1 r.2.1 r.2.2) = some q →
    ∃ e1,((exec P cf n c e h).bind fun r => unwY P cf n fr r.1 r.2.1 r.2.2) = some (q.1,e1,q.2.2) ∧ ((∀ j,q.1 ≠ .exit j) → Agr (resMask fn.results.toList) e1 q.2.1):=fun c hk h1 => by
   obtain ⟨p,g1,g2⟩:=Option.bind_eq_some_iff.1 h1
   split at hk
   ·rename_i A1 hb
    obtain ⟨e1,q1,q2,q3,q4⟩:=exec_agr c hb ha g1
    rw [q1]
    refine unwY_agr fr hk ?_ (q2 _ ha) g2
    cases hx : p.1 with
    | normal => exact q3 hx
    | exit j => exact q2 _ ha
    | ret => exact q4 hx
   ·cases hk
  cases x with
  | code c p => exact code c hk h1
  | raw c p => exact code c hk h1
  | head c p m =>
   have hk : ((okC (resMask fn.results.toList) c A).isSome && okF (resMask fn.results.toList) fr TOP A) = true:=hk
   rw [Bool.and_eq_true] at hk
   obtain ⟨A1,hc⟩:=Option.isSome_iff_exists.1 hk.1
   have h1 : ((iter (exec P cf n c) m e' h).bind fun r => unwY P cf n fr r.1 r.2.1 r.2.2) = some q:=h1
   obtain ⟨p,g1,g2⟩:=Option.bind_eq_some_iff.1 h1
   obtain ⟨n1,e1,q1,q2,q3,q4⟩:=iter_agr (step:=exec P cf n c) (A:=A) (R:=resMask fn.results.toList) (A':=A1) (fun e e' h r ha hv => exec_agr c hc ha hv) m ha g1
   show ∃ e1,((iter (exec P cf n c) m e h).bind fun r => unwY P cf n fr r.1 r.2.1 r.2.2) = _ ∧ _
   rw [q1]
   refine unwY_agr fr hk.2 ?_ (q2 _ ha) g2
   cases hx : p.1 with
   | normal => exact absurd hx n1
   | exit j => exact q2 _ ha
   | ret => exact q4 hx
  | ends x => cases hk
 obtain ⟨e1,g1,g2⟩:=key
 rw [g1]
 show zfin P fn h0 q.1 e1 q.2.2 = some r
 rw [zfin_agr g2]
 exact h2
theorem E_get (l : List (Nat × Value)) (t : Nat) : (E l).get t = (l.find? fun p => p.1 == t).map (·.2):=by
 induction l with
 | nil => exact Tr.get_nil _
 | cons p l ih =>
  show ((E l).set p.1 p.2).get t = _
  rw [Tr.get_set,List.find?_cons,ih]
  by_cases hp : t = p.1
  ·rw [if_pos hp,show (p.1 == t) = true from beq_iff_eq.2 hp.symm]
   rfl
  ·rw [if_neg hp,show (p.1 == t) = false from beq_eq_false_iff_ne.2 fun h => hp h.symm]
theorem keep_find (e : Tr Value) (t : Nat) : ∀ (L : List Nat),t ∈ L → ((keep e L).find? fun p => p.1 == t).map (·.2) = e.get t
 | i :: L,h => by
  by_cases hi : i = t
  ·subst hi
   unfold keep
   cases he : e.get i with
   | some v =>
    rw [List.find?_cons,show ((i,v).1 == i) = true from beq_iff_eq.2 rfl]
    rfl
   | none =>
    simp only
    by_cases hL : i ∈ L
    ·rw [keep_find e i L hL,he]
    ·have : ∀ (L : List Nat),i ∉ L → (keep e L).find? (fun p => p.1 == i) = none:=by
      intro L
      induction L with
      | nil => exact fun _ => rfl
      | cons j L ih =>
       intro hn
       have hj : j ≠ i:=fun h => hn (h ▸ List.mem_cons_self ..)
       have ih:=ih fun h => hn (List.mem_cons_of_mem _ h)
       unfold keep
       split
       ·rw [List.find?_cons,show (j == i) = false from beq_eq_false_iff_ne.2 hj]
        exact ih
       ·exact ih
     rw [this L hL]
     rfl
  ·have hL : t ∈ L:=(List.mem_cons.1 h).resolve_left fun h => hi h.symm
   unfold keep
   split
   ·rw [List.find?_cons,show (i == t) = false from beq_eq_false_iff_ne.2 hi]
    exact keep_find e t L hL
   ·exact keep_find e t L hL
theorem maskOf_mem : ∀ (L : List Nat) (t : Nat),(maskOf L).testBit t = true → t ∈ L
 | [],t,h => by
  rw [show maskOf [] = 0 from rfl,Nat.zero_testBit] at h
  cases h
 | i :: L,t,h => by
  have h : (maskOf L ||| 2 ^ i).testBit t = true:=h
  rw [testBit_setA,Bool.or_eq_true] at h
  rcases h with h | h
  ·exact List.mem_cons_of_mem _ (maskOf_mem L t h)
  ·exact (of_decide_eq_true h) ▸ List.mem_cons_self ..
theorem cutY_ok {n : Nat} {fn : Func} {h0 : AH} {L : List Nat} {x : Ny} {fr : List Fy} {e : Tr Value} {h : AH} {r : Value × AH} (hv : cutY fn (resY1 P cf n fn h0) L x fr e h = some r) : resY1 P cf n fn h0 x fr e h = some r:=by
 obtain ⟨hk,hv⟩:=cond_some' hv
 refine resY_agr hk (fun t ht => ?_) hv
 rw [E_get,keep_find e t L (maskOf_mem L t ht)]
variable {P : Program} {ρ : Type} {r : ρ} {cf : FuncId → List Value → AH → Option (Value × AH)}
theorem viewC_ok {t : TypeId} {o : Option Value} {K : Value → Option ρ} (hv : viewC P t o K = some r) : ∃ v,o = some v ∧ K v = some r:=by
 unfold viewC at hv
 split at hv
 ·obtain ⟨n,hn,hk⟩:=Option.bind_eq_some_iff.1 hv
  obtain ⟨v,h1,h2⟩:=Option.bind_eq_some_iff.1 hn
  exact ⟨_,by rw [h1,vInt_ok h2],hk⟩
 ·obtain ⟨n,hn,hk⟩:=Option.bind_eq_some_iff.1 hv
  obtain ⟨v,h1,h2⟩:=Option.bind_eq_some_iff.1 hn
  exact ⟨_,by rw [h1,vBool_ok h2],hk⟩
 ·obtain ⟨n,hn,hk⟩:=Option.bind_eq_some_iff.1 hv
  obtain ⟨v,h1,h2⟩:=Option.bind_eq_some_iff.1 hn
  exact ⟨_,by rw [h1,vStr_ok h2],hk⟩
 ·obtain ⟨n,hn,hk⟩:=Option.bind_eq_some_iff.1 hv
  obtain ⟨v,h1,h2⟩:=Option.bind_eq_some_iff.1 hn
  exact ⟨_,by rw [h1,vSl_ok h2],hk⟩
 ·obtain ⟨n,hn,hk⟩:=Option.bind_eq_some_iff.1 hv
  obtain ⟨v,h1,h2⟩:=Option.bind_eq_some_iff.1 hn
  exact ⟨_,by rw [h1,vPtr_ok h2],hk⟩
 ·exact Option.bind_eq_some_iff.1 hv
theorem viewM_ok {rd : Nat → Option Value} : ∀ (ts : List TypeId) (i : Nat) {K : List Value → Option ρ},viewM P rd ts i K = some r → ∃ l : List Value,l.length = ts.length ∧ (∀ j x,l[j]? = some x → rd (i + j) = some x) ∧ K l = some r
 | [],i,K,hv => ⟨[],rfl,fun _ _ h => (by cases h),hv⟩
 | t :: ts,i,K,hv => by
  obtain ⟨v,h1,hv⟩:=viewC_ok hv
  obtain ⟨l,h2,h3,h4⟩:=viewM_ok ts (i + 1) hv
  refine ⟨v :: l,congrArg Nat.succ h2,fun j x hx => ?_,h4⟩
  cases j with
  | zero =>
   injection hx with hx
   subst hx
   exact h1
  | succ j =>
   rw [show i + (j + 1) = i + 1 + j by omega]
   exact h3 j x hx
theorem list_ext {l m : List Value} (hl : l.length = m.length) (h : ∀ j x,l[j]? = some x → m[0 + j]? = some x) : l = m:=by
 apply List.ext_getElem?
 intro i
 cases hi : l[i]? with
 | some x =>
  have:=h i x hi
  rw [Nat.zero_add] at this
  exact this.symm
 | none =>
  have:=List.getElem?_eq_none_iff.1 hi
  exact (List.getElem?_eq_none (by omega)).symm
theorem yviewT_ok {t : TypeId} {o : Option Value} {K : Value → Option ρ} (hv : yviewT P t o K = some r) : ∃ v,o = some v ∧ K v = some r:=by
 unfold yviewT at hv
 obtain ⟨ag,_,hv⟩:=Option.bind_eq_some_iff.1 hv
 cases ag with
 | false => exact viewC_ok hv
 | true =>
  obtain ⟨v,hv0,hv⟩:=Option.bind_eq_some_iff.1 hv
  obtain ⟨ts,_,hv⟩:=Option.bind_eq_some_iff.1 hv
  obtain ⟨hc,hv⟩:=cond_some' hv
  obtain ⟨l,h2,h3,h4⟩:=viewM_ok ts 0 hv
  obtain ⟨cs,rfl,hc⟩:=aggIs_ok hc
  have e : l = cs.toList:=list_ext (by omega) h3
  rw [e] at h4
  exact ⟨_,hv0,h4⟩
theorem yviewTs_ok {v : Value} : ∀ (ts : List TypeId) (i : Nat) {K : List Value → Option ρ},yviewTs P v ts i K = some r → ∃ l : List Value,l.length = ts.length ∧ (∀ j x,l[j]? = some x → tupC (i + j) v = some x) ∧ K l = some r
 | [],i,K,hv => ⟨[],rfl,fun _ _ h => (by cases h),hv⟩
 | t :: ts,i,K,hv => by
  obtain ⟨x,h1,hv⟩:=yviewT_ok hv
  obtain ⟨l,h2,h3,h4⟩:=yviewTs_ok ts (i + 1) hv
  refine ⟨x :: l,congrArg Nat.succ h2,fun j y hy => ?_,h4⟩
  cases j with
  | zero =>
   injection hy with hy
   subst hy
   exact h1
  | succ j =>
   rw [show i + (j + 1) = i + 1 + j by omega]
   exact h3 j y hy
theorem yviewR_ok {ts : List TypeId} {v : Value} {K : Value → Option ρ} (hv : yviewR P ts v K = some r) : K v = some r:=by
 unfold yviewR at hv
 split at hv
 ·exact hv
 ·obtain ⟨x,h1,h2⟩:=yviewT_ok hv
  injection h1 with h1
  rwa [h1]
 ·obtain ⟨hc,hv⟩:=cond_some' hv
  obtain ⟨l,h2,h3,h4⟩:=yviewTs_ok _ 0 hv
  obtain ⟨cs,rfl,hc⟩:=tupIs_ok hc
  have e : l = cs.toList:=list_ext (by omega) h3
  rw [e] at h4
  exact h4
theorem yload_ok {t : TypeId} {x : Value} {h : AH} {K : Value → Option ρ} (hv : yload P t x h K = some r) : ∃ v,loadV P t x h = some v ∧ K v = some r:=by
 have hp : ∃ a,x = .pointer a:=by
  cases x <;> first | (cases hv; done) | exact ⟨_,rfl⟩
 obtain ⟨a,rfl⟩:=hp
 unfold yload at hv
 simp only at hv
 ·obtain ⟨ad,had,hv1⟩:=Option.bind_eq_some_iff.1 hv
  clear hv
  obtain ⟨ag,hag,hv⟩:=Option.bind_eq_some_iff.1 hv1
  clear hv1
  subst had
  cases ag with
  | false =>
   obtain ⟨v,hv1,hv⟩:=viewC_ok hv
   obtain ⟨hs,b,h1,h2⟩:=rdC_ok hv1
   refine ⟨v,?_,hv⟩
   unfold loadV
   simp only [h1,Option.bind_some,hs]
   unfold partT
   rw [hag]
   exact h2
  | true =>
   obtain ⟨ts,_,hv⟩:=Option.bind_eq_some_iff.1 hv
   obtain ⟨hc,hv⟩:=cond_some' hv
   rw [Bool.and_eq_true] at hc
   have hsz:=of_decide_eq_true hc.1
   obtain ⟨l,h2,h3,h4⟩:=viewM_ok ts 0 hv
   have hne : ts.length ≠ 0:=fun e => by
    rw [e] at hc
    cases hc.2
   have hl0 : 0 < l.length:=by omega
   obtain ⟨hs,b,h1,_⟩:=rdC_ok (h3 0 _ (List.getElem?_eq_getElem hl0))
   have hall : ∀ j x,l[j]? = some x → b.cells[ad.off + j]? = some x:=fun j x hx => by
    obtain ⟨_,b',h1',h5⟩:=rdC_ok (h3 j x hx)
    rw [h1] at h1'
    injection h1' with h1'
    subst h1'
    rwa [Nat.zero_add] at h5
   refine ⟨.agg l.toArray,?_,h4⟩
   unfold loadV
   simp only [h1,Option.bind_some,hs]
   unfold partT
   rw [hag]
   simp only [Option.bind_some,cond_true,hsz]
   have hfit : ad.off + l.length ≤ b.cells.length:=by
    have:=(List.getElem?_eq_some_iff.1 (hall (l.length - 1) _ (List.getElem?_eq_getElem (by omega)))).1
    omega
   have e : takeAt b.cells ad.off ts.length = some l:=by
    unfold takeAt
    rw [← h2,Nat.ble_eq_true_of_le hfit]
    refine congrArg some ?_
    apply List.ext_getElem?
    intro i
    rw [List.getElem?_take]
    split
    ·rename_i hi
     rw [List.getElem?_drop,hall i _ (List.getElem?_eq_getElem hi)]
     exact (List.getElem?_eq_getElem hi).symm
    ·exact (List.getElem?_eq_none (by omega)).symm
   rw [e]
   rfl
theorem ystore_ok {t : TypeId} {x v : Value} {h : AH} {K : AH → Option ρ} (hv : ystore P t x v h K = some r) : ∃ h',storeV P t x v h = some h' ∧ K h' = some r:=by
 unfold ystore at hv
 split at hv
 ·obtain ⟨ad,had,hv1⟩:=Option.bind_eq_some_iff.1 hv
  obtain ⟨s,hs,hv2⟩:=Option.bind_eq_some_iff.1 hv1
  obtain ⟨vs,hvs,hv3⟩:=Option.bind_eq_some_iff.1 hv2
  obtain ⟨hl,hv4⟩:=cond_some' hv3
  obtain ⟨h',h1,h2⟩:=Option.bind_eq_some_iff.1 hv4
  subst had
  refine ⟨h',?_,h2⟩
  unfold stL at h1
  split at h1
  ·rename_i hsp
   obtain ⟨b,hb,h3⟩:=Option.bind_eq_some_iff.1 h1
   have hl':=Nat.eq_of_beq_eq_true hl
   unfold storeV
   simp only [hb,hs,hvs,Option.bind_some,hsp,hl,Bool.true_and]
   rw [← hl']
   exact h3
  ·cases h1
 ·cases hv
theorem ybin_ok {op : BinOp} {t : TypeId} {x y : Value} {K : Value → Option ρ} (hv : ybin P op t x y K = some r) : ∃ v,binV P op t x y = some v ∧ K v = some r:=by
 unfold ybin at hv
 split at hv
 ·rename_i k a k' b
  obtain ⟨hc,hv⟩:=cond_some' hv
  rw [mulS_eq] at hv
  refine kbin_ok (t:=t) (K:=K) ?_
  show cond (decide (k = k')) (kint .mul k a b K) none = some r
  rw [hc]
  exact hv
 ·exact kbin_ok hv
theorem yop_ok {o : Op} {ty : TypeId} {e : Tr Value} {h : AH} {K : Value → AH → Option ρ} (hv : yop P cf hNew o ty e h K = some r) : ∃ v h',opV P cf o e h = some (v,h') ∧ K v h' = some r:=by
 cases o with
 | alloc t =>
  obtain ⟨z,hz,hv1⟩:=Option.bind_eq_some_iff.1 hv
  obtain ⟨vs,hvs,hv2⟩:=Option.bind_eq_some_iff.1 hv1
  obtain ⟨hp,hv3⟩:=cond_some' hv2
  refine ⟨_,_,?_,hv3⟩
  unfold opV
  simp only [hz,hvs,Option.bind_some,hp,cond_true]
  rfl
 | box t x =>
  obtain ⟨vs,hvs,hv2⟩:=Option.bind_eq_some_iff.1 hv
  refine ⟨_,_,?_,hv2⟩
  unfold opV
  simp only [hvs,Option.bind_some]
  rfl
 | buildSlice t n ps =>
  obtain ⟨d,hd,hv1⟩:=Option.bind_eq_some_iff.1 hv
  clear hv
  cases d with
  | slice el =>
   obtain ⟨s,hs,hv2⟩:=Option.bind_eq_some_iff.1 hv1
   clear hv1
   obtain ⟨z,hz,hv3⟩:=Option.bind_eq_some_iff.1 hv2
   clear hv2
   obtain ⟨zs,hzs,hv4⟩:=Option.bind_eq_some_iff.1 hv3
   clear hv3
   obtain ⟨hc,hv5⟩:=cond_some' hv4
   clear hv4
   obtain ⟨cs,hcs,hv6⟩:=Option.bind_eq_some_iff.1 hv5
   refine ⟨_,_,?_,hv6⟩
   unfold opV
   simp only [hd,hs,hz,hzs,Option.bind_some,hc,cond_true,hcs,Option.map_some]
   rfl
  | _ => cases hv1
 | makeSlice t nn cc =>
  obtain ⟨d,hd,hv1⟩:=Option.bind_eq_some_iff.1 hv
  clear hv
  split at hv1
  ·rename_i _ _ el n c hn hc
   obtain ⟨s,hs,hv2⟩:=Option.bind_eq_some_iff.1 hv1
   clear hv1
   obtain ⟨z,hz,hv3⟩:=Option.bind_eq_some_iff.1 hv2
   clear hv2
   obtain ⟨b,hb,hv4⟩:=Option.bind_eq_some_iff.1 hv3
   clear hv3
   obtain ⟨zs,hzs,hv5⟩:=Option.bind_eq_some_iff.1 hv4
   clear hv4
   obtain ⟨hq,hv6⟩:=cond_some' hv5
   clear hv5
   obtain ⟨hr,hv7⟩:=cond_some' hv6
   clear hv6
   rw [Bool.and_eq_true] at hq hr
   rw [Bool.and_eq_true] at hr
   rw [Bool.and_eq_true] at hr
   obtain ⟨r1,r2,r3,r4⟩:=hr
   have r1 : decide (0 ≤ n) = true:=r1
   have r2 : decide (n ≤ c) = true:=r2
   have r3 : decide (c * (b : Int) ≤ 140737488355328) = true:=r3
   have r4 : decide (c < 9223372036854775808) = true:=r4
   refine ⟨_,_,?_,hv7⟩
   unfold opV
   simp only [hd,hn,hc,Option.bind_some,hs,hz,hb,hzs,r1,r2,r3,r4,hq.1,hq.2,Bool.and_true,Bool.true_and,cond_true]
   rfl
  ·cases hv1
 | binOp op t x y yt =>
  have hv' : ybin P op t (ev e x) (ev e y) (fun v => K v h) = some r:=hv
  obtain ⟨v,h1,h2⟩:=ybin_ok hv'
  exact ⟨v,h,congrArg (fun o => o.map fun v => (v,h)) h1,h2⟩
 | load t x =>
  have hv' : yload P t (ev e x) h (fun v => K v h) = some r:=hv
  obtain ⟨v,h1,h2⟩:=yload_ok hv'
  exact ⟨v,h,congrArg (fun o => o.map fun v => (v,h)) h1,h2⟩
 | store t x v =>
  have hv' : ystore P t (ev e x) (ev e v) h (fun h' => K undef h') = some r:=hv
  obtain ⟨h',h1,h2⟩:=ystore_ok hv'
  exact ⟨undef,h',congrArg (fun o => o.map fun h' => (undef,h')) h1,h2⟩
 | call c =>
  obtain ⟨callee,cargs,cts⟩:=c
  cases callee with
  | builtin b =>
   have hv' : ybuiltin P b cts.toList (cargs.toList.map (ev e)) h (kop P cf (.call ⟨.builtin b,cargs,cts⟩) ty e h K) K = some r:=hv
   unfold ybuiltin at hv'
   clear hv
   split at hv'
   ·rename_i t u s x hts hargs
    obtain ⟨d,hd,hv1⟩:=Option.bind_eq_some_iff.1 hv'
    obtain ⟨d',hd',hv2⟩:=Option.bind_eq_some_iff.1 hv1
    clear hv' hv1
    split at hv2
    ·rename_i el el'
     obtain ⟨z,hz,hv3⟩:=Option.bind_eq_some_iff.1 hv2
     obtain ⟨b,hb,hv4⟩:=Option.bind_eq_some_iff.1 hv3
     obtain ⟨zz,hzz,hv5⟩:=Option.bind_eq_some_iff.1 hv4
     obtain ⟨zs,hzs,hv6⟩:=Option.bind_eq_some_iff.1 hv5
     clear hv2 hv3 hv4 hv5
     cases hc : (Nat.beq b 0 || !(Nat.beq zs.length z)) with
     | true =>
      rw [hc] at hv6
      cases hv6
     | false =>
      rw [hc] at hv6
      obtain ⟨p,hp,hv7⟩:=Option.bind_eq_some_iff.1 hv6
      unfold appL at hp
      obtain ⟨q,hq,hp2⟩:=Option.bind_eq_some_iff.1 hp
      obtain ⟨s',hs',hp3⟩:=Option.map_eq_some_iff.1 hp2
      subst hp3
      refine ⟨_,_,?_,hv7⟩
      show builtinV P .append cts.toList (cargs.toList.map (ev e)) h = _
      rw [hts,hargs]
      unfold builtinV
      rw [show isClear .append = false from rfl,cond_false]
      unfold builtinW
      simp only [hd,hd',Option.bind_some,hz,hb,hzz,hzs,hc,cond_false,hq]
      rw [← vSl_ok hs']
    ·cases hv2
   ·exact kop_ok hv'
  | value f =>
   have hv' : ycallF P cf (ev e f) (cargs.toList.map (ev e)) h K = some r:=hv
   clear hv
   unfold opV
   simp only
   generalize ev e f = fv at hv'
   unfold ycallF at hv'
   split at hv'
   ·obtain ⟨p,h1,h2⟩:=Option.bind_eq_some_iff.1 hv'
    obtain ⟨fn,_,h3⟩:=Option.bind_eq_some_iff.1 h2
    exact ⟨p.1,p.2,by simp only [orC,h1],yviewR_ok h3⟩
   ·cases hv'
  | invoke r m => cases hv
 | _ => exact kop_ok (ty:=ty) hv
theorem yops_ok {ops : Array Oper} : ∀ (l : List Oper) {e : Tr Value} {h : AH} {K : Tr Value → AH → Option ρ},yops P cf hNew ops l e h K = some r → ∃ e' h',opsV P cf ops l e h = some (e',h') ∧ K e' h' = some r
 | [],e,h,K,hv => ⟨e,h,rfl,hv⟩
 | o :: l,e,h,K,hv => by
  show ∃ e' h',cond (wantE ops o e) ((opV P cf o.op e h).bind fun p => opsV P cf ops l (putE e o.dst p.1) p.2) (opsV P cf ops l (putE e o.dst undef) h) = some (e',h') ∧ _
  rcases kwant_ok hv with ⟨hw,hv1⟩ | ⟨hw,hv1⟩
  ·rw [hw]
   obtain ⟨v,h1,g1,g2⟩:=yop_ok hv1
   obtain ⟨e',h',g3,g4⟩:=yops_ok l g2
   exact ⟨e',h',by rw [g1]; exact g3,g4⟩
  ·rw [hw]
   exact yops_ok l hv1
theorem yopsH_ok {ops : Array Oper} : ∀ (l : List Oper) {e : Tr Value} {h : AH} {H : List AH} {K : Tr Value → AH → List AH → Option ρ},yopsH P cf hNew ops l e h H K = some r → ∃ e' h' H',opsH P cf ops l e h H = some (e',h',H') ∧ K e' h' H' = some r
 | [],e,h,H,K,hv => ⟨e,h,_,rfl,hv⟩
 | o :: l,e,h,H,K,hv => by
  show ∃ e' h' H',cond (wantE ops o e) ((opV P cf o.op e h).bind fun p => opsH P cf ops l (putE e o.dst p.1) p.2 (H ++ [h])) (opsH P cf ops l (putE e o.dst undef) h (H ++ [h])) = some (e',h',H') ∧ _
  rcases kwant_ok hv with ⟨hw,hv1⟩ | ⟨hw,hv1⟩
  ·rw [hw]
   obtain ⟨v,h1,g1,g2⟩:=yop_ok hv1
   obtain ⟨e',h',H',g3,g4⟩:=yopsH_ok l g2
   exact ⟨e',h',H',by rw [g1]; exact g3,g4⟩
  ·rw [hw]
   exact yopsH_ok l hv1
theorem ywrun_ok {ops : Array Oper} {e : Tr Value} {h : AH} {K : Tr Value → AH → Option ρ} (hv : ywrun P cf hNew ops e h K = some r) : ∃ e' h',wrunV P cf ops e h = some (e',h') ∧ K e' h' = some r:=by
 obtain ⟨h1,hv⟩:=cond_some' hv
 obtain ⟨e',h',H',h2,hv⟩:=yopsH_ok _ hv
 obtain ⟨h3,hv⟩:=cond_some' hv
 refine ⟨e',h',?_,hv⟩
 unfold wrunV
 rw [h1,h2]
 show cond (wchk P ops.toList (bmasks ops.toList []) e' H' 0 ops.toList) (some (e',h')) none = _
 rw [h3]
 rfl
theorem dynY_ok {e : Tr Value} {h : AH} {a : Addr} {g m i : Nat} {A : Option ρ} (hg : (h.blks.get a.block).map (·.grp) = some g) : ∀ (l : List Oper) (x : Nat),dynY e h a m i A x l = some r → readR e h g m i x l = true ∧ A = some r
 | [],x,hv => ⟨rfl,hv⟩
 | o :: l,x,hv => by
  unfold dynY at hv
  unfold readR
  cases hb : (Nat.ble i x || bitIn m x) with
  | true =>
   rw [hb] at hv
   obtain ⟨q1,q2⟩:=dynY_ok hg l (x + 1) hv
   refine ⟨?_,q2⟩
   rw [← Bool.or_assoc,hb,q1]
   rfl
  | false =>
   rw [hb] at hv
   simp only [cond_false] at hv
   have key : readB e h g i x (o :: l) o.op = true ∧ dynY e h a m i A (x + 1) l = some r:=by
    split at hv
    ·rename_i t hop
     obtain ⟨hn,hv⟩:=cond_some' hv
     split at hv
     ·rename_i b hb2
      obtain ⟨ha,hv⟩:=cond_some' hv
      refine ⟨?_,hv⟩
      rw [hop]
      unfold readB
      simp only [hn,Bool.true_and]
      unfold apartA at ha
      obtain ⟨xb,hxb,hxg⟩:=Option.map_eq_some_iff.1 hg
      rw [hxb] at ha
      unfold grpOf
      rw [hb2]
      simp only
      cases hy : h.blks.get b.block with
      | none =>
       rw [hy] at ha
       cases ha
      | some y =>
       rw [hy] at ha
       rw [← hxg]
       exact ha
     ·cases hv
    ·rename_i hno
     refine ⟨?_,hv⟩
     unfold readB
     split
     ·rename_i t' τ hop
      exact absurd hop (hno _ _)
     ·rfl
   obtain ⟨k1,k2⟩:=key
   obtain ⟨q1,q2⟩:=dynY_ok hg l (x + 1) k2
   refine ⟨?_,q2⟩
   rw [k1,q1]
   simp
theorem dynK_ok {l : List Oper} {i : Nat} {e : Tr Value} {h : AH} {A : Option ρ} (hv : dynK l i e h A = some r) : dynR l i e h = true ∧ A = some r:=by
 unfold dynK at hv
 unfold dynR
 split at hv
 ·rename_i d hd
  split at hv
  ·rename_i a ha
   obtain ⟨hh,hv⟩:=cond_some' hv
   unfold hasA at hh
   obtain ⟨b,hb⟩:=Option.isSome_iff_exists.1 hh
   have hg : (h.blks.get a.block).map (·.grp) = some b.grp:=by rw [hb]; rfl
   obtain ⟨q1,q2⟩:=dynY_ok hg l 0 hv
   refine ⟨?_,q2⟩
   rw [hd]
   simp only
   have : grpOf h (e.get d) = some b.grp:=by
    unfold grpOf
    rw [ha]
    exact hg
   rw [this]
   exact q1
  ·cases hv
 ·cases hv
theorem ydraw_ok {T : Bool} {ops : Array Oper} {F : Option ρ} {F' : Option (Tr Value × AH)} {K : Tr Value → AH → Option ρ} (hF : F = some r → ∃ e' h',F' = some (e',h') ∧ K e' h' = some r) : ∀ (l : List Oper) {i : Nat} {e : Tr Value} {h : AH},ydraw P cf hNew T ops F i l e h K = some r → ∃ e' h',drawV P cf ops F' i l e h = some (e',h') ∧ K e' h' = some r
 | [],i,e,h,hv => ⟨e,h,rfl,hv⟩
 | o :: l,i,e,h,hv => by
  show ∃ e' h',cond (wantE ops o e)
   (cond (quiet o.op) ((opV P cf o.op e h).bind fun p => drawV P cf ops F' (i + 1) l (putE e o.dst p.1) p.2)
   (cond (tailT ops.toList i e h) (opsV P cf ops (o :: l) e h)
   ((opV P cf o.op e { h with low:=h.next }).bind fun p => cond (Nat.beq p.2.low h.next) (drawV P cf ops F' (i + 1) l (putE e o.dst p.1) { p.2 with low:=h.low }) F')))
   (drawV P cf ops F' (i + 1) l (putE e o.dst undef) h) = some (e',h') ∧ _
  rcases kwant_ok hv with ⟨hw,hv1⟩ | ⟨hw,hv1⟩
  ·rw [hw]
   cases hq : quiet o.op with
   | true =>
    rw [hq] at hv1
    simp only [cond_true] at hv1
    obtain ⟨v,h1,g1,g2⟩:=yop_ok hv1
    obtain ⟨e',h',g3,g4⟩:=ydraw_ok hF l g2
    exact ⟨e',h',by rw [g1]; exact g3,g4⟩
   | false =>
    rw [hq] at hv1
    cases ht : tailOK ops.toList i with
    | true =>
     rw [ht] at hv1
     have hT : tailT ops.toList i e h = true:=by unfold tailT; rw [ht]; rfl
     rw [hT]
     exact yops_ok _ hv1
    | false =>
     rw [ht] at hv1
     simp only [cond_false] at hv1
     cases hS : tailS ops.toList i with
     | true =>
      rw [hS] at hv1
      simp only [cond_true] at hv1
      cases T with
      | false => cases hv1
      | true =>
       obtain ⟨hd,hv1⟩:=dynK_ok hv1
       have hT : tailT ops.toList i e h = true:=by unfold tailT; rw [ht,hS,hd]; rfl
       rw [hT]
       exact yops_ok _ hv1
     | false =>
     rw [hS] at hv1
     simp only [cond_false] at hv1
     have hT : tailT ops.toList i e h = false:=by unfold tailT; rw [ht,hS]; rfl
     rw [hT]
     obtain ⟨v,h1,g1,g2⟩:=yop_ok hv1
     have g1' : opV P cf o.op e { h with low:=h.next } = some (v,h1):=g1
     show ∃ e' h',(opV P cf o.op e { h with low:=h.next }).bind _ = some (e',h') ∧ _
     rw [g1']
     show ∃ e' h',cond (Nat.beq h1.low h.next) _ _ = some (e',h') ∧ _
     cases hb : Nat.beq h1.low h.next with
     | true =>
      rw [hb] at g2
      obtain ⟨e',h',g3,g4⟩:=ydraw_ok hF l g2
      exact ⟨e',h',g3,g4⟩
     | false =>
      rw [hb] at g2
      exact hF g2
  ·rw [hw]
   exact ydraw_ok hF l hv1
theorem yres_ok {e : Tr Value} {h : AH} : ∀ (l : List ResultVar) {K : List Value → Option ρ},yres P e h l K = some r → ∃ vs,resVs P e h l = some vs ∧ K vs = some r
 | [],K,hv => ⟨[],rfl,hv⟩
 | .tmp t :: l,K,hv => by
  obtain ⟨vs,h1,h2⟩:=yres_ok l hv
  exact ⟨(e.get t).getD undef :: vs,by show (some ((e.get t).getD undef)).bind _ = _; rw [Option.bind_some,h1]; rfl,h2⟩
 | .cell a t :: l,K,hv => by
  obtain ⟨v,g1,g2⟩:=yload_ok hv
  obtain ⟨vs,h1,h2⟩:=yres_ok l g2
  exact ⟨v :: vs,by show (loadV P t ((e.get a).getD undef) h).bind _ = _; rw [g1,Option.bind_some,h1]; rfl,h2⟩
theorem yfin_ok {fn : Func} {h0 : AH} {x : Ex} {e : Tr Value} {h : AH} {r : Value × AH} (hv : yfin P fn h0 x e h = some r) : zfin P fn h0 x e h = some r:=by
 have fin : (yres P e h fn.results.toList fun vs => (packV vs).bind fun v => some (exitR h0 h v)) = some r →
   ((resVs P e h fn.results.toList).bind fun vs => (packV vs).map fun v => exitR h0 h v) = some r:=fun hv => by
  obtain ⟨vs,q1,q2⟩:=yres_ok _ hv
  obtain ⟨v,q3,q4⟩:=Option.bind_eq_some_iff.1 q2
  rw [q1,Option.bind_some,q3]
  exact q4
 cases x with
 | exit j => cases hv
 | normal => exact fin hv
 | ret => exact fin hv
section
variable {n : Nat} {fn : Func} {h0 : AH} {plan : List (List Nat × List Nat)} {r : Value × AH}
theorem ygo_ok : ∀ (f : Nat) {x : Ny} {fr : List Fy} {e : Tr Value} {h : AH},ygo P cf n fn h0 plan hNew (resY1 P cf n fn h0) f x fr e h = some r → resY1 P cf n fn h0 x fr e h = some r
 | 0,_,_,_,_,hv => by cases hv
 | f + 1,.ends x,fr,e,h,hv => by
  cases fr with
  | nil => exact yfin_ok hv
  | cons a fr =>
   cases a with
   | seq b p =>
    cases x with
    | normal => have g:=ygo_ok f (x:=.code b p) (fr:=fr) (e:=e) (h:=h) hv; exact g
    | exit id => have g:=ygo_ok f (x:=.ends (.exit id)) (fr:=fr) (e:=e) (h:=h) hv; exact g
    | ret => have g:=ygo_ok f (x:=.ends .ret) (fr:=fr) (e:=e) (h:=h) hv; exact g
   | block id =>
    cases x with
    | normal => have g:=ygo_ok f (x:=.ends .normal) (fr:=fr) (e:=e) (h:=h) hv; exact g
    | exit j =>
     have hv' : cond (Nat.beq j id) (ygo P cf n fn h0 plan hNew (resY1 P cf n fn h0) f (.ends .normal) fr e h) (ygo P cf n fn h0 plan hNew (resY1 P cf n fn h0) f (.ends (.exit j)) fr e h) = some r:=hv
     show ((cond (Nat.beq j id) (unwY P cf n fr .normal e h) (unwY P cf n fr (.exit j) e h)).bind _) = _
     cases hb : Nat.beq j id with
     | true =>
      rw [hb] at hv'
      have g:=ygo_ok f (x:=.ends .normal) (fr:=fr) (e:=e) (h:=h) hv'; exact g
     | false =>
      rw [hb] at hv'
      have g:=ygo_ok f (x:=.ends (.exit j)) (fr:=fr) (e:=e) (h:=h) hv'; exact g
    | ret => have g:=ygo_ok f (x:=.ends .ret) (fr:=fr) (e:=e) (h:=h) hv; exact g
   | loop c p m =>
    cases x with
    | normal =>
     have hv' : (match look plan p with
      | some L => cutY fn (resY1 P cf n fn h0) L (.head c p m) fr e h
      | none => none) = some r:=hv
     split at hv'
     ·have g:=cutY_ok (x:=.head c p m) (fr:=fr) hv'
      exact g
     ·cases hv'
    | exit id => have g:=ygo_ok f (x:=.ends (.exit id)) (fr:=fr) (e:=e) (h:=h) hv; exact g
    | ret => have g:=ygo_ok f (x:=.ends .ret) (fr:=fr) (e:=e) (h:=h) hv; exact g
 | f + 1,.code c p,fr,e,h,hv => by
  have hv' : (match look plan p with
   | some L => cond (isLoop c) (ygo P cf n fn h0 plan hNew (resY1 P cf n fn h0) f (.raw c p) fr e h) (cutY fn (resY1 P cf n fn h0) L (.code c p) fr e h)
   | none => ygo P cf n fn h0 plan hNew (resY1 P cf n fn h0) f (.raw c p) fr e h) = some r:=hv
  split at hv'
  ·cases hl : isLoop c with
   | true =>
    rw [hl] at hv'
    have g:=ygo_ok f (x:=.raw c p) (fr:=fr) (e:=e) (h:=h) hv'; exact g
   | false =>
    rw [hl] at hv'
    exact cutY_ok hv'
  ·have g:=ygo_ok f (x:=.raw c p) (fr:=fr) (e:=e) (h:=h) hv'; exact g
 | f + 1,.head c p m,fr,e,h,hv => by
  have hv' : (match look plan p with
   | some L => cutY fn (resY1 P cf n fn h0) L (.head c p m) fr e h
   | none => none) = some r:=hv
  split at hv'
  ·exact cutY_ok hv'
  ·cases hv'
 | f + 1,.raw c p,fr,e,h,hv => by
  cases c with
  | skip => have g:=ygo_ok f (x:=.ends .normal) (fr:=fr) (e:=e) (h:=h) hv; exact g
  | region id ops d =>
   have hv' : cond d (ydraw P cf hNew (hasT plan) ops (cond (hasW plan) (ywrun P cf hNew ops e h fun e h => ygo P cf n fn h0 plan hNew (resY1 P cf n fn h0) f (.ends .normal) fr e h) none) 0 ops.toList e h fun e h => ygo P cf n fn h0 plan hNew (resY1 P cf n fn h0) f (.ends .normal) fr e h) (yops P cf hNew ops ops.toList e h fun e h => ygo P cf n fn h0 plan hNew (resY1 P cf n fn h0) f (.ends .normal) fr e h) = some r:=hv
   show ((((cond d (drawV P cf ops (wrunV P cf ops e h) 0 ops.toList e h) (opsV P cf ops ops.toList e h)).map fun r => ((Ex.normal,r.1,r.2) : Ex × Tr Value × AH)).bind (fun r => unwY P cf n fr r.1 r.2.1 r.2.2)).bind _) = _
   cases d with
   | true =>
    obtain ⟨e1,h1,g1,g2⟩:=ydraw_ok (F':=wrunV P cf ops e h) (fun q => by
     cases hw : hasW plan with
     | true =>
      rw [hw] at q
      exact ywrun_ok q
     | false =>
      rw [hw] at q
      cases q) _ hv'
    rw [cond_true,g1]
    have g:=ygo_ok f (x:=.ends .normal) (fr:=fr) g2; exact g
   | false =>
    obtain ⟨e1,h1,g1,g2⟩:=yops_ok _ hv'
    rw [cond_false,g1]
    have g:=ygo_ok f (x:=.ends .normal) (fr:=fr) g2; exact g
  | seq a b =>
   have g:=ygo_ok f (x:=.code a (0 :: p)) (fr:=.seq b (1 :: p) :: fr) hv
   obtain ⟨q,g1,g2⟩:=Option.bind_eq_some_iff.1 g
   obtain ⟨⟨x1,e1,h1⟩,g3,g4⟩:=Option.bind_eq_some_iff.1 g1
   show ((((exec P cf n a e h).bind fun r => match r.1 with
    | .normal => exec P cf n b r.2.1 r.2.2
    | _ => some r).bind _).bind _) = _
   rw [g3]
   cases x1 with
   | normal =>
    have g4 : ((exec P cf n b e1 h1).bind fun r => unwY P cf n fr r.1 r.2.1 r.2.2) = some q:=g4
    show (((exec P cf n b e1 h1).bind _).bind _) = _
    rw [g4]
    exact g2
   | exit id =>
    have g4 : unwY P cf n fr (.exit id) e1 h1 = some q:=g4
    show ((unwY P cf n fr (.exit id) e1 h1).bind _) = _
    rw [g4]
    exact g2
   | ret =>
    have g4 : unwY P cf n fr .ret e1 h1 = some q:=g4
    show ((unwY P cf n fr .ret e1 h1).bind _) = _
    rw [g4]
    exact g2
  | cond c x y =>
   have hv' : kcond c e (fun e => ygo P cf n fn h0 plan hNew (resY1 P cf n fn h0) f (.code x (0 :: p)) fr e h) (fun e => ygo P cf n fn h0 plan hNew (resY1 P cf n fn h0) f (.code y (1 :: p)) fr e h) = some r:=hv
   clear hv
   obtain ⟨t,ht,hv'⟩:=kcond_ok hv'
   unfold resY1 denY exec
   simp only [ht]
   cases t with
   | true => have g:=ygo_ok f (x:=.code x (0 :: p)) (fr:=fr) hv'; exact g
   | false => have g:=ygo_ok f (x:=.code y (1 :: p)) (fr:=fr) hv'; exact g
  | block id c =>
   have g:=ygo_ok f (x:=.code c (0 :: p)) (fr:=.block id :: fr) hv
   obtain ⟨q,g1,g2⟩:=Option.bind_eq_some_iff.1 g
   obtain ⟨⟨x1,e1,h1⟩,g3,g4⟩:=Option.bind_eq_some_iff.1 g1
   show ((((exec P cf n c e h).bind fun r => match r.1 with
    | .exit j => cond (Nat.beq j id) (some (.normal,r.2.1,r.2.2)) (some r)
    | _ => some r).bind _).bind _) = _
   rw [g3]
   cases x1 with
   | normal =>
    have g4 : unwY P cf n fr .normal e1 h1 = some q:=g4
    show ((unwY P cf n fr .normal e1 h1).bind _) = _
    rw [g4]
    exact g2
   | exit j =>
    have g4' : cond (Nat.beq j id) (unwY P cf n fr .normal e1 h1) (unwY P cf n fr (.exit j) e1 h1) = some q:=g4
    show (((cond (Nat.beq j id) (some (Ex.normal,e1,h1)) (some (Ex.exit j,e1,h1))).bind _).bind _) = _
    cases hb : Nat.beq j id with
    | true =>
     rw [hb] at g4'
     have g4' : unwY P cf n fr .normal e1 h1 = some q:=g4'
     show ((unwY P cf n fr .normal e1 h1).bind _) = _
     rw [g4']
     exact g2
    | false =>
     rw [hb] at g4'
     have g4' : unwY P cf n fr (.exit j) e1 h1 = some q:=g4'
     show ((unwY P cf n fr (.exit j) e1 h1).bind _) = _
     rw [g4']
     exact g2
   | ret =>
    have g4 : unwY P cf n fr .ret e1 h1 = some q:=g4
    show ((unwY P cf n fr .ret e1 h1).bind _) = _
    rw [g4]
    exact g2
  | exit id => have g:=ygo_ok f (x:=.ends (.exit id)) (fr:=fr) (e:=e) (h:=h) hv; exact g
  | ret => have g:=ygo_ok f (x:=.ends .ret) (fr:=fr) (e:=e) (h:=h) hv; exact g
  | loop c => have g:=ygo_ok f (x:=.head c p n) (fr:=fr) (e:=e) (h:=h) hv; exact g
  | _ => cases hv
theorem yhead_ok0 {c : Code} {p : List Nat} {m : Nat} {fr : List Fy} {e : Tr Value} {h : AH} (hv : yhead P cf n fn h0 plan hNew (resY1 P cf n fn h0) c p m fr e h = some r) : resY1 P cf n fn h0 (.head c p (m + 1)) fr e h = some r:=by
 have g:=ygo_ok _ hv
 obtain ⟨q,g1,g2⟩:=Option.bind_eq_some_iff.1 g
 obtain ⟨⟨x1,e1,h1⟩,g3,g4⟩:=Option.bind_eq_some_iff.1 g1
 unfold resY1 denY
 simp only
 rw [iter_succ,g3]
 cases x1 with
 | normal =>
  have g4 : ((iter (exec P cf n c) m e1 h1).bind fun r => unwY P cf n fr r.1 r.2.1 r.2.2) = some q:=g4
  show (((iter (exec P cf n c) m e1 h1).bind _).bind _) = _
  rw [g4]
  exact g2
 | exit j =>
  have g4 : unwY P cf n fr (.exit j) e1 h1 = some q:=g4
  show ((unwY P cf n fr (.exit j) e1 h1).bind _) = _
  rw [g4]
  exact g2
 | ret =>
  have g4 : unwY P cf n fr .ret e1 h1 = some q:=g4
  show ((unwY P cf n fr .ret e1 h1).bind _) = _
  rw [g4]
  exact g2
theorem yfrom_ok0 {c : Code} {p : List Nat} {fr : List Fy} {e : Tr Value} {h : AH} (hv : yfrom P cf n fn h0 plan hNew (resY1 P cf n fn h0) c p fr e h = some r) : resY1 P cf n fn h0 (.code c p) fr e h = some r:=by
 have g:=ygo_ok 4000 (x:=.raw c p) (fr:=fr) (e:=e) (h:=h) hv
 exact g
theorem yrun_ok0 {f : FuncId} {args : List Value} {h : AH} (hv : yrun P cf n plan hNew (resY1 P cf n) f args h = some r) : run1 P cf n f args h = some r:=by
 unfold yrun at hv
 unfold run1
 split at hv
 ·rename_i fn hf
  rw [hf]
  split at hv
  ·rename_i c hb
   simp only [hb]
   have g:=ygo_ok _ hv
   obtain ⟨q,g1,g2⟩:=Option.bind_eq_some_iff.1 g
   obtain ⟨⟨x1,e1,h1⟩,g3,g4⟩:=Option.bind_eq_some_iff.1 g1
   injection g4 with g4
   subst g4
   have g3 : exec P cf n c (envOf args 0 (env0 fn.ntmps)) { h with low:=h.next } = some (x1,e1,h1):=g3
   rw [g3]
   cases x1 with
   | normal => exact g2
   | exit _ => cases g2
   | ret => exact g2
  ·cases hv
 ·cases hv
theorem yhead_ok {c : Code} {p : List Nat} {m : Nat} {fr : List Fy} {e : Tr Value} {h : AH} (hv : yhead P (runS P n) n fn h0 plan hNew (resY P n fn h0) c p m fr e h = some r) : resY P n fn h0 (.head c p (m + 1)) fr e h = some r:=by
 rw [runS_eq,resY_eq] at hv
 rw [resY_eq]
 exact yhead_ok0 hv
theorem yfrom_ok {c : Code} {p : List Nat} {fr : List Fy} {e : Tr Value} {h : AH} (hv : yfrom P (runS P n) n fn h0 plan hNew (resY P n fn h0) c p fr e h = some r) : resY P n fn h0 (.code c p) fr e h = some r:=by
 rw [runS_eq,resY_eq] at hv
 rw [resY_eq]
 exact yfrom_ok0 hv
theorem yrun_ok {f : FuncId} {args : List Value} {h : AH} (hv : yrun P (runS P n) n plan hNew (resY P n) f args h = some r) : runS P (n + 1) f args h = some r:=by
 rw [runS_eq,resY_eq] at hv
 rw [runS_eq]
 exact yrun_ok0 hv
theorem yfrom_okC {c : Code} {p : List Nat} {fr : List Fy} {e : Tr Value} {h : AH} (hv : yfrom P cf n fn h0 plan hNew (resC P cf n fn h0) c p fr e h = some r) : resC P cf n fn h0 (.code c p) fr e h = some r:=by
 rw [resC_eq] at hv ⊢
 exact yfrom_ok0 hv
theorem yrun_okC {f : FuncId} {args : List Value} {h : AH} (hv : yrun P cf n plan hNew (resC P cf n) f args h = some r) : runC P cf n f args h = some r:=by
 rw [resC_eq] at hv
 rw [runC_eq]
 exact yrun_ok0 hv
end
theorem gI_int (k : IntKind) (n : Int) : gI k (some (.int k n)) = some n:=by
 show vInt k (.int k n) = some n
 exact vInt_int k n
theorem gB_bool (b : Bool) : gB (some (.bool b)) = some b:=rfl
theorem gS_str (s : ByteArray) : gS (some (.string s)) = some s:=rfl
theorem gL_sl (a : Option Addr) (n c : Nat) : gL (some (.slice a n c)) = some (a,n,c):=rfl
theorem gP_ptr (a : Option Addr) : gP (some (.pointer a)) = some a:=rfl
theorem Tr.set_ne {α : Type} {t : Tr α} {n m : Nat} {a : α} (h : m ≠ n) : (t.set n a).get m = t.get m:=(Tr.get_set _ _ _ _).trans (if_neg h)
theorem Tr.set_eq {α : Type} {t : Tr α} {n : Nat} {a : α} : (t.set n a).get n = some a:=(Tr.get_set _ _ _ _).trans (if_pos rfl)
theorem nm1 {γ x : Nat} {l : List Nat} (h : γ ∉ x :: l) : γ ≠ x:=fun e => h (e ▸ List.mem_cons_self ..)
theorem nm2 {γ x y : Nat} {l : List Nat} (h : γ ∉ x :: y :: l) : γ ≠ y:=fun e => h (e ▸ List.mem_cons_of_mem _ (List.mem_cons_self ..))
structure Ch (h h' : AH) (l : List Nat) : Prop where
 same : ∀ β,β ∉ l → h'.blks.get β = h.blks.get β ∧ h'.grps.get β = h.grps.get β
 nxt : h.next ≤ h'.next
 wf : WF h'
theorem Ch.refl {h : AH} (H : WF h) (l : List Nat) : Ch h h l:=⟨fun _ _ => ⟨rfl,rfl⟩,Nat.le_refl _,H⟩
theorem Ch.trans {h h1 h2 : AH} {l m : List Nat} (a : Ch h h1 l) (b : Ch h1 h2 m) : Ch h h2 (l ++ m):=⟨fun β hβ => by
 have h1 : β ∉ l:=fun h => hβ (List.mem_append_left _ h)
 have h2 : β ∉ m:=fun h => hβ (List.mem_append_right _ h)
 exact ⟨(b.same β h2).1.trans (a.same β h1).1,(b.same β h2).2.trans (a.same β h1).2⟩,Nat.le_trans a.nxt b.nxt,b.wf⟩
theorem Ch.low {h : AH} (H : WF h) (x : Nat) : Ch h (setLow h x) []:=⟨fun _ _ => ⟨rfl,rfl⟩,Nat.le_refl _,H.setLow x⟩
structure Wk (h g : AH) : Prop where
 wf : WF g
 low : g.low = h.next
 nxt : h.next ≤ g.next
 old : ∀ β,β < h.next → g.blks.get β = h.blks.get β ∧ g.grps.get β = h.grps.get β
theorem Wk.start {h : AH} (H : WF h) : Wk h (setLow h h.next):=⟨H.setLow _,rfl,Nat.le_refl _,fun _ _ => ⟨rfl,rfl⟩⟩
theorem Wk.fr {h g g' : AH} {l : List Nat} (W : Wk h g) (F : Ch g g' l) (hl : g'.low = g.low) (hm : ∀ x ∈ l,h.next ≤ x) : Wk h g' :=
 ⟨F.wf,hl.trans W.low,Nat.le_trans W.nxt F.nxt,fun β hβ => by
  have : β ∉ l:=fun hx => absurd (hm β hx) (by omega)
  exact ⟨(F.same β this).1.trans (W.old β hβ).1,(F.same β this).2.trans (W.old β hβ).2⟩⟩
theorem Wk.rd {h g : AH} (H : WF h) (W : Wk h g) {β : Nat} (hβ : β < h.next) : g.rd β = h.rd β:=by
 unfold AH.rd AH.members
 rw [(W.old β hβ).1]
 cases hb : h.blks.get β with
 | none => rfl
 | some b =>
  have:=H.gle β b hb
  rw [Option.bind_some,Option.bind_some,(W.old b.grp (by omega)).2]
theorem Wk.rdC {h g : AH} (H : WF h) (W : Wk h g) {a : Addr} {i : Nat} {x : Value} (hx : rdC h a i = some x) : rdC g a i = some x:=by
 obtain ⟨hs,b,h1,h2⟩:=rdC_ok hx
 have hb:=H.lt (rd_get h1).1
 unfold X.rdC
 rw [hs]
 simp only
 rw [W.rd H hb,h1]
 exact h2
theorem Wk.exit {h g : AH} (W : Wk h g) {v : Value} (hv : plainV v = true) : exitR h g v = (v,h):=by
 unfold exitR
 rw [W.low,Nat.beq_refl,hv]
 rfl
def Own (g : AH) (β : Nat) (cs : List Value) : Prop:=∃ z,g.blks.get β = some ⟨cs,z,β,false⟩ ∧ g.grps.get β = none
theorem Own.lt {g : AH} {β : Nat} {cs : List Value} (H : WF g) (O : Own g β cs) : β < g.next:=by
 obtain ⟨z,h,_⟩:=O
 exact H.lt h
theorem Own.fr {g g' : AH} {β : Nat} {cs : List Value} {l : List Nat} (O : Own g β cs) (F : Ch g g' l) (h : β ∉ l) : Own g' β cs:=by
 obtain ⟨z,h1,h2⟩:=O
 exact ⟨z,(F.same β h).1.trans h1,(F.same β h).2.trans h2⟩
theorem Own.rd {g : AH} {β : Nat} {cs : List Value} (O : Own g β cs) (o i : Nat) : rdC g ⟨β,o,none⟩ i = cs[o + i]?:=by
 obtain ⟨z,h1,h2⟩:=O
 have : g.rd β = some ⟨cs,z,β,false⟩:=rd_of h1 (by
  show β ∈ (g.grps.get β).getD [β]
  rw [h2]
  exact List.mem_singleton.2 rfl)
 unfold rdC
 simp only [this,Option.bind_some]
theorem new_ok {g : AH} (H : WF g) (cs : List Value) (z : Nat) : ∃ g',hNew g cs z = some (g.next,g') ∧ Ch g g' [g.next] ∧ Own g' g.next cs ∧ g'.low = g.low ∧ g'.next = g.next + 1 :=
 ⟨(g.new cs z).2,rfl,⟨fun _ hβ => ⟨Tr.set_ne (nm1 hβ),rfl⟩,Nat.le_succ _,(Mild.new H cs z).wf⟩,
  ⟨z,Tr.set_eq,(H.new _ (Nat.le_refl _)).2⟩,rfl,rfl⟩
theorem st_ok {g : AH} (H : WF g) {β o : Nat} {cs vs : List Value} (O : Own g β cs) (hl : g.low ≤ β) (hf : o + vs.length ≤ cs.length) :
  ∃ g',stL g ⟨β,o,none⟩ vs = some g' ∧ Ch g g' [β] ∧ Own g' β (putAt cs o vs) ∧ g'.low = g.low ∧ g'.next = g.next:=by
 obtain ⟨z,h1,h2⟩:=O
 have hr : g.rd β = some ⟨cs,z,β,false⟩:=rd_of h1 (by
  show β ∈ (g.grps.get β).getD [β]
  rw [h2]
  exact List.mem_singleton.2 rfl)
 have hm : g.members β = [β]:=by
  show (g.grps.get β).getD [β] = _
  rw [h2]
  rfl
 have hw : g.wr β ⟨cs,z,β,false⟩ (putAt cs o vs) = some { blks:=g.blks.set β ⟨putAt cs o vs,z,β,false⟩,grps:=g.grps,next:=g.next,low:=g.low }:=by
  unfold AH.wr
  have : Nat.blt β g.low = false:=by
   cases e : Nat.blt β g.low with
   | false => rfl
   | true =>
    have:=Nat.le_of_ble_eq_true e
    omega
  simp only [hm,this,cond_false]
 refine ⟨{ blks:=g.blks.set β ⟨putAt cs o vs,z,β,false⟩,grps:=g.grps,next:=g.next,low:=g.low },?_,⟨fun γ hγ => ⟨Tr.set_ne (nm1 hγ),rfl⟩,Nat.le_refl _,(Mild.wr H hr hw).wf⟩,⟨z,Tr.set_eq,h2⟩,rfl,rfl⟩
 unfold stL
 simp only [hr,Option.bind_some,Nat.ble_eq_true_of_le hf,cond_true]
 exact hw
def Row (g : AH) (a : Option Addr) (n c z G : Nat) (cs : List Value) : Prop :=
 (a = none ∧ n = 0 ∧ c = 0 ∧ cs = []) ∨ ∃ β,a = some ⟨β,0,none⟩ ∧ cs.length = n * z ∧ OPEN ≤ c ∧ G ≤ β ∧ β < g.next ∧ g.blks.get β = some ⟨cs,z,G,false⟩ ∧ β ∈ g.members G
theorem Row.nil (g : AH) (z G : Nat) : Row g none 0 0 z G []:=.inl ⟨rfl,rfl,rfl,rfl⟩
theorem Row.fr {g g' : AH} {a : Option Addr} {n c z G : Nat} {cs : List Value} {l : List Nat} (R : Row g a n c z G cs) (F : Ch g g' l) (h1 : G ∉ l) (h2 : ∀ β,a = some ⟨β,0,none⟩ → β ∉ l) : Row g' a n c z G cs:=by
 rcases R with R | ⟨β,e,r1,r2,r3,r4,r5,r6⟩
 ·exact .inl R
 ·refine .inr ⟨β,e,r1,r2,r3,Nat.lt_of_lt_of_le r4 F.nxt,(F.same β (h2 β e)).1.trans r5,?_⟩
  unfold AH.members at r6 ⊢
  rwa [(F.same G h1).2]
theorem Row.rd {g : AH} {a : Option Addr} {n c z G : Nat} {cs : List Value} (R : Row g a n c z G cs) {i : Nat} {x : Value} (hx : cs[i]? = some x) : ∃ ad,a = some ad ∧ rdC g ad i = some x:=by
 rcases R with ⟨_,_,_,e⟩ | ⟨β,e,r1,r2,r3,r4,r5,r6⟩
 ·rw [e] at hx
  cases hx
 ·refine ⟨_,e,?_⟩
  have hr : g.rd β = some ⟨cs,z,G,false⟩:=rd_of r5 r6
  unfold rdC
  simp only [hr,Option.bind_some,Nat.zero_add]
  exact hx
theorem cells_own {g : AH} {β z : Nat} {cs : List Value} (O : Own g β cs) (hl : cs.length = z) : sliceCells z 1 (.slice (some ⟨β,0,none⟩) 1 1) g = some cs:=by
 obtain ⟨y,h1,h2⟩:=O
 have hr : g.rd β = some ⟨cs,y,β,false⟩:=rd_of h1 (by
  show β ∈ (g.grps.get β).getD [β]
  rw [h2]
  exact List.mem_singleton.2 rfl)
 unfold sliceCells
 simp only [hr,Option.bind_some,Nat.one_mul]
 cases hz : Nat.beq z 0 with
 | true =>
  have:=Nat.eq_of_beq_eq_true hz
  rw [this] at hl
  rw [List.eq_nil_of_length_eq_zero hl]
  rfl
 | false =>
  unfold takeAt
  rw [← hl,Nat.zero_add,Nat.ble_eq_true_of_le (Nat.le_refl _),List.drop_zero,List.take_length]
  rfl
theorem app_ok {g : AH} (H : WF g) {a : Option Addr} {n c z G by_ β : Nat} {cs vs : List Value} (R : Row g a n c z G cs) (hG : a = none ∨ g.low ≤ G) (O : Own g β vs) (hv : vs.length = z) (hz : 0 < z) (hb : (n + 1) * by_ ≤ 140737488355328) :
  ∃ a' G' g',appL z by_ (.slice a n c) (.slice (some ⟨β,0,none⟩) 1 1) g = some ((a',n + 1,OPEN),g') ∧ Row g' a' (n + 1) OPEN z G' (cs ++ vs) ∧ Ch g g' [g.next,G] ∧ g'.low = g.low ∧ g'.next = g.next + 1 ∧ a' = some ⟨g.next,0,none⟩ ∧ (G' = g.next ∨ G' = G) ∧ (a = none → G' = g.next) ∧ (a ≠ none → G' = G):=by
 have hit:=cells_own O hv
 rcases R with ⟨rfl,rfl,rfl,rfl⟩ | ⟨γ,rfl,r1,r2,r3,r4,r5,r6⟩
 ·refine ⟨some ⟨g.next,0,none⟩,g.next,(g.new vs z).2,?_,.inr ⟨g.next,rfl,by simp [hv],Nat.le_refl _,Nat.le_refl _,Nat.lt_succ_self _,Tr.set_eq,?_⟩,⟨fun γ hγ => ⟨Tr.set_ne (nm1 hγ),rfl⟩,Nat.le_succ _,(Mild.new H vs z).wf⟩,rfl,rfl,rfl,.inl rfl,fun _ => rfl,fun h => absurd rfl h⟩
  ·unfold appL appendV lenV
   simp only [Option.bind_some,hit]
   rw [show Nat.beq 1 0 = false from rfl,show Nat.ble (1 * by_) 140737488355328 = true from Nat.ble_eq_true_of_le (by omega)]
   rfl
  ·show g.next ∈ (g.grps.get g.next).getD [g.next]
   rw [(H.new _ (Nat.le_refl _)).2]
   exact List.mem_singleton.2 rfl
 ·have hr : g.rd γ = some ⟨cs,z,G,false⟩:=rd_of r5 r6
  have hG' : g.low ≤ G:=hG.resolve_left fun e => by cases e
  refine ⟨some ⟨g.next,0,none⟩,G,g.grow γ G (cs ++ vs) z (Nat.beq (0 + n * z) cs.length),?_,.inr ⟨g.next,rfl,by rw [List.length_append,r1,hv,Nat.add_mul,Nat.one_mul],Nat.le_refl _,by omega,Nat.lt_succ_self _,Tr.set_eq,?_⟩,⟨fun δ hδ => ⟨Tr.set_ne (nm1 hδ),Tr.set_ne (nm2 hδ)⟩,Nat.le_succ _,(Mild.grow H hr (cs ++ vs) z _).wf⟩,?_,rfl,rfl,.inr rfl,(fun h => by cases h),fun _ => rfl⟩
  ·unfold appL appendV lenV
   have e1 : Nat.blt c OPEN = false:=by
    cases e : Nat.blt c OPEN with
    | false => rfl
    | true =>
     have:=Nat.le_of_ble_eq_true e
     omega
   have e2 : Nat.ble (0 + (n + 1) * z) cs.length = false:=by
    cases e : Nat.ble (0 + (n + 1) * z) cs.length with
    | false => rfl
    | true =>
     have:=Nat.le_of_ble_eq_true e
     rw [r1,Nat.add_mul] at this
     omega
   have e3 : takeAt cs 0 (n * z) = some cs:=by
    unfold takeAt
    rw [← r1,Nat.zero_add,Nat.ble_eq_true_of_le (Nat.le_refl _),List.drop_zero,List.take_length]
    rfl
   have e4 : Nat.beq z 0 = false:=by
    cases e : Nat.beq z 0 with
    | false => rfl
    | true =>
     have:=Nat.eq_of_beq_eq_true e
     omega
   simp only [Option.bind_some,hit]
   rw [show Nat.beq 1 0 = false from rfl,Nat.ble_eq_true_of_le hb]
   simp only [cond_false,cond_true,e1,hr,Option.bind_some,e2,e3,e4,Nat.beq_refl,Bool.not_true,Bool.or_false]
   rfl
  ·show g.next ∈ ((g.grps.set G (cond (Nat.beq (0 + n * z) cs.length) [γ,g.next] [g.next])).get G).getD [G]
   rw [Tr.get_set,if_pos rfl]
   cases Nat.beq (0 + n * z) cs.length <;> simp
  ·show cond (Nat.blt G g.low) G g.low = g.low
   have : Nat.blt G g.low = false:=by
    cases e : Nat.blt G g.low with
    | false => rfl
    | true =>
     have:=Nat.le_of_ble_eq_true e
     omega
   rw [this]
   rfl
def Sl (h : AH) (a : Option Addr) (cs : List Value) : Prop:=∀ i x,cs[i]? = some x → ∃ ad,a = some ad ∧ rdC h ad i = some x
theorem rdC_add (h : AH) {a : Addr} (hs : a.spot = none) (k i : Nat) : rdC h (a.add k) i = rdC h a (k + i):=by
 obtain ⟨b,o,s⟩:=a
 have hs : s = none:=hs
 subst hs
 rw [add_lit]
 unfold rdC
 simp only [Nat.add_assoc]
theorem Sl.wk {h g : AH} (H : WF h) (W : Wk h g) {a : Option Addr} {cs : List Value} (S : Sl h a cs) : Sl g a cs:=fun i x hx => by
 obtain ⟨ad,h1,h2⟩:=S i x hx
 exact ⟨ad,h1,W.rdC H h2⟩
theorem Row.sl {g : AH} {a : Option Addr} {n c z G : Nat} {cs : List Value} (R : Row g a n c z G cs) : Sl g a cs:=fun _ _ hx => R.rd hx
theorem Own.sl {g : AH} {β : Nat} {cs : List Value} (O : Own g β cs) : Sl g (some ⟨β,0,none⟩) cs:=fun i x hx => ⟨_,rfl,by rw [O.rd,Nat.zero_add]; exact hx⟩
theorem Sl.nil (h : AH) (a : Option Addr) : Sl h a []:=fun i x hx => by cases hx
theorem Sl.int {h : AH} {a : Option Addr} {k : IntKind} {L : List Int} (S : Sl h a (L.map fun n => .int k n)) {i : Nat} {n : Int} (hi : L[i]? = some n) : ∃ ad,a = some ad ∧ gI k (rdC h (ad.add (i * 1)) 0) = some n:=by
 obtain ⟨ad,h1,h2⟩:=S i (.int k n) (by rw [List.getElem?_map,hi]; rfl)
 refine ⟨ad,h1,?_⟩
 rw [rdC_add h (rdC_ok h2).1,Nat.mul_one,Nat.add_zero,h2,gI_int]
theorem low_loc (h : AH) : setLow h h.next = loc h []:=rfl
theorem setLow_low (h : AH) (x : Nat) : (setLow h x).low = x:=rfl
theorem setLow_next (h : AH) (x : Nat) : (setLow h x).next = h.next:=rfl
theorem setLow_set (h : AH) (x y : Nat) : setLow (setLow h x) y = setLow h y:=rfl
theorem setLow_self (h : AH) : setLow h h.low = h:=rfl
theorem setLow_loc (h : AH) (bs : List (List Value)) : setLow (loc h bs) h.next = loc h bs:=rfl
theorem wf_low {h : AH} (H : WF h) (x : Nat) : WF (setLow h x):=H.setLow x
theorem hNew_loc (h : AH) (bs : List (List Value)) (cs : List Value) : hNew (loc h bs) cs 0 = some (h.next + bs.length,loc h (bs ++ [cs])):=by
 show some ((loc h bs).next,(AH.new (loc h bs) cs 0).2) = _
 rw [new_loc]
 rfl
theorem loc_rdN {h : AH} (H : WF h) {bs : List (List Value)} {j : Nat} (hj : bs[j]? = none) : (loc h bs).rd (h.next + j) = none:=by
 have : (loc h bs).blks.get (h.next + j) = none:=((loc_wf H bs).new _ (by
  have:=List.getElem?_eq_none_iff.1 hj
  show h.next + bs.length ≤ h.next + j
  omega)).1
 unfold AH.rd
 rw [this]
 rfl
theorem lrd {h : AH} (H : WF h) (bs : List (List Value)) (j o i : Nat) : rdC (loc h bs) ⟨h.next + j,o,none⟩ i = (bs[j]?).bind fun c => c[o + i]?:=by
 cases hj : bs[j]? with
 | some c => exact loc_rdC H hj
 | none =>
  unfold rdC
  simp only [loc_rdN H hj]
  rfl
theorem lrd0 {h : AH} (H : WF h) (bs : List (List Value)) (o i : Nat) : rdC (loc h bs) ⟨h.next,o,none⟩ i = (bs[0]?).bind fun c => c[o + i]?:=lrd H bs 0 o i
theorem lst {h : AH} (H : WF h) (bs : List (List Value)) (j o : Nat) (vs : List Value) : stL (loc h bs) ⟨h.next + j,o,none⟩ vs = (bs[j]?).bind fun c => cond (Nat.ble (o + vs.length) c.length) (some (loc h (bs.set j (putAt c o vs)))) none:=by
 cases hj : bs[j]? with
 | none =>
  unfold stL
  simp only [loc_rdN H hj]
  rfl
 | some c =>
  have hjl : j < bs.length:=(List.getElem?_eq_some_iff.1 hj).1
  unfold stL
  simp only [loc_rd H hj,Option.bind_some]
  refine congrArg (fun z => cond _ z none) ?_
  have hm : (loc h bs).members (h.next + j) = [h.next + j]:=by
   show (h.grps.get (h.next + j)).getD [h.next + j] = _
   rw [(H.new _ (by omega)).2]
   rfl
  unfold AH.wr
  simp only [cond_false,hm]
  refine congrArg some ?_
  unfold loc
  rw [List.length_set,← locB_set bs h.blks h.next j _ hjl]
  have : Nat.blt (h.next + j) h.next = false:=by
   cases e : Nat.blt (h.next + j) h.next with
   | false => rfl
   | true =>
    have:=Nat.le_of_ble_eq_true e
    omega
  simp only [this,cond_false]
theorem lst0 {h : AH} (H : WF h) (bs : List (List Value)) (o : Nat) (vs : List Value) : stL (loc h bs) ⟨h.next,o,none⟩ vs = (bs[0]?).bind fun c => cond (Nat.ble (o + vs.length) c.length) (some (loc h (bs.set 0 (putAt c o vs)))) none:=lst H bs 0 o vs
theorem loc_wk {h : AH} (H : WF h) (bs : List (List Value)) : Wk h (loc h bs):=⟨loc_wf H bs,rfl,Nat.le_add_right _ _,fun _ hβ => ⟨locB_old _ _ _ _ hβ,rfl⟩⟩
theorem putAt0 (vs cs : List Value) : putAt cs 0 vs = vs ++ cs.drop vs.length:=by
 cases cs <;> rfl
theorem putAt1 (c : Value) (cs : List Value) (vs : List Value) : putAt (c :: cs) 1 vs = c :: putAt cs 0 vs:=rfl
theorem ble_self (n : Nat) : Nat.ble n n = true:=Nat.ble_eq_true_of_le (Nat.le_refl n)
theorem ble12 : Nat.ble 1 2 = true:=rfl
section
variable {h : AH} {a : Option Addr} {k : IntKind} {L : List Int} {ρ : Type} {K : Int → Option ρ} {n : Nat}
theorem inB_lt {i : Int} {n : Nat} (h0 : 0 ≤ i) (h : i.toNat < n) : inB i n = true:=by
 unfold inB
 rw [decide_eq_true h0,decide_eq_true (by omega)]
 rfl
end
theorem Sl.low {h : AH} {a : Option Addr} {cs : List Value} (S : Sl h a cs) (x : Nat) : Sl (setLow h x) a cs:=S
theorem Sl.loc {h : AH} (H : WF h) {a : Option Addr} {cs : List Value} (S : Sl h a cs) (bs : List (List Value)) : Sl (loc h bs) a cs:=S.wk H (loc_wk H bs)
structure Kp (b g : AH) : Prop where
 wf : WF g
 low : g.low = b.low
 nxt : b.next ≤ g.next
 old : ∀ β,β < b.next → g.blks.get β = b.blks.get β ∧ g.grps.get β = b.grps.get β
theorem Kp.refl {b : AH} (B : WF b) : Kp b b:=⟨B,rfl,Nat.le_refl _,fun _ _ => ⟨rfl,rfl⟩⟩
theorem Kp.trans {a b c : AH} (K : Kp a b) (M : Kp b c) : Kp a c:=⟨M.wf,M.low.trans K.low,Nat.le_trans K.nxt M.nxt,fun β hβ =>
 have h1:=K.old β hβ
 have h2:=M.old β (Nat.lt_of_lt_of_le hβ K.nxt)
 ⟨h2.1.trans h1.1,h2.2.trans h1.2⟩⟩
theorem Kp.ch {b g g' : AH} {l : List Nat} (K : Kp b g) (F : Ch g g' l) (hl : g'.low = g.low) (hm : ∀ x ∈ l,b.next ≤ x) : Kp b g' :=
 ⟨F.wf,hl.trans K.low,Nat.le_trans K.nxt F.nxt,fun β hβ => by
  have : β ∉ l:=fun hx => absurd (hm β hx) (by omega)
  exact ⟨(F.same β this).1.trans (K.old β hβ).1,(F.same β this).2.trans (K.old β hβ).2⟩⟩
theorem Kp.rd {b g : AH} (B : WF b) (K : Kp b g) {β : Nat} (hβ : β < b.next) : g.rd β = b.rd β:=by
 unfold AH.rd AH.members
 rw [(K.old β hβ).1]
 cases hb : b.blks.get β with
 | none => rfl
 | some x =>
  have:=B.gle β x hb
  rw [Option.bind_some,Option.bind_some,(K.old x.grp (by omega)).2]
theorem Kp.rdC {b g : AH} (B : WF b) (K : Kp b g) {a : Addr} {i : Nat} {x : Value} (hx : rdC b a i = some x) : rdC g a i = some x:=by
 obtain ⟨hs,c,h1,h2⟩:=rdC_ok hx
 have hb:=B.lt (rd_get h1).1
 unfold X.rdC
 rw [hs]
 simp only
 rw [K.rd B hb,h1]
 exact h2
theorem Sl.kp {b g : AH} (B : WF b) (K : Kp b g) {a : Option Addr} {cs : List Value} (S : Sl b a cs) : Sl g a cs:=fun i x hx => by
 obtain ⟨ad,h1,h2⟩:=S i x hx
 exact ⟨ad,h1,K.rdC B h2⟩
theorem Own.kp {b g : AH} (B : WF b) (K : Kp b g) {β : Nat} {cs : List Value} (O : Own b β cs) : Own g β cs:=by
 have hb:=O.lt B
 obtain ⟨z,h1,h2⟩:=O
 exact ⟨z,(K.old β hb).1.trans h1,(K.old β hb).2.trans h2⟩
theorem Kp.start {h : AH} (H : WF h) : Kp (setLow h h.next) (setLow h h.next):=Kp.refl (H.setLow _)
theorem Kp.new {b g : AH} (K : Kp b g) (cs : List Value) (z : Nat) : ∃ g',hNew g cs z = some (g.next,g') ∧ Kp b g' ∧ Ch g g' [g.next] ∧ Own g' g.next cs ∧ g'.next = g.next + 1:=by
 obtain ⟨g',h1,h2,h3,h4,h5⟩:=new_ok K.wf cs z
 exact ⟨g',h1,K.ch h2 h4 fun x hx => by rw [List.mem_singleton.1 hx]; exact K.nxt,h2,h3,h5⟩
theorem Kp.st {b g : AH} (K : Kp b g) (hb : b.low ≤ b.next) {β o : Nat} {cs vs : List Value} (O : Own g β cs) (hβ : b.next ≤ β) (hf : o + vs.length ≤ cs.length) :
  ∃ g',stL g ⟨β,o,none⟩ vs = some g' ∧ Kp b g' ∧ Ch g g' [β] ∧ Own g' β (putAt cs o vs) ∧ g'.next = g.next:=by
 obtain ⟨g',h1,h2,h3,h4,h5⟩:=st_ok K.wf O (by rw [K.low]; omega) hf
 exact ⟨g',h1,K.ch h2 h4 fun x hx => by rw [List.mem_singleton.1 hx]; exact hβ,h2,h3,h5⟩
theorem Kp.app {b g : AH} (K : Kp b g) (hb : b.low ≤ b.next) {a : Option Addr} {n c z G by_ : Nat} {cs vs : List Value} (R : Row g a n c z G cs) (hG : b.next ≤ G) (hG2 : G ≤ g.next) (hv : vs.length = z) (hz : 0 < z) (hn : (n + 1) * by_ ≤ 140737488355328) :
  ∃ g1 g2 a' G',hNew g vs z = some (g.next,g1) ∧ appL z by_ (.slice a n c) (.slice (some ⟨g.next,0,none⟩) 1 1) g1 = some ((a',n + 1,OPEN),g2) ∧ Row g2 a' (n + 1) OPEN z G' (cs ++ vs) ∧ Kp b g2 ∧ b.next ≤ G' ∧ G' ≤ g2.next ∧
   (a ≠ none → G' = G) ∧ (a = none → g.next ≤ G') ∧ Ch g g2 [g.next,g.next + 1,G] ∧ g.next ≤ g2.next ∧ (∃ γ,a' = some ⟨γ,0,none⟩ ∧ g.next ≤ γ):=by
 obtain ⟨g1,h1,K1,F1,O1,n1⟩:=K.new vs z
 have R1 : Row g1 a n c z G cs:=by
  rcases R with R | ⟨β,e,r1,r2,r3,r4,r5,r6⟩
  ·exact .inl R
  ·refine Row.fr (.inr ⟨β,e,r1,r2,r3,r4,r5,r6⟩) F1 (fun hx => ?_) fun β' e' hx => ?_
   ·have:=List.mem_singleton.1 hx
    omega
   ·have:=List.mem_singleton.1 hx
    rw [e] at e'
    injection e' with e'
    injection e' with e'
    omega
 obtain ⟨a',G',g2,q1,q2,q3,q4,q5,q6,q7,q8,q9⟩:=app_ok (by_:=by_) K1.wf R1 (.inr (by rw [K1.low]; omega)) O1 hv hz hn
 refine ⟨g1,g2,a',G',h1,q1,q2,K1.ch q3 q4 ?_,?_,?_,q9,fun e => by rw [q8 e]; omega,?_,?_,⟨_,q6,by omega⟩⟩
 ·intro x hx
  rcases List.mem_cons.1 hx with rfl | hx
  ·rw [n1]
   exact Nat.le_trans K.nxt (Nat.le_succ _)
  ·rw [List.mem_singleton.1 hx]
   exact hG
 ·rcases q7 with rfl | rfl
  ·have:=K.nxt
   omega
  ·exact hG
 ·rcases q7 with rfl | rfl <;> omega
 ·have:=F1.trans q3
  rw [n1] at this
  exact ⟨fun β hβ => this.same β fun hx => hβ (by
   rcases List.mem_append.1 hx with hx | hx
   ·exact List.mem_cons.2 (.inl (List.mem_singleton.1 hx))
   ·exact List.mem_cons_of_mem _ hx),this.nxt,this.wf⟩
 ·omega
def rb : Option Addr → Nat
 | some a => a.block
 | none => 0
theorem Row.bnd {g : AH} {a : Option Addr} {n c z G : Nat} {cs : List Value} (R : Row g a n c z G cs) (h : a ≠ none) : G ≤ rb a ∧ rb a < g.next:=by
 rcases R with R | ⟨β,e,r1,r2,r3,r4,r5,r6⟩
 ·exact absurd R.1 h
 ·rw [e]
  exact ⟨r3,r4⟩
end Go.Proofs.YtpadjdokjppopaaGreatDoor.X
