/- Joined texts: YA. -/
import Derived.Test.YtjdomdndflfjdabGreatDoorXC
namespace Go.Proofs.YtjdomdndflfjdabGreatDoor.X
open Go
def aT (k : IntKind) (x y : Int) : Int:=k.wrap (x + y)
def fC (k : IntKind) (x y : Int) : Int:=k.wrap (x - y)
def Dp (k : IntKind) (x y : Int) : Int:=k.wrap (x * y)
def qH (k : IntKind) (x y : Int) : Int:=k.wrap (x.tdiv y)
def ce (_ : IntKind) (x y : Int) : Int:=x.tmod y
def qI (k : IntKind) (x y : Int) : Int:=k.wrap (BitVec.ofInt k.bits x &&& BitVec.ofInt k.bits y).toNat
def Lr (k : IntKind) (x y : Int) : Int:=k.wrap (BitVec.ofInt k.bits x ||| BitVec.ofInt k.bits y).toNat
def I9 (k : IntKind) (x y : Int) : Int:=k.wrap (BitVec.ofInt k.bits x ^^^ BitVec.ofInt k.bits y).toNat
def Dq (k : IntKind) (x y : Int) : Int:=k.wrap (BitVec.ofInt k.bits x &&& ~~~ BitVec.ofInt k.bits y).toNat
def Ja (k : IntKind) (x y : Int) : Int:=k.wrap (x * 2 ^ min y.toNat k.bits)
def HF (k : IntKind) (x y : Int) : Int:=x.fdiv (2 ^ min y.toNat k.bits)
def Jb (k : IntKind) (n : Int) : Int:=k.wrap (0 - n)
def Jc (k : IntKind) (n : Int) : Int:=k.wrap (BitVec.ofInt k.bits (if k.signed then -1 else k.max) ^^^ BitVec.ofInt k.bits n).toNat
def aQ (k : IntKind) (n : Int) : Int:=k.wrap n
def aX (x y : Int) : Bool:=x == y
def gz (x y : Int) : Bool:=x != y
def bZ (x y : Int) : Bool:=decide (x < y)
def bS (x y : Int) : Bool:=decide (x ≤ y)
def ge (x y : Int) : Int:=cond (decide (y > x)) y x
def fM (x y : Int) : Int:=cond (decide (y < x)) y x
def bM (i : Int) (n : Nat) : Bool:=decide (0 ≤ i) && decide (i < (n : Int))
def zY (k : IntKind) : Value → Option Int
 | .int k' n => cond (decide (k' = k)) (some n) none
 | _ => none
def sE : Value → Option Bool
 | .bool b => some b
 | _ => none
def Fk : Value → Option ByteArray
 | .string s => some s
 | _ => none
def IO : Value → Option (Option Addr × Nat × Nat)
 | .slice a n c => some (a,n,c)
 | _ => none
def Fl : Value → Option (Option Addr)
 | .pointer a => some a
 | _ => none
def gb (n : Nat) : Value → Bool
 | .agg cs => Nat.beq cs.toList.length n
 | _ => false
def db (i : Nat) : Value → Option Value
 | .agg cs => cs.toList[i]?
 | _ => none
def nO (n : Nat) : Value → Bool
 | .tuple cs => Nat.beq cs.toList.length n
 | _ => false
def mi (i : Nat) : Value → Option Value
 | .tuple cs => cs.toList[i]?
 | _ => none
def rdC (h : AH) (a : Addr) (i : Nat) : Option Value :=
 match a.spot with
 | none => (h.rd a.block).bind fun b => b.cells[a.off + i]?
 | some _ => none
section
variable (P : Program) {ρ : Type}
def sF (t : TypeId) (v : Value) (K : Value → Option ρ) : Option ρ :=
 match P.underlying t with
 | some (.int k) => (zY k v).bind fun n => K (.int k n)
 | some .bool => (sE v).bind fun b => K (.bool b)
 | some .string => (Fk v).bind fun s => K (.string s)
 | some (.slice _) => (IO v).bind fun s => K (.slice s.1 s.2.1 s.2.2)
 | some (.pointer _) => (Fl v).bind fun a => K (.pointer a)
 | _ => K v
def wu (rd : Nat → Option Value) : List TypeId → Nat → (List Value → Option ρ) → Option ρ
 | [],_,K => K []
 | t :: ts,i,K => (rd i).bind fun v => sF P t v fun v' => wu rd ts (i + 1) fun l => K (v' :: l)
def lU (t : TypeId) (v : Value) (K : Value → Option ρ) : Option ρ :=
 (kO P t).bind fun ag => cond ag
  ((P.cellTypes P.depth t).bind fun ts => cond (gb ts.length v) (wu P (fun i => db i v) ts 0 fun l => K (.agg l.toArray)) none)
  (sF P t v K)
def vj (v : Value) : List TypeId → Nat → (List Value → Option ρ) → Option ρ
 | [],_,K => K []
 | t :: ts,i,K => (mi i v).bind fun x => lU P t x fun x' => vj v ts (i + 1) fun l => K (x' :: l)
def zZ (ts : List TypeId) (v : Value) (K : Value → Option ρ) : Option ρ :=
 match ts with
 | [] => K v
 | [t] => lU P t v K
 | ts => cond (nO ts.length v) (vj P v ts 0 fun l => K (.tuple l.toArray)) none
def wv (t : TypeId) (x : Value) (h : AH) (K : Value → Option ρ) : Option ρ :=
 match x with
 | .pointer a => a.bind fun ad => (kO P t).bind fun ag => cond ag
   ((P.cellTypes P.depth t).bind fun ts => cond (decide (bv P t = some ts.length) && !(Nat.beq ts.length 0)) (wu P (rdC h ad) ts 0 fun l => K (.agg l.toArray)) none)
   ((rdC h ad 0).bind fun v => sF P t v K)
 | _ => none
def Fm (op : BinOp) (x y : Int) (K : Value → Option ρ) : Option ρ :=
 match op with
 | .eql => K (.bool (aX x y))
 | .neq => K (.bool (gz x y))
 | .lss => K (.bool (bZ x y))
 | .leq => K (.bool (bS x y))
 | .gtr => K (.bool (bZ y x))
 | .geq => K (.bool (bS y x))
 | _ => none
def Dr (op : BinOp) (k : IntKind) (x y : Int) (K : Value → Option ρ) : Option ρ :=
 match op with
 | .add => K (.int k (aT k x y))
 | .sub => K (.int k (fC k x y))
 | .mul => K (.int k (Dp k x y))
 | .quo => cond (aX y 0) none (K (.int k (qH k x y)))
 | .rem => cond (aX y 0) none (K (.int k (ce k x y)))
 | .and => K (.int k (qI k x y))
 | .or => K (.int k (Lr k x y))
 | .xor => K (.int k (I9 k x y))
 | .andNot => K (.int k (Dq k x y))
 | op => Fm op x y K
def qJ (op : BinOp) (k : IntKind) (x y : Int) (K : Value → Option ρ) : Option ρ :=
 cond (bZ y 0) none (match op with
  | .shl => K (.int k (Ja k x y))
  | .shr => K (.int k (HF k x y))
  | _ => none)
def z6 (xs ys : List Value) : List Field → (Bool → Option ρ) → Option ρ
 | [],K => K true
 | f :: fs,K => match P.underlying f.type,xs[f.offset]?,ys[f.offset]? with
  | some (.int k),some (.int k1 a),some (.int k2 b) => cond (decide (k1 = k) && (decide (k2 = k) && f.name != "_")) (cond (aX a b) (z6 xs ys fs K) (K false)) none
  | _,_,_ => none
def z7 (c : Nat) (xs ys : List Value) : List Nat → (Bool → Option ρ) → Option ρ
 | [],K => K true
 | i :: is,K => match xs[i * c]?,ys[i * c]? with
  | some (.int k1 a),some (.int k2 b) => cond (decide (k1 = k2)) (cond (aX a b) (z7 c xs ys is K) (K false)) none
  | _,_ => none
def z8 (op : BinOp) (t : TypeId) (x y : Value) (K : Value → Option ρ) : Option ρ :=
 match op,x,y with
 | .shl,.int k a,.int _ b => qJ .shl k a b K
 | .shr,.int k a,.int _ b => qJ .shr k a b K
 | .eql,.agg xs,.agg ys => match P.underlying t with
  | some (.struct fs) => cond (P.stoodInHeld t || P.eqGuardType P.depth t) none (z6 P xs.toList ys.toList fs.toList fun b => K (.bool b))
  | some (.array n el) => cond (P.eqGuardType P.depth t) none (match P.underlying el with
   | some (.int _) => z7 (P.cellsOf el) xs.toList ys.toList (List.range n) fun b => K (.bool b)
   | _ => none)
  | _ => none
 | .neq,.agg xs,.agg ys => match P.underlying t with
  | some (.struct fs) => cond (P.stoodInHeld t || P.eqGuardType P.depth t) none (z6 P xs.toList ys.toList fs.toList fun b => K (.bool !b))
  | some (.array n el) => cond (P.eqGuardType P.depth t) none (match P.underlying el with
   | some (.int _) => z7 (P.cellsOf el) xs.toList ys.toList (List.range n) fun b => K (.bool !b)
   | _ => none)
  | _ => none
 | op,.int k a,.int k' b => cond (decide (k = k')) (Dr op k a b K) none
 | op,x,y => (kP P op t x y).bind K
def IP (op : UnOp) (x : Value) (K : Value → Option ρ) : Option ρ :=
 match op,x with
 | .neg,.int k n => K (.int k (Jb k n))
 | .xor,.int k n => K (.int k (Jc k n))
 | .not,.bool b => K (.bool !b)
 | _,_ => none
def ww (src dst : TypeId) (x : Value) (K : Value → Option ρ) : Option ρ :=
 (P.underlying src).bind fun _ => match P.underlying dst,x with
 | some (.int k),.int _ n => K (.int k (aQ k n))
 | some .string,.string s => K (.string s)
 | _,_ => none
def ij (t : TypeId) (x i : Value) (K : Value → Option ρ) : Option ρ :=
 match P.underlying t,x,i with
 | some (.array n el),.pointer a,.int _ i => a.bind fun ad => cond (bM i n) ((bv P el).bind fun s => K (.pointer (some (ad.add (i.toNat * s))))) none
 | some (.slice el),.slice a n _,.int _ i => a.bind fun ad => cond (bM i n) ((bv P el).bind fun s => K (.pointer (some (ad.add (i.toNat * s))))) none
 | _,_,_ => none
def Hw (s : ByteArray) (i : Int) : Option Int:=cond (decide (0 ≤ i)) ((s.data.toList[i.toNat]?).map fun b => (b.toNat : Int)) none
def qK (t : TypeId) (x i : Value) (K : Value → Option ρ) : Option ρ :=
 match P.underlying t,x,i with
 | some .string,.string s,.int _ i => (Hw s i).bind fun n => K (.int .u8 n)
 | _,_,_ => (kQ P t x i).bind K
def ik (s : TypeId) (x : Value) (f : Nat) (K : Value → Option ρ) : Option ρ :=
 match P.underlying s,x with
 | some (.struct fs),.pointer a => a.bind fun ad => (fs[f]?).bind fun fd => (bv P fd.type).bind fun z => cond (Nat.beq z 0) none (K (.pointer (some (ad.add fd.offset))))
 | _,_ => none
variable (cf : FuncId → List Value → AH → Option (Value × AH))
def nP (b : Builtin) (ts : List TypeId) (ty : TypeId) (args : List Value) (h : AH) (K : Value → AH → Option ρ) : Option ρ :=
 match b,args with
 | .append,args => (ct P .append ts args h).bind fun p => lU P ty p.1 fun v => K v p.2
 | .copy,args => (ct P .copy ts args h).bind fun p => lU P ty p.1 fun v => K v p.2
 | .max,[.int k x,.int _ y] => K (.int k (ge x y)) h
 | .min,[.int k x,.int _ y] => K (.int k (fM x y)) h
 | b,args => (ct P b ts args h).bind fun p => K p.1 p.2
def vk (f : Value) (args : List Value) (h : AH) (K : Value → AH → Option ρ) : Option ρ :=
 match f with
 | .func (.func g) first captured => (cf g (first.toList ++ (args ++ captured.toList)) h).bind fun p =>
   (P.funcs[g]?).bind fun fn => zZ P fn.resultTypes.toList p.1 fun v => K v p.2
 | _ => none
def z9 (c a b : Value) (K : Value → Option ρ) : Option ρ :=
 match c with
 | .bool t => cond t (K a) (K b)
 | _ => none
def sG (t : TypeId) (x i : Value) (ok : Bool) (h : AH) : Option Value:=(P.underlying t).bind fun d => match d with
  | .map kt et => cond (dL P kt i) ((lC P et).bind fun z => (gA h x).bind fun cs => (cG P kt i cs 0).map fun r => mC ok z r) none
  | _ => none
def Aa (t : TypeId) (m k v : Value) (h : AH) : Option AH:=((P.underlying t).bind fun d => match d,m with
  | .map kt _,.map (some β) => (h.mp β).bind fun b => cond (dL P kt k && fy v) ((cG P kt k b.cells 0).bind fun r => zk h β b k v r) none
  | _,_ => none).bind fun p => match p.1 with
  | .tuple cs => cond (Nat.beq cs.toList.length 0) (some p.2) none
  | _ => none
def Fo (x : Value) (K : Value → Option ρ) : Option ρ :=
 match x with
 | .pointer a => a.bind fun ad => K (.pointer (some ad))
 | .func (.func g) f c => K (.func (.func g) f c)
 | _ => none
def IQ (o : Op) (ty : TypeId) (e : Tr Value) (h : AH) (K : Value → AH → Option ρ) : Option ρ :=
 match o with
 | .move x | .assign x => K (ev e x) h
 | .pick c a b => z9 (ev e c) (ev e a) (ev e b) fun v => K v h
 | .load t x => wv P t (ev e x) h fun v => K v h
 | .nilCheck x => Fo (ev e x) fun v => K v h
 | .lookup t x i ok => (sG P t (ev e x) (ev e i) ok h).bind fun v => lU P ty v fun v => K v h
 | .mapUpdate t m k v => (Aa P t (ev e m) (ev e k) (ev e v) h).bind fun h' => K undef h'
 | .makeFunc fn first captured => cond ((first.toList.all fun x => ip (ev e x)) && (captured.toList.all fun x => ip (ev e x))) (K (.func fn (first.toList.map (ev e)).toArray (captured.toList.map (ev e)).toArray) h) none
 | .store t x v => (dY P t (ev e x) (ev e v) h).bind fun h' => K undef h'
 | .binOp op t x y _ => z8 P op t (ev e x) (ev e y) fun v => K v h
 | .unOp op _ x => IP op (ev e x) fun v => K v h
 | .convert s d x => cond (cD P d) ((fR P s d (ev e x) h).bind fun p => K p.1 p.2) (ww P s d (ev e x) fun v => K v h)
 | .indexAddr t x i => ij P t (ev e x) (ev e i) fun v => K v h
 | .fieldAddr s x f => ik P s (ev e x) f fun v => K v h
 | .index t x i => qK P t (ev e x) (ev e i) fun v => K v h
 | .slice t x lo hi mx => (qf P t (ev e x) (lo.map (ev e)) (hi.map (ev e)) (mx.map (ev e)) h).bind fun v => lU P ty v fun v => K v h
 | .call c => match c.callee with
  | .builtin b => nP P b c.argTypes.toList ty (c.args.toList.map (ev e)) h K
  | .value f => vk P cf (ev e f) (c.args.toList.map (ev e)) h K
  | .invoke _ _ => none
 | o => (bY P cf o e h).bind fun p => K p.1 p.2
def sH (ops : Array Oper) (o : Oper) (e : Tr Value) (A B : Tr Value → Option ρ) : Option ρ :=
 match o.guard with
 | none => A e
 | some (j,w) => match (ops.toList[j]?).bind (·.dst) with
  | none => B e
  | some t => match e.get t with
   | some (.bool b) => cond w (cond b (A (e.set t (.bool true))) (B (e.set t (.bool false)))) (cond b (B (e.set t (.bool true))) (A (e.set t (.bool false))))
   | _ => B e
def wx (c : Operand) (e : Tr Value) (A B : Tr Value → Option ρ) : Option ρ :=
 match c with
 | .tmp t => match e.get t with
  | some (.bool b) => cond b (A (e.set t (.bool true))) (B (e.set t (.bool false)))
  | _ => none
 | c => match ev e c with
  | .bool b => cond b (A e) (B e)
  | _ => none
def AH.mark (h : AH) : AH:={ h with low:=h.next }
inductive Fr where
 | seq (b : Code)
 | block (id : Nat)
inductive Nx where
 | code (c : Code)
 | ends (x : Ex)
end
def aB : Code → List Nat → Code
 | c,[] => c
 | .seq a b,i :: r => aB (cond (Nat.beq i 0) a b) r
 | .cond _ a b,i :: r => aB (cond (Nat.beq i 0) a b) r
 | .block _ c,_ :: r => aB c r
 | .loop c,_ :: r => aB c r
 | c,_ => c
def av (fn : Func) : Code:=fn.body.getD .skip
variable {P : Program} {ρ : Type} {r : ρ}
theorem wy {k : IntKind} {v : Value} {n : Int} (h : zY k v = some n) : v = .int k n:=by
 cases v <;> first | (cases h; done) | skip
 obtain ⟨hc,h2⟩:=ah h
 have:=of_decide_eq_true hc
 injection h2 with h2
 rw [this,h2]
theorem sI {v : Value} {n : Bool} (h : sE v = some n) : v = .bool n:=by
 cases v <;> first | (cases h; done) | skip
 injection h with h
 rw [h]
theorem wz {v : Value} {n : ByteArray} (h : Fk v = some n) : v = .string n:=by
 cases v <;> first | (cases h; done) | skip
 injection h with h
 rw [h]
theorem vl {v : Value} {n : Option Addr × Nat × Nat} (h : IO v = some n) : v = .slice n.1 n.2.1 n.2.2:=by
 cases v <;> first | (cases h; done) | skip
 injection h with h
 rw [← h]
theorem wA {v : Value} {n : Option Addr} (h : Fl v = some n) : v = .pointer n:=by
 cases v <;> first | (cases h; done) | skip
 injection h with h
 rw [h]
theorem sJ {n : Nat} {v : Value} (h : gb n v = true) : ∃ cs,v = .agg cs ∧ cs.toList.length = n:=by
 cases v <;> first | (cases h; done) | skip
 exact ⟨_,rfl,Nat.eq_of_beq_eq_true h⟩
theorem sK {n : Nat} {v : Value} (h : nO n v = true) : ∃ cs,v = .tuple cs ∧ cs.toList.length = n:=by
 cases v <;> first | (cases h; done) | skip
 exact ⟨_,rfl,Nat.eq_of_beq_eq_true h⟩
theorem nQ {t : TypeId} {v : Value} {K : Value → Option ρ} (hv : sF P t v K = some r) : K v = some r:=by
 unfold sF at hv
 split at hv
 ·obtain ⟨n,hn,hk⟩:=Option.bind_eq_some_iff.1 hv
  rw [wy hn]
  exact hk
 ·obtain ⟨n,hn,hk⟩:=Option.bind_eq_some_iff.1 hv
  rw [sI hn]
  exact hk
 ·obtain ⟨n,hn,hk⟩:=Option.bind_eq_some_iff.1 hv
  rw [wz hn]
  exact hk
 ·obtain ⟨n,hn,hk⟩:=Option.bind_eq_some_iff.1 hv
  rw [vl hn]
  exact hk
 ·obtain ⟨n,hn,hk⟩:=Option.bind_eq_some_iff.1 hv
  rw [wA hn]
  exact hk
 ·exact hv
theorem nR {rd : Nat → Option Value} : ∀ (ts : List TypeId) (i : Nat) {K : List Value → Option ρ},wu P rd ts i K = some r → ∃ l : List Value,l.length = ts.length ∧ (∀ j x,l[j]? = some x → rd (i + j) = some x) ∧ K l = some r
 | [],i,K,hv => ⟨[],rfl,fun _ _ h => (by cases h),hv⟩
 | t :: ts,i,K,hv => by
  obtain ⟨v,h1,hv⟩:=Option.bind_eq_some_iff.1 hv
  obtain ⟨l,h2,h3,h4⟩:=nR ts (i + 1) (nQ hv)
  refine ⟨v :: l,congrArg Nat.succ h2,fun j x hx => ?_,h4⟩
  cases j with
  | zero =>
   injection hx with hx
   subst hx
   exact h1
  | succ j =>
   rw [show i + (j + 1) = i + 1 + j by omega]
   exact h3 j x hx
theorem gM {t : TypeId} {v : Value} {K : Value → Option ρ} (hv : lU P t v K = some r) : K v = some r:=by
 unfold lU at hv
 obtain ⟨ag,_,hv⟩:=Option.bind_eq_some_iff.1 hv
 cases ag with
 | false => exact nQ hv
 | true =>
  obtain ⟨ts,_,hv⟩:=Option.bind_eq_some_iff.1 hv
  obtain ⟨hc,hv⟩:=ah hv
  obtain ⟨l,h2,h3,h4⟩:=nR ts 0 hv
  obtain ⟨cs,rfl,hc⟩:=sJ hc
  have e : l = cs.toList:=by
   apply List.ext_getElem?
   intro i
   cases hi : l[i]? with
   | some x =>
    have:=h3 i x hi
    rw [Nat.zero_add] at this
    exact this.symm
   | none =>
    have:=List.getElem?_eq_none_iff.1 hi
    exact (List.getElem?_eq_none (by omega)).symm
  rw [e] at h4
  exact h4
theorem pK {v : Value} : ∀ (ts : List TypeId) (i : Nat) {K : List Value → Option ρ},vj P v ts i K = some r → ∃ l : List Value,l.length = ts.length ∧ (∀ j x,l[j]? = some x → mi (i + j) v = some x) ∧ K l = some r
 | [],i,K,hv => ⟨[],rfl,fun _ _ h => (by cases h),hv⟩
 | t :: ts,i,K,hv => by
  obtain ⟨x,h1,hv⟩:=Option.bind_eq_some_iff.1 hv
  obtain ⟨l,h2,h3,h4⟩:=pK ts (i + 1) (gM hv)
  refine ⟨x :: l,congrArg Nat.succ h2,fun j y hy => ?_,h4⟩
  cases j with
  | zero =>
   injection hy with hy
   subst hy
   exact h1
  | succ j =>
   rw [show i + (j + 1) = i + 1 + j by omega]
   exact h3 j y hy
theorem Ab {ts : List TypeId} {v : Value} {K : Value → Option ρ} (hv : zZ P ts v K = some r) : K v = some r:=by
 unfold zZ at hv
 split at hv
 ·exact hv
 ·exact gM hv
 ·obtain ⟨hc,hv⟩:=ah hv
  obtain ⟨l,h2,h3,h4⟩:=pK _ 0 hv
  obtain ⟨cs,rfl,hc⟩:=sK hc
  have e : l = cs.toList:=by
   apply List.ext_getElem?
   intro i
   cases hi : l[i]? with
   | some x =>
    have:=h3 i x hi
    rw [Nat.zero_add] at this
    exact this.symm
   | none =>
    have:=List.getElem?_eq_none_iff.1 hi
    exact (List.getElem?_eq_none (by omega)).symm
  rw [e] at h4
  exact h4
theorem il {h : AH} {a : Addr} {i : Nat} {x : Value} (hx : rdC h a i = some x) : a.spot = none ∧ ∃ b,h.rd a.block = some b ∧ b.cells[a.off + i]? = some x:=by
 unfold rdC at hx
 split at hx
 ·rename_i hs
  obtain ⟨b,h1,h2⟩:=Option.bind_eq_some_iff.1 hx
  exact ⟨hs,b,h1,h2⟩
 ·cases hx
theorem Ac {t : TypeId} {x : Value} {h : AH} {K : Value → Option ρ} (hv : wv P t x h K = some r) : ∃ v,cK P t x h = some v ∧ K v = some r:=by
 have hp : ∃ a,x = .pointer a:=by
  cases x <;> first | (cases hv; done) | exact ⟨_,rfl⟩
 obtain ⟨a,rfl⟩:=hp
 unfold wv at hv
 simp only at hv
 ·obtain ⟨ad,had,hv1⟩:=Option.bind_eq_some_iff.1 hv
  clear hv
  obtain ⟨ag,hag,hv⟩:=Option.bind_eq_some_iff.1 hv1
  clear hv1
  subst had
  cases ag with
  | false =>
   obtain ⟨v,hv1,hv⟩:=Option.bind_eq_some_iff.1 hv
   obtain ⟨hs,b,h1,h2⟩:=il hv1
   refine ⟨v,?_,nQ hv⟩
   unfold cK
   simp only [h1,Option.bind_some,hs]
   unfold dw
   rw [hag]
   exact h2
  | true =>
   obtain ⟨ts,_,hv⟩:=Option.bind_eq_some_iff.1 hv
   obtain ⟨hc,hv⟩:=ah hv
   rw [Bool.and_eq_true] at hc
   have hsz:=of_decide_eq_true hc.1
   obtain ⟨l,h2,h3,h4⟩:=nR ts 0 hv
   have hne : ts.length ≠ 0:=fun e => by
    rw [e] at hc
    cases hc.2
   have hl0 : 0 < l.length:=by omega
   obtain ⟨hs,b,h1,_⟩:=il (h3 0 _ (List.getElem?_eq_getElem hl0))
   have hall : ∀ j x,l[j]? = some x → b.cells[ad.off + j]? = some x:=fun j x hx => by
    obtain ⟨_,b',h1',h5⟩:=il (h3 j x hx)
    rw [h1] at h1'
    injection h1' with h1'
    subst h1'
    rwa [Nat.zero_add] at h5
   refine ⟨.agg l.toArray,?_,h4⟩
   unfold cK
   simp only [h1,Option.bind_some,hs]
   unfold dw
   rw [hag]
   simp only [Option.bind_some,cond_true,hsz]
   have hfit : ad.off + l.length ≤ b.cells.length:=by
    have:=(List.getElem?_eq_some_iff.1 (hall (l.length - 1) _ (List.getElem?_eq_getElem (by omega)))).1
    omega
   have e : cj b.cells ad.off ts.length = some l:=by
    unfold cj
    rw [← h2,Nat.ble_eq_true_of_le hfit]
    refine congrArg some ?_
    apply List.ext_getElem?
    intro i
    rw [List.getElem?_take]
    split
    ·rename_i hi
     rw [List.getElem?_drop,hall i _ (List.getElem?_eq_getElem hi)]
     exact (List.getElem?_eq_getElem hi).symm
    ·exact (List.getElem?_eq_none (by omega)).symm
   rw [e]
   rfl
theorem Ds {op : BinOp} {k : IntKind} {x y : Int} {K : Value → Option ρ} (hv : Fm op x y K = some r) : ∃ v,fi op k x y = some v ∧ K v = some r:=by
 unfold Fm at hv
 split at hv <;> first | exact ⟨_,rfl,hv⟩ | cases hv
theorem Dt {op : BinOp} {k : IntKind} {x y : Int} {K : Value → Option ρ} (hv : Dr op k x y K = some r) : ∃ v,fi op k x y = some v ∧ K v = some r:=by
 unfold Dr at hv
 split at hv
 ·exact ⟨_,rfl,hv⟩
 ·exact ⟨_,rfl,hv⟩
 ·exact ⟨_,rfl,hv⟩
 ·cases h0 : aX y 0 with
  | true =>
   rw [h0] at hv
   cases hv
  | false =>
   rw [h0] at hv
   refine ⟨_,?_,hv⟩
   have : ¬ y = 0:=fun e => by
    rw [e] at h0
    cases h0
   unfold fi
   rw [decide_eq_false this]
   rfl
 ·cases h0 : aX y 0 with
  | true =>
   rw [h0] at hv
   cases hv
  | false =>
   rw [h0] at hv
   refine ⟨_,?_,hv⟩
   have : ¬ y = 0:=fun e => by
    rw [e] at h0
    cases h0
   unfold fi
   rw [decide_eq_false this]
   rfl
 ·exact ⟨_,rfl,hv⟩
 ·exact ⟨_,rfl,hv⟩
 ·exact ⟨_,rfl,hv⟩
 ·exact ⟨_,rfl,hv⟩
 ·exact Ds hv
theorem pL {op : BinOp} {k : IntKind} {x y : Int} {K : Value → Option ρ} (hv : qJ op k x y K = some r) : ∃ v,ml op k x y = some v ∧ K v = some r:=by
 unfold qJ at hv
 cases h0 : bZ y 0 with
 | true =>
  rw [h0] at hv
  cases hv
 | false =>
  rw [h0] at hv
  have h0' : decide (y < 0) = false:=h0
  simp only [cond_false] at hv
  unfold ml
  rw [h0']
  split at hv
  ·exact ⟨_,rfl,hv⟩
  ·exact ⟨_,rfl,hv⟩
  ·cases hv
theorem qL {xs ys : List Value} : ∀ (fs : List Field) {K : Bool → Option ρ},z6 P xs ys fs K = some r → ∃ b,dM P xs ys fs = some b ∧ K b = some r
 | [],K,hv => ⟨true,rfl,hv⟩
 | f :: fs,K,hv => by
  unfold z6 at hv
  split at hv
  ·rename_i k k1 a k2 b hu hx hy
   obtain ⟨hc,hv2⟩:=ah hv
   clear hv
   rw [Bool.and_eq_true,Bool.and_eq_true] at hc
   obtain ⟨h1,h2,h3⟩:=hc
   have h1:=of_decide_eq_true h1
   have h2:=of_decide_eq_true h2
   rw [h1] at hx
   rw [h2] at hy
   have key : ∀ z : Bool → Option Bool,(jF (.int k a) (.int k b)).bind z = z (aX a b):=fun z => by
    show (cond (decide (k = k)) (some (a == b)) none).bind z = _
    rw [decide_eq_true rfl]
    rfl
   unfold dM
   simp only [hu,hx,hy,Option.bind_some,eU,Bool.true_and,h3,cond_true,key]
   cases he : aX a b with
   | true =>
    rw [he] at hv2
    exact qL fs hv2
   | false =>
    rw [he] at hv2
    exact ⟨false,rfl,hv2⟩
  ·cases hv
theorem qM {k : IntKind} {c : Nat} {xs ys : List Value} : ∀ (is : List Nat) {K : Bool → Option ρ},z7 c xs ys is K = some r → ∃ b,dV (.int k) c xs ys is = some b ∧ K b = some r
 | [],K,hv => ⟨true,rfl,hv⟩
 | i :: is,K,hv => by
  unfold z7 at hv
  split at hv
  ·rename_i k1 a k2 b hx hy
   obtain ⟨hk,hv⟩:=ah hv
   unfold dV
   rw [hx,hy]
   have e1 : jF (.int k1 a) (.int k2 b) = some (aX a b):=by
    show cond (decide (k1 = k2)) (some (a == b)) none = _
    rw [hk]
    rfl
   simp only [Option.bind_some,e1,eU,Bool.and_self,cond_true]
   cases hi : aX a b with
   | true =>
    rw [hi] at hv
    obtain ⟨b',h1,h2⟩:=qM is hv
    exact ⟨b',by simpa using h1,h2⟩
   | false =>
    rw [hi] at hv
    exact ⟨false,rfl,hv⟩
  ·cases hv
theorem qN {op : BinOp} {t : TypeId} {x y : Value} {K : Value → Option ρ} (hv : z8 P op t x y K = some r) : ∃ v,kP P op t x y = some v ∧ K v = some r:=by
 unfold z8 at hv
 split at hv
 ·exact pL hv
 ·exact pL hv
 ·split at hv
  ·rename_i fs hu
   cases hc : (P.stoodInHeld t || P.eqGuardType P.depth t) with
   | true =>
    rw [hc] at hv
    cases hv
   | false =>
    rw [hc] at hv
    obtain ⟨b,h1,h2⟩:=qL _ hv
    refine ⟨.bool b,?_,h2⟩
    unfold kP
    simp only [hu,Option.bind_some,hc,cond_false,h1,Option.map_some]
  ·rename_i n el hu
   cases hc : P.eqGuardType P.depth t with
   | true =>
    rw [hc] at hv
    cases hv
   | false =>
    rw [hc] at hv
    rw [cond_false] at hv
    split at hv
    ·rename_i q he
     obtain ⟨b,h1,h2⟩:=qM (k:=q) (List.range n) hv
     refine ⟨.bool b,?_,h2⟩
     show ((P.underlying t).bind _) = _
     rw [hu]
     show cond (P.eqGuardType P.depth t) none ((P.underlying el).bind _) = _
     rw [hc,he]
     show (dV (.int q) _ _ _ _).map _ = _
     rw [h1]
     rfl
    ·cases hv
  ·cases hv
 ·split at hv
  ·rename_i fs hu
   cases hc : (P.stoodInHeld t || P.eqGuardType P.depth t) with
   | true =>
    rw [hc] at hv
    cases hv
   | false =>
    rw [hc] at hv
    obtain ⟨b,h1,h2⟩:=qL _ hv
    refine ⟨.bool !b,?_,h2⟩
    unfold kP
    simp only [hu,Option.bind_some,hc,cond_false,h1,Option.map_some]
  ·rename_i n el hu
   cases hc : P.eqGuardType P.depth t with
   | true =>
    rw [hc] at hv
    cases hv
   | false =>
    rw [hc] at hv
    rw [cond_false] at hv
    split at hv
    ·rename_i q he
     obtain ⟨b,h1,h2⟩:=qM (k:=q) (List.range n) hv
     refine ⟨.bool !b,?_,h2⟩
     show ((P.underlying t).bind _) = _
     rw [hu]
     show cond (P.eqGuardType P.depth t) none ((P.underlying el).bind _) = _
     rw [hc,he]
     show (dV (.int q) _ _ _ _).map _ = _
     rw [h1]
     rfl
    ·cases hv
  ·cases hv
 ·rename_i k a k' b n1 n2
  obtain ⟨hc,hv⟩:=ah hv
  obtain ⟨v,h1,h2⟩:=Dt hv
  refine ⟨v,?_,h2⟩
  have hk:=of_decide_eq_true hc
  subst hk
  have key : cond (decide (k = k)) (fi op k a b) none = some v:=by
   rw [decide_eq_true rfl]
   exact h1
  cases op <;> first | (exact absurd rfl n1) | (exact absurd rfl n2) | exact key
 ·obtain ⟨v,h1,h2⟩:=Option.bind_eq_some_iff.1 hv
  exact ⟨v,h1,h2⟩
theorem Fp {op : UnOp} {x : Value} {K : Value → Option ρ} (hv : IP op x K = some r) : ∃ v,IK op x = some v ∧ K v = some r:=by
 unfold IP at hv
 split at hv <;> first | exact ⟨_,rfl,hv⟩ | cases hv
theorem Ad {s d : TypeId} {x : Value} {K : Value → Option ρ} (hv : ww P s d x K = some r) : ∃ v,jY P s d x = some v ∧ K v = some r:=by
 unfold ww at hv
 obtain ⟨u,hu,hv1⟩:=Option.bind_eq_some_iff.1 hv
 clear hv
 have hv:=hv1
 clear hv1
 unfold jY
 rw [hu]
 split at hv
 ·rename_i hd
  rw [hd]
  exact ⟨_,rfl,hv⟩
 ·rename_i hd
  rw [hd]
  exact ⟨_,rfl,hv⟩
 ·cases hv
theorem oO {t : TypeId} {x i : Value} {K : Value → Option ρ} (hv : ij P t x i K = some r) : ∃ v,dN P t x i = some v ∧ K v = some r:=by
 unfold ij at hv
 split at hv
 ·rename_i hd
  obtain ⟨ad,had,hv1⟩:=Option.bind_eq_some_iff.1 hv
  obtain ⟨hc,hv2⟩:=ah hv1
  obtain ⟨s,hs,hv3⟩:=Option.bind_eq_some_iff.1 hv2
  subst had
  refine ⟨_,?_,hv3⟩
  unfold dN
  simp only [hd,Option.bind_some,hs]
  unfold bM at hc
  rw [hc]
  rfl
 ·rename_i hd
  obtain ⟨ad,had,hv1⟩:=Option.bind_eq_some_iff.1 hv
  obtain ⟨hc,hv2⟩:=ah hv1
  obtain ⟨s,hs,hv3⟩:=Option.bind_eq_some_iff.1 hv2
  subst had
  refine ⟨_,?_,hv3⟩
  unfold dN
  simp only [hd,Option.bind_some,hs]
  unfold bM at hc
  rw [hc]
  rfl
 ·cases hv
theorem yN {t : TypeId} {x i : Value} {K : Value → Option ρ} (hv : qK P t x i K = some r) : ∃ v,kQ P t x i = some v ∧ K v = some r:=by
 unfold qK at hv
 split at hv
 ·rename_i s k i hd
  obtain ⟨n,hn,hv1⟩:=Option.bind_eq_some_iff.1 hv
  refine ⟨_,?_,hv1⟩
  unfold Hw at hn
  obtain ⟨hc,hn⟩:=ah hn
  obtain ⟨b,hb,e⟩:=Option.map_eq_some_iff.1 hn
  unfold kQ
  simp only [hd,Option.bind_some,hc,cond_true,hb,Option.map_some,e]
 ·obtain ⟨v,h1,h2⟩:=Option.bind_eq_some_iff.1 hv
  exact ⟨v,h1,h2⟩
theorem oP {s : TypeId} {x : Value} {f : Nat} {K : Value → Option ρ} (hv : ik P s x f K = some r) : ∃ v,eh P s x f = some v ∧ K v = some r:=by
 unfold ik at hv
 split at hv
 ·rename_i hd
  obtain ⟨ad,had,hv1⟩:=Option.bind_eq_some_iff.1 hv
  obtain ⟨fd,hf,hv2⟩:=Option.bind_eq_some_iff.1 hv1
  obtain ⟨z,hz,hv3⟩:=Option.bind_eq_some_iff.1 hv2
  subst had
  cases hb : Nat.beq z 0 with
  | true =>
   rw [hb] at hv3
   cases hv3
  | false =>
   rw [hb] at hv3
   refine ⟨_,?_,hv3⟩
   unfold eh
   simp only [hd,Option.bind_some,hf,hz,hb]
   rfl
 ·cases hv
variable {P : Program} {ρ : Type} {r : ρ} {cf : FuncId → List Value → AH → Option (Value × AH)}
theorem Ae {o : Op} {ty : TypeId} {e : Tr Value} {h : AH} {K : Value → AH → Option ρ} (hv : IQ P cf o ty e h K = some r) : ∃ v h',bY P cf o e h = some (v,h') ∧ K v h' = some r:=by
 have dflt : ((bY P cf o e h).bind fun p => K p.1 p.2) = some r → ∃ v h',bY P cf o e h = some (v,h') ∧ K v h' = some r:=fun hv => by
  obtain ⟨p,h1,h2⟩:=Option.bind_eq_some_iff.1 hv
  exact ⟨p.1,p.2,h1,h2⟩
 cases o with
 | move x => exact ⟨_,_,rfl,hv⟩
 | assign x => exact ⟨_,_,rfl,hv⟩
 | pick c a b =>
  clear dflt
  have hv' : z9 (ev e c) (ev e a) (ev e b) (fun v => K v h) = some r:=hv
  unfold z9 at hv'
  unfold bY
  split at hv'
  ·rename_i t ht
   simp only [ht]
   cases t with
   | true => exact ⟨_,_,rfl,hv'⟩
   | false => exact ⟨_,_,rfl,hv'⟩
  ·cases hv'
 | load t x =>
  have hv' : wv P t (ev e x) h (fun v => K v h) = some r:=hv
  obtain ⟨v,h1,h2⟩:=Ac hv'
  exact ⟨v,h,congrArg (fun o => o.map fun v => (v,h)) h1,h2⟩
 | makeFunc fn first captured =>
  clear dflt
  have hv' : cond ((first.toList.all fun x => ip (ev e x)) && (captured.toList.all fun x => ip (ev e x))) (K (Value.func fn (first.toList.map (ev e)).toArray (captured.toList.map (ev e)).toArray) h) none = some r:=hv
  obtain ⟨hc,hv'⟩:=ah hv'
  refine ⟨Value.func fn (first.toList.map (ev e)).toArray (captured.toList.map (ev e)).toArray,h,?_,hv'⟩
  show cond ((first.toList.all fun x => ip (ev e x)) && (captured.toList.all fun x => ip (ev e x))) (some (Value.func fn (first.map (ev e)) (captured.map (ev e)),h)) none = _
  rw [hc,cond_true]
  have e1 : ∀ a : Array Operand,(a.toList.map (ev e)).toArray = a.map (ev e):=fun a => by
   apply Array.ext'
   rw [List.toList_toArray,Array.toList_map]
  rw [e1,e1]
 | lookup t x i ok =>
  clear dflt
  obtain ⟨v,h1,h2⟩:=Option.bind_eq_some_iff.1 hv
  refine ⟨v,h,?_,gM h2⟩
  unfold sG at h1
  show ((P.underlying t).bind fun d => match d with
   | .map kt et => cond (dL P kt (ev e i)) ((lC P et).bind fun z => (gA h (ev e x)).bind fun cs => (cG P kt (ev e i) cs 0).map fun r => (mC ok z r,h)) none
   | _ => none) = some (v,h)
  obtain ⟨d,hd,h1⟩:=Option.bind_eq_some_iff.1 h1
  rw [hd,Option.bind_some]
  split at h1
  ·obtain ⟨hc,h1⟩:=ah h1
   obtain ⟨z,hz,h1⟩:=Option.bind_eq_some_iff.1 h1
   obtain ⟨cs,hcs,h1⟩:=Option.bind_eq_some_iff.1 h1
   obtain ⟨q,hq,h1⟩:=Option.map_eq_some_iff.1 h1
   simp only [hc,cond_true,hz,hcs,Option.bind_some,hq,Option.map_some,h1]
  ·cases h1
 | mapUpdate t m k v =>
  clear dflt
  obtain ⟨h',h1,h2⟩:=Option.bind_eq_some_iff.1 hv
  refine ⟨undef,h',?_,h2⟩
  unfold Aa at h1
  obtain ⟨p,h3,h4⟩:=Option.bind_eq_some_iff.1 h1
  have hp : p = (undef,h'):=by
   obtain ⟨v1,h5⟩:=p
   simp only at h4
   split at h4
   ·rename_i cs
    obtain ⟨hc,h4⟩:=ah h4
    injection h4 with h4
    subst h4
    have:=List.eq_nil_of_length_eq_zero (Nat.eq_of_beq_eq_true hc)
    rw [show cs = #[] from Array.ext' (by rw [this])]
    rfl
   ·cases h4
  rw [← hp]
  exact h3
 | nilCheck x =>
  clear dflt
  have hv' : Fo (ev e x) (fun v => K v h) = some r:=hv
  unfold Fo at hv'
  unfold bY
  split at hv'
  ·rename_i a ha
   simp only [ha]
   obtain ⟨ad,rfl,h2⟩:=Option.bind_eq_some_iff.1 hv'
   exact ⟨_,_,rfl,h2⟩
  ·rename_i g f c ha
   simp only [ha]
   exact ⟨_,_,rfl,hv'⟩
  ·cases hv'
 | store t x v =>
  obtain ⟨h',h1,h2⟩:=Option.bind_eq_some_iff.1 hv
  exact ⟨undef,h',congrArg (fun o => o.map fun h' => (undef,h')) h1,h2⟩
 | binOp op t x y yt =>
  have hv' : z8 P op t (ev e x) (ev e y) (fun v => K v h) = some r:=hv
  obtain ⟨v,h1,h2⟩:=qN hv'
  exact ⟨v,h,congrArg (fun o => o.map fun v => (v,h)) h1,h2⟩
 | unOp op t x =>
  have hv' : IP op (ev e x) (fun v => K v h) = some r:=hv
  obtain ⟨v,h1,h2⟩:=Fp hv'
  exact ⟨v,h,congrArg (fun o => o.map fun v => (v,h)) h1,h2⟩
 | convert s d x =>
  have hv' : cond (cD P d) ((fR P s d (ev e x) h).bind fun p => K p.1 p.2) (ww P s d (ev e x) fun v => K v h) = some r:=hv
  have hop : bY P cf (.convert s d x) e h = cond (cD P d) (fR P s d (ev e x) h) ((jY P s d (ev e x)).map fun v => (v,h)):=rfl
  cases hi : cD P d with
  | true =>
   rw [hi,cond_true] at hv' hop
   obtain ⟨p,h1,h2⟩:=Option.bind_eq_some_iff.1 hv'
   exact ⟨p.1,p.2,hop.trans h1,h2⟩
  | false =>
   rw [hi,cond_false] at hv' hop
   obtain ⟨v,h1,h2⟩:=Ad hv'
   exact ⟨v,h,hop.trans (congrArg (fun o => o.map fun v => (v,h)) h1),h2⟩
 | indexAddr t x i =>
  have hv' : ij P t (ev e x) (ev e i) (fun v => K v h) = some r:=hv
  obtain ⟨v,h1,h2⟩:=oO hv'
  exact ⟨v,h,congrArg (fun o => o.map fun v => (v,h)) h1,h2⟩
 | index t x i =>
  have hv' : qK P t (ev e x) (ev e i) (fun v => K v h) = some r:=hv
  obtain ⟨v,h1,h2⟩:=yN hv'
  exact ⟨v,h,congrArg (fun o => o.map fun v => (v,h)) h1,h2⟩
 | fieldAddr s x f =>
  have hv' : ik P s (ev e x) f (fun v => K v h) = some r:=hv
  obtain ⟨v,h1,h2⟩:=oP hv'
  exact ⟨v,h,congrArg (fun o => o.map fun v => (v,h)) h1,h2⟩
 | slice t x lo hi mx =>
  obtain ⟨v,h1,h2⟩:=Option.bind_eq_some_iff.1 hv
  exact ⟨v,h,congrArg (fun o => o.map fun v => (v,h)) h1,gM h2⟩
 | call c =>
  clear dflt
  obtain ⟨callee,cargs,cts⟩:=c
  cases callee with
  | builtin b =>
   have hv' : nP P b cts.toList ty (cargs.toList.map (ev e)) h K = some r:=hv
   show ∃ v h',ct P b cts.toList (cargs.toList.map (ev e)) h = some (v,h') ∧ _
   clear hv
   generalize cargs.toList.map (ev e) = args at hv'
   unfold nP at hv'
   split at hv'
   ·obtain ⟨p,h1,h2⟩:=Option.bind_eq_some_iff.1 hv'
    exact ⟨_,_,h1,gM h2⟩
   ·obtain ⟨p,h1,h2⟩:=Option.bind_eq_some_iff.1 hv'
    exact ⟨_,_,h1,gM h2⟩
   ·exact ⟨_,_,rfl,hv'⟩
   ·exact ⟨_,_,rfl,hv'⟩
   ·obtain ⟨p,h1,h2⟩:=Option.bind_eq_some_iff.1 hv'
    exact ⟨_,_,h1,h2⟩
  | value f =>
   have hv' : vk P cf (ev e f) (cargs.toList.map (ev e)) h K = some r:=hv
   clear hv
   unfold bY
   simp only
   generalize ev e f = fv at hv'
   unfold vk at hv'
   split at hv'
   ·obtain ⟨p,h1,h2⟩:=Option.bind_eq_some_iff.1 hv'
    obtain ⟨fn,_,h3⟩:=Option.bind_eq_some_iff.1 h2
    exact ⟨p.1,p.2,by simp only [CT,h1],Ab h3⟩
   ·cases hv'
  | invoke r m => cases hv
 | _ => exact dflt hv
theorem Tr.setF_same {α : Type} : ∀ (f : Nat) (t : Tr α) (n : Nat) (a : α),t.get n = some a → Tr.setF f t n a = t
 | 0,_,_,_,_ => rfl
 | f + 1,.nil,n,a,h => by
  rw [Tr.get_nil] at h
  cases h
 | f + 1,.node v l r,0,a,h => by
  have h : v = some a:=h
  subst h
  rfl
 | f + 1,.node v l r,m + 1,a,h => by
  rw [Tr.get_succ] at h
  show cond (Nat.beq (m % 2) 0) (Tr.node v (Tr.setF f l (m / 2) a) r) (Tr.node v l (Tr.setF f r (m / 2) a)) = _
  rw [bN]
  split at h
  ·rename_i hm
   rw [if_pos hm,Tr.setF_same f l _ a h]
  ·rename_i hm
   rw [if_neg hm,Tr.setF_same f r _ a h]
theorem Tr.set_same {α : Type} {t : Tr α} {n : Nat} {a : α} (h : t.get n = some a) : t.set n a = t:=Tr.setF_same _ _ _ _ h
theorem nS {ops : Array Oper} {o : Oper} {e : Tr Value} {A B : Tr Value → Option ρ} (hv : sH ops o e A B = some r) : (aY ops o e = true ∧ A e = some r) ∨ (aY ops o e = false ∧ B e = some r):=by
 unfold sH at hv
 unfold aY
 cases hg : o.guard with
 | none =>
  rw [hg] at hv
  exact .inl ⟨rfl,hv⟩
 | some p =>
  obtain ⟨j,w⟩:=p
  rw [hg] at hv
  simp only at hv ⊢
  generalize (ops.toList[j]?).bind (·.dst) = x at hv
  cases x with
  | none => exact .inr ⟨rfl,hv⟩
  | some t =>
   simp only [Option.map_some] at hv ⊢
   cases he : e.get t with
   | none =>
    rw [he] at hv
    exact .inr ⟨rfl,hv⟩
   | some x =>
    rw [he] at hv
    cases x with
    | bool b =>
     have hs:=Tr.set_same he
     cases w <;> cases b <;> (simp only [cond_true,cond_false,hs] at hv; first | exact .inl ⟨rfl,hv⟩ | exact .inr ⟨rfl,hv⟩)
    | _ => exact .inr ⟨rfl,hv⟩
theorem Af {c : Operand} {e : Tr Value} {A B : Tr Value → Option ρ} (hv : wx c e A B = some r) : ∃ b,ev e c = .bool b ∧ (cond b (A e) (B e)) = some r:=by
 cases c with
 | tmp t =>
  have hv' : (match e.get t with | some (.bool b) => cond b (A (e.set t (.bool true))) (B (e.set t (.bool false))) | _ => none) = some r:=hv
  clear hv
  show ∃ b,(e.get t).getD undef = .bool b ∧ _
  cases he : e.get t with
  | none =>
   rw [he] at hv'
   cases hv'
  | some x =>
   rw [he] at hv'
   cases x with
   | bool b =>
    have hs:=Tr.set_same he
    refine ⟨b,rfl,?_⟩
    cases b <;> (simp only [cond_true,cond_false,hs] at hv' ⊢; exact hv')
   | _ => cases hv'
 | _ =>
  unfold wx at hv
  simp only at hv
  split at hv
  ·rename_i b hb
   exact ⟨b,hb,hv⟩
  ·cases hv
theorem lq {step : Tr Value → AH → Option (Ex × Tr Value × AH)} {k : Nat} {e : Tr Value} {h : AH} : gu step (k + 1) e h = (step e h).bind fun r => match r.1 with
  | .normal => gu step k r.2.1 r.2.2
  | _ => some r:=rfl
section
variable {α : Type}
theorem gN (f n : Nat) (a : α) : Tr.setF (f + 1) .nil n a = Tr.setF (f + 1) (.node none .nil .nil) n a:=by
 cases n with
 | zero => rfl
 | succ m => rfl
theorem bD (f : Nat) (v : Option α) (l r : Tr α) (m : Nat) (a : α) : Tr.setF (f + 1) (.node v l r) (m + 1) a = if m % 2 = 0 then .node v (Tr.setF f l (m / 2) a) r else .node v l (Tr.setF f r (m / 2) a):=by
 rw [← bN]
 rfl
theorem jf : ∀ (f g : Nat) (t : Tr α) (n : Nat) (a : α),n < f → n < g → Tr.setF f t n a = Tr.setF g t n a:=by
 intro f
 induction f with
 | zero => exact fun _ _ _ _ h => absurd h (Nat.not_lt_zero _)
 | succ f ih =>
  intro g t n a hf hg
  cases g with
  | zero => exact absurd hg (Nat.not_lt_zero _)
  | succ g =>
   have key : ∀ v l r,Tr.setF (f + 1) (.node v l r) n a = Tr.setF (g + 1) (.node v l r) n a:=fun v l r => by
    cases n with
    | zero => rfl
    | succ m => rw [bD,bD,ih g l (m / 2) a (by omega) (by omega),ih g r (m / 2) a (by omega) (by omega)]
   cases t with
   | nil => rw [gN,gN,key]
   | node v l r => exact key v l r
theorem yO : ∀ (f : Nat) (t : Tr α) (n : Nat) (a b : α),n < f → Tr.setF f (Tr.setF f t n a) n b = Tr.setF f t n b:=by
 intro f
 induction f with
 | zero => exact fun _ _ _ _ h => absurd h (Nat.not_lt_zero _)
 | succ f ih =>
  intro t n a b hf
  have key : ∀ v l r,Tr.setF (f + 1) (Tr.setF (f + 1) (.node v l r) n a) n b = Tr.setF (f + 1) (.node v l r) n b:=fun v l r => by
   cases n with
   | zero => rfl
   | succ m =>
    rw [bD,bD]
    split
    ·rename_i h
     rw [bD,if_pos h,ih l (m / 2) a b (by omega)]
    ·rename_i h
     rw [bD,if_neg h,ih r (m / 2) a b (by omega)]
  cases t with
  | nil => rw [gN,key,gN]
  | node v l r => exact key v l r
theorem yP : ∀ (f : Nat) (t : Tr α) (n m : Nat) (a b : α),n < f → m < f → n ≠ m → Tr.setF f (Tr.setF f t n a) m b = Tr.setF f (Tr.setF f t m b) n a:=by
 intro f
 induction f with
 | zero => exact fun _ _ _ _ _ h => absurd h (Nat.not_lt_zero _)
 | succ f ih =>
  intro t n m a b hn hm hne
  have key : ∀ v l r,Tr.setF (f + 1) (Tr.setF (f + 1) (.node v l r) n a) m b = Tr.setF (f + 1) (Tr.setF (f + 1) (.node v l r) m b) n a:=fun v l r => by
   cases n with
   | zero =>
    cases m with
    | zero => exact absurd rfl hne
    | succ m =>
     show Tr.setF (f + 1) (.node (some a) l r) (m + 1) b = _
     rw [bD,bD]
     split <;> rfl
   | succ n =>
    cases m with
    | zero =>
     show _ = Tr.setF (f + 1) (.node (some b) l r) (n + 1) a
     rw [bD,bD]
     split <;> rfl
    | succ m =>
     rw [bD,bD]
     by_cases h1 : n % 2 = 0
     ·by_cases h2 : m % 2 = 0
      ·rw [if_pos h1,if_pos h2,bD,bD,if_pos h1,if_pos h2,ih l (n / 2) (m / 2) a b (by omega) (by omega) (by omega)]
      ·rw [if_pos h1,if_neg h2,bD,bD,if_pos h1,if_neg h2]
     ·by_cases h2 : m % 2 = 0
      ·rw [if_neg h1,if_pos h2,bD,bD,if_neg h1,if_pos h2]
      ·rw [if_neg h1,if_neg h2,bD,bD,if_neg h1,if_neg h2,ih r (n / 2) (m / 2) a b (by omega) (by omega) (by omega)]
  cases t with
  | nil => rw [gN,gN f m,key]
  | node v l r => exact key v l r
theorem Tr.set_over (t : Tr α) (n : Nat) (a b : α) : (t.set n a).set n b = t.set n b:=yO _ _ _ _ _ (Nat.lt_succ_self n)
theorem Tr.set_comm (t : Tr α) {n m : Nat} (a b : α) (h : n ≠ m) : (t.set n a).set m b = (t.set m b).set n a:=by
 unfold Tr.set
 rw [jf (n + 1) (n + m + 1) _ n a (by omega) (by omega),jf (m + 1) (n + m + 1) _ m b (by omega) (by omega),jf (m + 1) (n + m + 1) t m b (by omega) (by omega),jf (n + 1) (n + m + 1) _ n a (by omega) (by omega)]
 exact yP _ _ _ _ _ _ (by omega) (by omega) h
end
def gc : Tr bT → Nat → List (List Value) → Tr bT
 | t,_,[] => t
 | t,i,cs :: r => gc (t.set i ⟨cs,0,i,false⟩) (i + 1) r
def loc (h : AH) (bs : List (List Value)) : AH:={ blks:=gc h.blks h.next bs,grps:=h.grps,next:=h.next + bs.length,low:=h.next }
theorem sL : ∀ (bs : List (List Value)) (t : Tr bT) (i : Nat) (cs : List Value),gc t i (bs ++ [cs]) = (gc t i bs).set (i + bs.length) ⟨cs,0,i + bs.length,false⟩
 | [],t,i,cs => rfl
 | b :: bs,t,i,cs => by
  show gc _ (i + 1) (bs ++ [cs]) = (gc _ (i + 1) bs).set _ _
  rw [sL bs,List.length_cons,show i + 1 + bs.length = i + (bs.length + 1) by omega]
theorem Du (h : AH) (bs : List (List Value)) (cs : List Value) : (AH.new (loc h bs) cs 0).2 = loc h (bs ++ [cs]):=by
 unfold AH.new loc
 rw [sL,List.length_append]
 rfl
theorem bA (h : AH) (bs : List (List Value)) : (loc h bs).next = h.next + bs.length:=rfl
theorem bJ (h : AH) (bs : List (List Value)) : (loc h bs).low = h.next:=rfl
theorem nT : ∀ (bs : List (List Value)) (t : Tr bT) (i β : Nat),β < i → (gc t i bs).get β = t.get β
 | [],_,_,_,_ => rfl
 | b :: bs,t,i,β,h => by
  show (gc _ (i + 1) bs).get β = _
  rw [nT bs _ _ _ (by omega),Tr.get_set,if_neg (by omega)]
theorem sM : ∀ (bs : List (List Value)) (t : Tr bT) (i j : Nat) (cs : List Value),bs[j]? = some cs → (gc t i bs).get (i + j) = some ⟨cs,0,i + j,false⟩
 | b :: bs,t,i,0,cs,h => by
  injection h with h
  subst h
  show (gc _ (i + 1) bs).get i = _
  rw [nT bs _ _ _ (by omega),Tr.get_set,if_pos rfl]
  rfl
 | b :: bs,t,i,j + 1,cs,h => by
  show (gc _ (i + 1) bs).get _ = _
  rw [show i + (j + 1) = i + 1 + j by omega]
  exact sM bs _ (i + 1) j cs h
theorem nU : ∀ (bs : List (List Value)) (t : Tr bT) (i j : Nat) (cs : List Value),j < bs.length → (gc t i bs).set (i + j) ⟨cs,0,i + j,false⟩ = gc t i (bs.set j cs)
 | b :: bs,t,i,0,cs,_ => by
  show (gc _ (i + 1) bs).set i ⟨cs,0,i,false⟩ = gc (t.set i ⟨cs,0,i,false⟩) (i + 1) bs
  have key : ∀ (bs : List (List Value)) (t : Tr bT) (k : Nat) (x : bT),i < k → (gc t k bs).set i x = gc (t.set i x) k bs:=by
   intro bs
   induction bs with
   | nil => exact fun _ _ _ _ => rfl
   | cons b bs ih =>
    intro t k x hk
    show (gc _ (k + 1) bs).set i x = gc _ (k + 1) bs
    rw [ih _ _ _ (by omega),Tr.set_comm t _ _ (by omega)]
  rw [key _ _ _ _ (by omega),Tr.set_over]
 | b :: bs,t,i,j + 1,cs,h => by
  show (gc _ (i + 1) bs).set _ _ = gc _ (i + 1) (bs.set j cs)
  rw [show i + (j + 1) = i + 1 + j by omega]
  exact nU bs _ (i + 1) j cs (Nat.lt_of_succ_lt_succ h)
variable {h : AH}
theorem qO (H : WF h) {bs : List (List Value)} {j : Nat} {cs : List Value} (hj : bs[j]? = some cs) : (loc h bs).rd (h.next + j) = some ⟨cs,0,h.next + j,false⟩:=by
 refine dp (sM bs _ _ _ _ hj) ?_
 show h.next + j ∈ (h.grps.get (h.next + j)).getD [h.next + j]
 rw [(H.new _ (by omega)).2]
 exact List.mem_singleton.2 rfl
theorem Dv (H : WF h) {bs : List (List Value)} {j o i : Nat} {cs : List Value} (hj : bs[j]? = some cs) : rdC (loc h bs) ⟨h.next + j,o,none⟩ i = cs[o + i]?:=by
 unfold rdC
 simp only [qO H hj,Option.bind_some]
theorem yQ (H : WF h) {P : Program} {t : TypeId} {bs : List (List Value)} {j o s : Nat} {cs vs : List Value} {v : Value} (hj : bs[j]? = some cs) (hs : bv P t = some s) (hv : aJ v = some vs)
  (hl : vs.length = s) (hf : o + s ≤ cs.length) : dY P t (.pointer (some ⟨h.next + j,o,none⟩)) v (loc h bs) = some (loc h (bs.set j (putAt cs o vs))):=by
 have hjl : j < bs.length:=(List.getElem?_eq_some_iff.1 hj).1
 unfold dY
 simp only [qO H hj,Option.bind_some,hs,hv]
 rw [show Nat.beq vs.length s = true from Nat.beq_eq.mpr hl,Nat.ble_eq_true_of_le hf]
 show (AH.wr (loc h bs) (h.next + j) ⟨cs,0,h.next + j,false⟩ (putAt cs o vs)) = _
 have hm : (loc h bs).members (h.next + j) = [h.next + j]:=by
  show (h.grps.get (h.next + j)).getD [h.next + j] = _
  rw [(H.new _ (by omega)).2]
  rfl
 unfold AH.wr
 simp only [cond_false,hm]
 refine congrArg some ?_
 unfold loc
 rw [List.length_set,← nU bs h.blks h.next j _ hjl]
 have : Nat.blt (h.next + j) h.next = false:=by
  cases e : Nat.blt (h.next + j) h.next with
  | false => rfl
  | true =>
   have:=Nat.le_of_ble_eq_true e
   omega
 simp only [this,cond_false]
theorem gO {bs : List (List Value)} {v : Value} (hv : dA v = true) : ai h (loc h bs) v = (v,h):=by
 unfold ai
 rw [bJ,Nat.beq_refl,hv]
 rfl
theorem vm (H : WF h) (bs : List (List Value)) : WF (loc h bs):=by
 have key : ∀ (bs : List (List Value)) (t : Tr bT) (i : Nat),(∀ β b,t.get β = some b → b.grp ≤ β) → (∀ β,i ≤ β → t.get β = none) →
   (∀ β b,(gc t i bs).get β = some b → b.grp ≤ β) ∧ ∀ β,i + bs.length ≤ β → (gc t i bs).get β = none:=by
  intro bs
  induction bs with
  | nil => exact fun t i h1 h2 => ⟨h1,h2⟩
  | cons b bs ih =>
   intro t i h1 h2
   have:=ih (t.set i ⟨b,0,i,false⟩) (i + 1) (fun β c hc => by
    rw [Tr.get_set] at hc
    split at hc
    ·rename_i e
     injection hc with hc
     subst hc
     exact Nat.le_of_eq e.symm
    ·exact h1 β c hc) (fun β hβ => by rw [Tr.get_set,if_neg (by omega)]; exact h2 β (by omega))
   exact ⟨this.1,fun β hβ => this.2 β (by rw [List.length_cons] at hβ; omega)⟩
 have:=key bs h.blks h.next H.gle fun β hβ => (H.new β hβ).1
 exact ⟨this.1,fun β hβ => ⟨this.2 β hβ,(H.new β (by have : h.next + bs.length ≤ β:=hβ; omega)).2⟩⟩
theorem Ag (k : IntKind) (n : Int) : zY k (.int k n) = some n:=by
 show cond (decide (k = k)) (some n) none = some n
 rw [decide_eq_true rfl]
 rfl
theorem aj (b o k : Nat) : Addr.add ⟨b,o,none⟩ k = ⟨b,o + k,none⟩:=cX rfl k
theorem jP (a b : Value) : gb 2 (.agg #[a,b]) = true:=rfl
theorem jQ (a b : Value) : db 0 (.agg #[a,b]) = some a:=rfl
theorem jR (a b : Value) : db 1 (.agg #[a,b]) = some b:=rfl
theorem iV (a b : Value) : nO 2 (.tuple #[a,b]) = true:=rfl
theorem iW (a b : Value) : mi 0 (.tuple #[a,b]) = some a:=rfl
theorem iX (a b : Value) : mi 1 (.tuple #[a,b]) = some b:=rfl
section
variable {h : AH} {bs : List (List Value)}
theorem aU (b : Bool) : ai h (loc h bs) (.bool b) = (.bool b,h):=gO rfl
theorem bp (k : IntKind) (n : Int) : ai h (loc h bs) (.int k n) = (.int k n,h):=gO rfl
theorem aV (k k' : IntKind) (m n : Int) : ai h (loc h bs) (.agg #[.int k m,.int k' n]) = (.agg #[.int k m,.int k' n],h):=gO rfl
theorem bB (k k' : IntKind) (m n : Int) : ai h (loc h bs) (.tuple #[.int k m,.int k' n]) = (.tuple #[.int k m,.int k' n],h):=gO rfl
theorem bC (k : IntKind) (m : Int) (b : Bool) : ai h (loc h bs) (.tuple #[.int k m,.bool b]) = (.tuple #[.int k m,.bool b],h):=gO rfl
variable {P : Program} {t : TypeId} {o s : Nat} {vs : List Value} {v : Value}
theorem Jd (H : WF h) {c0 : List Value} (hs : bv P t = some s) (hv : aJ v = some vs) (hl : vs.length = s) (hf : o + s ≤ c0.length) :
  dY P t (.pointer (some ⟨h.next,o,none⟩)) v (loc h (c0 :: bs)) = some (loc h (putAt c0 o vs :: bs)):=yQ (j:=0) H rfl hs hv hl hf
end
theorem WF.mark {h : AH} (H : WF h) : WF (AH.mark h):=H.setLow _
theorem wB {α : Type} (a : α) : ∃ x : α,x = a:=⟨a,rfl⟩
 noncomputable def yR {α : Type} (a : α) : α:=Classical.choose (wB a)
theorem kv {α : Type} (a : α) : yR a = a:=Classical.choose_spec (wB a)
 noncomputable def az : Program → Nat → FuncId → List Value → AH → Option (Value × AH):=yR run
theorem kw : az = run:=kv run
 noncomputable def Ah : IntKind → Int → Int → Int:=yR Dp
theorem Dw : Ah = Dp:=kv Dp
def Dy : Nat:=2 ^ 4096 - 1
def nV : List Nat → Nat
 | [] => 0
 | i :: l => nV l ||| 2 ^ i
def Dz (A : Nat) : Operand → Bool
 | .tmp t => A.testBit t
 | _ => true
def HG (A : Nat) (o : Op) : Bool:=o.operands.toList.all (Dz A)
def Fs (A : Nat) : Option Tmp → Nat
 | some d => A ||| 2 ^ d
 | none => A
def Je (ops : Array Oper) (A : Nat) (o : Oper) : Bool :=
 match o.guard with
 | none => true
 | some (j,_) => match (ops.toList[j]?).bind (·.dst) with
  | none => true
  | some t => A.testBit t
def jz (ops : Array Oper) : List Oper → Nat → Option Nat
 | [],A => some A
 | o :: r,A => cond (Je ops A o && HG A o.op) (jz ops r (Fs A o.dst)) none
def vp (R : Nat) : Code → Nat → Option Nat
 | .skip,A => some A
 | .region _ ops d,A => cond (!d || HA ops.toList) (jz ops ops.toList A) none
 | .seq a b,A => (vp R a A).bind fun A => vp R b A
 | .cond c x y,A => cond (Dz A c) ((vp R x A).bind fun a => (vp R y A).map fun b => a &&& b) none
 | .block _ c,A => (vp R c A).map fun _ => A
 | .loop c,A => (vp R c A).map fun _ => Dy
 | .exit _,_ => some Dy
 | .ret,A => cond (Nat.beq (R &&& A) R) (some Dy) none
 | _,_ => none
inductive Fy where
 | seq (b : Code) (p : List Nat)
 | block (id : Nat)
 | loop (c : Code) (p : List Nat) (m : Nat)
inductive Ny where
 | code (c : Code) (p : List Nat)
 | raw (c : Code) (p : List Nat)
 | head (c : Code) (p : List Nat) (m : Nat)
 | ends (x : Ex)
def CO (R : Nat) : List Fy → Nat → Nat → Bool
 | [],A,_ => Nat.beq (R &&& A) R
 | .seq b _ :: fr,A,X => match vp R b A with
  | some A => CO R fr A X
  | none => false
 | .block _ :: fr,A,X => CO R fr (A &&& X) X
 | .loop c _ _ :: fr,A,X => (vp R c A).isSome && CO R fr Dy X
def Ku (R : Nat) (L : Nat) : Ny → List Fy → Bool
 | .code c _,fr | .raw c _,fr => match vp R c L with
  | some A => CO R fr A L
  | none => false
 | .head c _ _,fr => (vp R c L).isSome && CO R fr Dy L
 | .ends _,_ => false
def cO : List ResultVar → Nat
 | [] => 0
 | .tmp t :: l => cO l ||| 2 ^ t
 | .cell a _ :: l => cO l ||| 2 ^ a
section
variable (P : Program) (cf : FuncId → List Value → AH → Option (Value × AH)) (k : Nat)
def cL : List Fy → Ex → Tr Value → AH → Option (Ex × Tr Value × AH)
 | [],x,e,h => some (x,e,h)
 | .seq b _ :: fr,x,e,h => match x with
  | .normal => (cu P cf k b e h).bind fun r => cL fr r.1 r.2.1 r.2.2
  | x => cL fr x e h
 | .block id :: fr,x,e,h => match x with
  | .exit j => cond (Nat.beq j id) (cL fr .normal e h) (cL fr (.exit j) e h)
  | x => cL fr x e h
 | .loop c _ m :: fr,x,e,h => match x with
  | .normal => (gu (cu P cf k c) m e h).bind fun r => cL fr r.1 r.2.1 r.2.2
  | x => cL fr x e h
def Ai (n : Ny) (fr : List Fy) (e : Tr Value) (h : AH) : Option (Ex × Tr Value × AH) :=
 match n with
 | .code c _ | .raw c _ => (cu P cf k c e h).bind fun r => cL P cf k fr r.1 r.2.1 r.2.2
 | .head c _ m => (gu (cu P cf k c) m e h).bind fun r => cL P cf k fr r.1 r.2.1 r.2.2
 | .ends x => cL P cf k fr x e h
end
def sN (P : Program) (fn : Func) (h0 : AH) (x : Ex) (e : Tr Value) (h : AH) : Option (Value × AH) :=
 match x with
 | .exit _ => none
 | _ => (cQ P e h fn.results.toList).bind fun vs => (dx vs).map fun v => ai h0 h v
def df (P : Program) (cf : FuncId → List Value → AH → Option (Value × AH)) (n : Nat) (fn : Func) (h0 : AH) (x : Ny) (fr : List Fy) (e : Tr Value) (h : AH) : Option (Value × AH) :=
 (Ai P cf n x fr e h).bind fun r => sN P fn h0 r.1 r.2.1 r.2.2
def Aj (P : Program) (n : Nat) (fn : Func) (h0 : AH) (x : Ny) (fr : List Fy) (e : Tr Value) (h : AH) : Option (Value × AH) :=
 (Ai P (run P n) n x fr e h).bind fun r => sN P fn h0 r.1 r.2.1 r.2.2
 noncomputable def aO : Program → Nat → Func → AH → Ny → List Fy → Tr Value → AH → Option (Value × AH):=yR Aj
theorem kz : aO = Aj:=kv Aj
 noncomputable def iY : Program → (FuncId → List Value → AH → Option (Value × AH)) → Nat → Func → AH → Ny → List Fy → Tr Value → AH → Option (Value × AH):=yR df
theorem qP : iY = df:=kv df
 noncomputable def yS : Program → (FuncId → List Value → AH → Option (Value × AH)) → Nat → FuncId → List Value → AH → Option (Value × AH):=yR qj
theorem wC : yS = qj:=kv qj
def E : List (Nat × Value) → Tr Value
 | [] => .nil
 | p :: l => (E l).set p.1 p.2
def keep (e : Tr Value) : List Nat → List (Nat × Value)
 | [] => []
 | i :: l => match e.get i with
  | some v => (i,v) :: keep e l
  | none => keep e l
def gI (k : IntKind) (o : Option Value) : Option Int:=o.bind (zY k)
def gB (o : Option Value) : Option Bool:=o.bind sE
def gS (o : Option Value) : Option ByteArray:=o.bind Fk
def gL (o : Option Value) : Option (Option Addr × Nat × Nat):=o.bind IO
def gP (o : Option Value) : Option (Option Addr):=o.bind Fl
def cJ (h : AH) (cells : List Value) (z : Nat) : Option (Nat × AH):=some (AH.new h cells z)
abbrev jS:=AH → List Value → Nat → Option (Nat × AH)
def di (h : AH) (a : Addr) (vs : List Value) : Option AH :=
 match a.spot with
 | none => (h.rd a.block).bind fun b => cond (Nat.ble (a.off + vs.length) b.cells.length) (h.wr a.block b (putAt b.cells a.off vs)) none
 | some _ => none
def setLow (h : AH) (l : Nat) : AH:={ h with low:=l }
def dg (z by_ : Nat) (s x : Value) (h : AH) : Option ((Option Addr × Nat × Nat) × AH):=(dz z by_ s x h).bind fun p => (IO p.1).map fun s => (s,p.2)
section
variable (P : Program) {ρ : Type}
def sO (t : TypeId) (o : Option Value) (K : Value → Option ρ) : Option ρ :=
 match P.underlying t with
 | some (.int k) => (gI k o).bind fun n => K (.int k n)
 | some .bool => (gB o).bind fun b => K (.bool b)
 | some .string => (gS o).bind fun s => K (.string s)
 | some (.slice _) => (gL o).bind fun s => K (.slice s.1 s.2.1 s.2.2)
 | some (.pointer _) => (gP o).bind fun a => K (.pointer a)
 | _ => o.bind fun v => K v
def wD (rd : Nat → Option Value) : List TypeId → Nat → (List Value → Option ρ) → Option ρ
 | [],_,K => K []
 | t :: ts,i,K => sO P t (rd i) fun v => wD rd ts (i + 1) fun l => K (v :: l)
def qQ (t : TypeId) (o : Option Value) (K : Value → Option ρ) : Option ρ :=
 (kO P t).bind fun ag => cond ag
  (o.bind fun v => (P.cellTypes P.depth t).bind fun ts => cond (gb ts.length v) (wD P (fun i => db i v) ts 0 fun l => K (.agg l.toArray)) none)
  (sO P t o K)
def qR (v : Value) : List TypeId → Nat → (List Value → Option ρ) → Option ρ
 | [],_,K => K []
 | t :: ts,i,K => qQ P t (mi i v) fun x => qR v ts (i + 1) fun l => K (x :: l)
def vq (ts : List TypeId) (v : Value) (K : Value → Option ρ) : Option ρ :=
 match ts with
 | [] => K v
 | [t] => qQ P t (some v) K
 | ts => cond (nO ts.length v) (qR P v ts 0 fun l => K (.tuple l.toArray)) none
def sP (t : TypeId) (x : Value) (h : AH) (K : Value → Option ρ) : Option ρ :=
 match x with
 | .pointer a => a.bind fun ad => (kO P t).bind fun ag => cond ag
   ((P.cellTypes P.depth t).bind fun ts => cond (decide (bv P t = some ts.length) && !(Nat.beq ts.length 0)) (wD P (rdC h ad) ts 0 fun l => K (.agg l.toArray)) none)
   (sO P t (rdC h ad 0) K)
 | _ => none
def qS (t : TypeId) (x v : Value) (h : AH) (K : AH → Option ρ) : Option ρ :=
 match x with
 | .pointer a => a.bind fun ad => (bv P t).bind fun s => (aJ v).bind fun vs => cond (Nat.beq vs.length s) ((di h ad vs).bind K) none
 | _ => none
 noncomputable def DA (op : BinOp) (t : TypeId) (x y : Value) (K : Value → Option ρ) : Option ρ :=
  match op,x,y with
  | .mul,.int k a,.int k' b => cond (decide (k = k')) (K (.int k (Ah k a b))) none
  | op,x,y => z8 P op t x y K
def nW (b : Builtin) (ts : List TypeId) (args : List Value) (h : AH) (D : Option ρ) (K : Value → AH → Option ρ) : Option ρ :=
 match b,ts,args with
 | .append,[t,u],[s,x] => (P.underlying t).bind fun d => (P.underlying u).bind fun d' => match d,d' with
  | .slice el,.slice _ => (bv P el).bind fun z => (jE P el).bind fun by_ => (cU P el).bind fun zz => (aJ zz).bind fun zs =>
    cond (Nat.beq by_ 0 || !(Nat.beq zs.length z)) none ((dg z by_ s x h).bind fun p => K (.slice p.1.1 p.1.2.1 p.1.2.2) p.2)
  | _,_ => none
 | _,_,_ => D
def vr (h : AH) (a : Addr) : Bool:=(h.blks.get a.block).isSome
def jT (h : AH) (a b : Addr) : Bool:=match h.blks.get a.block,h.blks.get b.block with
 | some x,some y => !(Nat.beq y.grp x.grp)
 | _,_ => false
def vt (e : Tr Value) (h : AH) (a : Addr) (m i : Nat) (A : Option ρ) : Nat → List Oper → Option ρ
 | _,[] => A
 | x,o :: r => cond (Nat.ble i x || gC m x) (vt e h a m i A (x + 1) r) (match o.op with
  | .load _ (.tmp t) => cond (Ez t i x (o :: r)) (match e.get t with
   | some (.pointer (some b)) => cond (jT h a b) (vt e h a m i A (x + 1) r) none
   | _ => none) none
  | _ => vt e h a m i A (x + 1) r)
def Ft (l : List Oper) (i : Nat) (e : Tr Value) (h : AH) (A : Option ρ) : Option ρ:=match storeAt l i with
 | some d => match e.get d with
  | some (.pointer (some a)) => cond (vr h a) (vt e h a (((cH l [])[i]?).getD 0) i A 0 l) none
  | _ => none
 | none => none
def vu (cf : FuncId → List Value → AH → Option (Value × AH)) (f : Value) (args : List Value) (h : AH) (K : Value → AH → Option ρ) : Option ρ :=
 match f with
 | .func (.func g) first captured => (cf g (first.toList ++ (args ++ captured.toList)) h).bind fun p =>
   (P.funcs[g]?).bind fun fn => vq P fn.resultTypes.toList p.1 fun v => K v p.2
 | _ => none
variable (cf : FuncId → List Value → AH → Option (Value × AH)) (N : AH → List Value → Nat → Option (Nat × AH))
 noncomputable def HH (o : Op) (ty : TypeId) (e : Tr Value) (h : AH) (K : Value → AH → Option ρ) : Option ρ :=
  match o with
  | .alloc t => (cU P t).bind fun z => (aJ z).bind fun vs => cond (vs.all bq) ((N h vs 0).bind fun p => K (.pointer (some ⟨p.1,0,none⟩)) p.2) none
  | .box _ x => (aJ (ev e x)).bind fun vs => (N h vs 0).bind fun p => K (.pointer (some ⟨p.1,0,none⟩)) p.2
  | .buildSlice t n ps => (P.underlying t).bind fun d => match d with
   | .slice el => (bv P el).bind fun s => (cU P el).bind fun z => (aJ z).bind fun zs => cond (Nat.ble (n * s) 16777216 && (Nat.beq zs.length s && (zs.all bq && Nat.ble n 9223372036854775807)))
     ((gj (fun i => some (i * s,s)) (ei zs n) (ps.toList.map fun p => (p.1,ev e p.2))).bind fun cs => (N h cs s).bind fun p => K (.slice (some ⟨p.1,0,none⟩) n n) p.2) none
   | _ => none
  | .makeSlice t n c => (P.underlying t).bind fun d => match d,ev e n,ev e c with
   | .slice el,.int .i64 n,.int .i64 c => (bv P el).bind fun s => (cU P el).bind fun z => (jE P el).bind fun by_ => (aJ z).bind fun zs => cond (Nat.beq zs.length s && zs.all bq)
     (cond (bS 0 n && (bS n c && (bS (c * by_) 140737488355328 && bZ c 9223372036854775808))) ((N h (ei zs c.toNat) s).bind fun p => K (.slice (some ⟨p.1,0,none⟩) n.toNat c.toNat) p.2) none) none
   | _,_,_ => none
  | .binOp op t x y _ => DA P op t (ev e x) (ev e y) fun v => K v h
  | .load t x => sP P t (ev e x) h fun v => K v h
  | .store t x v => qS P t (ev e x) (ev e v) h fun h' => K undef h'
  | .call c => match c.callee with
   | .builtin b => nW P b c.argTypes.toList (c.args.toList.map (ev e)) h (IQ P cf o ty e h K) K
   | .value f => vu P cf (ev e f) (c.args.toList.map (ev e)) h K
   | .invoke _ _ => none
  | o => IQ P cf o ty e h K
 noncomputable def vv (ops : Array Oper) : List Oper → Tr Value → AH → (Tr Value → AH → Option ρ) → Option ρ
  | [],e,h,K => K e h
  | o :: r,e,h,K => sH ops o e (fun e => HH P cf N o.op o.type e h fun v h' => vv ops r (aZ e o.dst v) h' K) (fun e => vv ops r (aZ e o.dst undef) h K)
 noncomputable def wE (ops : Array Oper) : List Oper → Tr Value → AH → List AH → (Tr Value → AH → List AH → Option ρ) → Option ρ
  | [],e,h,H,K => K e h (H ++ [h])
  | o :: r,e,h,H,K => sH ops o e (fun e => HH P cf N o.op o.type e h fun v h' => wE ops r (aZ e o.dst v) h' (H ++ [h]) K) (fun e => wE ops r (aZ e o.dst undef) h (H ++ [h]) K)
 noncomputable def Ak (ops : Array Oper) (e : Tr Value) (h : AH) (K : Tr Value → AH → Option ρ) : Option ρ :=
  cond (zo ops.toList) (wE P cf N ops ops.toList e h [] fun e h H => cond (me P ops.toList (cH ops.toList []) e H 0 ops.toList) (K e h) none) none
 noncomputable def pM (T : Bool) (ops : Array Oper) (F : Option ρ) : Nat → List Oper → Tr Value → AH → (Tr Value → AH → Option ρ) → Option ρ
  | _,[],e,h,K => K e h
  | i,o :: r,e,h,K => sH ops o e
    (fun e => cond (dX o.op) (HH P cf N o.op o.type e h fun v h' => pM T ops F (i + 1) r (aZ e o.dst v) h' K)
     (cond (fA ops.toList i) (vv P cf N ops (o :: r) e h K) (cond (mE ops.toList i) (cond T (Ft ops.toList i e h (vv P cf N ops (o :: r) e h K)) none)
      (HH P cf N o.op o.type e (setLow h h.next) fun v h' => cond (Nat.beq h'.low h.next) (pM T ops F (i + 1) r (aZ e o.dst v) (setLow h' h.low) K) F))))
    (fun e => pM T ops F (i + 1) r (aZ e o.dst undef) h K)
end
def Al (P : Program) {ρ : Type} (e : Tr Value) (h : AH) : List ResultVar → (List Value → Option ρ) → Option ρ
 | [],K => K []
 | .tmp t :: l,K => Al P e h l fun vs => K ((e.get t).getD undef :: vs)
 | .cell a t :: l,K => sP P t ((e.get a).getD undef) h fun v => Al P e h l fun vs => K (v :: vs)
def HI (P : Program) (fn : Func) (h0 : AH) (x : Ex) (e : Tr Value) (h : AH) : Option (Value × AH) :=
 match x with
 | .exit _ => none
 | _ => Al P e h fn.results.toList fun vs => (dx vs).bind fun v => some (ai h0 h v)
def DB : List Nat → List Nat → Bool
 | [],[] => true
 | a :: l,b :: m => Nat.beq a b && DB l m
 | _,_ => false
def DC : List (List Nat × List Nat) → Bool
 | [] => false
 | q :: l => DB q.1 [9] || DC l
def Fu : List (List Nat × List Nat) → Bool
 | [] => false
 | q :: l => DB q.1 [8] || Fu l
def jU : List (List Nat × List Nat) → List Nat → Option (List Nat)
 | [],_ => none
 | q :: l,p => cond (DB q.1 p) (some q.2) (jU l p)
def vw : Code → Bool
 | .loop _ => true
 | _ => false
section
variable (P : Program) (cf : FuncId → List Value → AH → Option (Value × AH)) (n : Nat) (fn : Func) (h0 : AH) (plan : List (List Nat × List Nat)) (N : AH → List Value → Nat → Option (Nat × AH)) (C : Ny → List Fy → Tr Value → AH → Option (Value × AH))
def vx (L : List Nat) (x : Ny) (fr : List Fy) (e : Tr Value) (h : AH) : Option (Value × AH) :=
 cond (Ku (cO fn.results.toList) (nV L) x fr) (C x fr (E (keep e L)) h) none
 noncomputable def jA : Nat → Ny → List Fy → Tr Value → AH → Option (Value × AH)
  | 0,_,_,_,_ => none
  | f + 1,.ends x,fr,e,h => match fr with
   | [] => HI P fn h0 x e h
   | .seq b p :: fr => match x with
    | .normal => jA f (.code b p) fr e h
    | x => jA f (.ends x) fr e h
   | .block id :: fr => match x with
    | .exit j => cond (Nat.beq j id) (jA f (.ends .normal) fr e h) (jA f (.ends (.exit j)) fr e h)
    | x => jA f (.ends x) fr e h
   | .loop c p m :: fr => match x with
    | .normal => match jU plan p with
     | some L => vx fn C L (.head c p m) fr e h
     | none => none
    | x => jA f (.ends x) fr e h
  | f + 1,.code c p,fr,e,h => match jU plan p with
   | some L => cond (vw c) (jA f (.raw c p) fr e h) (vx fn C L (.code c p) fr e h)
   | none => jA f (.raw c p) fr e h
  | _ + 1,.head c p m,fr,e,h => match jU plan p with
   | some L => vx fn C L (.head c p m) fr e h
   | none => none
  | f + 1,.raw c p,fr,e,h => match c with
   | .skip => jA f (.ends .normal) fr e h
   | .region _ ops d => cond d (pM P cf N (Fu plan) ops (cond (DC plan) (Ak P cf N ops e h fun e h => jA f (.ends .normal) fr e h) none) 0 ops.toList e h fun e h => jA f (.ends .normal) fr e h) (vv P cf N ops ops.toList e h fun e h => jA f (.ends .normal) fr e h)
   | .seq a b => jA f (.code a (0 :: p)) (.seq b (1 :: p) :: fr) e h
   | .cond c x y => wx c e (fun e => jA f (.code x (0 :: p)) fr e h) (fun e => jA f (.code y (1 :: p)) fr e h)
   | .block id c => jA f (.code c (0 :: p)) (.block id :: fr) e h
   | .exit id => jA f (.ends (.exit id)) fr e h
   | .ret => jA f (.ends .ret) fr e h
   | .loop c => jA f (.head c p n) fr e h
   | _ => none
 noncomputable def iZ (c : Code) (p : List Nat) (m : Nat) (fr : List Fy) (e : Tr Value) (h : AH) : Option (Value × AH):=jA P cf n fn h0 plan N C 4000 (.raw c (0 :: p)) (.loop c p m :: fr) e h
 noncomputable def nX (c : Code) (p : List Nat) (fr : List Fy) (e : Tr Value) (h : AH) : Option (Value × AH):=jA P cf n fn h0 plan N C 4000 (.raw c p) fr e h
end
 noncomputable def oQ (P : Program) (cf : FuncId → List Value → AH → Option (Value × AH)) (n : Nat) (plan : List (List Nat × List Nat)) (N : AH → List Value → Nat → Option (Nat × AH)) (C : Func → AH → Ny → List Fy → Tr Value → AH → Option (Value × AH)) (f : FuncId) (args : List Value) (h : AH) : Option (Value × AH) :=
  match P.funcs[f]? with
  | some fn => match fn.body with
   | some c => jA P cf n fn h plan N (C fn h) 4000 (.raw c []) [] (fD args 0 (jG fn.ntmps)) (setLow h h.next)
   | none => none
  | none => none
variable {P : Program} {cf : FuncId → List Value → AH → Option (Value × AH)} {k : Nat}
def eC (A : Nat) (e e' : Tr Value) : Prop:=∀ t,A.testBit t = true → e.get t = e'.get t
theorem dE (A d t : Nat) : (A ||| 2 ^ d).testBit t = (A.testBit t || decide (d = t)):=by
 rw [Nat.testBit_or,Nat.testBit_two_pow]
theorem DD {A : Nat} {e e' : Tr Value} (h : eC A e e') (d : Nat) (v : Value) : eC (A ||| 2 ^ d) (e.set d v) (e'.set d v):=fun t ht => by
 rw [dE,Bool.or_eq_true] at ht
 rw [Tr.get_set,Tr.get_set]
 split
 ·rfl
 ·rename_i hne
  rcases ht with ht | ht
  ·exact h t ht
  ·exact absurd (of_decide_eq_true ht).symm hne
theorem fh {A : Nat} {e e' : Tr Value} (h : eC A e e') (d : Option Tmp) (v : Value) : eC (Fs A d) (aZ e d v) (aZ e' d v):=by
 cases d with
 | none => exact h
 | some d => exact DD h d v
theorem fN {A B : Nat} {e e' : Tr Value} (h : eC A e e') (hs : ∀ t,B.testBit t = true → A.testBit t = true) : eC B e e':=fun t ht => h t (hs t ht)
theorem wF {A B : Nat} {e e' : Tr Value} (h : eC A e e') : eC (A &&& B) e e':=fN h fun t ht => by
 rw [Nat.testBit_and,Bool.and_eq_true] at ht
 exact ht.1
theorem nY {A B : Nat} {e e' : Tr Value} (h : eC B e e') : eC (A &&& B) e e':=fN h fun t ht => by
 rw [Nat.testBit_and,Bool.and_eq_true] at ht
 exact ht.2
theorem wG {A R : Nat} {e e' : Tr Value} (h : eC A e e') (hb : Nat.beq (R &&& A) R = true) : eC R e e':=by
 have hb:=Nat.eq_of_beq_eq_true hb
 rw [← hb]
 exact nY h
theorem fw {A : Nat} {d : Option Tmp} {t : Nat} (h : A.testBit t = true) : (Fs A d).testBit t = true:=by
 cases d with
 | none => exact h
 | some d =>
  show (A ||| 2 ^ d).testBit t = true
  rw [dE,h]
  rfl
theorem lr {ops : Array Oper} : ∀ (l : List Oper) {A A' : Nat},jz ops l A = some A' → ∀ t,A.testBit t = true → A'.testBit t = true
 | [],A,A',h,t,ht => by
  injection h with h
  rwa [← h]
 | o :: l,A,A',h,t,ht => lr l (ah h).2 t (fw ht)
theorem qT {A : Nat} {e e' : Tr Value} (h : eC A e e') {x : Operand} (hx : Dz A x = true) : ev e x = ev e' x:=by
 cases x with
 | tmp t =>
  show (e.get t).getD undef = (e'.get t).getD undef
  rw [h t hx]
 | _ => rfl
theorem mt {A : Nat} {e e' : Tr Value} (h : eC A e e') {o : Op} (ho : HG A o = true) (hp : AH) : bY P cf o e hp = bY P cf o e' hp:=by
 have al : ∀ x ∈ o.operands.toList,Dz A x = true:=List.all_eq_true.1 ho
 have g : ∀ x ∈ o.operands.toList,ev e x = ev e' x:=fun x hx => qT h (al x hx)
 have mp : ∀ l : List Operand,(∀ x ∈ l,x ∈ o.operands.toList) → l.map (ev e) = l.map (ev e'):=fun l hl => List.map_congr_left fun x hx => g x (hl x hx)
 have pp : ∀ l : List (Nat × Operand),(∀ x ∈ l.map (·.2),x ∈ o.operands.toList) → (l.map fun p => (p.1,ev e p.2)) = l.map fun p => (p.1,ev e' p.2):=fun l hl => List.map_congr_left fun x hx => by
  rw [g x.2 (hl _ (List.mem_map_of_mem hx))]
 have oo : ∀ x : Option Operand,(∀ y ∈ x.toList,y ∈ o.operands.toList) → x.map (ev e) = x.map (ev e'):=fun x hx => by
  cases x with
  | none => rfl
  | some y => exact congrArg some (g y (hx y (List.mem_singleton.2 rfl)))
 have aa : ∀ l : List Operand,(∀ x ∈ l,x ∈ o.operands.toList) → (l.all fun x => ip (ev e x)) = l.all fun x => ip (ev e' x):=fun l hl => by
  induction l with
  | nil => rfl
  | cons y l ih =>
   rw [List.all_cons,List.all_cons,g y (hl y (List.mem_cons_self ..)),ih fun x hx => hl x (List.mem_cons_of_mem _ hx)]
 have am : ∀ l : Array Operand,(∀ x ∈ l.toList,x ∈ o.operands.toList) → l.map (ev e) = l.map (ev e'):=fun l hl => by
  apply Array.toList_inj.1
  rw [Array.toList_map,Array.toList_map]
  exact mp _ hl
 cases o with
 | move x => unfold bY; simp only [g x (List.mem_singleton.2 rfl)]
 | assign x => unfold bY; simp only [g x (List.mem_singleton.2 rfl)]
 | pick c a b => unfold bY; simp only [g c (by simp [Op.operands]),g a (by simp [Op.operands]),g b (by simp [Op.operands])]
 | alloc t => rfl
 | box t x => unfold bY; simp only [g x (by simp [Op.operands])]
 | build t ps =>
  unfold bY
  simp only [pp ps.toList (fun x hx => by simpa [Op.operands] using hx)]
 | buildSlice t n ps =>
  unfold bY
  simp only [pp ps.toList (fun x hx => by simpa [Op.operands] using hx)]
 | load t x => unfold bY; simp only [g x (by simp [Op.operands])]
 | store t x v => unfold bY; simp only [g x (by simp [Op.operands]),g v (by simp [Op.operands])]
 | nilCheck x => unfold bY; simp only [g x (by simp [Op.operands])]
 | binOp op t x y yt => unfold bY; simp only [g x (by simp [Op.operands]),g y (by simp [Op.operands])]
 | unOp op t x => unfold bY; simp only [g x (by simp [Op.operands])]
 | convert s d x => unfold bY; simp only [g x (by simp [Op.operands])]
 | slice t x lo hi mx =>
  unfold bY
  simp only [g x (by simp [Op.operands]),oo lo (fun y hy => by simp only [Op.operands,Array.toList_append]; simp [hy] <;> simp_all),oo hi (fun y hy => by simp only [Op.operands,Array.toList_append]; simp_all),oo mx (fun y hy => by simp only [Op.operands,Array.toList_append]; simp_all)]
 | fieldAddr s x f => unfold bY; simp only [g x (by simp [Op.operands])]
 | field s x f => unfold bY; simp only [g x (by simp [Op.operands])]
 | indexAddr t x i => unfold bY; simp only [g x (by simp [Op.operands]),g i (by simp [Op.operands])]
 | index t x i => unfold bY; simp only [g x (by simp [Op.operands]),g i (by simp [Op.operands])]
 | extract x i => unfold bY; simp only [g x (by simp [Op.operands])]
 | makeSlice t n c => unfold bY; simp only [g n (by simp [Op.operands]),g c (by simp [Op.operands])]
 | makeFunc fn first captured =>
  have h1 : ∀ x ∈ first.toList,x ∈ (Op.makeFunc fn first captured).operands.toList:=fun x hx => by
   simp only [Op.operands,Array.toList_append,List.mem_append]
   exact .inl hx
  have h2 : ∀ x ∈ captured.toList,x ∈ (Op.makeFunc fn first captured).operands.toList:=fun x hx => by
   simp only [Op.operands,Array.toList_append,List.mem_append]
   exact .inr hx
  unfold bY
  simp only [aa first.toList h1,aa captured.toList h2,am first h1,am captured h2]
 | call c =>
  obtain ⟨callee,cargs,cts⟩:=c
  cases callee with
  | builtin b =>
   unfold bY
   simp only [mp cargs.toList (fun x hx => by simp only [Op.operands,Call.operands,Array.toList_append,List.mem_append]; exact .inr hx)]
  | value f =>
   unfold bY
   simp only [mp cargs.toList (fun x hx => by simp only [Op.operands,Call.operands,Array.toList_append,List.mem_append]; exact .inr hx),g f (by simp [Op.operands,Call.operands])]
  | invoke r m => rfl
 | makeMap t r => cases r <;> rfl
 | lookup t x i ok => unfold bY fS; simp only [g x (by simp [Op.operands]),g i (by simp [Op.operands])]
 | mapUpdate t m k x => unfold bY fS; simp only [g m (by simp [Op.operands]),g k (by simp [Op.operands]),g x (by simp [Op.operands])]
 | insert t m k x => unfold bY fS; simp only [g m (by simp [Op.operands]),g k (by simp [Op.operands]),g x (by simp [Op.operands])]
 | mapEntry t m k => unfold bY fS; simp only [g m (by simp [Op.operands]),g k (by simp [Op.operands])]
 | entryStore t m s x => unfold bY fS; simp only [g m (by simp [Op.operands]),g s (by simp [Op.operands]),g x (by simp [Op.operands])]
 | _ => rfl
theorem ls {A : Nat} {e e' : Tr Value} (h : eC A e e') {ops : Array Oper} {o : Oper} (ho : Je ops A o = true) : aY ops o e = aY ops o e':=by
 unfold aY
 unfold Je at ho
 cases hg : o.guard with
 | none => rfl
 | some p =>
  obtain ⟨j,w⟩:=p
  rw [hg] at ho
  simp only at ho ⊢
  generalize (ops.toList[j]?).bind (·.dst) = x at ho
  cases x with
  | none => rfl
  | some t =>
   simp only [Option.map_some]
   rw [h t ho]
theorem kC {ops : Array Oper} : ∀ (l : List Oper) {A A' : Nat} {e e' : Tr Value} {h : AH} {r : Tr Value × AH},jz ops l A = some A' → eC A e e' → cz P cf ops l e' h = some r →
  ∃ e1,cz P cf ops l e h = some (e1,r.2) ∧ (∀ B,eC B e e' → eC B e1 r.1) ∧ eC A' e1 r.1
 | [],A,A',e,e',h,r,hk,ha,hv => by
  injection hk with hk
  injection hv with hv
  subst hk
  subst hv
  exact ⟨e,rfl,fun _ h => h,ha⟩
 | o :: l,A,A',e,e',h,r,hk,ha,hv => by
  obtain ⟨hc,hk⟩:=ah hk
  rw [Bool.and_eq_true] at hc
  have hv : cond (aY ops o e') ((bY P cf o.op e' h).bind fun p => cz P cf ops l (aZ e' o.dst p.1) p.2) (cz P cf ops l (aZ e' o.dst undef) h) = some r:=hv
  show ∃ e1,cond (aY ops o e) ((bY P cf o.op e h).bind fun p => cz P cf ops l (aZ e o.dst p.1) p.2) (cz P cf ops l (aZ e o.dst undef) h) = some (e1,r.2) ∧ _
  rw [ls ha hc.1,mt ha hc.2 h]
  cases hw : aY ops o e' with
  | true =>
   rw [hw] at hv
   obtain ⟨p,h1,h2⟩:=Option.bind_eq_some_iff.1 hv
   rw [h1]
   obtain ⟨e1,q1,q2,q3⟩:=kC l hk (fh ha o.dst p.1) h2
   exact ⟨e1,q1,fun B hB => q2 B (fN (fh hB o.dst p.1) fun _ => fw),q3⟩
  | false =>
   rw [hw] at hv
   obtain ⟨e1,q1,q2,q3⟩:=kC l hk (fh ha o.dst undef) hv
   exact ⟨e1,q1,fun B hB => q2 B (fN (fh hB o.dst undef) fun _ => fw),q3⟩
theorem yT {ops : List Oper} (hnS : HA ops = true) {i : Nat} {e : Tr Value} {h : AH} : dO ops i e h = fA ops i:=by
 unfold dO
 rcases Fe hnS i with h1 | h1
 ·rw [h1]
  rfl
 ·rw [h1,Bool.false_and,Bool.or_false]
theorem nZ {ops : Array Oper} : ∀ (l : List Oper) {A A' : Nat} {e e' : Tr Value} {h : AH} {H : List AH} {r : Tr Value × AH × List AH},jz ops l A = some A' → eC A e e' → gD P cf ops l e' h H = some r →
  ∃ e1,gD P cf ops l e h H = some (e1,r.2) ∧ (∀ B,eC B e e' → eC B e1 r.1) ∧ eC A' e1 r.1
 | [],A,A',e,e',h,H,r,hk,ha,hv => by
  injection hk with hk
  injection hv with hv
  subst hk
  subst hv
  exact ⟨e,rfl,fun _ h => h,ha⟩
 | o :: l,A,A',e,e',h,H,r,hk,ha,hv => by
  obtain ⟨hc,hk⟩:=ah hk
  rw [Bool.and_eq_true] at hc
  have hv : cond (aY ops o e') ((bY P cf o.op e' h).bind fun p => gD P cf ops l (aZ e' o.dst p.1) p.2 (H ++ [h])) (gD P cf ops l (aZ e' o.dst undef) h (H ++ [h])) = some r:=hv
  show ∃ e1,cond (aY ops o e) ((bY P cf o.op e h).bind fun p => gD P cf ops l (aZ e o.dst p.1) p.2 (H ++ [h])) (gD P cf ops l (aZ e o.dst undef) h (H ++ [h])) = some (e1,r.2) ∧ _
  rw [ls ha hc.1,mt ha hc.2 h]
  cases hw : aY ops o e' with
  | true =>
   rw [hw] at hv
   obtain ⟨p,h1,h2⟩:=Option.bind_eq_some_iff.1 hv
   rw [h1]
   obtain ⟨e1,q1,q2,q3⟩:=nZ l hk (fh ha o.dst p.1) h2
   exact ⟨e1,q1,fun B hB => q2 B (fN (fh hB o.dst p.1) fun _ => fw),q3⟩
  | false =>
   rw [hw] at hv
   obtain ⟨e1,q1,q2,q3⟩:=nZ l hk (fh ha o.dst undef) hv
   exact ⟨e1,q1,fun B hB => q2 B (fN (fh hB o.dst undef) fun _ => fw),q3⟩
theorem oa {ops : Array Oper} : ∀ (l : List Oper) {A A' : Nat},jz ops l A = some A' → ∀ o ∈ l,∀ t τ,o.op = .load t (.tmp τ) → A'.testBit τ = true
 | [],_,_,_,_,ho,_,_,_ => by cases ho
 | o :: l,A,A',h,o1,ho,t,τ,hop => by
  obtain ⟨hc,hk⟩:=ah h
  rcases List.mem_cons.1 ho with rfl | ho
  ·rw [Bool.and_eq_true] at hc
   have h2:=hc.2
   rw [hop] at h2
   have h3 : Dz A (.tmp τ) = true:=List.all_eq_true.1 h2 _ (by
    show Operand.tmp τ ∈ ((Op.load t (.tmp τ)).operands).toList
    exact List.mem_singleton.2 rfl)
   exact lr l hk _ (fw h3)
  ·exact oa l hk o1 ho t τ hop
theorem jV {ops : Array Oper} : ∀ (l : List Oper) {A A' : Nat},jz ops l A = some A' → ∀ o ∈ l,∀ t m i ok,o.op = .lookup t m i ok → Dz A' m = true ∧ Dz A' i = true
 | [],_,_,_,_,ho,_,_,_,_,_ => by cases ho
 | o :: l,A,A',h,o1,ho,t,m,i,ok,hop => by
  obtain ⟨hc,hk⟩:=ah h
  rcases List.mem_cons.1 ho with rfl | ho
  ·rw [Bool.and_eq_true] at hc
   have h2:=hc.2
   rw [hop] at h2
   have key : ∀ y,Dz A y = true → Dz A' y = true:=fun y hy => by
    cases y with
    | tmp τ => exact lr l hk _ (fw hy)
    | _ => exact hy
   exact ⟨key m (List.all_eq_true.1 h2 _ (by
    show m ∈ ((Op.lookup t m i ok).operands).toList
    exact List.mem_cons_self)),key i (List.all_eq_true.1 h2 _ (by
    show i ∈ ((Op.lookup t m i ok).operands).toList
    exact List.mem_cons_of_mem _ (List.mem_singleton.2 rfl)))⟩
  ·exact jV l hk o1 ho t m i ok hop
theorem pN {o : Op} {e e' : Tr Value} {v : Value} {l : List Oper} {ms : List Nat} {x : Nat} (h : ∀ g,fS P o e g = fS P o e' g) : ∀ (p : Nat) (H : List AH),iC P o e v l ms x p H = iC P o e' v l ms x p H
 | _,[] => rfl
 | p,g :: r => by
  unfold iC
  rw [h g,pN h (p + 1) r]
theorem sQ {l : List Oper} {ms : List Nat} {e e' : Tr Value} {H : List AH} : ∀ (r : List Oper) (n : Nat),(∀ o ∈ r,∀ t τ,o.op = .load t (.tmp τ) → e.get τ = e'.get τ) → (∀ o ∈ r,∀ t m i ok,o.op = .lookup t m i ok → ev e m = ev e' m ∧ ev e i = ev e' i) → me P l ms e H n r = me P l ms e' H n r
 | [],_,_,_ => rfl
 | o :: r,n,h,h2 => by
  unfold me
  rw [sQ r (n + 1) (fun o' ho' => h o' (List.mem_cons_of_mem _ ho')) fun o' ho' => h2 o' (List.mem_cons_of_mem _ ho')]
  have : lE P l ms e H n o = lE P l ms e' H n o:=by
   unfold lE
   split
   ·rename_i t τ hop
    rw [h o List.mem_cons_self t τ hop]
   ·rfl
   ·rename_i t m i ok hop
    have hm : ∀ g,fS P (.lookup t m i ok) e g = fS P (.lookup t m i ok) e' g:=fun g => by
     unfold fS
     simp only [(h2 o List.mem_cons_self t m i ok hop).1,(h2 o List.mem_cons_self t m i ok hop).2]
    cases H[n]? with
    | none => rfl
    | some g =>
     simp only [hm g]
     cases fS P (.lookup t m i ok) e' g with
     | none => rfl
     | some q => exact pN hm 0 H
   ·rfl
  rw [this]
theorem yU {ops : Array Oper} {A A' : Nat} {e e' : Tr Value} {h : AH} (hk : jz ops ops.toList A = some A') (ha : eC A e e') (r : Tr Value × AH) (hv : fk P cf ops e' h = some r) :
  ∃ e1,fk P cf ops e h = some (e1,r.2) ∧ (∀ B,eC B e e' → eC B e1 r.1) ∧ eC A' e1 r.1:=by
 obtain ⟨r1,r2⟩:=r
 obtain ⟨hW,H,hH,hck⟩:=ke hv
 obtain ⟨e1,q1,q2,q3⟩:=nZ ops.toList hk ha hH
 refine ⟨e1,?_,q2,q3⟩
 unfold fk
 rw [hW,q1]
 have : me P ops.toList (cH ops.toList []) e1 H 0 ops.toList = true:=by
  rw [sQ (e':=r1) ops.toList 0 (fun o ho t τ hop => q3 τ (oa _ hk o ho t τ hop)) fun o ho t m i ok hop => ⟨qT q3 (jV _ hk o ho t m i ok hop).1,qT q3 (jV _ hk o ho t m i ok hop).2⟩]
  exact hck
 show cond (me P ops.toList (cH ops.toList []) e1 H 0 ops.toList) (some (e1,r2)) none = _
 rw [this]
 rfl
theorem pO {ops : Array Oper} (hnS : HA ops.toList = true) {F F' : Option (Tr Value × AH)} {e0 e0' : Tr Value} {A' : Nat} (hF : ∀ r,F' = some r → ∃ e1,F = some (e1,r.2) ∧ (∀ B,eC B e0 e0' → eC B e1 r.1) ∧ eC A' e1 r.1) :
  ∀ (l : List Oper) {i A : Nat} {e e' : Tr Value} {h : AH} {r : Tr Value × AH},jz ops l A = some A' → eC A e e' → (∀ B,eC B e0 e0' → eC B e e') → bI P cf ops F' i l e' h = some r →
  ∃ e1,bI P cf ops F i l e h = some (e1,r.2) ∧ (∀ B,eC B e0 e0' → eC B e1 r.1) ∧ eC A' e1 r.1
 | [],i,A,e,e',h,r,hk,ha,hB,hv => by
  injection hk with hk
  injection hv with hv
  subst hk
  subst hv
  exact ⟨e,rfl,hB,ha⟩
 | o :: l,i,A,e,e',h,r,hk0,ha,hB,hv => by
  obtain ⟨hc,hk⟩:=ah hk0
  rw [Bool.and_eq_true] at hc
  have hv : cond (aY ops o e')
   (cond (dX o.op) ((bY P cf o.op e' h).bind fun p => bI P cf ops F' (i + 1) l (aZ e' o.dst p.1) p.2)
   (cond (dO ops.toList i e' h) (cz P cf ops (o :: l) e' h)
   ((bY P cf o.op e' { h with low:=h.next }).bind fun p => cond (Nat.beq p.2.low h.next) (bI P cf ops F' (i + 1) l (aZ e' o.dst p.1) { p.2 with low:=h.low }) F')))
   (bI P cf ops F' (i + 1) l (aZ e' o.dst undef) h) = some r:=hv
  show ∃ e1,cond (aY ops o e)
   (cond (dX o.op) ((bY P cf o.op e h).bind fun p => bI P cf ops F (i + 1) l (aZ e o.dst p.1) p.2)
   (cond (dO ops.toList i e h) (cz P cf ops (o :: l) e h)
   ((bY P cf o.op e { h with low:=h.next }).bind fun p => cond (Nat.beq p.2.low h.next) (bI P cf ops F (i + 1) l (aZ e o.dst p.1) { p.2 with low:=h.low }) F)))
   (bI P cf ops F (i + 1) l (aZ e o.dst undef) h) = some (e1,r.2) ∧ _
  rw [ls ha hc.1,mt ha hc.2 h,mt ha hc.2 { h with low:=h.next }]
  have go : ∀ (v : Value) (h' : AH),bI P cf ops F' (i + 1) l (aZ e' o.dst v) h' = some r → ∃ e1,bI P cf ops F (i + 1) l (aZ e o.dst v) h' = some (e1,r.2) ∧ (∀ B,eC B e0 e0' → eC B e1 r.1) ∧ eC A' e1 r.1:=fun v h' hh =>
   pO hnS hF l hk (fh ha o.dst v) (fun B hb => fN (fh (hB B hb) o.dst v) fun _ => fw) hh
  cases hw : aY ops o e' with
  | true =>
   rw [hw] at hv
   simp only [cond_true] at hv ⊢
   cases hq : dX o.op with
   | true =>
    rw [hq] at hv
    simp only [cond_true] at hv ⊢
    obtain ⟨p,h1,h2⟩:=Option.bind_eq_some_iff.1 hv
    rw [h1]
    exact go p.1 p.2 h2
   | false =>
    rw [hq] at hv
    simp only [cond_false] at hv ⊢
    rw [yT hnS] at hv ⊢
    cases ht : fA ops.toList i with
    | true =>
     rw [ht] at hv
     simp only [cond_true] at hv ⊢
     obtain ⟨e1,q1,q2,q3⟩:=kC (o :: l) hk0 ha hv
     exact ⟨e1,q1,fun B hb => q2 B (hB B hb),q3⟩
    | false =>
     rw [ht] at hv
     simp only [cond_false] at hv ⊢
     obtain ⟨p,h1,h2⟩:=Option.bind_eq_some_iff.1 hv
     rw [h1]
     simp only [Option.bind_some]
     cases hb : Nat.beq p.2.low h.next with
     | true =>
      rw [hb] at h2
      exact go p.1 _ h2
     | false =>
      rw [hb] at h2
      exact hF r h2
  | false =>
   rw [hw] at hv
   exact go undef h hv
def sR (R A' : Nat) (e e' : Tr Value) (o : Option (Ex × Tr Value × AH)) (r : Ex × Tr Value × AH) : Prop :=
 ∃ e1,o = some (r.1,e1,r.2.2) ∧ (∀ B,eC B e e' → eC B e1 r.2.1) ∧ (r.1 = .normal → eC A' e1 r.2.1) ∧ (r.1 = .ret → eC R e1 r.2.1)
theorem kD {R A A' : Nat} {step : Tr Value → AH → Option (Ex × Tr Value × AH)}
  (hs : ∀ (e e' : Tr Value) (h : AH) (r : Ex × Tr Value × AH),eC A e e' → step e' h = some r → sR R A' e e' (step e h) r) :
  ∀ (m : Nat) {e e' : Tr Value} {h : AH} {r : Ex × Tr Value × AH},eC A e e' → gu step m e' h = some r → r.1 ≠ .normal ∧ sR R A' e e' (gu step m e h) r
 | 0,_,_,_,_,_,hv => by cases hv
 | m + 1,e,e',h,r,ha,hv => by
  rw [lq] at hv
  obtain ⟨q,h1,h2⟩:=Option.bind_eq_some_iff.1 hv
  obtain ⟨e1,g1,g2,g3,g4⟩:=hs _ _ _ _ ha h1
  rw [lq,g1]
  obtain ⟨x,eq,hq⟩:=q
  cases x with
  | normal =>
   obtain ⟨n1,e2,q1,q2,q3,q4⟩:=kD hs m (g2 A ha) h2
   exact ⟨n1,e2,q1,fun B hB => q2 B (g2 B hB),q3,q4⟩
  | exit j =>
   have h2 : some (Ex.exit j,eq,hq) = some r:=h2
   injection h2 with h2
   subst h2
   exact ⟨fun h => (by cases h),e1,rfl,g2,fun h => (by cases h),g4⟩
  | ret =>
   have h2 : some (Ex.ret,eq,hq) = some r:=h2
   injection h2 with h2
   subst h2
   exact ⟨fun h => (by cases h),e1,rfl,g2,fun h => (by cases h),g4⟩
theorem ee {R : Nat} : ∀ (c : Code) {A A' : Nat} {e e' : Tr Value} {h : AH} {r : Ex × Tr Value × AH},vp R c A = some A' → eC A e e' → cu P cf k c e' h = some r → sR R A' e e' (cu P cf k c e h) r
 | .skip,A,A',e,e',h,r,hk,ha,hv => by
  injection hk with hk
  have hv : some (Ex.normal,e',h) = some r:=hv
  injection hv with hv
  subst hv
  subst hk
  exact ⟨e,rfl,fun _ h => h,fun _ => ha,fun h => (by cases h)⟩
 | .region id ops d,A,A',e,e',h,r,hk,ha,hv => by
  have hk0 : cond (!d || HA ops.toList) (jz ops ops.toList A) none = some A':=hk
  clear hk
  obtain ⟨hnS,hk⟩:=ah hk0
  have hv : (cond d (bI P cf ops (fk P cf ops e' h) 0 ops.toList e' h) (cz P cf ops ops.toList e' h)).map (fun r => (Ex.normal,r.1,r.2)) = some r:=hv
  obtain ⟨q,h1,h2⟩:=Option.map_eq_some_iff.1 hv
  subst h2
  show sR R A' e e' ((cond d (bI P cf ops (fk P cf ops e h) 0 ops.toList e h) (cz P cf ops ops.toList e h)).map (fun r => (Ex.normal,r.1,r.2))) _
  have key : ∃ e1,cond d (bI P cf ops (fk P cf ops e h) 0 ops.toList e h) (cz P cf ops ops.toList e h) = some (e1,q.2) ∧ (∀ B,eC B e e' → eC B e1 q.1) ∧ eC A' e1 q.1:=by
   cases d with
   | true => exact pO hnS (yU hk ha) _ hk ha (fun _ h => h) h1
   | false => exact kC _ hk ha h1
  obtain ⟨e1,g1,g2,g3⟩:=key
  rw [g1]
  exact ⟨e1,rfl,g2,fun _ => g3,fun h => (by cases h)⟩
 | .seq a b,A,A',e,e',h,r,hk,ha,hv => by
  obtain ⟨A1,hk1,hk2⟩:=Option.bind_eq_some_iff.1 hk
  have hv : ((cu P cf k a e' h).bind fun r => match r.1 with
   | .normal => cu P cf k b r.2.1 r.2.2
   | _ => some r) = some r:=hv
  obtain ⟨⟨x,eq,hq⟩,h1,h2⟩:=Option.bind_eq_some_iff.1 hv
  obtain ⟨e1,g1,g2,g3,g4⟩:=ee a hk1 ha h1
  show sR R A' e e' ((cu P cf k a e h).bind fun r => match r.1 with
   | .normal => cu P cf k b r.2.1 r.2.2
   | _ => some r) _
  rw [g1]
  cases x with
  | normal =>
   obtain ⟨e2,q1,q2,q3,q4⟩:=ee b hk2 (g3 rfl) h2
   exact ⟨e2,q1,fun B hB => q2 B (g2 B hB),q3,q4⟩
  | exit j =>
   have h2 : some (Ex.exit j,eq,hq) = some r:=h2
   injection h2 with h2
   subst h2
   exact ⟨e1,rfl,g2,fun h => (by cases h),g4⟩
  | ret =>
   have h2 : some (Ex.ret,eq,hq) = some r:=h2
   injection h2 with h2
   subst h2
   exact ⟨e1,rfl,g2,fun h => (by cases h),g4⟩
 | .cond c x y,A,A',e,e',h,r,hk,ha,hv => by
  obtain ⟨hc,hk⟩:=ah hk
  obtain ⟨a1,hx,hk⟩:=Option.bind_eq_some_iff.1 hk
  obtain ⟨b1,hy,hk⟩:=Option.map_eq_some_iff.1 hk
  subst hk
  have hv : (match ev e' c with
   | .bool t => cond t (cu P cf k x e' h) (cu P cf k y e' h)
   | _ => none) = some r:=hv
  show sR R _ e e' (match ev e c with
   | .bool t => cond t (cu P cf k x e h) (cu P cf k y e h)
   | _ => none) r
  rw [qT ha hc]
  split at hv
  ·rename_i t _
   cases t with
   | true =>
    obtain ⟨e1,g1,g2,g3,g4⟩:=ee x hx ha hv
    exact ⟨e1,g1,g2,fun h => wF (g3 h),g4⟩
   | false =>
    obtain ⟨e1,g1,g2,g3,g4⟩:=ee y hy ha hv
    exact ⟨e1,g1,g2,fun h => nY (g3 h),g4⟩
  ·cases hv
 | .block id c,A,A',e,e',h,r,hk,ha,hv => by
  obtain ⟨a1,hx,hk⟩:=Option.map_eq_some_iff.1 hk
  subst hk
  have hv : ((cu P cf k c e' h).bind fun r => match r.1 with
   | .exit j => cond (Nat.beq j id) (some (.normal,r.2.1,r.2.2)) (some r)
   | _ => some r) = some r:=hv
  obtain ⟨⟨x,eq,hq⟩,h1,h2⟩:=Option.bind_eq_some_iff.1 hv
  obtain ⟨e1,g1,g2,g3,g4⟩:=ee c hx ha h1
  show sR R _ e e' ((cu P cf k c e h).bind fun r => match r.1 with
   | .exit j => cond (Nat.beq j id) (some (.normal,r.2.1,r.2.2)) (some r)
   | _ => some r) r
  rw [g1]
  cases x with
  | normal =>
   have h2 : some (Ex.normal,eq,hq) = some r:=h2
   injection h2 with h2
   subst h2
   exact ⟨e1,rfl,g2,fun _ => g2 _ ha,g4⟩
  | exit j =>
   have h2 : cond (Nat.beq j id) (some (Ex.normal,eq,hq)) (some (Ex.exit j,eq,hq)) = some r:=h2
   show sR R _ e e' (cond (Nat.beq j id) (some (Ex.normal,e1,hq)) (some (Ex.exit j,e1,hq))) r
   cases hj : Nat.beq j id with
   | true =>
    rw [hj] at h2
    injection h2 with h2
    subst h2
    exact ⟨e1,rfl,g2,fun _ => g2 _ ha,fun h => (by cases h)⟩
   | false =>
    rw [hj] at h2
    injection h2 with h2
    subst h2
    exact ⟨e1,rfl,g2,fun _ => g2 _ ha,fun h => (by cases h)⟩
  | ret =>
   have h2 : some (Ex.ret,eq,hq) = some r:=h2
   injection h2 with h2
   subst h2
   exact ⟨e1,rfl,g2,fun h => (by cases h),g4⟩
 | .loop c,A,A',e,e',h,r,hk,ha,hv => by
  obtain ⟨a1,hx,hk⟩:=Option.map_eq_some_iff.1 hk
  obtain ⟨n1,e1,g1,g2,g3,g4⟩:=kD (step:=cu P cf k c) (A:=A) (R:=R) (A':=a1) (fun e e' h r ha hv => ee c hx ha hv) k ha hv
  exact ⟨e1,g1,g2,fun h => absurd h n1,g4⟩
 | .exit id,A,A',e,e',h,r,hk,ha,hv => by
  have hv : some (Ex.exit id,e',h) = some r:=hv
  injection hv with hv
  subst hv
  exact ⟨e,rfl,fun _ h => h,fun h => (by cases h),fun h => (by cases h)⟩
 | .ret,A,A',e,e',h,r,hk,ha,hv => by
  obtain ⟨hc,hk⟩:=ah hk
  have hv : some (Ex.ret,e',h) = some r:=hv
  injection hv with hv
  subst hv
  exact ⟨e,rfl,fun _ h => h,fun h => (by cases h),fun _ => wG ha hc⟩
 | .rangeFunc ..,_,_,_,_,_,_,hk,_,_ => by cases hk
 | .scope _,_,_,_,_,_,_,hk,_,_ => by cases hk
 | .label _,_,_,_,_,_,_,hk,_,_ => by cases hk
 | .goto _,_,_,_,_,_,_,hk,_,_ => by cases hk
 | .refuse _,_,_,_,_,_,_,hk,_,_ => by cases hk
def Jf (R A X : Nat) (e e' : Tr Value) : Ex → Prop
 | .normal => eC A e e'
 | .exit _ => eC X e e'
 | .ret => eC R e e'
theorem dH {R : Nat} : ∀ (fr : List Fy) {A X : Nat} {x : Ex} {e e' : Tr Value} {h : AH} {r : Ex × Tr Value × AH},CO R fr A X = true → Jf R A X e e' x → eC X e e' → cL P cf k fr x e' h = some r →
  ∃ e1,cL P cf k fr x e h = some (r.1,e1,r.2.2) ∧ ((∀ j,r.1 ≠ .exit j) → eC R e1 r.2.1)
 | [],A,X,x,e,e',h,r,hk,ha,hX,hv => by
  have hv : some (x,e',h) = some r:=hv
  injection hv with hv
  subst hv
  refine ⟨e,rfl,fun hx => ?_⟩
  cases x with
  | normal => exact wG ha hk
  | exit j => exact absurd rfl (hx j)
  | ret => exact ha
 | .seq b p :: fr,A,X,x,e,e',h,r,hk,ha,hX,hv => by
  have hk : (match vp R b A with
   | some A => CO R fr A X
   | none => false) = true:=hk
  cases x with
  | normal =>
   have hv : ((cu P cf k b e' h).bind fun r => cL P cf k fr r.1 r.2.1 r.2.2) = some r:=hv
   obtain ⟨q,h1,h2⟩:=Option.bind_eq_some_iff.1 hv
   split at hk
   ·rename_i A1 hb
    obtain ⟨e1,g1,g2,g3,g4⟩:=ee b hb ha h1
    show ∃ e1,((cu P cf k b e h).bind fun r => cL P cf k fr r.1 r.2.1 r.2.2) = _ ∧ _
    rw [g1]
    refine dH fr hk ?_ (g2 _ hX) h2
    cases hx : q.1 with
    | normal => exact g3 hx
    | exit j => exact g2 _ hX
    | ret => exact g4 hx
   ·cases hk
  | exit j =>
   split at hk
   ·exact dH fr (x:=.exit j) hk ha hX hv
   ·cases hk
  | ret =>
   split at hk
   ·exact dH fr (x:=.ret) hk ha hX hv
   ·cases hk
 | .block id :: fr,A,X,x,e,e',h,r,hk,ha,hX,hv => by
  cases x with
  | normal => exact dH fr (x:=.normal) (A:=A &&& X) hk (wF ha) hX hv
  | exit j =>
   have hv : cond (Nat.beq j id) (cL P cf k fr .normal e' h) (cL P cf k fr (.exit j) e' h) = some r:=hv
   show ∃ e1,cond (Nat.beq j id) (cL P cf k fr .normal e h) (cL P cf k fr (.exit j) e h) = _ ∧ _
   cases hj : Nat.beq j id with
   | true =>
    rw [hj] at hv
    exact dH fr (x:=.normal) (A:=A &&& X) hk (nY ha) hX hv
   | false =>
    rw [hj] at hv
    exact dH fr (x:=.exit j) (A:=A &&& X) hk ha hX hv
  | ret => exact dH fr (x:=.ret) (A:=A &&& X) hk ha hX hv
 | .loop c p m :: fr,A,X,x,e,e',h,r,hk,ha,hX,hv => by
  have hk : ((vp R c A).isSome && CO R fr Dy X) = true:=hk
  rw [Bool.and_eq_true] at hk
  obtain ⟨A1,hc⟩:=Option.isSome_iff_exists.1 hk.1
  cases x with
  | normal =>
   have hv : ((gu (cu P cf k c) m e' h).bind fun r => cL P cf k fr r.1 r.2.1 r.2.2) = some r:=hv
   obtain ⟨q,h1,h2⟩:=Option.bind_eq_some_iff.1 hv
   obtain ⟨n1,e1,g1,g2,g3,g4⟩:=kD (step:=cu P cf k c) (A:=A) (R:=R) (A':=A1) (fun e e' h r ha hv => ee c hc ha hv) m ha h1
   show ∃ e1,((gu (cu P cf k c) m e h).bind fun r => cL P cf k fr r.1 r.2.1 r.2.2) = _ ∧ _
   rw [g1]
   refine dH fr hk.2 ?_ (g2 _ hX) h2
   cases hx : q.1 with
   | normal => exact absurd hx n1
   | exit j => exact g2 _ hX
   | ret => exact g4 hx
  | exit j =>
   have ha' : eC X e e':=ha
   exact dH fr (x:=.exit j) (A:=Dy) hk.2 ha' hX hv
  | ret =>
   have ha' : eC R e e':=ha
   exact dH fr (x:=.ret) (A:=Dy) hk.2 ha' hX hv
theorem eB : ∀ (l : List ResultVar) (t : Tmp),(.tmp t ∈ l ∨ ∃ ty,.cell t ty ∈ l) → (cO l).testBit t = true
 | [],t,h => by
  rcases h with h | ⟨_,h⟩ <;> cases h
 | .tmp s :: l,t,h => by
  show (cO l ||| 2 ^ s).testBit t = true
  rw [dE,Bool.or_eq_true]
  rcases h with h | ⟨ty,h⟩
  ·rcases List.mem_cons.1 h with h | h
   ·injection h with h
    exact .inr (decide_eq_true h.symm)
   ·exact .inl (eB l t (.inl h))
  ·rcases List.mem_cons.1 h with h | h
   ·cases h
   ·exact .inl (eB l t (.inr ⟨ty,h⟩))
 | .cell s _ :: l,t,h => by
  show (cO l ||| 2 ^ s).testBit t = true
  rw [dE,Bool.or_eq_true]
  rcases h with h | ⟨ty,h⟩
  ·rcases List.mem_cons.1 h with h | h
   ·cases h
   ·exact .inl (eB l t (.inl h))
  ·rcases List.mem_cons.1 h with h | h
   ·injection h with h
    exact .inr (decide_eq_true h.symm)
   ·exact .inl (eB l t (.inr ⟨ty,h⟩))
theorem jg {e e' : Tr Value} {h : AH} : ∀ (l : List ResultVar),eC (cO l) e e' → cQ P e h l = cQ P e' h l
 | [],_ => rfl
 | .tmp t :: l,ha => by
  show (some ((e.get t).getD undef)).bind (fun v => (cQ P e h l).bind fun vs => some (v :: vs)) = (some ((e'.get t).getD undef)).bind (fun v => (cQ P e' h l).bind fun vs => some (v :: vs))
  rw [ha t (eB _ _ (.inl (List.mem_cons_self ..))),jg l (fN ha fun t ht => by
   show (cO l ||| 2 ^ _).testBit t = true
   rw [dE,ht]
   rfl)]
 | .cell t ty :: l,ha => by
  show (cK P ty ((e.get t).getD undef) h).bind (fun v => (cQ P e h l).bind fun vs => some (v :: vs)) = (cK P ty ((e'.get t).getD undef) h).bind (fun v => (cQ P e' h l).bind fun vs => some (v :: vs))
  rw [ha t (eB _ _ (.inr ⟨ty,List.mem_cons_self ..⟩)),jg l (fN ha fun t ht => by
   show (cO l ||| 2 ^ _).testBit t = true
   rw [dE,ht]
   rfl)]
theorem Am {fn : Func} {h0 : AH} {x : Ex} {e e' : Tr Value} {h : AH} (ha : (∀ j,x ≠ .exit j) → eC (cO fn.results.toList) e e') : sN P fn h0 x e h = sN P fn h0 x e' h:=by
 cases x with
 | exit j => rfl
 | normal =>
  unfold sN
  simp only [jg _ (ha fun j h => (by cases h))]
 | ret =>
  unfold sN
  simp only [jg _ (ha fun j h => (by cases h))]
theorem An {n : Nat} {fn : Func} {h0 : AH} {x : Ny} {fr : List Fy} {A : Nat} {e e' : Tr Value} {h : AH} {r : Value × AH} (hk : Ku (cO fn.results.toList) A x fr = true) (ha : eC A e e')
  (hv : df P cf n fn h0 x fr e' h = some r) : df P cf n fn h0 x fr e h = some r:=by
 unfold df at hv ⊢
 obtain ⟨q,h1,h2⟩:=Option.bind_eq_some_iff.1 hv
 have key : ∃ e1,Ai P cf n x fr e h = some (q.1,e1,q.2.2) ∧ ((∀ j,q.1 ≠ .exit j) → eC (cO fn.results.toList) e1 q.2.1):=by
  have code : ∀ (c : Code),(match vp (cO fn.results.toList) c A with
    | some A' => CO (cO fn.results.toList) fr A' A
    | none => false) = true → ((cu P cf n c e' h).bind fun r => cL P cf n fr r.1 r.2.1 r.2.2) = some q →
    ∃ e1,((cu P cf n c e h).bind fun r => cL P cf n fr r.1 r.2.1 r.2.2) = some (q.1,e1,q.2.2) ∧ ((∀ j,q.1 ≠ .exit j) → eC (cO fn.results.toList) e1 q.2.1):=fun c hk h1 => by
   obtain ⟨p,g1,g2⟩:=Option.bind_eq_some_iff.1 h1
   split at hk
   ·rename_i A1 hb
    obtain ⟨e1,q1,q2,q3,q4⟩:=ee c hb ha g1
    rw [q1]
    refine dH fr hk ?_ (q2 _ ha) g2
    cases hx : p.1 with
    | normal => exact q3 hx
    | exit j => exact q2 _ ha
    | ret => exact q4 hx
   ·cases hk
  cases x with
  | code c p => exact code c hk h1
  | raw c p => exact code c hk h1
  | head c p m =>
   have hk : ((vp (cO fn.results.toList) c A).isSome && CO (cO fn.results.toList) fr Dy A) = true:=hk
   rw [Bool.and_eq_true] at hk
   obtain ⟨A1,hc⟩:=Option.isSome_iff_exists.1 hk.1
   have h1 : ((gu (cu P cf n c) m e' h).bind fun r => cL P cf n fr r.1 r.2.1 r.2.2) = some q:=h1
   obtain ⟨p,g1,g2⟩:=Option.bind_eq_some_iff.1 h1
   obtain ⟨n1,e1,q1,q2,q3,q4⟩:=kD (step:=cu P cf n c) (A:=A) (R:=cO fn.results.toList) (A':=A1) (fun e e' h r ha hv => ee c hc ha hv) m ha g1
   show ∃ e1,((gu (cu P cf n c) m e h).bind fun r => cL P cf n fr r.1 r.2.1 r.2.2) = _ ∧ _
   rw [q1]
   refine dH fr hk.2 ?_ (q2 _ ha) g2
   cases hx : p.1 with
   | normal => exact absurd hx n1
   | exit j => exact q2 _ ha
   | ret => exact q4 hx
  | ends x => cases hk
 obtain ⟨e1,g1,g2⟩:=key
 rw [g1]
 show sN P fn h0 q.1 e1 q.2.2 = some r
 rw [Am g2]
 exact h2
theorem HJ (l : List (Nat × Value)) (t : Nat) : (E l).get t = (l.find? fun p => p.1 == t).map (·.2):=by
 induction l with
 | nil => exact Tr.get_nil _
 | cons p l ih =>
  show ((E l).set p.1 p.2).get t = _
  rw [Tr.get_set,List.find?_cons,ih]
  by_cases hp : t = p.1
  ·rw [if_pos hp,show (p.1 == t) = true from beq_iff_eq.2 hp.symm]
   rfl
  ·rw [if_neg hp,show (p.1 == t) = false from beq_eq_false_iff_ne.2 fun h => hp h.symm]
theorem jh (e : Tr Value) (t : Nat) : ∀ (L : List Nat),t ∈ L → ((keep e L).find? fun p => p.1 == t).map (·.2) = e.get t
 | i :: L,h => by
  by_cases hi : i = t
  ·subst hi
   unfold keep
   cases he : e.get i with
   | some v =>
    rw [List.find?_cons,show ((i,v).1 == i) = true from beq_iff_eq.2 rfl]
    rfl
   | none =>
    simp only
    by_cases hL : i ∈ L
    ·rw [jh e i L hL,he]
    ·have : ∀ (L : List Nat),i ∉ L → (keep e L).find? (fun p => p.1 == i) = none:=by
      intro L
      induction L with
      | nil => exact fun _ => rfl
      | cons j L ih =>
       intro hn
       have hj : j ≠ i:=fun h => hn (h ▸ List.mem_cons_self ..)
       have ih:=ih fun h => hn (List.mem_cons_of_mem _ h)
       unfold keep
       split
       ·rw [List.find?_cons,show (j == i) = false from beq_eq_false_iff_ne.2 hj]
        exact ih
       ·exact ih
     rw [this L hL]
     rfl
  ·have hL : t ∈ L:=(List.mem_cons.1 h).resolve_left fun h => hi h.symm
   unfold keep
   split
   ·rw [List.find?_cons,show (i == t) = false from beq_eq_false_iff_ne.2 hi]
    exact jh e t L hL
   ·exact jh e t L hL
theorem ob : ∀ (L : List Nat) (t : Nat),(nV L).testBit t = true → t ∈ L
 | [],t,h => by
  rw [show nV [] = 0 from rfl,Nat.zero_testBit] at h
  cases h
 | i :: L,t,h => by
  have h : (nV L ||| 2 ^ i).testBit t = true:=h
  rw [dE,Bool.or_eq_true] at h
  rcases h with h | h
  ·exact List.mem_cons_of_mem _ (ob L t h)
  ·exact (of_decide_eq_true h) ▸ List.mem_cons_self ..
theorem qU {n : Nat} {fn : Func} {h0 : AH} {L : List Nat} {x : Ny} {fr : List Fy} {e : Tr Value} {h : AH} {r : Value × AH} (hv : vx fn (df P cf n fn h0) L x fr e h = some r) : df P cf n fn h0 x fr e h = some r:=by
 obtain ⟨hk,hv⟩:=ah hv
 refine An hk (fun t ht => ?_) hv
 rw [HJ,jh e t L (ob L t ht)]
variable {P : Program} {ρ : Type} {r : ρ} {cf : FuncId → List Value → AH → Option (Value × AH)}
theorem oc {t : TypeId} {o : Option Value} {K : Value → Option ρ} (hv : sO P t o K = some r) : ∃ v,o = some v ∧ K v = some r:=by
 unfold sO at hv
 split at hv
 ·obtain ⟨n,hn,hk⟩:=Option.bind_eq_some_iff.1 hv
  obtain ⟨v,h1,h2⟩:=Option.bind_eq_some_iff.1 hn
  exact ⟨_,by rw [h1,wy h2],hk⟩
 ·obtain ⟨n,hn,hk⟩:=Option.bind_eq_some_iff.1 hv
  obtain ⟨v,h1,h2⟩:=Option.bind_eq_some_iff.1 hn
  exact ⟨_,by rw [h1,sI h2],hk⟩
 ·obtain ⟨n,hn,hk⟩:=Option.bind_eq_some_iff.1 hv
  obtain ⟨v,h1,h2⟩:=Option.bind_eq_some_iff.1 hn
  exact ⟨_,by rw [h1,wz h2],hk⟩
 ·obtain ⟨n,hn,hk⟩:=Option.bind_eq_some_iff.1 hv
  obtain ⟨v,h1,h2⟩:=Option.bind_eq_some_iff.1 hn
  exact ⟨_,by rw [h1,vl h2],hk⟩
 ·obtain ⟨n,hn,hk⟩:=Option.bind_eq_some_iff.1 hv
  obtain ⟨v,h1,h2⟩:=Option.bind_eq_some_iff.1 hn
  exact ⟨_,by rw [h1,wA h2],hk⟩
 ·exact Option.bind_eq_some_iff.1 hv
theorem od {rd : Nat → Option Value} : ∀ (ts : List TypeId) (i : Nat) {K : List Value → Option ρ},wD P rd ts i K = some r → ∃ l : List Value,l.length = ts.length ∧ (∀ j x,l[j]? = some x → rd (i + j) = some x) ∧ K l = some r
 | [],i,K,hv => ⟨[],rfl,fun _ _ h => (by cases h),hv⟩
 | t :: ts,i,K,hv => by
  obtain ⟨v,h1,hv⟩:=oc hv
  obtain ⟨l,h2,h3,h4⟩:=od ts (i + 1) hv
  refine ⟨v :: l,congrArg Nat.succ h2,fun j x hx => ?_,h4⟩
  cases j with
  | zero =>
   injection hx with hx
   subst hx
   exact h1
  | succ j =>
   rw [show i + (j + 1) = i + 1 + j by omega]
   exact h3 j x hx
theorem sS {l m : List Value} (hl : l.length = m.length) (h : ∀ j x,l[j]? = some x → m[0 + j]? = some x) : l = m:=by
 apply List.ext_getElem?
 intro i
 cases hi : l[i]? with
 | some x =>
  have:=h i x hi
  rw [Nat.zero_add] at this
  exact this.symm
 | none =>
  have:=List.getElem?_eq_none_iff.1 hi
  exact (List.getElem?_eq_none (by omega)).symm
theorem pP {t : TypeId} {o : Option Value} {K : Value → Option ρ} (hv : qQ P t o K = some r) : ∃ v,o = some v ∧ K v = some r:=by
 unfold qQ at hv
 obtain ⟨ag,_,hv⟩:=Option.bind_eq_some_iff.1 hv
 cases ag with
 | false => exact oc hv
 | true =>
  obtain ⟨v,hv0,hv⟩:=Option.bind_eq_some_iff.1 hv
  obtain ⟨ts,_,hv⟩:=Option.bind_eq_some_iff.1 hv
  obtain ⟨hc,hv⟩:=ah hv
  obtain ⟨l,h2,h3,h4⟩:=od ts 0 hv
  obtain ⟨cs,rfl,hc⟩:=sJ hc
  have e : l = cs.toList:=sS (by omega) h3
  rw [e] at h4
  exact ⟨_,hv0,h4⟩
theorem oe {v : Value} : ∀ (ts : List TypeId) (i : Nat) {K : List Value → Option ρ},qR P v ts i K = some r → ∃ l : List Value,l.length = ts.length ∧ (∀ j x,l[j]? = some x → mi (i + j) v = some x) ∧ K l = some r
 | [],i,K,hv => ⟨[],rfl,fun _ _ h => (by cases h),hv⟩
 | t :: ts,i,K,hv => by
  obtain ⟨x,h1,hv⟩:=pP hv
  obtain ⟨l,h2,h3,h4⟩:=oe ts (i + 1) hv
  refine ⟨x :: l,congrArg Nat.succ h2,fun j y hy => ?_,h4⟩
  cases j with
  | zero =>
   injection hy with hy
   subst hy
   exact h1
  | succ j =>
   rw [show i + (j + 1) = i + 1 + j by omega]
   exact h3 j y hy
theorem yV {ts : List TypeId} {v : Value} {K : Value → Option ρ} (hv : vq P ts v K = some r) : K v = some r:=by
 unfold vq at hv
 split at hv
 ·exact hv
 ·obtain ⟨x,h1,h2⟩:=pP hv
  injection h1 with h1
  rwa [h1]
 ·obtain ⟨hc,hv⟩:=ah hv
  obtain ⟨l,h2,h3,h4⟩:=oe _ 0 hv
  obtain ⟨cs,rfl,hc⟩:=sK hc
  have e : l = cs.toList:=sS (by omega) h3
  rw [e] at h4
  exact h4
theorem sU {t : TypeId} {x : Value} {h : AH} {K : Value → Option ρ} (hv : sP P t x h K = some r) : ∃ v,cK P t x h = some v ∧ K v = some r:=by
 have hp : ∃ a,x = .pointer a:=by
  cases x <;> first | (cases hv; done) | exact ⟨_,rfl⟩
 obtain ⟨a,rfl⟩:=hp
 unfold sP at hv
 simp only at hv
 ·obtain ⟨ad,had,hv1⟩:=Option.bind_eq_some_iff.1 hv
  clear hv
  obtain ⟨ag,hag,hv⟩:=Option.bind_eq_some_iff.1 hv1
  clear hv1
  subst had
  cases ag with
  | false =>
   obtain ⟨v,hv1,hv⟩:=oc hv
   obtain ⟨hs,b,h1,h2⟩:=il hv1
   refine ⟨v,?_,hv⟩
   unfold cK
   simp only [h1,Option.bind_some,hs]
   unfold dw
   rw [hag]
   exact h2
  | true =>
   obtain ⟨ts,_,hv⟩:=Option.bind_eq_some_iff.1 hv
   obtain ⟨hc,hv⟩:=ah hv
   rw [Bool.and_eq_true] at hc
   have hsz:=of_decide_eq_true hc.1
   obtain ⟨l,h2,h3,h4⟩:=od ts 0 hv
   have hne : ts.length ≠ 0:=fun e => by
    rw [e] at hc
    cases hc.2
   have hl0 : 0 < l.length:=by omega
   obtain ⟨hs,b,h1,_⟩:=il (h3 0 _ (List.getElem?_eq_getElem hl0))
   have hall : ∀ j x,l[j]? = some x → b.cells[ad.off + j]? = some x:=fun j x hx => by
    obtain ⟨_,b',h1',h5⟩:=il (h3 j x hx)
    rw [h1] at h1'
    injection h1' with h1'
    subst h1'
    rwa [Nat.zero_add] at h5
   refine ⟨.agg l.toArray,?_,h4⟩
   unfold cK
   simp only [h1,Option.bind_some,hs]
   unfold dw
   rw [hag]
   simp only [Option.bind_some,cond_true,hsz]
   have hfit : ad.off + l.length ≤ b.cells.length:=by
    have:=(List.getElem?_eq_some_iff.1 (hall (l.length - 1) _ (List.getElem?_eq_getElem (by omega)))).1
    omega
   have e : cj b.cells ad.off ts.length = some l:=by
    unfold cj
    rw [← h2,Nat.ble_eq_true_of_le hfit]
    refine congrArg some ?_
    apply List.ext_getElem?
    intro i
    rw [List.getElem?_take]
    split
    ·rename_i hi
     rw [List.getElem?_drop,hall i _ (List.getElem?_eq_getElem hi)]
     exact (List.getElem?_eq_getElem hi).symm
    ·exact (List.getElem?_eq_none (by omega)).symm
   rw [e]
   rfl
theorem yW {t : TypeId} {x v : Value} {h : AH} {K : AH → Option ρ} (hv : qS P t x v h K = some r) : ∃ h',dY P t x v h = some h' ∧ K h' = some r:=by
 unfold qS at hv
 split at hv
 ·obtain ⟨ad,had,hv1⟩:=Option.bind_eq_some_iff.1 hv
  obtain ⟨s,hs,hv2⟩:=Option.bind_eq_some_iff.1 hv1
  obtain ⟨vs,hvs,hv3⟩:=Option.bind_eq_some_iff.1 hv2
  obtain ⟨hl,hv4⟩:=ah hv3
  obtain ⟨h',h1,h2⟩:=Option.bind_eq_some_iff.1 hv4
  subst had
  refine ⟨h',?_,h2⟩
  unfold di at h1
  split at h1
  ·rename_i hsp
   obtain ⟨b,hb,h3⟩:=Option.bind_eq_some_iff.1 h1
   have hl':=Nat.eq_of_beq_eq_true hl
   unfold dY
   simp only [hb,hs,hvs,Option.bind_some,hsp,hl,Bool.true_and]
   rw [← hl']
   exact h3
  ·cases h1
 ·cases hv
theorem DE {op : BinOp} {t : TypeId} {x y : Value} {K : Value → Option ρ} (hv : DA P op t x y K = some r) : ∃ v,kP P op t x y = some v ∧ K v = some r:=by
 unfold DA at hv
 split at hv
 ·rename_i k a k' b
  obtain ⟨hc,hv⟩:=ah hv
  rw [Dw] at hv
  refine qN (t:=t) (K:=K) ?_
  show cond (decide (k = k')) (Dr .mul k a b K) none = some r
  rw [hc]
  exact hv
 ·exact qN hv
theorem qV {o : Op} {ty : TypeId} {e : Tr Value} {h : AH} {K : Value → AH → Option ρ} (hv : HH P cf cJ o ty e h K = some r) : ∃ v h',bY P cf o e h = some (v,h') ∧ K v h' = some r:=by
 cases o with
 | alloc t =>
  obtain ⟨z,hz,hv1⟩:=Option.bind_eq_some_iff.1 hv
  obtain ⟨vs,hvs,hv2⟩:=Option.bind_eq_some_iff.1 hv1
  obtain ⟨hp,hv3⟩:=ah hv2
  refine ⟨_,_,?_,hv3⟩
  unfold bY
  simp only [hz,hvs,Option.bind_some,hp,cond_true]
  rfl
 | box t x =>
  obtain ⟨vs,hvs,hv2⟩:=Option.bind_eq_some_iff.1 hv
  refine ⟨_,_,?_,hv2⟩
  unfold bY
  simp only [hvs,Option.bind_some]
  rfl
 | buildSlice t n ps =>
  obtain ⟨d,hd,hv1⟩:=Option.bind_eq_some_iff.1 hv
  clear hv
  cases d with
  | slice el =>
   obtain ⟨s,hs,hv2⟩:=Option.bind_eq_some_iff.1 hv1
   clear hv1
   obtain ⟨z,hz,hv3⟩:=Option.bind_eq_some_iff.1 hv2
   clear hv2
   obtain ⟨zs,hzs,hv4⟩:=Option.bind_eq_some_iff.1 hv3
   clear hv3
   obtain ⟨hc,hv5⟩:=ah hv4
   clear hv4
   obtain ⟨cs,hcs,hv6⟩:=Option.bind_eq_some_iff.1 hv5
   refine ⟨_,_,?_,hv6⟩
   unfold bY
   simp only [hd,hs,hz,hzs,Option.bind_some,hc,cond_true,hcs,Option.map_some]
   rfl
  | _ => cases hv1
 | makeSlice t nn cc =>
  obtain ⟨d,hd,hv1⟩:=Option.bind_eq_some_iff.1 hv
  clear hv
  split at hv1
  ·rename_i _ _ el n c hn hc
   obtain ⟨s,hs,hv2⟩:=Option.bind_eq_some_iff.1 hv1
   clear hv1
   obtain ⟨z,hz,hv3⟩:=Option.bind_eq_some_iff.1 hv2
   clear hv2
   obtain ⟨b,hb,hv4⟩:=Option.bind_eq_some_iff.1 hv3
   clear hv3
   obtain ⟨zs,hzs,hv5⟩:=Option.bind_eq_some_iff.1 hv4
   clear hv4
   obtain ⟨hq,hv6⟩:=ah hv5
   clear hv5
   obtain ⟨hr,hv7⟩:=ah hv6
   clear hv6
   rw [Bool.and_eq_true] at hq hr
   rw [Bool.and_eq_true] at hr
   rw [Bool.and_eq_true] at hr
   obtain ⟨r1,r2,r3,r4⟩:=hr
   have r1 : decide (0 ≤ n) = true:=r1
   have r2 : decide (n ≤ c) = true:=r2
   have r3 : decide (c * (b : Int) ≤ 140737488355328) = true:=r3
   have r4 : decide (c < 9223372036854775808) = true:=r4
   refine ⟨_,_,?_,hv7⟩
   unfold bY
   simp only [hd,hn,hc,Option.bind_some,hs,hz,hb,hzs,r1,r2,r3,r4,hq.1,hq.2,Bool.and_true,Bool.true_and,cond_true]
   rfl
  ·cases hv1
 | binOp op t x y yt =>
  have hv' : DA P op t (ev e x) (ev e y) (fun v => K v h) = some r:=hv
  obtain ⟨v,h1,h2⟩:=DE hv'
  exact ⟨v,h,congrArg (fun o => o.map fun v => (v,h)) h1,h2⟩
 | load t x =>
  have hv' : sP P t (ev e x) h (fun v => K v h) = some r:=hv
  obtain ⟨v,h1,h2⟩:=sU hv'
  exact ⟨v,h,congrArg (fun o => o.map fun v => (v,h)) h1,h2⟩
 | store t x v =>
  have hv' : qS P t (ev e x) (ev e v) h (fun h' => K undef h') = some r:=hv
  obtain ⟨h',h1,h2⟩:=yW hv'
  exact ⟨undef,h',congrArg (fun o => o.map fun h' => (undef,h')) h1,h2⟩
 | call c =>
  obtain ⟨callee,cargs,cts⟩:=c
  cases callee with
  | builtin b =>
   have hv' : nW P b cts.toList (cargs.toList.map (ev e)) h (IQ P cf (.call ⟨.builtin b,cargs,cts⟩) ty e h K) K = some r:=hv
   unfold nW at hv'
   clear hv
   split at hv'
   ·rename_i t u s x hts hargs
    obtain ⟨d,hd,hv1⟩:=Option.bind_eq_some_iff.1 hv'
    obtain ⟨d',hd',hv2⟩:=Option.bind_eq_some_iff.1 hv1
    clear hv' hv1
    split at hv2
    ·rename_i el el'
     obtain ⟨z,hz,hv3⟩:=Option.bind_eq_some_iff.1 hv2
     obtain ⟨b,hb,hv4⟩:=Option.bind_eq_some_iff.1 hv3
     obtain ⟨zz,hzz,hv5⟩:=Option.bind_eq_some_iff.1 hv4
     obtain ⟨zs,hzs,hv6⟩:=Option.bind_eq_some_iff.1 hv5
     clear hv2 hv3 hv4 hv5
     cases hc : (Nat.beq b 0 || !(Nat.beq zs.length z)) with
     | true =>
      rw [hc] at hv6
      cases hv6
     | false =>
      rw [hc] at hv6
      obtain ⟨p,hp,hv7⟩:=Option.bind_eq_some_iff.1 hv6
      unfold dg at hp
      obtain ⟨q,hq,hp2⟩:=Option.bind_eq_some_iff.1 hp
      obtain ⟨s',hs',hp3⟩:=Option.map_eq_some_iff.1 hp2
      subst hp3
      refine ⟨_,_,?_,hv7⟩
      show ct P .append cts.toList (cargs.toList.map (ev e)) h = _
      rw [hts,hargs]
      unfold ct
      rw [show qi .append = false from rfl,cond_false]
      unfold eD
      simp only [hd,hd',Option.bind_some,hz,hb,hzz,hzs,hc,cond_false,hq]
      rw [← vl hs']
    ·cases hv2
   ·exact Ae hv'
  | value f =>
   have hv' : vu P cf (ev e f) (cargs.toList.map (ev e)) h K = some r:=hv
   clear hv
   unfold bY
   simp only
   generalize ev e f = fv at hv'
   unfold vu at hv'
   split at hv'
   ·obtain ⟨p,h1,h2⟩:=Option.bind_eq_some_iff.1 hv'
    obtain ⟨fn,_,h3⟩:=Option.bind_eq_some_iff.1 h2
    exact ⟨p.1,p.2,by simp only [CT,h1],yV h3⟩
   ·cases hv'
  | invoke r m => cases hv
 | _ => exact Ae (ty:=ty) hv
theorem kE {ops : Array Oper} : ∀ (l : List Oper) {e : Tr Value} {h : AH} {K : Tr Value → AH → Option ρ},vv P cf cJ ops l e h K = some r → ∃ e' h',cz P cf ops l e h = some (e',h') ∧ K e' h' = some r
 | [],e,h,K,hv => ⟨e,h,rfl,hv⟩
 | o :: l,e,h,K,hv => by
  show ∃ e' h',cond (aY ops o e) ((bY P cf o.op e h).bind fun p => cz P cf ops l (aZ e o.dst p.1) p.2) (cz P cf ops l (aZ e o.dst undef) h) = some (e',h') ∧ _
  rcases nS hv with ⟨hw,hv1⟩ | ⟨hw,hv1⟩
  ·rw [hw]
   obtain ⟨v,h1,g1,g2⟩:=qV hv1
   obtain ⟨e',h',g3,g4⟩:=kE l g2
   exact ⟨e',h',by rw [g1]; exact g3,g4⟩
  ·rw [hw]
   exact kE l hv1
theorem og {ops : Array Oper} : ∀ (l : List Oper) {e : Tr Value} {h : AH} {H : List AH} {K : Tr Value → AH → List AH → Option ρ},wE P cf cJ ops l e h H K = some r → ∃ e' h' H',gD P cf ops l e h H = some (e',h',H') ∧ K e' h' H' = some r
 | [],e,h,H,K,hv => ⟨e,h,_,rfl,hv⟩
 | o :: l,e,h,H,K,hv => by
  show ∃ e' h' H',cond (aY ops o e) ((bY P cf o.op e h).bind fun p => gD P cf ops l (aZ e o.dst p.1) p.2 (H ++ [h])) (gD P cf ops l (aZ e o.dst undef) h (H ++ [h])) = some (e',h',H') ∧ _
  rcases nS hv with ⟨hw,hv1⟩ | ⟨hw,hv1⟩
  ·rw [hw]
   obtain ⟨v,h1,g1,g2⟩:=qV hv1
   obtain ⟨e',h',H',g3,g4⟩:=og l g2
   exact ⟨e',h',H',by rw [g1]; exact g3,g4⟩
  ·rw [hw]
   exact og l hv1
theorem Ao {ops : Array Oper} {e : Tr Value} {h : AH} {K : Tr Value → AH → Option ρ} (hv : Ak P cf cJ ops e h K = some r) : ∃ e' h',fk P cf ops e h = some (e',h') ∧ K e' h' = some r:=by
 obtain ⟨h1,hv⟩:=ah hv
 obtain ⟨e',h',H',h2,hv⟩:=og _ hv
 obtain ⟨h3,hv⟩:=ah hv
 refine ⟨e',h',?_,hv⟩
 unfold fk
 rw [h1,h2]
 show cond (me P ops.toList (cH ops.toList []) e' H' 0 ops.toList) (some (e',h')) none = _
 rw [h3]
 rfl
theorem qW {e : Tr Value} {h : AH} {a : Addr} {g m i : Nat} {A : Option ρ} (hg : (h.blks.get a.block).map (·.grp) = some g) : ∀ (l : List Oper) (x : Nat),vt e h a m i A x l = some r → oU e h g m i x l = true ∧ A = some r
 | [],x,hv => ⟨rfl,hv⟩
 | o :: l,x,hv => by
  unfold vt at hv
  unfold oU
  cases hb : (Nat.ble i x || gC m x) with
  | true =>
   rw [hb] at hv
   obtain ⟨q1,q2⟩:=qW hg l (x + 1) hv
   refine ⟨?_,q2⟩
   rw [← Bool.or_assoc,hb,q1]
   rfl
  | false =>
   rw [hb] at hv
   simp only [cond_false] at hv
   have key : vV e h g i x (o :: l) o.op = true ∧ vt e h a m i A (x + 1) l = some r:=by
    split at hv
    ·rename_i t hop
     obtain ⟨hn,hv⟩:=ah hv
     split at hv
     ·rename_i b hb2
      obtain ⟨ha,hv⟩:=ah hv
      refine ⟨?_,hv⟩
      rw [hop]
      unfold vV
      simp only [hn,Bool.true_and]
      unfold jT at ha
      obtain ⟨xb,hxb,hxg⟩:=Option.map_eq_some_iff.1 hg
      rw [hxb] at ha
      unfold iB
      rw [hb2]
      simp only
      cases hy : h.blks.get b.block with
      | none =>
       rw [hy] at ha
       cases ha
      | some y =>
       rw [hy] at ha
       rw [← hxg]
       exact ha
     ·cases hv
    ·rename_i hno
     refine ⟨?_,hv⟩
     unfold vV
     split
     ·rename_i t' τ hop
      exact absurd hop (hno _ _)
     ·rfl
   obtain ⟨k1,k2⟩:=key
   obtain ⟨q1,q2⟩:=qW hg l (x + 1) k2
   refine ⟨?_,q2⟩
   rw [k1,q1]
   simp
theorem DF {l : List Oper} {i : Nat} {e : Tr Value} {h : AH} {A : Option ρ} (hv : Ft l i e h A = some r) : CU l i e h = true ∧ A = some r:=by
 unfold Ft at hv
 unfold CU
 split at hv
 ·rename_i d hd
  split at hv
  ·rename_i a ha
   obtain ⟨hh,hv⟩:=ah hv
   unfold vr at hh
   obtain ⟨b,hb⟩:=Option.isSome_iff_exists.1 hh
   have hg : (h.blks.get a.block).map (·.grp) = some b.grp:=by rw [hb]; rfl
   obtain ⟨q1,q2⟩:=qW hg l 0 hv
   refine ⟨?_,q2⟩
   rw [hd]
   simp only
   have : iB h (e.get d) = some b.grp:=by
    unfold iB
    rw [ha]
    exact hg
   rw [this]
   exact q1
  ·cases hv
 ·cases hv
theorem kF {T : Bool} {ops : Array Oper} {F : Option ρ} {F' : Option (Tr Value × AH)} {K : Tr Value → AH → Option ρ} (hF : F = some r → ∃ e' h',F' = some (e',h') ∧ K e' h' = some r) : ∀ (l : List Oper) {i : Nat} {e : Tr Value} {h : AH},pM P cf cJ T ops F i l e h K = some r → ∃ e' h',bI P cf ops F' i l e h = some (e',h') ∧ K e' h' = some r
 | [],i,e,h,hv => ⟨e,h,rfl,hv⟩
 | o :: l,i,e,h,hv => by
  show ∃ e' h',cond (aY ops o e)
   (cond (dX o.op) ((bY P cf o.op e h).bind fun p => bI P cf ops F' (i + 1) l (aZ e o.dst p.1) p.2)
   (cond (dO ops.toList i e h) (cz P cf ops (o :: l) e h)
   ((bY P cf o.op e { h with low:=h.next }).bind fun p => cond (Nat.beq p.2.low h.next) (bI P cf ops F' (i + 1) l (aZ e o.dst p.1) { p.2 with low:=h.low }) F')))
   (bI P cf ops F' (i + 1) l (aZ e o.dst undef) h) = some (e',h') ∧ _
  rcases nS hv with ⟨hw,hv1⟩ | ⟨hw,hv1⟩
  ·rw [hw]
   cases hq : dX o.op with
   | true =>
    rw [hq] at hv1
    simp only [cond_true] at hv1
    obtain ⟨v,h1,g1,g2⟩:=qV hv1
    obtain ⟨e',h',g3,g4⟩:=kF hF l g2
    exact ⟨e',h',by rw [g1]; exact g3,g4⟩
   | false =>
    rw [hq] at hv1
    cases ht : fA ops.toList i with
    | true =>
     rw [ht] at hv1
     have hT : dO ops.toList i e h = true:=by unfold dO; rw [ht]; rfl
     rw [hT]
     exact kE _ hv1
    | false =>
     rw [ht] at hv1
     simp only [cond_false] at hv1
     cases hS : mE ops.toList i with
     | true =>
      rw [hS] at hv1
      simp only [cond_true] at hv1
      cases T with
      | false => cases hv1
      | true =>
       obtain ⟨hd,hv1⟩:=DF hv1
       have hT : dO ops.toList i e h = true:=by unfold dO; rw [ht,hS,hd]; rfl
       rw [hT]
       exact kE _ hv1
     | false =>
     rw [hS] at hv1
     simp only [cond_false] at hv1
     have hT : dO ops.toList i e h = false:=by unfold dO; rw [ht,hS]; rfl
     rw [hT]
     obtain ⟨v,h1,g1,g2⟩:=qV hv1
     have g1' : bY P cf o.op e { h with low:=h.next } = some (v,h1):=g1
     show ∃ e' h',(bY P cf o.op e { h with low:=h.next }).bind _ = some (e',h') ∧ _
     rw [g1']
     show ∃ e' h',cond (Nat.beq h1.low h.next) _ _ = some (e',h') ∧ _
     cases hb : Nat.beq h1.low h.next with
     | true =>
      rw [hb] at g2
      obtain ⟨e',h',g3,g4⟩:=kF hF l g2
      exact ⟨e',h',g3,g4⟩
     | false =>
      rw [hb] at g2
      exact hF g2
  ·rw [hw]
   exact kF hF l hv1
theorem qX {e : Tr Value} {h : AH} : ∀ (l : List ResultVar) {K : List Value → Option ρ},Al P e h l K = some r → ∃ vs,cQ P e h l = some vs ∧ K vs = some r
 | [],K,hv => ⟨[],rfl,hv⟩
 | .tmp t :: l,K,hv => by
  obtain ⟨vs,h1,h2⟩:=qX l hv
  exact ⟨(e.get t).getD undef :: vs,by show (some ((e.get t).getD undef)).bind _ = _; rw [Option.bind_some,h1]; rfl,h2⟩
 | .cell a t :: l,K,hv => by
  obtain ⟨v,g1,g2⟩:=sU hv
  obtain ⟨vs,h1,h2⟩:=qX l g2
  exact ⟨v :: vs,by show (cK P t ((e.get a).getD undef) h).bind _ = _; rw [g1,Option.bind_some,h1]; rfl,h2⟩
theorem DG {fn : Func} {h0 : AH} {x : Ex} {e : Tr Value} {h : AH} {r : Value × AH} (hv : HI P fn h0 x e h = some r) : sN P fn h0 x e h = some r:=by
 have fin : (Al P e h fn.results.toList fun vs => (dx vs).bind fun v => some (ai h0 h v)) = some r →
   ((cQ P e h fn.results.toList).bind fun vs => (dx vs).map fun v => ai h0 h v) = some r:=fun hv => by
  obtain ⟨vs,q1,q2⟩:=qX _ hv
  obtain ⟨v,q3,q4⟩:=Option.bind_eq_some_iff.1 q2
  rw [q1,Option.bind_some,q3]
  exact q4
 cases x with
 | exit j => cases hv
 | normal => exact fin hv
 | ret => exact fin hv
section
variable {n : Nat} {fn : Func} {h0 : AH} {plan : List (List Nat × List Nat)} {r : Value × AH}
theorem cI : ∀ (f : Nat) {x : Ny} {fr : List Fy} {e : Tr Value} {h : AH},jA P cf n fn h0 plan cJ (df P cf n fn h0) f x fr e h = some r → df P cf n fn h0 x fr e h = some r
 | 0,_,_,_,_,hv => by cases hv
 | f + 1,.ends x,fr,e,h,hv => by
  cases fr with
  | nil => exact DG hv
  | cons a fr =>
   cases a with
   | seq b p =>
    cases x with
    | normal => have g:=cI f (x:=.code b p) (fr:=fr) (e:=e) (h:=h) hv; exact g
    | exit id => have g:=cI f (x:=.ends (.exit id)) (fr:=fr) (e:=e) (h:=h) hv; exact g
    | ret => have g:=cI f (x:=.ends .ret) (fr:=fr) (e:=e) (h:=h) hv; exact g
   | block id =>
    cases x with
    | normal => have g:=cI f (x:=.ends .normal) (fr:=fr) (e:=e) (h:=h) hv; exact g
    | exit j =>
     have hv' : cond (Nat.beq j id) (jA P cf n fn h0 plan cJ (df P cf n fn h0) f (.ends .normal) fr e h) (jA P cf n fn h0 plan cJ (df P cf n fn h0) f (.ends (.exit j)) fr e h) = some r:=hv
     show ((cond (Nat.beq j id) (cL P cf n fr .normal e h) (cL P cf n fr (.exit j) e h)).bind _) = _
     cases hb : Nat.beq j id with
     | true =>
      rw [hb] at hv'
      have g:=cI f (x:=.ends .normal) (fr:=fr) (e:=e) (h:=h) hv'; exact g
     | false =>
      rw [hb] at hv'
      have g:=cI f (x:=.ends (.exit j)) (fr:=fr) (e:=e) (h:=h) hv'; exact g
    | ret => have g:=cI f (x:=.ends .ret) (fr:=fr) (e:=e) (h:=h) hv; exact g
   | loop c p m =>
    cases x with
    | normal =>
     have hv' : (match jU plan p with
      | some L => vx fn (df P cf n fn h0) L (.head c p m) fr e h
      | none => none) = some r:=hv
     split at hv'
     ·have g:=qU (x:=.head c p m) (fr:=fr) hv'
      exact g
     ·cases hv'
    | exit id => have g:=cI f (x:=.ends (.exit id)) (fr:=fr) (e:=e) (h:=h) hv; exact g
    | ret => have g:=cI f (x:=.ends .ret) (fr:=fr) (e:=e) (h:=h) hv; exact g
 | f + 1,.code c p,fr,e,h,hv => by
  have hv' : (match jU plan p with
   | some L => cond (vw c) (jA P cf n fn h0 plan cJ (df P cf n fn h0) f (.raw c p) fr e h) (vx fn (df P cf n fn h0) L (.code c p) fr e h)
   | none => jA P cf n fn h0 plan cJ (df P cf n fn h0) f (.raw c p) fr e h) = some r:=hv
  split at hv'
  ·cases hl : vw c with
   | true =>
    rw [hl] at hv'
    have g:=cI f (x:=.raw c p) (fr:=fr) (e:=e) (h:=h) hv'; exact g
   | false =>
    rw [hl] at hv'
    exact qU hv'
  ·have g:=cI f (x:=.raw c p) (fr:=fr) (e:=e) (h:=h) hv'; exact g
 | f + 1,.head c p m,fr,e,h,hv => by
  have hv' : (match jU plan p with
   | some L => vx fn (df P cf n fn h0) L (.head c p m) fr e h
   | none => none) = some r:=hv
  split at hv'
  ·exact qU hv'
  ·cases hv'
 | f + 1,.raw c p,fr,e,h,hv => by
  cases c with
  | skip => have g:=cI f (x:=.ends .normal) (fr:=fr) (e:=e) (h:=h) hv; exact g
  | region id ops d =>
   have hv' : cond d (pM P cf cJ (Fu plan) ops (cond (DC plan) (Ak P cf cJ ops e h fun e h => jA P cf n fn h0 plan cJ (df P cf n fn h0) f (.ends .normal) fr e h) none) 0 ops.toList e h fun e h => jA P cf n fn h0 plan cJ (df P cf n fn h0) f (.ends .normal) fr e h) (vv P cf cJ ops ops.toList e h fun e h => jA P cf n fn h0 plan cJ (df P cf n fn h0) f (.ends .normal) fr e h) = some r:=hv
   show ((((cond d (bI P cf ops (fk P cf ops e h) 0 ops.toList e h) (cz P cf ops ops.toList e h)).map fun r => ((Ex.normal,r.1,r.2) : Ex × Tr Value × AH)).bind (fun r => cL P cf n fr r.1 r.2.1 r.2.2)).bind _) = _
   cases d with
   | true =>
    obtain ⟨e1,h1,g1,g2⟩:=kF (F':=fk P cf ops e h) (fun q => by
     cases hw : DC plan with
     | true =>
      rw [hw] at q
      exact Ao q
     | false =>
      rw [hw] at q
      cases q) _ hv'
    rw [cond_true,g1]
    have g:=cI f (x:=.ends .normal) (fr:=fr) g2; exact g
   | false =>
    obtain ⟨e1,h1,g1,g2⟩:=kE _ hv'
    rw [cond_false,g1]
    have g:=cI f (x:=.ends .normal) (fr:=fr) g2; exact g
  | seq a b =>
   have g:=cI f (x:=.code a (0 :: p)) (fr:=.seq b (1 :: p) :: fr) hv
   obtain ⟨q,g1,g2⟩:=Option.bind_eq_some_iff.1 g
   obtain ⟨⟨x1,e1,h1⟩,g3,g4⟩:=Option.bind_eq_some_iff.1 g1
   show ((((cu P cf n a e h).bind fun r => match r.1 with
    | .normal => cu P cf n b r.2.1 r.2.2
    | _ => some r).bind _).bind _) = _
   rw [g3]
   cases x1 with
   | normal =>
    have g4 : ((cu P cf n b e1 h1).bind fun r => cL P cf n fr r.1 r.2.1 r.2.2) = some q:=g4
    show (((cu P cf n b e1 h1).bind _).bind _) = _
    rw [g4]
    exact g2
   | exit id =>
    have g4 : cL P cf n fr (.exit id) e1 h1 = some q:=g4
    show ((cL P cf n fr (.exit id) e1 h1).bind _) = _
    rw [g4]
    exact g2
   | ret =>
    have g4 : cL P cf n fr .ret e1 h1 = some q:=g4
    show ((cL P cf n fr .ret e1 h1).bind _) = _
    rw [g4]
    exact g2
  | cond c x y =>
   have hv' : wx c e (fun e => jA P cf n fn h0 plan cJ (df P cf n fn h0) f (.code x (0 :: p)) fr e h) (fun e => jA P cf n fn h0 plan cJ (df P cf n fn h0) f (.code y (1 :: p)) fr e h) = some r:=hv
   clear hv
   obtain ⟨t,ht,hv'⟩:=Af hv'
   unfold df Ai cu
   simp only [ht]
   cases t with
   | true => have g:=cI f (x:=.code x (0 :: p)) (fr:=fr) hv'; exact g
   | false => have g:=cI f (x:=.code y (1 :: p)) (fr:=fr) hv'; exact g
  | block id c =>
   have g:=cI f (x:=.code c (0 :: p)) (fr:=.block id :: fr) hv
   obtain ⟨q,g1,g2⟩:=Option.bind_eq_some_iff.1 g
   obtain ⟨⟨x1,e1,h1⟩,g3,g4⟩:=Option.bind_eq_some_iff.1 g1
   show ((((cu P cf n c e h).bind fun r => match r.1 with
    | .exit j => cond (Nat.beq j id) (some (.normal,r.2.1,r.2.2)) (some r)
    | _ => some r).bind _).bind _) = _
   rw [g3]
   cases x1 with
   | normal =>
    have g4 : cL P cf n fr .normal e1 h1 = some q:=g4
    show ((cL P cf n fr .normal e1 h1).bind _) = _
    rw [g4]
    exact g2
   | exit j =>
    have g4' : cond (Nat.beq j id) (cL P cf n fr .normal e1 h1) (cL P cf n fr (.exit j) e1 h1) = some q:=g4
    show (((cond (Nat.beq j id) (some (Ex.normal,e1,h1)) (some (Ex.exit j,e1,h1))).bind _).bind _) = _
    cases hb : Nat.beq j id with
    | true =>
     rw [hb] at g4'
     have g4' : cL P cf n fr .normal e1 h1 = some q:=g4'
     show ((cL P cf n fr .normal e1 h1).bind _) = _
     rw [g4']
     exact g2
    | false =>
     rw [hb] at g4'
     have g4' : cL P cf n fr (.exit j) e1 h1 = some q:=g4'
     show ((cL P cf n fr (.exit j) e1 h1).bind _) = _
     rw [g4']
     exact g2
   | ret =>
    have g4 : cL P cf n fr .ret e1 h1 = some q:=g4
    show ((cL P cf n fr .ret e1 h1).bind _) = _
    rw [g4]
    exact g2
  | exit id => have g:=cI f (x:=.ends (.exit id)) (fr:=fr) (e:=e) (h:=h) hv; exact g
  | ret => have g:=cI f (x:=.ends .ret) (fr:=fr) (e:=e) (h:=h) hv; exact g
  | loop c => have g:=cI f (x:=.head c p n) (fr:=fr) (e:=e) (h:=h) hv; exact g
  | _ => cases hv
theorem pQ {c : Code} {p : List Nat} {m : Nat} {fr : List Fy} {e : Tr Value} {h : AH} (hv : iZ P cf n fn h0 plan cJ (df P cf n fn h0) c p m fr e h = some r) : df P cf n fn h0 (.head c p (m + 1)) fr e h = some r:=by
 have g:=cI _ hv
 obtain ⟨q,g1,g2⟩:=Option.bind_eq_some_iff.1 g
 obtain ⟨⟨x1,e1,h1⟩,g3,g4⟩:=Option.bind_eq_some_iff.1 g1
 unfold df Ai
 simp only
 rw [lq,g3]
 cases x1 with
 | normal =>
  have g4 : ((gu (cu P cf n c) m e1 h1).bind fun r => cL P cf n fr r.1 r.2.1 r.2.2) = some q:=g4
  show (((gu (cu P cf n c) m e1 h1).bind _).bind _) = _
  rw [g4]
  exact g2
 | exit j =>
  have g4 : cL P cf n fr (.exit j) e1 h1 = some q:=g4
  show ((cL P cf n fr (.exit j) e1 h1).bind _) = _
  rw [g4]
  exact g2
 | ret =>
  have g4 : cL P cf n fr .ret e1 h1 = some q:=g4
  show ((cL P cf n fr .ret e1 h1).bind _) = _
  rw [g4]
  exact g2
theorem pR {c : Code} {p : List Nat} {fr : List Fy} {e : Tr Value} {h : AH} (hv : nX P cf n fn h0 plan cJ (df P cf n fn h0) c p fr e h = some r) : df P cf n fn h0 (.code c p) fr e h = some r:=by
 have g:=cI 4000 (x:=.raw c p) (fr:=fr) (e:=e) (h:=h) hv
 exact g
theorem sV {f : FuncId} {args : List Value} {h : AH} (hv : oQ P cf n plan cJ (df P cf n) f args h = some r) : qj P cf n f args h = some r:=by
 unfold oQ at hv
 unfold qj
 split at hv
 ·rename_i fn hf
  rw [hf]
  split at hv
  ·rename_i c hb
   simp only [hb]
   have g:=cI _ hv
   obtain ⟨q,g1,g2⟩:=Option.bind_eq_some_iff.1 g
   obtain ⟨⟨x1,e1,h1⟩,g3,g4⟩:=Option.bind_eq_some_iff.1 g1
   injection g4 with g4
   subst g4
   have g3 : cu P cf n c (fD args 0 (jG fn.ntmps)) { h with low:=h.next } = some (x1,e1,h1):=g3
   rw [g3]
   cases x1 with
   | normal => exact g2
   | exit _ => cases g2
   | ret => exact g2
  ·cases hv
 ·cases hv
theorem yX {c : Code} {p : List Nat} {m : Nat} {fr : List Fy} {e : Tr Value} {h : AH} (hv : iZ P (az P n) n fn h0 plan cJ (aO P n fn h0) c p m fr e h = some r) : aO P n fn h0 (.head c p (m + 1)) fr e h = some r:=by
 rw [kw,kz] at hv
 rw [kz]
 exact pQ hv
theorem yY {c : Code} {p : List Nat} {fr : List Fy} {e : Tr Value} {h : AH} (hv : nX P (az P n) n fn h0 plan cJ (aO P n fn h0) c p fr e h = some r) : aO P n fn h0 (.code c p) fr e h = some r:=by
 rw [kw,kz] at hv
 rw [kz]
 exact pR hv
theorem Ap {f : FuncId} {args : List Value} {h : AH} (hv : oQ P (az P n) n plan cJ (aO P n) f args h = some r) : az P (n + 1) f args h = some r:=by
 rw [kw,kz] at hv
 rw [kw]
 exact sV hv
theorem vy {c : Code} {p : List Nat} {m : Nat} {fr : List Fy} {e : Tr Value} {h : AH} (hv : iZ P cf n fn h0 plan cJ (iY P cf n fn h0) c p m fr e h = some r) : iY P cf n fn h0 (.head c p (m + 1)) fr e h = some r:=by
 rw [qP] at hv ⊢
 exact pQ hv
theorem vz {c : Code} {p : List Nat} {fr : List Fy} {e : Tr Value} {h : AH} (hv : nX P cf n fn h0 plan cJ (iY P cf n fn h0) c p fr e h = some r) : iY P cf n fn h0 (.code c p) fr e h = some r:=by
 rw [qP] at hv ⊢
 exact pR hv
theorem yZ {f : FuncId} {args : List Value} {h : AH} (hv : oQ P cf n plan cJ (iY P cf n) f args h = some r) : yS P cf n f args h = some r:=by
 rw [qP] at hv
 rw [wC]
 exact sV hv
 noncomputable def aF : jS:=Classical.choose (⟨cJ,rfl⟩ : ∃ f : jS,f = cJ)
theorem eM : aF = cJ:=Classical.choose_spec (⟨cJ,rfl⟩ : ∃ f : jS,f = cJ)
theorem i4 {c : Code} {p : List Nat} {m : Nat} {fr : List Fy} {e : Tr Value} {h : AH} (hv : iZ P (az P n) n fn h0 plan aF (aO P n fn h0) c p m fr e h = some r) : aO P n fn h0 (.head c p (m + 1)) fr e h = some r:=by
 rw [eM] at hv
 exact yX hv
theorem Aq {c : Code} {p : List Nat} {fr : List Fy} {e : Tr Value} {h : AH} (hv : nX P (az P n) n fn h0 plan aF (aO P n fn h0) c p fr e h = some r) : aO P n fn h0 (.code c p) fr e h = some r:=by
 rw [eM] at hv
 exact yY hv
theorem qY {f : FuncId} {args : List Value} {h : AH} (hv : oQ P (az P n) n plan aF (aO P n) f args h = some r) : az P (n + 1) f args h = some r:=by
 rw [eM] at hv
 exact Ap hv
theorem y4 {c : Code} {p : List Nat} {m : Nat} {fr : List Fy} {e : Tr Value} {h : AH} (hv : iZ P cf n fn h0 plan aF (iY P cf n fn h0) c p m fr e h = some r) : iY P cf n fn h0 (.head c p (m + 1)) fr e h = some r:=by
 rw [eM] at hv
 exact vy hv
theorem y5 {c : Code} {p : List Nat} {fr : List Fy} {e : Tr Value} {h : AH} (hv : nX P cf n fn h0 plan aF (iY P cf n fn h0) c p fr e h = some r) : iY P cf n fn h0 (.code c p) fr e h = some r:=by
 rw [eM] at hv
 exact vz hv
theorem Ar {f : FuncId} {args : List Value} {h : AH} (hv : oQ P cf n plan aF (iY P cf n) f args h = some r) : yS P cf n f args h = some r:=by
 rw [eM] at hv
 exact yZ hv
section
variable {T : Option (Value × AH)}
theorem gV {c : Code} {p : List Nat} {m : Nat} {fr : List Fy} {e : Tr Value} {h : AH} (ht : iZ P (az P n) n fn h0 plan aF (aO P n fn h0) c p m fr e h = T) (hv : T = some r) : aO P n fn h0 (.head c p (m + 1)) fr e h = some r:=i4 (ht.trans hv)
theorem fO {c : Code} {p : List Nat} {fr : List Fy} {e : Tr Value} {h : AH} (ht : nX P (az P n) n fn h0 plan aF (aO P n fn h0) c p fr e h = T) (hv : T = some r) : aO P n fn h0 (.code c p) fr e h = some r:=Aq (ht.trans hv)
theorem eO {f : FuncId} {args : List Value} {h : AH} (ht : oQ P (az P n) n plan aF (aO P n) f args h = T) (hv : T = some r) : az P (n + 1) f args h = some r:=qY (ht.trans hv)
theorem Ls {c : Code} {p : List Nat} {m : Nat} {fr : List Fy} {e : Tr Value} {h : AH} (ht : iZ P cf n fn h0 plan aF (iY P cf n fn h0) c p m fr e h = T) (hv : T = some r) : iY P cf n fn h0 (.head c p (m + 1)) fr e h = some r:=y4 (ht.trans hv)
theorem Jg {c : Code} {p : List Nat} {fr : List Fy} {e : Tr Value} {h : AH} (ht : nX P cf n fn h0 plan aF (iY P cf n fn h0) c p fr e h = T) (hv : T = some r) : iY P cf n fn h0 (.code c p) fr e h = some r:=y5 (ht.trans hv)
theorem Jh {f : FuncId} {args : List Value} {h : AH} (ht : oQ P cf n plan aF (iY P cf n) f args h = T) (hv : T = some r) : yS P cf n f args h = some r:=Ar (ht.trans hv)
end
end
theorem ak (k : IntKind) (n : Int) : gI k (some (.int k n)) = some n:=by
 show zY k (.int k n) = some n
 exact Ag k n
theorem ae (b : Bool) : gB (some (.bool b)) = some b:=rfl
theorem an (s : ByteArray) : gS (some (.string s)) = some s:=rfl
theorem au (a : Option Addr) (n c : Nat) : gL (some (.slice a n c)) = some (a,n,c):=rfl
theorem ap (a : Option Addr) : gP (some (.pointer a)) = some a:=rfl
theorem Tr.set_ne {α : Type} {t : Tr α} {n m : Nat} {a : α} (h : m ≠ n) : (t.set n a).get m = t.get m:=(Tr.get_set _ _ _ _).trans (if_neg h)
theorem Tr.set_eq {α : Type} {t : Tr α} {n : Nat} {a : α} : (t.set n a).get n = some a:=(Tr.get_set _ _ _ _).trans (if_pos rfl)
theorem DH {γ x : Nat} {l : List Nat} (h : γ ∉ x :: l) : γ ≠ x:=fun e => h (e ▸ List.mem_cons_self ..)
theorem Kw {γ x y : Nat} {l : List Nat} (h : γ ∉ x :: y :: l) : γ ≠ y:=fun e => h (e ▸ List.mem_cons_of_mem _ (List.mem_cons_self ..))
structure Ch (h h' : AH) (l : List Nat) : Prop where
 same : ∀ β,β ∉ l → h'.blks.get β = h.blks.get β ∧ h'.grps.get β = h.grps.get β
 nxt : h.next ≤ h'.next
 wf : WF h'
theorem Ch.refl {h : AH} (H : WF h) (l : List Nat) : Ch h h l:=⟨fun _ _ => ⟨rfl,rfl⟩,Nat.le_refl _,H⟩
theorem Ch.trans {h h1 h2 : AH} {l m : List Nat} (a : Ch h h1 l) (b : Ch h1 h2 m) : Ch h h2 (l ++ m):=⟨fun β hβ => by
 have h1 : β ∉ l:=fun h => hβ (List.mem_append_left _ h)
 have h2 : β ∉ m:=fun h => hβ (List.mem_append_right _ h)
 exact ⟨(b.same β h2).1.trans (a.same β h1).1,(b.same β h2).2.trans (a.same β h1).2⟩,Nat.le_trans a.nxt b.nxt,b.wf⟩
theorem Ch.low {h : AH} (H : WF h) (x : Nat) : Ch h (setLow h x) []:=⟨fun _ _ => ⟨rfl,rfl⟩,Nat.le_refl _,H.setLow x⟩
structure Wk (h g : AH) : Prop where
 wf : WF g
 low : g.low = h.next
 nxt : h.next ≤ g.next
 old : ∀ β,β < h.next → g.blks.get β = h.blks.get β ∧ g.grps.get β = h.grps.get β
theorem Wk.start {h : AH} (H : WF h) : Wk h (setLow h h.next):=⟨H.setLow _,rfl,Nat.le_refl _,fun _ _ => ⟨rfl,rfl⟩⟩
theorem Wk.fr {h g g' : AH} {l : List Nat} (W : Wk h g) (F : Ch g g' l) (hl : g'.low = g.low) (hm : ∀ x ∈ l,h.next ≤ x) : Wk h g' :=
 ⟨F.wf,hl.trans W.low,Nat.le_trans W.nxt F.nxt,fun β hβ => by
  have : β ∉ l:=fun hx => absurd (hm β hx) (by omega)
  exact ⟨(F.same β this).1.trans (W.old β hβ).1,(F.same β this).2.trans (W.old β hβ).2⟩⟩
theorem Wk.rd {h g : AH} (H : WF h) (W : Wk h g) {β : Nat} (hβ : β < h.next) : g.rd β = h.rd β:=by
 unfold AH.rd AH.members
 rw [(W.old β hβ).1]
 cases hb : h.blks.get β with
 | none => rfl
 | some b =>
  have:=H.gle β b hb
  rw [Option.bind_some,Option.bind_some,(W.old b.grp (by omega)).2]
theorem Wk.rdC {h g : AH} (H : WF h) (W : Wk h g) {a : Addr} {i : Nat} {x : Value} (hx : rdC h a i = some x) : rdC g a i = some x:=by
 obtain ⟨hs,b,h1,h2⟩:=il hx
 have hb:=H.lt (aR h1).1
 unfold X.rdC
 rw [hs]
 simp only
 rw [W.rd H hb,h1]
 exact h2
theorem Wk.exit {h g : AH} (W : Wk h g) {v : Value} (hv : dA v = true) : ai h g v = (v,h):=by
 unfold ai
 rw [W.low,Nat.beq_refl,hv]
 rfl
def cp (g : AH) (β : Nat) (cs : List Value) : Prop:=∃ z,g.blks.get β = some ⟨cs,z,β,false⟩ ∧ g.grps.get β = none
theorem cp.lt {g : AH} {β : Nat} {cs : List Value} (H : WF g) (O : cp g β cs) : β < g.next:=by
 obtain ⟨z,h,_⟩:=O
 exact H.lt h
theorem cp.fr {g g' : AH} {β : Nat} {cs : List Value} {l : List Nat} (O : cp g β cs) (F : Ch g g' l) (h : β ∉ l) : cp g' β cs:=by
 obtain ⟨z,h1,h2⟩:=O
 exact ⟨z,(F.same β h).1.trans h1,(F.same β h).2.trans h2⟩
theorem cp.rd {g : AH} {β : Nat} {cs : List Value} (O : cp g β cs) (o i : Nat) : rdC g ⟨β,o,none⟩ i = cs[o + i]?:=by
 obtain ⟨z,h1,h2⟩:=O
 have : g.rd β = some ⟨cs,z,β,false⟩:=dp h1 (by
  show β ∈ (g.grps.get β).getD [β]
  rw [h2]
  exact List.mem_singleton.2 rfl)
 unfold rdC
 simp only [this,Option.bind_some]
theorem cS {g : AH} (H : WF g) (cs : List Value) (z : Nat) : ∃ g',aF g cs z = some (g.next,g') ∧ Ch g g' [g.next] ∧ cp g' g.next cs ∧ g'.low = g.low ∧ g'.next = g.next + 1 :=
 ⟨(g.new cs z).2,by rw [eM]; rfl,⟨fun _ hβ => ⟨Tr.set_ne (DH hβ),rfl⟩,Nat.le_succ _,(bH.new H cs z).wf⟩,
  ⟨z,Tr.set_eq,(H.new _ (Nat.le_refl _)).2⟩,rfl,rfl⟩
theorem ir {g : AH} (H : WF g) {β o : Nat} {cs vs : List Value} (O : cp g β cs) (hl : g.low ≤ β) (hf : o + vs.length ≤ cs.length) :
  ∃ g',di g ⟨β,o,none⟩ vs = some g' ∧ Ch g g' [β] ∧ cp g' β (putAt cs o vs) ∧ g'.low = g.low ∧ g'.next = g.next:=by
 obtain ⟨z,h1,h2⟩:=O
 have hr : g.rd β = some ⟨cs,z,β,false⟩:=dp h1 (by
  show β ∈ (g.grps.get β).getD [β]
  rw [h2]
  exact List.mem_singleton.2 rfl)
 have hm : g.members β = [β]:=by
  show (g.grps.get β).getD [β] = _
  rw [h2]
  rfl
 have hw : g.wr β ⟨cs,z,β,false⟩ (putAt cs o vs) = some { blks:=g.blks.set β ⟨putAt cs o vs,z,β,false⟩,grps:=g.grps,next:=g.next,low:=g.low }:=by
  unfold AH.wr
  have : Nat.blt β g.low = false:=by
   cases e : Nat.blt β g.low with
   | false => rfl
   | true =>
    have:=Nat.le_of_ble_eq_true e
    omega
  simp only [hm,this,cond_false]
 refine ⟨{ blks:=g.blks.set β ⟨putAt cs o vs,z,β,false⟩,grps:=g.grps,next:=g.next,low:=g.low },?_,⟨fun γ hγ => ⟨Tr.set_ne (DH hγ),rfl⟩,Nat.le_refl _,(bH.wr H hr hw).wf⟩,⟨z,Tr.set_eq,h2⟩,rfl,rfl⟩
 unfold di
 simp only [hr,Option.bind_some,Nat.ble_eq_true_of_le hf,cond_true]
 exact hw
def it (g : AH) (a : Option Addr) (n c z G : Nat) (cs : List Value) : Prop :=
 (a = none ∧ n = 0 ∧ c = 0 ∧ cs = []) ∨ ∃ β,a = some ⟨β,0,none⟩ ∧ cs.length = n * z ∧ aG ≤ c ∧ G ≤ β ∧ β < g.next ∧ g.blks.get β = some ⟨cs,z,G,false⟩ ∧ β ∈ g.members G
theorem it.nil (g : AH) (z G : Nat) : it g none 0 0 z G []:=.inl ⟨rfl,rfl,rfl,rfl⟩
theorem it.fr {g g' : AH} {a : Option Addr} {n c z G : Nat} {cs : List Value} {l : List Nat} (R : it g a n c z G cs) (F : Ch g g' l) (h1 : G ∉ l) (h2 : ∀ β,a = some ⟨β,0,none⟩ → β ∉ l) : it g' a n c z G cs:=by
 rcases R with R | ⟨β,e,r1,r2,r3,r4,r5,r6⟩
 ·exact .inl R
 ·refine .inr ⟨β,e,r1,r2,r3,Nat.lt_of_lt_of_le r4 F.nxt,(F.same β (h2 β e)).1.trans r5,?_⟩
  unfold AH.members at r6 ⊢
  rwa [(F.same G h1).2]
theorem it.rd {g : AH} {a : Option Addr} {n c z G : Nat} {cs : List Value} (R : it g a n c z G cs) {i : Nat} {x : Value} (hx : cs[i]? = some x) : ∃ ad,a = some ad ∧ rdC g ad i = some x:=by
 rcases R with ⟨_,_,_,e⟩ | ⟨β,e,r1,r2,r3,r4,r5,r6⟩
 ·rw [e] at hx
  cases hx
 ·refine ⟨_,e,?_⟩
  have hr : g.rd β = some ⟨cs,z,G,false⟩:=dp r5 r6
  unfold rdC
  simp only [hr,Option.bind_some,Nat.zero_add]
  exact hx
theorem pS {g : AH} {β z : Nat} {cs : List Value} (O : cp g β cs) (hl : cs.length = z) : bQ z 1 (.slice (some ⟨β,0,none⟩) 1 1) g = some cs:=by
 obtain ⟨y,h1,h2⟩:=O
 have hr : g.rd β = some ⟨cs,y,β,false⟩:=dp h1 (by
  show β ∈ (g.grps.get β).getD [β]
  rw [h2]
  exact List.mem_singleton.2 rfl)
 unfold bQ
 simp only [hr,Option.bind_some,Nat.one_mul]
 cases hz : Nat.beq z 0 with
 | true =>
  have:=Nat.eq_of_beq_eq_true hz
  rw [this] at hl
  rw [List.eq_nil_of_length_eq_zero hl]
  rfl
 | false =>
  unfold cj
  rw [← hl,Nat.zero_add,Nat.ble_eq_true_of_le (Nat.le_refl _),List.drop_zero,List.take_length]
  rfl
theorem Fv {g : AH} (H : WF g) {a : Option Addr} {n c z G by_ β : Nat} {cs vs : List Value} (R : it g a n c z G cs) (hG : a = none ∨ g.low ≤ G) (O : cp g β vs) (hv : vs.length = z) (hz : 0 < z) (hb : (n + 1) * by_ ≤ 140737488355328) :
  ∃ a' G' g',dg z by_ (.slice a n c) (.slice (some ⟨β,0,none⟩) 1 1) g = some ((a',n + 1,aG),g') ∧ it g' a' (n + 1) aG z G' (cs ++ vs) ∧ Ch g g' [g.next,G] ∧ g'.low = g.low ∧ g'.next = g.next + 1 ∧ a' = some ⟨g.next,0,none⟩ ∧ (G' = g.next ∨ G' = G) ∧ (a = none → G' = g.next) ∧ (a ≠ none → G' = G):=by
 have hit:=pS O hv
 rcases R with ⟨rfl,rfl,rfl,rfl⟩ | ⟨γ,rfl,r1,r2,r3,r4,r5,r6⟩
 ·refine ⟨some ⟨g.next,0,none⟩,g.next,(g.new vs z).2,?_,.inr ⟨g.next,rfl,by simp [hv],Nat.le_refl _,Nat.le_refl _,Nat.lt_succ_self _,Tr.set_eq,?_⟩,⟨fun γ hγ => ⟨Tr.set_ne (DH hγ),rfl⟩,Nat.le_succ _,(bH.new H vs z).wf⟩,rfl,rfl,rfl,.inl rfl,fun _ => rfl,fun h => absurd rfl h⟩
  ·unfold dg dz kS
   simp only [Option.bind_some,hit]
   rw [show Nat.beq 1 0 = false from rfl,show Nat.ble (1 * by_) 140737488355328 = true from Nat.ble_eq_true_of_le (by omega)]
   rfl
  ·show g.next ∈ (g.grps.get g.next).getD [g.next]
   rw [(H.new _ (Nat.le_refl _)).2]
   exact List.mem_singleton.2 rfl
 ·have hr : g.rd γ = some ⟨cs,z,G,false⟩:=dp r5 r6
  have hG' : g.low ≤ G:=hG.resolve_left fun e => by cases e
  refine ⟨some ⟨g.next,0,none⟩,G,g.grow γ G (cs ++ vs) z (Nat.beq (0 + n * z) cs.length),?_,.inr ⟨g.next,rfl,by rw [List.length_append,r1,hv,Nat.add_mul,Nat.one_mul],Nat.le_refl _,by omega,Nat.lt_succ_self _,Tr.set_eq,?_⟩,⟨fun δ hδ => ⟨Tr.set_ne (DH hδ),Tr.set_ne (Kw hδ)⟩,Nat.le_succ _,(bH.grow H hr (cs ++ vs) z _).wf⟩,?_,rfl,rfl,.inr rfl,(fun h => by cases h),fun _ => rfl⟩
  ·unfold dg dz kS
   have e1 : Nat.blt c aG = false:=by
    cases e : Nat.blt c aG with
    | false => rfl
    | true =>
     have:=Nat.le_of_ble_eq_true e
     omega
   have e2 : Nat.ble (0 + (n + 1) * z) cs.length = false:=by
    cases e : Nat.ble (0 + (n + 1) * z) cs.length with
    | false => rfl
    | true =>
     have:=Nat.le_of_ble_eq_true e
     rw [r1,Nat.add_mul] at this
     omega
   have e3 : cj cs 0 (n * z) = some cs:=by
    unfold cj
    rw [← r1,Nat.zero_add,Nat.ble_eq_true_of_le (Nat.le_refl _),List.drop_zero,List.take_length]
    rfl
   have e4 : Nat.beq z 0 = false:=by
    cases e : Nat.beq z 0 with
    | false => rfl
    | true =>
     have:=Nat.eq_of_beq_eq_true e
     omega
   simp only [Option.bind_some,hit]
   rw [show Nat.beq 1 0 = false from rfl,Nat.ble_eq_true_of_le hb]
   simp only [cond_false,cond_true,e1,hr,Option.bind_some,e2,e3,e4,Nat.beq_refl,Bool.not_true,Bool.or_false]
   rfl
  ·show g.next ∈ ((g.grps.set G (cond (Nat.beq (0 + n * z) cs.length) [γ,g.next] [g.next])).get G).getD [G]
   rw [Tr.get_set,if_pos rfl]
   cases Nat.beq (0 + n * z) cs.length <;> simp
  ·show cond (Nat.blt G g.low) G g.low = g.low
   have : Nat.blt G g.low = false:=by
    cases e : Nat.blt G g.low with
    | false => rfl
    | true =>
     have:=Nat.le_of_ble_eq_true e
     omega
   rw [this]
   rfl
def Sl (h : AH) (a : Option Addr) (cs : List Value) : Prop:=∀ i x,cs[i]? = some x → ∃ ad,a = some ad ∧ rdC h ad i = some x
theorem DI (h : AH) {a : Addr} (hs : a.spot = none) (k i : Nat) : rdC h (a.add k) i = rdC h a (k + i):=by
 obtain ⟨b,o,s⟩:=a
 have hs : s = none:=hs
 subst hs
 rw [aj]
 unfold rdC
 simp only [Nat.add_assoc]
theorem Sl.wk {h g : AH} (H : WF h) (W : Wk h g) {a : Option Addr} {cs : List Value} (S : Sl h a cs) : Sl g a cs:=fun i x hx => by
 obtain ⟨ad,h1,h2⟩:=S i x hx
 exact ⟨ad,h1,W.rdC H h2⟩
theorem it.sl {g : AH} {a : Option Addr} {n c z G : Nat} {cs : List Value} (R : it g a n c z G cs) : Sl g a cs:=fun _ _ hx => R.rd hx
theorem cp.sl {g : AH} {β : Nat} {cs : List Value} (O : cp g β cs) : Sl g (some ⟨β,0,none⟩) cs:=fun i x hx => ⟨_,rfl,by rw [O.rd,Nat.zero_add]; exact hx⟩
theorem Sl.nil (h : AH) (a : Option Addr) : Sl h a []:=fun i x hx => by cases hx
theorem Sl.int {h : AH} {a : Option Addr} {k : IntKind} {L : List Int} (S : Sl h a (L.map fun n => .int k n)) {i : Nat} {n : Int} (hi : L[i]? = some n) : ∃ ad,a = some ad ∧ gI k (rdC h (ad.add (i * 1)) 0) = some n:=by
 obtain ⟨ad,h1,h2⟩:=S i (.int k n) (by rw [List.getElem?_map,hi]; rfl)
 refine ⟨ad,h1,?_⟩
 rw [DI h (il h2).1,Nat.mul_one,Nat.add_zero,h2,ak]
theorem bu (h : AH) : setLow h h.next = loc h []:=rfl
theorem aH (h : AH) (x : Nat) : (setLow h x).low = x:=rfl
theorem aD (h : AH) (x : Nat) : (setLow h x).next = h.next:=rfl
theorem aI (h : AH) (x y : Nat) : setLow (setLow h x) y = setLow h y:=rfl
theorem aE (h : AH) : setLow h h.low = h:=rfl
theorem aW (h : AH) (bs : List (List Value)) : setLow (loc h bs) h.next = loc h bs:=rfl
theorem bO {h : AH} (H : WF h) (x : Nat) : WF (setLow h x):=H.setLow x
theorem aS (h : AH) (bs : List (List Value)) (cs : List Value) : aF (loc h bs) cs 0 = some (h.next + bs.length,loc h (bs ++ [cs])):=by
 rw [eM]
 show some ((loc h bs).next,(AH.new (loc h bs) cs 0).2) = _
 rw [Du]
 rfl
theorem wH {h : AH} (H : WF h) {bs : List (List Value)} {j : Nat} (hj : bs[j]? = none) : (loc h bs).rd (h.next + j) = none:=by
 have : (loc h bs).blks.get (h.next + j) = none:=((vm H bs).new _ (by
  have:=List.getElem?_eq_none_iff.1 hj
  show h.next + bs.length ≤ h.next + j
  omega)).1
 unfold AH.rd
 rw [this]
 rfl
theorem Ji {h : AH} (H : WF h) (bs : List (List Value)) (j o i : Nat) : rdC (loc h bs) ⟨h.next + j,o,none⟩ i = (bs[j]?).bind fun c => c[o + i]?:=by
 cases hj : bs[j]? with
 | some c => exact Dv H hj
 | none =>
  unfold rdC
  simp only [wH H hj]
  rfl
theorem HK {h : AH} (H : WF h) (bs : List (List Value)) (o i : Nat) : rdC (loc h bs) ⟨h.next,o,none⟩ i = (bs[0]?).bind fun c => c[o + i]?:=Ji H bs 0 o i
theorem lst {h : AH} (H : WF h) (bs : List (List Value)) (j o : Nat) (vs : List Value) : di (loc h bs) ⟨h.next + j,o,none⟩ vs = (bs[j]?).bind fun c => cond (Nat.ble (o + vs.length) c.length) (some (loc h (bs.set j (putAt c o vs)))) none:=by
 cases hj : bs[j]? with
 | none =>
  unfold di
  simp only [wH H hj]
  rfl
 | some c =>
  have hjl : j < bs.length:=(List.getElem?_eq_some_iff.1 hj).1
  unfold di
  simp only [qO H hj,Option.bind_some]
  refine congrArg (fun z => cond _ z none) ?_
  have hm : (loc h bs).members (h.next + j) = [h.next + j]:=by
   show (h.grps.get (h.next + j)).getD [h.next + j] = _
   rw [(H.new _ (by omega)).2]
   rfl
  unfold AH.wr
  simp only [cond_false,hm]
  refine congrArg some ?_
  unfold loc
  rw [List.length_set,← nU bs h.blks h.next j _ hjl]
  have : Nat.blt (h.next + j) h.next = false:=by
   cases e : Nat.blt (h.next + j) h.next with
   | false => rfl
   | true =>
    have:=Nat.le_of_ble_eq_true e
    omega
  simp only [this,cond_false]
theorem HL {h : AH} (H : WF h) (bs : List (List Value)) (o : Nat) (vs : List Value) : di (loc h bs) ⟨h.next,o,none⟩ vs = (bs[0]?).bind fun c => cond (Nat.ble (o + vs.length) c.length) (some (loc h (bs.set 0 (putAt c o vs)))) none:=lst H bs 0 o vs
theorem dZ {h : AH} (H : WF h) (bs : List (List Value)) : Wk h (loc h bs):=⟨vm H bs,rfl,Nat.le_add_right _ _,fun _ hβ => ⟨nT _ _ _ _ hβ,rfl⟩⟩
theorem im (vs cs : List Value) : putAt cs 0 vs = vs ++ cs.drop vs.length:=by
 cases cs <;> rfl
theorem vA (c : Value) (cs : List Value) (vs : List Value) : putAt (c :: cs) 1 vs = c :: putAt cs 0 vs:=rfl
theorem sW (n : Nat) : Nat.ble n n = true:=Nat.ble_eq_true_of_le (Nat.le_refl n)
theorem EE : Nat.ble 1 2 = true:=rfl
section
variable {h : AH} {a : Option Addr} {k : IntKind} {L : List Int} {ρ : Type} {K : Int → Option ρ} {n : Nat}
theorem Fw {i : Int} {n : Nat} (h0 : 0 ≤ i) (h : i.toNat < n) : bM i n = true:=by
 unfold bM
 rw [decide_eq_true h0,decide_eq_true (by omega)]
 rfl
end
theorem Sl.low {h : AH} {a : Option Addr} {cs : List Value} (S : Sl h a cs) (x : Nat) : Sl (setLow h x) a cs:=S
theorem Sl.loc {h : AH} (H : WF h) {a : Option Addr} {cs : List Value} (S : Sl h a cs) (bs : List (List Value)) : Sl (loc h bs) a cs:=S.wk H (dZ H bs)
structure Kp (b g : AH) : Prop where
 wf : WF g
 low : g.low = b.low
 nxt : b.next ≤ g.next
 old : ∀ β,β < b.next → g.blks.get β = b.blks.get β ∧ g.grps.get β = b.grps.get β
theorem Kp.refl {b : AH} (B : WF b) : Kp b b:=⟨B,rfl,Nat.le_refl _,fun _ _ => ⟨rfl,rfl⟩⟩
theorem Kp.trans {a b c : AH} (K : Kp a b) (M : Kp b c) : Kp a c:=⟨M.wf,M.low.trans K.low,Nat.le_trans K.nxt M.nxt,fun β hβ =>
 have h1:=K.old β hβ
 have h2:=M.old β (Nat.lt_of_lt_of_le hβ K.nxt)
 ⟨h2.1.trans h1.1,h2.2.trans h1.2⟩⟩
theorem Kp.ch {b g g' : AH} {l : List Nat} (K : Kp b g) (F : Ch g g' l) (hl : g'.low = g.low) (hm : ∀ x ∈ l,b.next ≤ x) : Kp b g' :=
 ⟨F.wf,hl.trans K.low,Nat.le_trans K.nxt F.nxt,fun β hβ => by
  have : β ∉ l:=fun hx => absurd (hm β hx) (by omega)
  exact ⟨(F.same β this).1.trans (K.old β hβ).1,(F.same β this).2.trans (K.old β hβ).2⟩⟩
theorem Kp.rd {b g : AH} (B : WF b) (K : Kp b g) {β : Nat} (hβ : β < b.next) : g.rd β = b.rd β:=by
 unfold AH.rd AH.members
 rw [(K.old β hβ).1]
 cases hb : b.blks.get β with
 | none => rfl
 | some x =>
  have:=B.gle β x hb
  rw [Option.bind_some,Option.bind_some,(K.old x.grp (by omega)).2]
theorem Kp.rdC {b g : AH} (B : WF b) (K : Kp b g) {a : Addr} {i : Nat} {x : Value} (hx : rdC b a i = some x) : rdC g a i = some x:=by
 obtain ⟨hs,c,h1,h2⟩:=il hx
 have hb:=B.lt (aR h1).1
 unfold X.rdC
 rw [hs]
 simp only
 rw [K.rd B hb,h1]
 exact h2
theorem Sl.kp {b g : AH} (B : WF b) (K : Kp b g) {a : Option Addr} {cs : List Value} (S : Sl b a cs) : Sl g a cs:=fun i x hx => by
 obtain ⟨ad,h1,h2⟩:=S i x hx
 exact ⟨ad,h1,K.rdC B h2⟩
theorem cp.kp {b g : AH} (B : WF b) (K : Kp b g) {β : Nat} {cs : List Value} (O : cp b β cs) : cp g β cs:=by
 have hb:=O.lt B
 obtain ⟨z,h1,h2⟩:=O
 exact ⟨z,(K.old β hb).1.trans h1,(K.old β hb).2.trans h2⟩
theorem Kp.start {h : AH} (H : WF h) : Kp (setLow h h.next) (setLow h h.next):=Kp.refl (H.setLow _)
theorem Kp.new {b g : AH} (K : Kp b g) (cs : List Value) (z : Nat) : ∃ g',aF g cs z = some (g.next,g') ∧ Kp b g' ∧ Ch g g' [g.next] ∧ cp g' g.next cs ∧ g'.next = g.next + 1:=by
 obtain ⟨g',h1,h2,h3,h4,h5⟩:=cS K.wf cs z
 exact ⟨g',h1,K.ch h2 h4 fun x hx => by rw [List.mem_singleton.1 hx]; exact K.nxt,h2,h3,h5⟩
theorem Kp.st {b g : AH} (K : Kp b g) (hb : b.low ≤ b.next) {β o : Nat} {cs vs : List Value} (O : cp g β cs) (hβ : b.next ≤ β) (hf : o + vs.length ≤ cs.length) :
  ∃ g',di g ⟨β,o,none⟩ vs = some g' ∧ Kp b g' ∧ Ch g g' [β] ∧ cp g' β (putAt cs o vs) ∧ g'.next = g.next:=by
 obtain ⟨g',h1,h2,h3,h4,h5⟩:=ir K.wf O (by rw [K.low]; omega) hf
 exact ⟨g',h1,K.ch h2 h4 fun x hx => by rw [List.mem_singleton.1 hx]; exact hβ,h2,h3,h5⟩
theorem Kp.app {b g : AH} (K : Kp b g) (hb : b.low ≤ b.next) {a : Option Addr} {n c z G by_ : Nat} {cs vs : List Value} (R : it g a n c z G cs) (hG : b.next ≤ G) (hG2 : G ≤ g.next) (hv : vs.length = z) (hz : 0 < z) (hn : (n + 1) * by_ ≤ 140737488355328) :
  ∃ g1 g2 a' G',aF g vs z = some (g.next,g1) ∧ dg z by_ (.slice a n c) (.slice (some ⟨g.next,0,none⟩) 1 1) g1 = some ((a',n + 1,aG),g2) ∧ it g2 a' (n + 1) aG z G' (cs ++ vs) ∧ Kp b g2 ∧ b.next ≤ G' ∧ G' ≤ g2.next ∧
   (a ≠ none → G' = G) ∧ (a = none → g.next ≤ G') ∧ Ch g g2 [g.next,g.next + 1,G] ∧ g.next ≤ g2.next ∧ (∃ γ,a' = some ⟨γ,0,none⟩ ∧ g.next ≤ γ):=by
 obtain ⟨g1,h1,K1,F1,O1,n1⟩:=K.new vs z
 have R1 : it g1 a n c z G cs:=by
  rcases R with R | ⟨β,e,r1,r2,r3,r4,r5,r6⟩
  ·exact .inl R
  ·refine it.fr (.inr ⟨β,e,r1,r2,r3,r4,r5,r6⟩) F1 (fun hx => ?_) fun β' e' hx => ?_
   ·have:=List.mem_singleton.1 hx
    omega
   ·have:=List.mem_singleton.1 hx
    rw [e] at e'
    injection e' with e'
    injection e' with e'
    omega
 obtain ⟨a',G',g2,q1,q2,q3,q4,q5,q6,q7,q8,q9⟩:=Fv (by_:=by_) K1.wf R1 (.inr (by rw [K1.low]; omega)) O1 hv hz hn
 refine ⟨g1,g2,a',G',h1,q1,q2,K1.ch q3 q4 ?_,?_,?_,q9,fun e => by rw [q8 e]; omega,?_,?_,⟨_,q6,by omega⟩⟩
 ·intro x hx
  rcases List.mem_cons.1 hx with rfl | hx
  ·rw [n1]
   exact Nat.le_trans K.nxt (Nat.le_succ _)
  ·rw [List.mem_singleton.1 hx]
   exact hG
 ·rcases q7 with rfl | rfl
  ·have:=K.nxt
   omega
  ·exact hG
 ·rcases q7 with rfl | rfl <;> omega
 ·have:=F1.trans q3
  rw [n1] at this
  exact ⟨fun β hβ => this.same β fun hx => hβ (by
   rcases List.mem_append.1 hx with hx | hx
   ·exact List.mem_cons.2 (.inl (List.mem_singleton.1 hx))
   ·exact List.mem_cons_of_mem _ hx),this.nxt,this.wf⟩
 ·omega
def rb : Option Addr → Nat
 | some a => a.block
 | none => 0
theorem it.bnd {g : AH} {a : Option Addr} {n c z G : Nat} {cs : List Value} (R : it g a n c z G cs) (h : a ≠ none) : G ≤ rb a ∧ rb a < g.next:=by
 rcases R with R | ⟨β,e,r1,r2,r3,r4,r5,r6⟩
 ·exact absurd R.1 h
 ·rw [e]
  exact ⟨r3,r4⟩
end Go.Proofs.YtjdomdndflfjdabGreatDoor.X
