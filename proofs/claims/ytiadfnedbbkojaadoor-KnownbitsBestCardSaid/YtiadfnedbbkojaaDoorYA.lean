/- Joined texts: YA. -/
import Derived.Laws.Entries
import Derived.Laws.BitsLemmas
import Derived.RowKit
import Derived.Test.YtiadfnedbbkojaaDoorXB
namespace Go.Proofs.YtiadfnedbbkojaaDoor.X
open Go
theorem shut_ex {α : Type} (a : α) : ∃ x : α, x = a := ⟨a, rfl⟩
 noncomputable def shut {α : Type} (a : α) : α := Classical.choose (shut_ex a)
theorem shut_eq {α : Type} (a : α) : shut a = a := Classical.choose_spec (shut_ex a)
/-- The executor, shut. -/
 noncomputable def runS : Program → Nat → FuncId → List Value → AH → Option (Value × AH) := shut run
theorem runS_eq : runS = run := shut_eq run
/-- A product, shut. -/
 noncomputable def mulS : IntKind → Int → Int → Int := shut iMul
theorem mulS_eq : mulS = iMul := shut_eq iMul
def TOP : Nat := 2 ^ 4096 - 1
def maskOf : List Nat → Nat
  | [] => 0
  | i :: l => maskOf l ||| 2 ^ i
def okX (A : Nat) : Operand → Bool
  | .tmp t => A.testBit t
  | _ => true
def okOp (A : Nat) (o : Op) : Bool := o.operands.toList.all (okX A)
def setA (A : Nat) : Option Tmp → Nat
  | some d => A ||| 2 ^ d
  | none => A
def okG (ops : Array Oper) (A : Nat) (o : Oper) : Bool :=
  match o.guard with
  | none => true
  | some (j, _) => match (ops.toList[j]?).bind (·.dst) with
    | none => true
    | some t => A.testBit t
def okOps (ops : Array Oper) : List Oper → Nat → Option Nat
  | [], A => some A
  | o :: r, A => cond (okG ops A o && okOp A o.op) (okOps ops r (setA A o.dst)) none
/-- Does a code read nothing but what is known to be alike, or what it has written itself? R: what must be alike when the function returns. -/
def okC (R : Nat) : Code → Nat → Option Nat
  | .skip, A => some A
  | .region _ ops _, A => okOps ops ops.toList A
  | .seq a b, A => (okC R a A).bind fun A => okC R b A
  | .cond c x y, A => cond (okX A c) ((okC R x A).bind fun a => (okC R y A).map fun b => a &&& b) none
  | .block _ c, A => (okC R c A).map fun _ => A
  | .loop c, A => (okC R c A).map fun _ => TOP
  | .exit _, _ => some TOP
  | .ret, A => cond (Nat.beq (R &&& A) R) (some TOP) none
  | _, _ => none
inductive Fy where
  | seq (b : Code) (p : List Nat)
  | block (id : Nat)
  | loop (c : Code) (p : List Nat) (m : Nat)
inductive Ny where
  | code (c : Code) (p : List Nat)
  | raw (c : Code) (p : List Nat)
  | head (c : Code) (p : List Nat) (m : Nat)
  | ends (x : Ex)
def okF (R : Nat) : List Fy → Nat → Nat → Bool
  | [], A, _ => Nat.beq (R &&& A) R
  | .seq b _ :: fr, A, X => match okC R b A with
    | some A => okF R fr A X
    | none => false
  | .block _ :: fr, A, X => okF R fr (A &&& X) X
  | .loop c _ _ :: fr, A, X => (okC R c A).isSome && okF R fr TOP X
def okN (R : Nat) (L : Nat) : Ny → List Fy → Bool
  | .code c _, fr | .raw c _, fr => match okC R c L with
    | some A => okF R fr A L
    | none => false
  | .head c _ _, fr => (okC R c L).isSome && okF R fr TOP L
  | .ends _, _ => false
def resMask : List ResultVar → Nat
  | [] => 0
  | .tmp t :: l => resMask l ||| 2 ^ t
  | .cell a _ :: l => resMask l ||| 2 ^ a
section
variable (P : Program) (cf : FuncId → List Value → AH → Option (Value × AH)) (k : Nat)
def unwY : List Fy → Ex → Tr Value → AH → Option (Ex × Tr Value × AH)
  | [], x, e, h => some (x, e, h)
  | .seq b _ :: fr, x, e, h => match x with
    | .normal => (exec P cf k b e h).bind fun r => unwY fr r.1 r.2.1 r.2.2
    | x => unwY fr x e h
  | .block id :: fr, x, e, h => match x with
    | .exit j => cond (Nat.beq j id) (unwY fr .normal e h) (unwY fr (.exit j) e h)
    | x => unwY fr x e h
  | .loop c _ m :: fr, x, e, h => match x with
    | .normal => (iter (exec P cf k c) m e h).bind fun r => unwY fr r.1 r.2.1 r.2.2
    | x => unwY fr x e h
def denY (n : Ny) (fr : List Fy) (e : Tr Value) (h : AH) : Option (Ex × Tr Value × AH) :=
  match n with
  | .code c _ | .raw c _ => (exec P cf k c e h).bind fun r => unwY P cf k fr r.1 r.2.1 r.2.2
  | .head c _ m => (iter (exec P cf k c) m e h).bind fun r => unwY P cf k fr r.1 r.2.1 r.2.2
  | .ends x => unwY P cf k fr x e h
end
/-- The end of a function, by its results. -/
def zfin (P : Program) (fn : Func) (h0 : AH) (x : Ex) (e : Tr Value) (h : AH) : Option (Value × AH) :=
  match x with
  | .exit _ => none
  | _ => (resVs P e h fn.results.toList).bind fun vs => (packV vs).map fun v => exitR h0 h v
/-- What a function still answers, from a place in its code. -/
def resY0 (P : Program) (n : Nat) (fn : Func) (h0 : AH) (x : Ny) (fr : List Fy) (e : Tr Value) (h : AH) : Option (Value × AH) :=
  (denY P (run P n) n x fr e h).bind fun r => zfin P fn h0 r.1 r.2.1 r.2.2
 noncomputable def resY : Program → Nat → Func → AH → Ny → List Fy → Tr Value → AH → Option (Value × AH) := shut resY0
theorem resY_eq : resY = resY0 := shut_eq resY0
def E : List (Nat × Value) → Tr Value
  | [] => .nil
  | p :: l => (E l).set p.1 p.2
def keep (e : Tr Value) : List Nat → List (Nat × Value)
  | [] => []
  | i :: l => match e.get i with
    | some v => (i, v) :: keep e l
    | none => keep e l
def gI (k : IntKind) (o : Option Value) : Option Int := o.bind (vInt k)
def gB (o : Option Value) : Option Bool := o.bind vBool
def gS (o : Option Value) : Option ByteArray := o.bind vStr
def gL (o : Option Value) : Option (Option Addr × Nat × Nat) := o.bind vSl
def gP (o : Option Value) : Option (Option Addr) := o.bind vPtr
/-- A new block. -/
def hNew (h : AH) (cells : List Value) (z : Nat) : Option (Nat × AH) := some (AH.new h cells z)
abbrev NewF := AH → List Value → Nat → Option (Nat × AH)
/-- Cells are stored. -/
def stL (h : AH) (a : Addr) (vs : List Value) : Option AH :=
  match a.spot with
  | none => (h.rd a.block).bind fun b => cond (Nat.ble (a.off + vs.length) b.cells.length) (h.wr a.block b (putAt b.cells a.off vs)) none
  | some _ => none
def setLow (h : AH) (l : Nat) : AH := { h with low := l }
/-- append, by parts: a row of n cells-groups of z cells, and k new ones. -/
def appL (z by_ : Nat) (s x : Value) (h : AH) : Option ((Option Addr × Nat × Nat) × AH) := (appendV z by_ s x h).bind fun p => (vSl p.1).map fun s => (s, p.2)
section
variable (P : Program) {ρ : Type}
def viewC (t : TypeId) (o : Option Value) (K : Value → Option ρ) : Option ρ :=
  match P.underlying t with
  | some (.int k) => (gI k o).bind fun n => K (.int k n)
  | some .bool => (gB o).bind fun b => K (.bool b)
  | some .string => (gS o).bind fun s => K (.string s)
  | some (.slice _) => (gL o).bind fun s => K (.slice s.1 s.2.1 s.2.2)
  | some (.pointer _) => (gP o).bind fun a => K (.pointer a)
  | _ => o.bind fun v => K v
def viewM (rd : Nat → Option Value) : List TypeId → Nat → (List Value → Option ρ) → Option ρ
  | [], _, K => K []
  | t :: ts, i, K => viewC P t (rd i) fun v => viewM rd ts (i + 1) fun l => K (v :: l)
def yviewT (t : TypeId) (o : Option Value) (K : Value → Option ρ) : Option ρ :=
  (aggT P t).bind fun ag => cond ag
    (o.bind fun v => (P.cellTypes P.depth t).bind fun ts => cond (aggIs ts.length v) (viewM P (fun i => aggC i v) ts 0 fun l => K (.agg l.toArray)) none)
    (viewC P t o K)
def yviewTs (v : Value) : List TypeId → Nat → (List Value → Option ρ) → Option ρ
  | [], _, K => K []
  | t :: ts, i, K => yviewT P t (tupC i v) fun x => yviewTs v ts (i + 1) fun l => K (x :: l)
/-- What a call gives. -/
def yviewR (ts : List TypeId) (v : Value) (K : Value → Option ρ) : Option ρ :=
  match ts with
  | [] => K v
  | [t] => yviewT P t (some v) K
  | ts => cond (tupIs ts.length v) (yviewTs P v ts 0 fun l => K (.tuple l.toArray)) none
def yload (t : TypeId) (x : Value) (h : AH) (K : Value → Option ρ) : Option ρ :=
  match x with
  | .pointer a => a.bind fun ad => (aggT P t).bind fun ag => cond ag
      ((P.cellTypes P.depth t).bind fun ts => cond (decide (sizeT P t = some ts.length) && !(Nat.beq ts.length 0)) (viewM P (rdC h ad) ts 0 fun l => K (.agg l.toArray)) none)
      (viewC P t (rdC h ad 0) K)
  | _ => none
def ystore (t : TypeId) (x v : Value) (h : AH) (K : AH → Option ρ) : Option ρ :=
  match x with
  | .pointer a => a.bind fun ad => (sizeT P t).bind fun s => (cellsOfV v).bind fun vs => cond (Nat.beq vs.length s) ((stL h ad vs).bind K) none
  | _ => none
 noncomputable def ybin (op : BinOp) (t : TypeId) (x y : Value) (K : Value → Option ρ) : Option ρ :=
  match op, x, y with
  | .mul, .int k a, .int k' b => cond (decide (k = k')) (K (.int k (mulS k a b))) none
  | op, x, y => kbin P op t x y K
def ybuiltin (b : Builtin) (ts : List TypeId) (args : List Value) (h : AH) (D : Option ρ) (K : Value → AH → Option ρ) : Option ρ :=
  match b, ts, args with
  | .append, [t, u], [s, x] => (P.underlying t).bind fun d => (P.underlying u).bind fun d' => match d, d' with
    | .slice el, .slice _ => (sizeT P el).bind fun z => (bytesT P el).bind fun by_ => (zeroT P el).bind fun zz => (cellsOfV zz).bind fun zs =>
        cond (Nat.beq by_ 0 || !(Nat.beq zs.length z)) none ((appL z by_ s x h).bind fun p => K (.slice p.1.1 p.1.2.1 p.1.2.2) p.2)
    | _, _ => none
  | _, _, _ => D
def ycallF (cf : FuncId → List Value → AH → Option (Value × AH)) (f : Value) (args : List Value) (h : AH) (K : Value → AH → Option ρ) : Option ρ :=
  match f with
  | .func (.func g) first captured => (cf g (first.toList ++ (args ++ captured.toList)) h).bind fun p =>
      (P.funcs[g]?).bind fun fn => yviewR P fn.resultTypes.toList p.1 fun v => K v p.2
  | _ => none
variable (cf : FuncId → List Value → AH → Option (Value × AH)) (N : AH → List Value → Nat → Option (Nat × AH))
 noncomputable def yop (o : Op) (ty : TypeId) (e : Tr Value) (h : AH) (K : Value → AH → Option ρ) : Option ρ :=
  match o with
  | .alloc t => (zeroT P t).bind fun z => (cellsOfV z).bind fun vs => cond (vs.all plainC) ((N h vs 0).bind fun p => K (.pointer (some ⟨p.1, 0, none⟩)) p.2) none
  | .box _ x => (cellsOfV (ev e x)).bind fun vs => (N h vs 0).bind fun p => K (.pointer (some ⟨p.1, 0, none⟩)) p.2
  | .buildSlice t n ps => (P.underlying t).bind fun d => match d with
    | .slice el => (sizeT P el).bind fun s => (zeroT P el).bind fun z => (cellsOfV z).bind fun zs => cond (Nat.ble (n * s) 16777216 && (Nat.beq zs.length s && (zs.all plainC && Nat.ble n 9223372036854775807)))
        ((fillV (fun i => some (i * s, s)) (repl zs n) (ps.toList.map fun p => (p.1, ev e p.2))).bind fun cs => (N h cs s).bind fun p => K (.slice (some ⟨p.1, 0, none⟩) n n) p.2) none
    | _ => none
  | .makeSlice t n c => (P.underlying t).bind fun d => match d, ev e n, ev e c with
    | .slice el, .int .i64 n, .int .i64 c => (sizeT P el).bind fun s => (zeroT P el).bind fun z => (bytesT P el).bind fun by_ => (cellsOfV z).bind fun zs => cond (Nat.beq zs.length s && zs.all plainC)
        (cond (iLe 0 n && (iLe n c && (iLe (c * by_) 140737488355328 && iLt c 9223372036854775808))) ((N h (repl zs c.toNat) s).bind fun p => K (.slice (some ⟨p.1, 0, none⟩) n.toNat c.toNat) p.2) none) none
    | _, _, _ => none
  | .binOp op t x y _ => ybin P op t (ev e x) (ev e y) fun v => K v h
  | .load t x => yload P t (ev e x) h fun v => K v h
  | .store t x v => ystore P t (ev e x) (ev e v) h fun h' => K undef h'
  | .call c => match c.callee with
    | .builtin b => ybuiltin P b c.argTypes.toList (c.args.toList.map (ev e)) h (kop P cf o ty e h K) K
    | .value f => ycallF P cf (ev e f) (c.args.toList.map (ev e)) h K
    | .invoke _ _ => none
  | o => kop P cf o ty e h K
 noncomputable def yops (ops : Array Oper) : List Oper → Tr Value → AH → (Tr Value → AH → Option ρ) → Option ρ
  | [], e, h, K => K e h
  | o :: r, e, h, K => kwant ops o e (fun e => yop P cf N o.op o.type e h fun v h' => yops ops r (putE e o.dst v) h' K) (fun e => yops ops r (putE e o.dst undef) h K)
 noncomputable def ydraw (ops : Array Oper) : Nat → List Oper → Tr Value → AH → (Tr Value → AH → Option ρ) → Option ρ
  | _, [], e, h, K => K e h
  | i, o :: r, e, h, K => kwant ops o e
      (fun e => cond (quiet o.op) (yop P cf N o.op o.type e h fun v h' => ydraw ops (i + 1) r (putE e o.dst v) h' K)
        (cond (tailOK ops.toList i) (yops P cf N ops (o :: r) e h K)
          (yop P cf N o.op o.type e (setLow h h.next) fun v h' => cond (Nat.beq h'.low h.next) (ydraw ops (i + 1) r (putE e o.dst v) (setLow h' h.low) K) none)))
      (fun e => ydraw ops (i + 1) r (putE e o.dst undef) h K)
end
def yres (P : Program) {ρ : Type} (e : Tr Value) (h : AH) : List ResultVar → (List Value → Option ρ) → Option ρ
  | [], K => K []
  | .tmp t :: l, K => yres P e h l fun vs => K ((e.get t).getD undef :: vs)
  | .cell a t :: l, K => yload P t ((e.get a).getD undef) h fun v => yres P e h l fun vs => K (v :: vs)
/-- The end of a function. -/
def yfin (P : Program) (fn : Func) (h0 : AH) (x : Ex) (e : Tr Value) (h : AH) : Option (Value × AH) :=
  match x with
  | .exit _ => none
  | _ => yres P e h fn.results.toList fun vs => (packV vs).bind fun v => some (exitR h0 h v)
def beqL : List Nat → List Nat → Bool
  | [], [] => true
  | a :: l, b :: m => Nat.beq a b && beqL l m
  | _, _ => false
def look : List (List Nat × List Nat) → List Nat → Option (List Nat)
  | [], _ => none
  | q :: l, p => cond (beqL q.1 p) (some q.2) (look l p)
def isLoop : Code → Bool
  | .loop _ => true
  | _ => false
section
variable (P : Program) (cf : FuncId → List Value → AH → Option (Value × AH)) (n : Nat) (fn : Func) (h0 : AH) (plan : List (List Nat × List Nat)) (N : AH → List Value → Nat → Option (Nat × AH)) (C : Ny → List Fy → Tr Value → AH → Option (Value × AH))
/-- The walk goes on from a place, with the live temporaries alone. -/
def cutY (L : List Nat) (x : Ny) (fr : List Fy) (e : Tr Value) (h : AH) : Option (Value × AH) :=
  cond (okN (resMask fn.results.toList) (maskOf L) x fr) (C x fr (E (keep e L)) h) none
 noncomputable def ygo : Nat → Ny → List Fy → Tr Value → AH → Option (Value × AH)
  | 0, _, _, _, _ => none
  | f + 1, .ends x, fr, e, h => match fr with
    | [] => yfin P fn h0 x e h
    | .seq b p :: fr => match x with
      | .normal => ygo f (.code b p) fr e h
      | x => ygo f (.ends x) fr e h
    | .block id :: fr => match x with
      | .exit j => cond (Nat.beq j id) (ygo f (.ends .normal) fr e h) (ygo f (.ends (.exit j)) fr e h)
      | x => ygo f (.ends x) fr e h
    | .loop c p m :: fr => match x with
      | .normal => match look plan p with
        | some L => cutY fn C L (.head c p m) fr e h
        | none => none
      | x => ygo f (.ends x) fr e h
  | f + 1, .code c p, fr, e, h => match look plan p with
    | some L => cond (isLoop c) (ygo f (.raw c p) fr e h) (cutY fn C L (.code c p) fr e h)
    | none => ygo f (.raw c p) fr e h
  | _ + 1, .head c p m, fr, e, h => match look plan p with
    | some L => cutY fn C L (.head c p m) fr e h
    | none => none
  | f + 1, .raw c p, fr, e, h => match c with
    | .skip => ygo f (.ends .normal) fr e h
    | .region _ ops d => cond d (ydraw P cf N ops 0 ops.toList e h fun e h => ygo f (.ends .normal) fr e h) (yops P cf N ops ops.toList e h fun e h => ygo f (.ends .normal) fr e h)
    | .seq a b => ygo f (.code a (0 :: p)) (.seq b (1 :: p) :: fr) e h
    | .cond c x y => kcond c e (fun e => ygo f (.code x (0 :: p)) fr e h) (fun e => ygo f (.code y (1 :: p)) fr e h)
    | .block id c => ygo f (.code c (0 :: p)) (.block id :: fr) e h
    | .exit id => ygo f (.ends (.exit id)) fr e h
    | .ret => ygo f (.ends .ret) fr e h
    | .loop c => ygo f (.head c p n) fr e h
    | _ => none
/-- One turn of a loop. -/
 noncomputable def yhead (c : Code) (p : List Nat) (m : Nat) (fr : List Fy) (e : Tr Value) (h : AH) : Option (Value × AH) := ygo P cf n fn h0 plan N C 4000 (.raw c (0 :: p)) (.loop c p m :: fr) e h
/-- From a place on. -/
 noncomputable def yfrom (c : Code) (p : List Nat) (fr : List Fy) (e : Tr Value) (h : AH) : Option (Value × AH) := ygo P cf n fn h0 plan N C 4000 (.raw c p) fr e h
end
/-- A whole function. -/
 noncomputable def yrun (P : Program) (cf : FuncId → List Value → AH → Option (Value × AH)) (n : Nat) (plan : List (List Nat × List Nat)) (N : AH → List Value → Nat → Option (Nat × AH)) (C : Func → AH → Ny → List Fy → Tr Value → AH → Option (Value × AH)) (f : FuncId) (args : List Value) (h : AH) : Option (Value × AH) :=
  match P.funcs[f]? with
  | some fn => match fn.body with
    | some c => ygo P cf n fn h plan N (C fn h) 4000 (.raw c []) [] (envOf args 0 (env0 fn.ntmps)) (setLow h h.next)
    | none => none
  | none => none
end Go.Proofs.YtiadfnedbbkojaaDoor.X
namespace Go.Proofs.YtiadfnedbbkojaaDoor.X
open Go
variable {P : Program} {cf : FuncId → List Value → AH → Option (Value × AH)} {k : Nat}
/-- Alike where the set says. -/
def Agr (A : Nat) (e e' : Tr Value) : Prop := ∀ t, A.testBit t = true → e.get t = e'.get t
theorem testBit_setA (A d t : Nat) : (A ||| 2 ^ d).testBit t = (A.testBit t || decide (d = t)) := by
  rw [Nat.testBit_or, Nat.testBit_two_pow]
theorem agr_set {A : Nat} {e e' : Tr Value} (h : Agr A e e') (d : Nat) (v : Value) : Agr (A ||| 2 ^ d) (e.set d v) (e'.set d v) := fun t ht => by
  rw [testBit_setA, Bool.or_eq_true] at ht
  rw [Tr.get_set, Tr.get_set]
  split
  · rfl
  · rename_i hne
    rcases ht with ht | ht
    · exact h t ht
    · exact absurd (of_decide_eq_true ht).symm hne
theorem agr_put {A : Nat} {e e' : Tr Value} (h : Agr A e e') (d : Option Tmp) (v : Value) : Agr (setA A d) (putE e d v) (putE e' d v) := by
  cases d with
  | none => exact h
  | some d => exact agr_set h d v
theorem agr_sub {A B : Nat} {e e' : Tr Value} (h : Agr A e e') (hs : ∀ t, B.testBit t = true → A.testBit t = true) : Agr B e e' := fun t ht => h t (hs t ht)
theorem agr_and {A B : Nat} {e e' : Tr Value} (h : Agr A e e') : Agr (A &&& B) e e' := agr_sub h fun t ht => by
  rw [Nat.testBit_and, Bool.and_eq_true] at ht
  exact ht.1
theorem agr_and' {A B : Nat} {e e' : Tr Value} (h : Agr B e e') : Agr (A &&& B) e e' := agr_sub h fun t ht => by
  rw [Nat.testBit_and, Bool.and_eq_true] at ht
  exact ht.2
theorem agr_beq {A R : Nat} {e e' : Tr Value} (h : Agr A e e') (hb : Nat.beq (R &&& A) R = true) : Agr R e e' := by
  have hb := Nat.eq_of_beq_eq_true hb
  rw [← hb]
  exact agr_and' h
theorem sub_setA {A : Nat} {d : Option Tmp} {t : Nat} (h : A.testBit t = true) : (setA A d).testBit t = true := by
  cases d with
  | none => exact h
  | some d =>
    show (A ||| 2 ^ d).testBit t = true
    rw [testBit_setA, h]
    rfl
theorem ev_agr {A : Nat} {e e' : Tr Value} (h : Agr A e e') {x : Operand} (hx : okX A x = true) : ev e x = ev e' x := by
  cases x with
  | tmp t =>
    show (e.get t).getD undef = (e'.get t).getD undef
    rw [h t hx]
  | _ => rfl
theorem opV_agr {A : Nat} {e e' : Tr Value} (h : Agr A e e') {o : Op} (ho : okOp A o = true) (hp : AH) : opV P cf o e hp = opV P cf o e' hp := by
  have al : ∀ x ∈ o.operands.toList, okX A x = true := List.all_eq_true.1 ho
  have g : ∀ x ∈ o.operands.toList, ev e x = ev e' x := fun x hx => ev_agr h (al x hx)
  have mp : ∀ l : List Operand, (∀ x ∈ l, x ∈ o.operands.toList) → l.map (ev e) = l.map (ev e') := fun l hl => List.map_congr_left fun x hx => g x (hl x hx)
  have pp : ∀ l : List (Nat × Operand), (∀ x ∈ l.map (·.2), x ∈ o.operands.toList) → (l.map fun p => (p.1, ev e p.2)) = l.map fun p => (p.1, ev e' p.2) := fun l hl => List.map_congr_left fun x hx => by
    rw [g x.2 (hl _ (List.mem_map_of_mem hx))]
  have oo : ∀ x : Option Operand, (∀ y ∈ x.toList, y ∈ o.operands.toList) → x.map (ev e) = x.map (ev e') := fun x hx => by
    cases x with
    | none => rfl
    | some y => exact congrArg some (g y (hx y (List.mem_singleton.2 rfl)))
  have aa : ∀ l : List Operand, (∀ x ∈ l, x ∈ o.operands.toList) → (l.all fun x => atomV (ev e x)) = l.all fun x => atomV (ev e' x) := fun l hl => by
    induction l with
    | nil => rfl
    | cons y l ih =>
      rw [List.all_cons, List.all_cons, g y (hl y (List.mem_cons_self ..)), ih fun x hx => hl x (List.mem_cons_of_mem _ hx)]
  have am : ∀ l : Array Operand, (∀ x ∈ l.toList, x ∈ o.operands.toList) → l.map (ev e) = l.map (ev e') := fun l hl => by
    apply Array.toList_inj.1
    rw [Array.toList_map, Array.toList_map]
    exact mp _ hl
  cases o with
  | move x => unfold opV; simp only [g x (List.mem_singleton.2 rfl)]
  | assign x => unfold opV; simp only [g x (List.mem_singleton.2 rfl)]
  | pick c a b => unfold opV; simp only [g c (by simp [Op.operands]), g a (by simp [Op.operands]), g b (by simp [Op.operands])]
  | alloc t => rfl
  | box t x => unfold opV; simp only [g x (by simp [Op.operands])]
  | build t ps =>
    unfold opV
    simp only [pp ps.toList (fun x hx => by simpa [Op.operands] using hx)]
  | buildSlice t n ps =>
    unfold opV
    simp only [pp ps.toList (fun x hx => by simpa [Op.operands] using hx)]
  | load t x => unfold opV; simp only [g x (by simp [Op.operands])]
  | store t x v => unfold opV; simp only [g x (by simp [Op.operands]), g v (by simp [Op.operands])]
  | nilCheck x => unfold opV; simp only [g x (by simp [Op.operands])]
  | binOp op t x y yt => unfold opV; simp only [g x (by simp [Op.operands]), g y (by simp [Op.operands])]
  | unOp op t x => unfold opV; simp only [g x (by simp [Op.operands])]
  | convert s d x => unfold opV; simp only [g x (by simp [Op.operands])]
  | slice t x lo hi mx =>
    unfold opV
    simp only [g x (by simp [Op.operands]), oo lo (fun y hy => by simp only [Op.operands, Array.toList_append]; simp [hy] <;> simp_all), oo hi (fun y hy => by simp only [Op.operands, Array.toList_append]; simp_all), oo mx (fun y hy => by simp only [Op.operands, Array.toList_append]; simp_all)]
  | fieldAddr s x f => unfold opV; simp only [g x (by simp [Op.operands])]
  | field s x f => unfold opV; simp only [g x (by simp [Op.operands])]
  | indexAddr t x i => unfold opV; simp only [g x (by simp [Op.operands]), g i (by simp [Op.operands])]
  | index t x i => unfold opV; simp only [g x (by simp [Op.operands]), g i (by simp [Op.operands])]
  | extract x i => unfold opV; simp only [g x (by simp [Op.operands])]
  | makeSlice t n c => unfold opV; simp only [g n (by simp [Op.operands]), g c (by simp [Op.operands])]
  | makeFunc fn first captured =>
    have h1 : ∀ x ∈ first.toList, x ∈ (Op.makeFunc fn first captured).operands.toList := fun x hx => by
      simp only [Op.operands, Array.toList_append, List.mem_append]
      exact .inl hx
    have h2 : ∀ x ∈ captured.toList, x ∈ (Op.makeFunc fn first captured).operands.toList := fun x hx => by
      simp only [Op.operands, Array.toList_append, List.mem_append]
      exact .inr hx
    unfold opV
    simp only [aa first.toList h1, aa captured.toList h2, am first h1, am captured h2]
  | call c =>
    obtain ⟨callee, cargs, cts⟩ := c
    cases callee with
    | builtin b =>
      unfold opV
      simp only [mp cargs.toList (fun x hx => by simp only [Op.operands, Call.operands, Array.toList_append, List.mem_append]; exact .inr hx)]
    | value f =>
      unfold opV
      simp only [mp cargs.toList (fun x hx => by simp only [Op.operands, Call.operands, Array.toList_append, List.mem_append]; exact .inr hx), g f (by simp [Op.operands, Call.operands])]
    | invoke r m => rfl
  | _ => rfl
theorem wantE_agr {A : Nat} {e e' : Tr Value} (h : Agr A e e') {ops : Array Oper} {o : Oper} (ho : okG ops A o = true) : wantE ops o e = wantE ops o e' := by
  unfold wantE
  unfold okG at ho
  cases hg : o.guard with
  | none => rfl
  | some p =>
    obtain ⟨j, w⟩ := p
    rw [hg] at ho
    simp only at ho ⊢
    generalize (ops.toList[j]?).bind (·.dst) = x at ho
    cases x with
    | none => rfl
    | some t =>
      simp only [Option.map_some]
      rw [h t ho]
theorem opsV_agr {ops : Array Oper} : ∀ (l : List Oper) {A A' : Nat} {e e' : Tr Value} {h : AH} {r : Tr Value × AH}, okOps ops l A = some A' → Agr A e e' → opsV P cf ops l e' h = some r →
    ∃ e1, opsV P cf ops l e h = some (e1, r.2) ∧ (∀ B, Agr B e e' → Agr B e1 r.1) ∧ Agr A' e1 r.1
  | [], A, A', e, e', h, r, hk, ha, hv => by
    injection hk with hk
    injection hv with hv
    subst hk
    subst hv
    exact ⟨e, rfl, fun _ h => h, ha⟩
  | o :: l, A, A', e, e', h, r, hk, ha, hv => by
    obtain ⟨hc, hk⟩ := cond_some' hk
    rw [Bool.and_eq_true] at hc
    have hv : cond (wantE ops o e') ((opV P cf o.op e' h).bind fun p => opsV P cf ops l (putE e' o.dst p.1) p.2) (opsV P cf ops l (putE e' o.dst undef) h) = some r := hv
    show ∃ e1, cond (wantE ops o e) ((opV P cf o.op e h).bind fun p => opsV P cf ops l (putE e o.dst p.1) p.2) (opsV P cf ops l (putE e o.dst undef) h) = some (e1, r.2) ∧ _
    rw [wantE_agr ha hc.1, opV_agr ha hc.2 h]
    cases hw : wantE ops o e' with
    | true =>
      rw [hw] at hv
      obtain ⟨p, h1, h2⟩ := Option.bind_eq_some_iff.1 hv
      rw [h1]
      obtain ⟨e1, q1, q2, q3⟩ := opsV_agr l hk (agr_put ha o.dst p.1) h2
      exact ⟨e1, q1, fun B hB => q2 B (agr_sub (agr_put hB o.dst p.1) fun _ => sub_setA), q3⟩
    | false =>
      rw [hw] at hv
      obtain ⟨e1, q1, q2, q3⟩ := opsV_agr l hk (agr_put ha o.dst undef) hv
      exact ⟨e1, q1, fun B hB => q2 B (agr_sub (agr_put hB o.dst undef) fun _ => sub_setA), q3⟩
theorem drawV_agr {ops : Array Oper} : ∀ (l : List Oper) {i A A' : Nat} {e e' : Tr Value} {h : AH} {r : Tr Value × AH}, okOps ops l A = some A' → Agr A e e' → drawV P cf ops i l e' h = some r →
    ∃ e1, drawV P cf ops i l e h = some (e1, r.2) ∧ (∀ B, Agr B e e' → Agr B e1 r.1) ∧ Agr A' e1 r.1
  | [], i, A, A', e, e', h, r, hk, ha, hv => by
    injection hk with hk
    injection hv with hv
    subst hk
    subst hv
    exact ⟨e, rfl, fun _ h => h, ha⟩
  | o :: l, i, A, A', e, e', h, r, hk0, ha, hv => by
    obtain ⟨hc, hk⟩ := cond_some' hk0
    rw [Bool.and_eq_true] at hc
    have hv : cond (wantE ops o e')
      (cond (quiet o.op) ((opV P cf o.op e' h).bind fun p => drawV P cf ops (i + 1) l (putE e' o.dst p.1) p.2)
      (cond (tailOK ops.toList i) (opsV P cf ops (o :: l) e' h)
      ((opV P cf o.op e' { h with low := h.next }).bind fun p => cond (Nat.beq p.2.low h.next) (drawV P cf ops (i + 1) l (putE e' o.dst p.1) { p.2 with low := h.low }) none)))
      (drawV P cf ops (i + 1) l (putE e' o.dst undef) h) = some r := hv
    show ∃ e1, cond (wantE ops o e)
      (cond (quiet o.op) ((opV P cf o.op e h).bind fun p => drawV P cf ops (i + 1) l (putE e o.dst p.1) p.2)
      (cond (tailOK ops.toList i) (opsV P cf ops (o :: l) e h)
      ((opV P cf o.op e { h with low := h.next }).bind fun p => cond (Nat.beq p.2.low h.next) (drawV P cf ops (i + 1) l (putE e o.dst p.1) { p.2 with low := h.low }) none)))
      (drawV P cf ops (i + 1) l (putE e o.dst undef) h) = some (e1, r.2) ∧ _
    rw [wantE_agr ha hc.1, opV_agr ha hc.2 h, opV_agr ha hc.2 { h with low := h.next }]
    have go : ∀ (v : Value) (h' : AH), drawV P cf ops (i + 1) l (putE e' o.dst v) h' = some r → ∃ e1, drawV P cf ops (i + 1) l (putE e o.dst v) h' = some (e1, r.2) ∧ (∀ B, Agr B e e' → Agr B e1 r.1) ∧ Agr A' e1 r.1 := fun v h' hh => by
      obtain ⟨e1, q1, q2, q3⟩ := drawV_agr l hk (agr_put ha o.dst v) hh
      exact ⟨e1, q1, fun B hB => q2 B (agr_sub (agr_put hB o.dst v) fun _ => sub_setA), q3⟩
    cases hw : wantE ops o e' with
    | true =>
      rw [hw] at hv
      simp only [cond_true] at hv ⊢
      cases hq : quiet o.op with
      | true =>
        rw [hq] at hv
        simp only [cond_true] at hv ⊢
        obtain ⟨p, h1, h2⟩ := Option.bind_eq_some_iff.1 hv
        rw [h1]
        exact go p.1 p.2 h2
      | false =>
        rw [hq] at hv
        simp only [cond_false] at hv ⊢
        cases ht : tailOK ops.toList i with
        | true =>
          rw [ht] at hv
          simp only [cond_true] at hv ⊢
          exact opsV_agr (o :: l) hk0 ha hv
        | false =>
          rw [ht] at hv
          simp only [cond_false] at hv ⊢
          obtain ⟨p, h1, h2⟩ := Option.bind_eq_some_iff.1 hv
          obtain ⟨hb, h2⟩ := cond_some' h2
          rw [h1]
          simp only [Option.bind_some, hb, cond_true]
          exact go p.1 _ h2
    | false =>
      rw [hw] at hv
      exact go undef h hv
/-- Two runs go alike. -/
def Like (R A' : Nat) (e e' : Tr Value) (o : Option (Ex × Tr Value × AH)) (r : Ex × Tr Value × AH) : Prop :=
  ∃ e1, o = some (r.1, e1, r.2.2) ∧ (∀ B, Agr B e e' → Agr B e1 r.2.1) ∧ (r.1 = .normal → Agr A' e1 r.2.1) ∧ (r.1 = .ret → Agr R e1 r.2.1)
theorem iter_agr {R A A' : Nat} {step : Tr Value → AH → Option (Ex × Tr Value × AH)}
    (hs : ∀ (e e' : Tr Value) (h : AH) (r : Ex × Tr Value × AH), Agr A e e' → step e' h = some r → Like R A' e e' (step e h) r) :
    ∀ (m : Nat) {e e' : Tr Value} {h : AH} {r : Ex × Tr Value × AH}, Agr A e e' → iter step m e' h = some r → r.1 ≠ .normal ∧ Like R A' e e' (iter step m e h) r
  | 0, _, _, _, _, _, hv => by cases hv
  | m + 1, e, e', h, r, ha, hv => by
    rw [iter_succ] at hv
    obtain ⟨q, h1, h2⟩ := Option.bind_eq_some_iff.1 hv
    obtain ⟨e1, g1, g2, g3, g4⟩ := hs _ _ _ _ ha h1
    rw [iter_succ, g1]
    obtain ⟨x, eq, hq⟩ := q
    cases x with
    | normal =>
      obtain ⟨n1, e2, q1, q2, q3, q4⟩ := iter_agr hs m (g2 A ha) h2
      exact ⟨n1, e2, q1, fun B hB => q2 B (g2 B hB), q3, q4⟩
    | exit j =>
      have h2 : some (Ex.exit j, eq, hq) = some r := h2
      injection h2 with h2
      subst h2
      exact ⟨fun h => (by cases h), e1, rfl, g2, fun h => (by cases h), g4⟩
    | ret =>
      have h2 : some (Ex.ret, eq, hq) = some r := h2
      injection h2 with h2
      subst h2
      exact ⟨fun h => (by cases h), e1, rfl, g2, fun h => (by cases h), g4⟩
theorem exec_agr {R : Nat} : ∀ (c : Code) {A A' : Nat} {e e' : Tr Value} {h : AH} {r : Ex × Tr Value × AH}, okC R c A = some A' → Agr A e e' → exec P cf k c e' h = some r → Like R A' e e' (exec P cf k c e h) r
  | .skip, A, A', e, e', h, r, hk, ha, hv => by
    injection hk with hk
    have hv : some (Ex.normal, e', h) = some r := hv
    injection hv with hv
    subst hv
    subst hk
    exact ⟨e, rfl, fun _ h => h, fun _ => ha, fun h => (by cases h)⟩
  | .region id ops d, A, A', e, e', h, r, hk, ha, hv => by
    have hk : okOps ops ops.toList A = some A' := hk
    have hv : (cond d (drawV P cf ops 0 ops.toList e' h) (opsV P cf ops ops.toList e' h)).map (fun r => (Ex.normal, r.1, r.2)) = some r := hv
    obtain ⟨q, h1, h2⟩ := Option.map_eq_some_iff.1 hv
    subst h2
    show Like R A' e e' ((cond d (drawV P cf ops 0 ops.toList e h) (opsV P cf ops ops.toList e h)).map (fun r => (Ex.normal, r.1, r.2))) _
    have key : ∃ e1, cond d (drawV P cf ops 0 ops.toList e h) (opsV P cf ops ops.toList e h) = some (e1, q.2) ∧ (∀ B, Agr B e e' → Agr B e1 q.1) ∧ Agr A' e1 q.1 := by
      cases d with
      | true => exact drawV_agr _ hk ha h1
      | false => exact opsV_agr _ hk ha h1
    obtain ⟨e1, g1, g2, g3⟩ := key
    rw [g1]
    exact ⟨e1, rfl, g2, fun _ => g3, fun h => (by cases h)⟩
  | .seq a b, A, A', e, e', h, r, hk, ha, hv => by
    obtain ⟨A1, hk1, hk2⟩ := Option.bind_eq_some_iff.1 hk
    have hv : ((exec P cf k a e' h).bind fun r => match r.1 with
      | .normal => exec P cf k b r.2.1 r.2.2
      | _ => some r) = some r := hv
    obtain ⟨⟨x, eq, hq⟩, h1, h2⟩ := Option.bind_eq_some_iff.1 hv
    obtain ⟨e1, g1, g2, g3, g4⟩ := exec_agr a hk1 ha h1
    show Like R A' e e' ((exec P cf k a e h).bind fun r => match r.1 with
      | .normal => exec P cf k b r.2.1 r.2.2
      | _ => some r) _
    rw [g1]
    cases x with
    | normal =>
      obtain ⟨e2, q1, q2, q3, q4⟩ := exec_agr b hk2 (g3 rfl) h2
      exact ⟨e2, q1, fun B hB => q2 B (g2 B hB), q3, q4⟩
    | exit j =>
      have h2 : some (Ex.exit j, eq, hq) = some r := h2
      injection h2 with h2
      subst h2
      exact ⟨e1, rfl, g2, fun h => (by cases h), g4⟩
    | ret =>
      have h2 : some (Ex.ret, eq, hq) = some r := h2
      injection h2 with h2
      subst h2
      exact ⟨e1, rfl, g2, fun h => (by cases h), g4⟩
  | .cond c x y, A, A', e, e', h, r, hk, ha, hv => by
    obtain ⟨hc, hk⟩ := cond_some' hk
    obtain ⟨a1, hx, hk⟩ := Option.bind_eq_some_iff.1 hk
    obtain ⟨b1, hy, hk⟩ := Option.map_eq_some_iff.1 hk
    subst hk
    have hv : (match ev e' c with
      | .bool t => cond t (exec P cf k x e' h) (exec P cf k y e' h)
      | _ => none) = some r := hv
    show Like R _ e e' (match ev e c with
      | .bool t => cond t (exec P cf k x e h) (exec P cf k y e h)
      | _ => none) r
    rw [ev_agr ha hc]
    split at hv
    · rename_i t _
      cases t with
      | true =>
        obtain ⟨e1, g1, g2, g3, g4⟩ := exec_agr x hx ha hv
        exact ⟨e1, g1, g2, fun h => agr_and (g3 h), g4⟩
      | false =>
        obtain ⟨e1, g1, g2, g3, g4⟩ := exec_agr y hy ha hv
        exact ⟨e1, g1, g2, fun h => agr_and' (g3 h), g4⟩
    · cases hv
  | .block id c, A, A', e, e', h, r, hk, ha, hv => by
    obtain ⟨a1, hx, hk⟩ := Option.map_eq_some_iff.1 hk
    subst hk
    have hv : ((exec P cf k c e' h).bind fun r => match r.1 with
      | .exit j => cond (Nat.beq j id) (some (.normal, r.2.1, r.2.2)) (some r)
      | _ => some r) = some r := hv
    obtain ⟨⟨x, eq, hq⟩, h1, h2⟩ := Option.bind_eq_some_iff.1 hv
    obtain ⟨e1, g1, g2, g3, g4⟩ := exec_agr c hx ha h1
    show Like R _ e e' ((exec P cf k c e h).bind fun r => match r.1 with
      | .exit j => cond (Nat.beq j id) (some (.normal, r.2.1, r.2.2)) (some r)
      | _ => some r) r
    rw [g1]
    cases x with
    | normal =>
      have h2 : some (Ex.normal, eq, hq) = some r := h2
      injection h2 with h2
      subst h2
      exact ⟨e1, rfl, g2, fun _ => g2 _ ha, g4⟩
    | exit j =>
      have h2 : cond (Nat.beq j id) (some (Ex.normal, eq, hq)) (some (Ex.exit j, eq, hq)) = some r := h2
      show Like R _ e e' (cond (Nat.beq j id) (some (Ex.normal, e1, hq)) (some (Ex.exit j, e1, hq))) r
      cases hj : Nat.beq j id with
      | true =>
        rw [hj] at h2
        injection h2 with h2
        subst h2
        exact ⟨e1, rfl, g2, fun _ => g2 _ ha, fun h => (by cases h)⟩
      | false =>
        rw [hj] at h2
        injection h2 with h2
        subst h2
        exact ⟨e1, rfl, g2, fun _ => g2 _ ha, fun h => (by cases h)⟩
    | ret =>
      have h2 : some (Ex.ret, eq, hq) = some r := h2
      injection h2 with h2
      subst h2
      exact ⟨e1, rfl, g2, fun h => (by cases h), g4⟩
  | .loop c, A, A', e, e', h, r, hk, ha, hv => by
    obtain ⟨a1, hx, hk⟩ := Option.map_eq_some_iff.1 hk
    obtain ⟨n1, e1, g1, g2, g3, g4⟩ := iter_agr (step := exec P cf k c) (A := A) (R := R) (A' := a1) (fun e e' h r ha hv => exec_agr c hx ha hv) k ha hv
    exact ⟨e1, g1, g2, fun h => absurd h n1, g4⟩
  | .exit id, A, A', e, e', h, r, hk, ha, hv => by
    have hv : some (Ex.exit id, e', h) = some r := hv
    injection hv with hv
    subst hv
    exact ⟨e, rfl, fun _ h => h, fun h => (by cases h), fun h => (by cases h)⟩
  | .ret, A, A', e, e', h, r, hk, ha, hv => by
    obtain ⟨hc, hk⟩ := cond_some' hk
    have hv : some (Ex.ret, e', h) = some r := hv
    injection hv with hv
    subst hv
    exact ⟨e, rfl, fun _ h => h, fun h => (by cases h), fun _ => agr_beq ha hc⟩
  | .rangeFunc .., _, _, _, _, _, _, hk, _, _ => by cases hk
  | .scope _, _, _, _, _, _, _, hk, _, _ => by cases hk
  | .label _, _, _, _, _, _, _, hk, _, _ => by cases hk
  | .goto _, _, _, _, _, _, _, hk, _, _ => by cases hk
  | .refuse _, _, _, _, _, _, _, hk, _, _ => by cases hk
/-- What the ways of ending know to be alike. -/
def Ends (R A X : Nat) (e e' : Tr Value) : Ex → Prop
  | .normal => Agr A e e'
  | .exit _ => Agr X e e'
  | .ret => Agr R e e'
theorem unwY_agr {R : Nat} : ∀ (fr : List Fy) {A X : Nat} {x : Ex} {e e' : Tr Value} {h : AH} {r : Ex × Tr Value × AH}, okF R fr A X = true → Ends R A X e e' x → Agr X e e' → unwY P cf k fr x e' h = some r →
    ∃ e1, unwY P cf k fr x e h = some (r.1, e1, r.2.2) ∧ ((∀ j, r.1 ≠ .exit j) → Agr R e1 r.2.1)
  | [], A, X, x, e, e', h, r, hk, ha, hX, hv => by
    have hv : some (x, e', h) = some r := hv
    injection hv with hv
    subst hv
    refine ⟨e, rfl, fun hx => ?_⟩
    cases x with
    | normal => exact agr_beq ha hk
    | exit j => exact absurd rfl (hx j)
    | ret => exact ha
  | .seq b p :: fr, A, X, x, e, e', h, r, hk, ha, hX, hv => by
    have hk : (match okC R b A with
      | some A => okF R fr A X
      | none => false) = true := hk
    cases x with
    | normal =>
      have hv : ((exec P cf k b e' h).bind fun r => unwY P cf k fr r.1 r.2.1 r.2.2) = some r := hv
      obtain ⟨q, h1, h2⟩ := Option.bind_eq_some_iff.1 hv
      split at hk
      · rename_i A1 hb
        obtain ⟨e1, g1, g2, g3, g4⟩ := exec_agr b hb ha h1
        show ∃ e1, ((exec P cf k b e h).bind fun r => unwY P cf k fr r.1 r.2.1 r.2.2) = _ ∧ _
        rw [g1]
        refine unwY_agr fr hk ?_ (g2 _ hX) h2
        cases hx : q.1 with
        | normal => exact g3 hx
        | exit j => exact g2 _ hX
        | ret => exact g4 hx
      · cases hk
    | exit j =>
      split at hk
      · exact unwY_agr fr (x := .exit j) hk ha hX hv
      · cases hk
    | ret =>
      split at hk
      · exact unwY_agr fr (x := .ret) hk ha hX hv
      · cases hk
  | .block id :: fr, A, X, x, e, e', h, r, hk, ha, hX, hv => by
    cases x with
    | normal => exact unwY_agr fr (x := .normal) (A := A &&& X) hk (agr_and ha) hX hv
    | exit j =>
      have hv : cond (Nat.beq j id) (unwY P cf k fr .normal e' h) (unwY P cf k fr (.exit j) e' h) = some r := hv
      show ∃ e1, cond (Nat.beq j id) (unwY P cf k fr .normal e h) (unwY P cf k fr (.exit j) e h) = _ ∧ _
      cases hj : Nat.beq j id with
      | true =>
        rw [hj] at hv
        exact unwY_agr fr (x := .normal) (A := A &&& X) hk (agr_and' ha) hX hv
      | false =>
        rw [hj] at hv
        exact unwY_agr fr (x := .exit j) (A := A &&& X) hk ha hX hv
    | ret => exact unwY_agr fr (x := .ret) (A := A &&& X) hk ha hX hv
  | .loop c p m :: fr, A, X, x, e, e', h, r, hk, ha, hX, hv => by
    have hk : ((okC R c A).isSome && okF R fr TOP X) = true := hk
    rw [Bool.and_eq_true] at hk
    obtain ⟨A1, hc⟩ := Option.isSome_iff_exists.1 hk.1
    cases x with
    | normal =>
      have hv : ((iter (exec P cf k c) m e' h).bind fun r => unwY P cf k fr r.1 r.2.1 r.2.2) = some r := hv
      obtain ⟨q, h1, h2⟩ := Option.bind_eq_some_iff.1 hv
      obtain ⟨n1, e1, g1, g2, g3, g4⟩ := iter_agr (step := exec P cf k c) (A := A) (R := R) (A' := A1) (fun e e' h r ha hv => exec_agr c hc ha hv) m ha h1
      show ∃ e1, ((iter (exec P cf k c) m e h).bind fun r => unwY P cf k fr r.1 r.2.1 r.2.2) = _ ∧ _
      rw [g1]
      refine unwY_agr fr hk.2 ?_ (g2 _ hX) h2
      cases hx : q.1 with
      | normal => exact absurd hx n1
      | exit j => exact g2 _ hX
      | ret => exact g4 hx
    | exit j =>
      have ha' : Agr X e e' := ha
      exact unwY_agr fr (x := .exit j) (A := TOP) hk.2 ha' hX hv
    | ret =>
      have ha' : Agr R e e' := ha
      exact unwY_agr fr (x := .ret) (A := TOP) hk.2 ha' hX hv
theorem resMask_mem : ∀ (l : List ResultVar) (t : Tmp), (.tmp t ∈ l ∨ ∃ ty, .cell t ty ∈ l) → (resMask l).testBit t = true
  | [], t, h => by
    rcases h with h | ⟨_, h⟩ <;> cases h
  | .tmp s :: l, t, h => by
    show (resMask l ||| 2 ^ s).testBit t = true
    rw [testBit_setA, Bool.or_eq_true]
    rcases h with h | ⟨ty, h⟩
    · rcases List.mem_cons.1 h with h | h
      · injection h with h
        exact .inr (decide_eq_true h.symm)
      · exact .inl (resMask_mem l t (.inl h))
    · rcases List.mem_cons.1 h with h | h
      · cases h
      · exact .inl (resMask_mem l t (.inr ⟨ty, h⟩))
  | .cell s _ :: l, t, h => by
    show (resMask l ||| 2 ^ s).testBit t = true
    rw [testBit_setA, Bool.or_eq_true]
    rcases h with h | ⟨ty, h⟩
    · rcases List.mem_cons.1 h with h | h
      · cases h
      · exact .inl (resMask_mem l t (.inl h))
    · rcases List.mem_cons.1 h with h | h
      · injection h with h
        exact .inr (decide_eq_true h.symm)
      · exact .inl (resMask_mem l t (.inr ⟨ty, h⟩))
theorem resVs_agr {e e' : Tr Value} {h : AH} : ∀ (l : List ResultVar), Agr (resMask l) e e' → resVs P e h l = resVs P e' h l
  | [], _ => rfl
  | .tmp t :: l, ha => by
    show (some ((e.get t).getD undef)).bind (fun v => (resVs P e h l).bind fun vs => some (v :: vs)) = (some ((e'.get t).getD undef)).bind (fun v => (resVs P e' h l).bind fun vs => some (v :: vs))
    rw [ha t (resMask_mem _ _ (.inl (List.mem_cons_self ..))), resVs_agr l (agr_sub ha fun t ht => by
      show (resMask l ||| 2 ^ _).testBit t = true
      rw [testBit_setA, ht]
      rfl)]
  | .cell t ty :: l, ha => by
    show (loadV P ty ((e.get t).getD undef) h).bind (fun v => (resVs P e h l).bind fun vs => some (v :: vs)) = (loadV P ty ((e'.get t).getD undef) h).bind (fun v => (resVs P e' h l).bind fun vs => some (v :: vs))
    rw [ha t (resMask_mem _ _ (.inr ⟨ty, List.mem_cons_self ..⟩)), resVs_agr l (agr_sub ha fun t ht => by
      show (resMask l ||| 2 ^ _).testBit t = true
      rw [testBit_setA, ht]
      rfl)]
theorem zfin_agr {fn : Func} {h0 : AH} {x : Ex} {e e' : Tr Value} {h : AH} (ha : (∀ j, x ≠ .exit j) → Agr (resMask fn.results.toList) e e') : zfin P fn h0 x e h = zfin P fn h0 x e' h := by
  cases x with
  | exit j => rfl
  | normal =>
    unfold zfin
    simp only [resVs_agr _ (ha fun j h => (by cases h))]
  | ret =>
    unfold zfin
    simp only [resVs_agr _ (ha fun j h => (by cases h))]
/-- What a place answers does not turn on what is not looked at. -/
theorem resY_agr {n : Nat} {fn : Func} {h0 : AH} {x : Ny} {fr : List Fy} {A : Nat} {e e' : Tr Value} {h : AH} {r : Value × AH} (hk : okN (resMask fn.results.toList) A x fr = true) (ha : Agr A e e')
    (hv : resY0 P n fn h0 x fr e' h = some r) : resY0 P n fn h0 x fr e h = some r := by
  unfold resY0 at hv ⊢
  obtain ⟨q, h1, h2⟩ := Option.bind_eq_some_iff.1 hv
  have key : ∃ e1, denY P (run P n) n x fr e h = some (q.1, e1, q.2.2) ∧ ((∀ j, q.1 ≠ .exit j) → Agr (resMask fn.results.toList) e1 q.2.1) := by
    have code : ∀ (c : Code), (match okC (resMask fn.results.toList) c A with
        | some A' => okF (resMask fn.results.toList) fr A' A
        | none => false) = true → ((exec P (run P n) n c e' h).bind fun r => unwY P (run P n) n fr r.1 r.2.1 r.2.2) = some q →
        ∃ e1, ((exec P (run P n) n c e h).bind fun r => unwY P (run P n) n fr r.1 r.2.1 r.2.2) = some (q.1, e1, q.2.2) ∧ ((∀ j, q.1 ≠ .exit j) → Agr (resMask fn.results.toList) e1 q.2.1) := fun c hk h1 => by
      obtain ⟨p, g1, g2⟩ := Option.bind_eq_some_iff.1 h1
      split at hk
      · rename_i A1 hb
        obtain ⟨e1, q1, q2, q3, q4⟩ := exec_agr c hb ha g1
        rw [q1]
        refine unwY_agr fr hk ?_ (q2 _ ha) g2
        cases hx : p.1 with
        | normal => exact q3 hx
        | exit j => exact q2 _ ha
        | ret => exact q4 hx
      · cases hk
    cases x with
    | code c p => exact code c hk h1
    | raw c p => exact code c hk h1
    | head c p m =>
      have hk : ((okC (resMask fn.results.toList) c A).isSome && okF (resMask fn.results.toList) fr TOP A) = true := hk
      rw [Bool.and_eq_true] at hk
      obtain ⟨A1, hc⟩ := Option.isSome_iff_exists.1 hk.1
      have h1 : ((iter (exec P (run P n) n c) m e' h).bind fun r => unwY P (run P n) n fr r.1 r.2.1 r.2.2) = some q := h1
      obtain ⟨p, g1, g2⟩ := Option.bind_eq_some_iff.1 h1
      obtain ⟨n1, e1, q1, q2, q3, q4⟩ := iter_agr (step := exec P (run P n) n c) (A := A) (R := resMask fn.results.toList) (A' := A1) (fun e e' h r ha hv => exec_agr c hc ha hv) m ha g1
      show ∃ e1, ((iter (exec P (run P n) n c) m e h).bind fun r => unwY P (run P n) n fr r.1 r.2.1 r.2.2) = _ ∧ _
      rw [q1]
      refine unwY_agr fr hk.2 ?_ (q2 _ ha) g2
      cases hx : p.1 with
      | normal => exact absurd hx n1
      | exit j => exact q2 _ ha
      | ret => exact q4 hx
    | ends x => cases hk
  obtain ⟨e1, g1, g2⟩ := key
  rw [g1]
  show zfin P fn h0 q.1 e1 q.2.2 = some r
  rw [zfin_agr g2]
  exact h2
theorem E_get (l : List (Nat × Value)) (t : Nat) : (E l).get t = (l.find? fun p => p.1 == t).map (·.2) := by
  induction l with
  | nil => exact Tr.get_nil _
  | cons p l ih =>
    show ((E l).set p.1 p.2).get t = _
    rw [Tr.get_set, List.find?_cons, ih]
    by_cases hp : t = p.1
    · rw [if_pos hp, show (p.1 == t) = true from beq_iff_eq.2 hp.symm]
      rfl
    · rw [if_neg hp, show (p.1 == t) = false from beq_eq_false_iff_ne.2 fun h => hp h.symm]
theorem keep_find (e : Tr Value) (t : Nat) : ∀ (L : List Nat), t ∈ L → ((keep e L).find? fun p => p.1 == t).map (·.2) = e.get t
  | i :: L, h => by
    by_cases hi : i = t
    · subst hi
      unfold keep
      cases he : e.get i with
      | some v =>
        rw [List.find?_cons, show ((i, v).1 == i) = true from beq_iff_eq.2 rfl]
        rfl
      | none =>
        simp only
        by_cases hL : i ∈ L
        · rw [keep_find e i L hL, he]
        · have : ∀ (L : List Nat), i ∉ L → (keep e L).find? (fun p => p.1 == i) = none := by
            intro L
            induction L with
            | nil => exact fun _ => rfl
            | cons j L ih =>
              intro hn
              have hj : j ≠ i := fun h => hn (h ▸ List.mem_cons_self ..)
              have ih := ih fun h => hn (List.mem_cons_of_mem _ h)
              unfold keep
              split
              · rw [List.find?_cons, show (j == i) = false from beq_eq_false_iff_ne.2 hj]
                exact ih
              · exact ih
          rw [this L hL]
          rfl
    · have hL : t ∈ L := (List.mem_cons.1 h).resolve_left fun h => hi h.symm
      unfold keep
      split
      · rw [List.find?_cons, show (i == t) = false from beq_eq_false_iff_ne.2 hi]
        exact keep_find e t L hL
      · exact keep_find e t L hL
theorem maskOf_mem : ∀ (L : List Nat) (t : Nat), (maskOf L).testBit t = true → t ∈ L
  | [], t, h => by
    rw [show maskOf [] = 0 from rfl, Nat.zero_testBit] at h
    cases h
  | i :: L, t, h => by
    have h : (maskOf L ||| 2 ^ i).testBit t = true := h
    rw [testBit_setA, Bool.or_eq_true] at h
    rcases h with h | h
    · exact List.mem_cons_of_mem _ (maskOf_mem L t h)
    · exact (of_decide_eq_true h) ▸ List.mem_cons_self ..
/-- A CUT IS RIGHT. -/
theorem cutY_ok {n : Nat} {fn : Func} {h0 : AH} {L : List Nat} {x : Ny} {fr : List Fy} {e : Tr Value} {h : AH} {r : Value × AH} (hv : cutY fn (resY0 P n fn h0) L x fr e h = some r) : resY0 P n fn h0 x fr e h = some r := by
  obtain ⟨hk, hv⟩ := cond_some' hv
  refine resY_agr hk (fun t ht => ?_) hv
  rw [E_get, keep_find e t L (maskOf_mem L t ht)]
end Go.Proofs.YtiadfnedbbkojaaDoor.X
namespace Go.Proofs.YtiadfnedbbkojaaDoor.X
open Go
variable {P : Program} {ρ : Type} {r : ρ} {cf : FuncId → List Value → AH → Option (Value × AH)}
theorem viewC_ok {t : TypeId} {o : Option Value} {K : Value → Option ρ} (hv : viewC P t o K = some r) : ∃ v, o = some v ∧ K v = some r := by
  unfold viewC at hv
  split at hv
  · obtain ⟨n, hn, hk⟩ := Option.bind_eq_some_iff.1 hv
    obtain ⟨v, h1, h2⟩ := Option.bind_eq_some_iff.1 hn
    exact ⟨_, by rw [h1, vInt_ok h2], hk⟩
  · obtain ⟨n, hn, hk⟩ := Option.bind_eq_some_iff.1 hv
    obtain ⟨v, h1, h2⟩ := Option.bind_eq_some_iff.1 hn
    exact ⟨_, by rw [h1, vBool_ok h2], hk⟩
  · obtain ⟨n, hn, hk⟩ := Option.bind_eq_some_iff.1 hv
    obtain ⟨v, h1, h2⟩ := Option.bind_eq_some_iff.1 hn
    exact ⟨_, by rw [h1, vStr_ok h2], hk⟩
  · obtain ⟨n, hn, hk⟩ := Option.bind_eq_some_iff.1 hv
    obtain ⟨v, h1, h2⟩ := Option.bind_eq_some_iff.1 hn
    exact ⟨_, by rw [h1, vSl_ok h2], hk⟩
  · obtain ⟨n, hn, hk⟩ := Option.bind_eq_some_iff.1 hv
    obtain ⟨v, h1, h2⟩ := Option.bind_eq_some_iff.1 hn
    exact ⟨_, by rw [h1, vPtr_ok h2], hk⟩
  · exact Option.bind_eq_some_iff.1 hv
theorem viewM_ok {rd : Nat → Option Value} : ∀ (ts : List TypeId) (i : Nat) {K : List Value → Option ρ}, viewM P rd ts i K = some r → ∃ l : List Value, l.length = ts.length ∧ (∀ j x, l[j]? = some x → rd (i + j) = some x) ∧ K l = some r
  | [], i, K, hv => ⟨[], rfl, fun _ _ h => (by cases h), hv⟩
  | t :: ts, i, K, hv => by
    obtain ⟨v, h1, hv⟩ := viewC_ok hv
    obtain ⟨l, h2, h3, h4⟩ := viewM_ok ts (i + 1) hv
    refine ⟨v :: l, congrArg Nat.succ h2, fun j x hx => ?_, h4⟩
    cases j with
    | zero =>
      injection hx with hx
      subst hx
      exact h1
    | succ j =>
      rw [show i + (j + 1) = i + 1 + j by omega]
      exact h3 j x hx
theorem list_ext {l m : List Value} (hl : l.length = m.length) (h : ∀ j x, l[j]? = some x → m[0 + j]? = some x) : l = m := by
  apply List.ext_getElem?
  intro i
  cases hi : l[i]? with
  | some x =>
    have := h i x hi
    rw [Nat.zero_add] at this
    exact this.symm
  | none =>
    have := List.getElem?_eq_none_iff.1 hi
    exact (List.getElem?_eq_none (by omega)).symm
theorem yviewT_ok {t : TypeId} {o : Option Value} {K : Value → Option ρ} (hv : yviewT P t o K = some r) : ∃ v, o = some v ∧ K v = some r := by
  unfold yviewT at hv
  obtain ⟨ag, _, hv⟩ := Option.bind_eq_some_iff.1 hv
  cases ag with
  | false => exact viewC_ok hv
  | true =>
    obtain ⟨v, hv0, hv⟩ := Option.bind_eq_some_iff.1 hv
    obtain ⟨ts, _, hv⟩ := Option.bind_eq_some_iff.1 hv
    obtain ⟨hc, hv⟩ := cond_some' hv
    obtain ⟨l, h2, h3, h4⟩ := viewM_ok ts 0 hv
    obtain ⟨cs, rfl, hc⟩ := aggIs_ok hc
    have e : l = cs.toList := list_ext (by omega) h3
    rw [e] at h4
    exact ⟨_, hv0, h4⟩
theorem yviewTs_ok {v : Value} : ∀ (ts : List TypeId) (i : Nat) {K : List Value → Option ρ}, yviewTs P v ts i K = some r → ∃ l : List Value, l.length = ts.length ∧ (∀ j x, l[j]? = some x → tupC (i + j) v = some x) ∧ K l = some r
  | [], i, K, hv => ⟨[], rfl, fun _ _ h => (by cases h), hv⟩
  | t :: ts, i, K, hv => by
    obtain ⟨x, h1, hv⟩ := yviewT_ok hv
    obtain ⟨l, h2, h3, h4⟩ := yviewTs_ok ts (i + 1) hv
    refine ⟨x :: l, congrArg Nat.succ h2, fun j y hy => ?_, h4⟩
    cases j with
    | zero =>
      injection hy with hy
      subst hy
      exact h1
    | succ j =>
      rw [show i + (j + 1) = i + 1 + j by omega]
      exact h3 j y hy
theorem yviewR_ok {ts : List TypeId} {v : Value} {K : Value → Option ρ} (hv : yviewR P ts v K = some r) : K v = some r := by
  unfold yviewR at hv
  split at hv
  · exact hv
  · obtain ⟨x, h1, h2⟩ := yviewT_ok hv
    injection h1 with h1
    rwa [h1]
  · obtain ⟨hc, hv⟩ := cond_some' hv
    obtain ⟨l, h2, h3, h4⟩ := yviewTs_ok _ 0 hv
    obtain ⟨cs, rfl, hc⟩ := tupIs_ok hc
    have e : l = cs.toList := list_ext (by omega) h3
    rw [e] at h4
    exact h4
theorem yload_ok {t : TypeId} {x : Value} {h : AH} {K : Value → Option ρ} (hv : yload P t x h K = some r) : ∃ v, loadV P t x h = some v ∧ K v = some r := by
  have hp : ∃ a, x = .pointer a := by
    cases x <;> first | (cases hv; done) | exact ⟨_, rfl⟩
  obtain ⟨a, rfl⟩ := hp
  unfold yload at hv
  simp only at hv
  · obtain ⟨ad, had, hv1⟩ := Option.bind_eq_some_iff.1 hv
    clear hv
    obtain ⟨ag, hag, hv⟩ := Option.bind_eq_some_iff.1 hv1
    clear hv1
    subst had
    cases ag with
    | false =>
      obtain ⟨v, hv1, hv⟩ := viewC_ok hv
      obtain ⟨hs, b, h1, h2⟩ := rdC_ok hv1
      refine ⟨v, ?_, hv⟩
      unfold loadV
      simp only [h1, Option.bind_some, hs]
      unfold partT
      rw [hag]
      exact h2
    | true =>
      obtain ⟨ts, _, hv⟩ := Option.bind_eq_some_iff.1 hv
      obtain ⟨hc, hv⟩ := cond_some' hv
      rw [Bool.and_eq_true] at hc
      have hsz := of_decide_eq_true hc.1
      obtain ⟨l, h2, h3, h4⟩ := viewM_ok ts 0 hv
      have hne : ts.length ≠ 0 := fun e => by
        rw [e] at hc
        cases hc.2
      have hl0 : 0 < l.length := by omega
      obtain ⟨hs, b, h1, _⟩ := rdC_ok (h3 0 _ (List.getElem?_eq_getElem hl0))
      have hall : ∀ j x, l[j]? = some x → b.cells[ad.off + j]? = some x := fun j x hx => by
        obtain ⟨_, b', h1', h5⟩ := rdC_ok (h3 j x hx)
        rw [h1] at h1'
        injection h1' with h1'
        subst h1'
        rwa [Nat.zero_add] at h5
      refine ⟨.agg l.toArray, ?_, h4⟩
      unfold loadV
      simp only [h1, Option.bind_some, hs]
      unfold partT
      rw [hag]
      simp only [Option.bind_some, cond_true, hsz]
      have hfit : ad.off + l.length ≤ b.cells.length := by
        have := (List.getElem?_eq_some_iff.1 (hall (l.length - 1) _ (List.getElem?_eq_getElem (by omega)))).1
        omega
      have e : takeAt b.cells ad.off ts.length = some l := by
        unfold takeAt
        rw [← h2, Nat.ble_eq_true_of_le hfit]
        refine congrArg some ?_
        apply List.ext_getElem?
        intro i
        rw [List.getElem?_take]
        split
        · rename_i hi
          rw [List.getElem?_drop, hall i _ (List.getElem?_eq_getElem hi)]
          exact (List.getElem?_eq_getElem hi).symm
        · exact (List.getElem?_eq_none (by omega)).symm
      rw [e]
      rfl
theorem ystore_ok {t : TypeId} {x v : Value} {h : AH} {K : AH → Option ρ} (hv : ystore P t x v h K = some r) : ∃ h', storeV P t x v h = some h' ∧ K h' = some r := by
  unfold ystore at hv
  split at hv
  · obtain ⟨ad, had, hv1⟩ := Option.bind_eq_some_iff.1 hv
    obtain ⟨s, hs, hv2⟩ := Option.bind_eq_some_iff.1 hv1
    obtain ⟨vs, hvs, hv3⟩ := Option.bind_eq_some_iff.1 hv2
    obtain ⟨hl, hv4⟩ := cond_some' hv3
    obtain ⟨h', h1, h2⟩ := Option.bind_eq_some_iff.1 hv4
    subst had
    refine ⟨h', ?_, h2⟩
    unfold stL at h1
    split at h1
    · rename_i hsp
      obtain ⟨b, hb, h3⟩ := Option.bind_eq_some_iff.1 h1
      have hl' := Nat.eq_of_beq_eq_true hl
      unfold storeV
      simp only [hb, hs, hvs, Option.bind_some, hsp, hl, Bool.true_and]
      rw [← hl']
      exact h3
    · cases h1
  · cases hv
theorem ybin_ok {op : BinOp} {t : TypeId} {x y : Value} {K : Value → Option ρ} (hv : ybin P op t x y K = some r) : ∃ v, binV P op t x y = some v ∧ K v = some r := by
  unfold ybin at hv
  split at hv
  · rename_i k a k' b
    obtain ⟨hc, hv⟩ := cond_some' hv
    rw [mulS_eq] at hv
    refine kbin_ok (t := t) (K := K) ?_
    show cond (decide (k = k')) (kint .mul k a b K) none = some r
    rw [hc]
    exact hv
  · exact kbin_ok hv
theorem yop_ok {o : Op} {ty : TypeId} {e : Tr Value} {h : AH} {K : Value → AH → Option ρ} (hv : yop P cf hNew o ty e h K = some r) : ∃ v h', opV P cf o e h = some (v, h') ∧ K v h' = some r := by
  cases o with
  | alloc t =>
    obtain ⟨z, hz, hv1⟩ := Option.bind_eq_some_iff.1 hv
    obtain ⟨vs, hvs, hv2⟩ := Option.bind_eq_some_iff.1 hv1
    obtain ⟨hp, hv3⟩ := cond_some' hv2
    refine ⟨_, _, ?_, hv3⟩
    unfold opV
    simp only [hz, hvs, Option.bind_some, hp, cond_true]
    rfl
  | box t x =>
    obtain ⟨vs, hvs, hv2⟩ := Option.bind_eq_some_iff.1 hv
    refine ⟨_, _, ?_, hv2⟩
    unfold opV
    simp only [hvs, Option.bind_some]
    rfl
  | buildSlice t n ps =>
    obtain ⟨d, hd, hv1⟩ := Option.bind_eq_some_iff.1 hv
    clear hv
    cases d with
    | slice el =>
      obtain ⟨s, hs, hv2⟩ := Option.bind_eq_some_iff.1 hv1
      clear hv1
      obtain ⟨z, hz, hv3⟩ := Option.bind_eq_some_iff.1 hv2
      clear hv2
      obtain ⟨zs, hzs, hv4⟩ := Option.bind_eq_some_iff.1 hv3
      clear hv3
      obtain ⟨hc, hv5⟩ := cond_some' hv4
      clear hv4
      obtain ⟨cs, hcs, hv6⟩ := Option.bind_eq_some_iff.1 hv5
      refine ⟨_, _, ?_, hv6⟩
      unfold opV
      simp only [hd, hs, hz, hzs, Option.bind_some, hc, cond_true, hcs, Option.map_some]
      rfl
    | _ => cases hv1
  | makeSlice t nn cc =>
    obtain ⟨d, hd, hv1⟩ := Option.bind_eq_some_iff.1 hv
    clear hv
    split at hv1
    · rename_i _ _ el n c hn hc
      obtain ⟨s, hs, hv2⟩ := Option.bind_eq_some_iff.1 hv1
      clear hv1
      obtain ⟨z, hz, hv3⟩ := Option.bind_eq_some_iff.1 hv2
      clear hv2
      obtain ⟨b, hb, hv4⟩ := Option.bind_eq_some_iff.1 hv3
      clear hv3
      obtain ⟨zs, hzs, hv5⟩ := Option.bind_eq_some_iff.1 hv4
      clear hv4
      obtain ⟨hq, hv6⟩ := cond_some' hv5
      clear hv5
      obtain ⟨hr, hv7⟩ := cond_some' hv6
      clear hv6
      rw [Bool.and_eq_true] at hq hr
      rw [Bool.and_eq_true] at hr
      rw [Bool.and_eq_true] at hr
      obtain ⟨r1, r2, r3, r4⟩ := hr
      have r1 : decide (0 ≤ n) = true := r1
      have r2 : decide (n ≤ c) = true := r2
      have r3 : decide (c * (b : Int) ≤ 140737488355328) = true := r3
      have r4 : decide (c < 9223372036854775808) = true := r4
      refine ⟨_, _, ?_, hv7⟩
      unfold opV
      simp only [hd, hn, hc, Option.bind_some, hs, hz, hb, hzs, r1, r2, r3, r4, hq.1, hq.2, Bool.and_true, Bool.true_and, cond_true]
      rfl
    · cases hv1
  | binOp op t x y yt =>
    have hv' : ybin P op t (ev e x) (ev e y) (fun v => K v h) = some r := hv
    obtain ⟨v, h1, h2⟩ := ybin_ok hv'
    exact ⟨v, h, congrArg (fun o => o.map fun v => (v, h)) h1, h2⟩
  | load t x =>
    have hv' : yload P t (ev e x) h (fun v => K v h) = some r := hv
    obtain ⟨v, h1, h2⟩ := yload_ok hv'
    exact ⟨v, h, congrArg (fun o => o.map fun v => (v, h)) h1, h2⟩
  | store t x v =>
    have hv' : ystore P t (ev e x) (ev e v) h (fun h' => K undef h') = some r := hv
    obtain ⟨h', h1, h2⟩ := ystore_ok hv'
    exact ⟨undef, h', congrArg (fun o => o.map fun h' => (undef, h')) h1, h2⟩
  | call c =>
    obtain ⟨callee, cargs, cts⟩ := c
    cases callee with
    | builtin b =>
      have hv' : ybuiltin P b cts.toList (cargs.toList.map (ev e)) h (kop P cf (.call ⟨.builtin b, cargs, cts⟩) ty e h K) K = some r := hv
      unfold ybuiltin at hv'
      clear hv
      split at hv'
      · rename_i t u s x hts hargs
        obtain ⟨d, hd, hv1⟩ := Option.bind_eq_some_iff.1 hv'
        obtain ⟨d', hd', hv2⟩ := Option.bind_eq_some_iff.1 hv1
        clear hv' hv1
        split at hv2
        · rename_i el el'
          obtain ⟨z, hz, hv3⟩ := Option.bind_eq_some_iff.1 hv2
          obtain ⟨b, hb, hv4⟩ := Option.bind_eq_some_iff.1 hv3
          obtain ⟨zz, hzz, hv5⟩ := Option.bind_eq_some_iff.1 hv4
          obtain ⟨zs, hzs, hv6⟩ := Option.bind_eq_some_iff.1 hv5
          clear hv2 hv3 hv4 hv5
          cases hc : (Nat.beq b 0 || !(Nat.beq zs.length z)) with
          | true =>
            rw [hc] at hv6
            cases hv6
          | false =>
            rw [hc] at hv6
            obtain ⟨p, hp, hv7⟩ := Option.bind_eq_some_iff.1 hv6
            unfold appL at hp
            obtain ⟨q, hq, hp2⟩ := Option.bind_eq_some_iff.1 hp
            obtain ⟨s', hs', hp3⟩ := Option.map_eq_some_iff.1 hp2
            subst hp3
            refine ⟨_, _, ?_, hv7⟩
            show builtinV P .append cts.toList (cargs.toList.map (ev e)) h = _
            rw [hts, hargs]
            unfold builtinV
            simp only [hd, hd', Option.bind_some, hz, hb, hzz, hzs, hc, cond_false, hq]
            rw [← vSl_ok hs']
        · cases hv2
      · exact kop_ok hv'
    | value f =>
      have hv' : ycallF P cf (ev e f) (cargs.toList.map (ev e)) h K = some r := hv
      clear hv
      unfold opV
      simp only
      generalize ev e f = fv at hv'
      unfold ycallF at hv'
      split at hv'
      · obtain ⟨p, h1, h2⟩ := Option.bind_eq_some_iff.1 hv'
        obtain ⟨fn, _, h3⟩ := Option.bind_eq_some_iff.1 h2
        exact ⟨_, _, h1, yviewR_ok h3⟩
      · cases hv'
    | invoke r m => cases hv
  | _ => exact kop_ok (ty := ty) hv
theorem yops_ok {ops : Array Oper} : ∀ (l : List Oper) {e : Tr Value} {h : AH} {K : Tr Value → AH → Option ρ}, yops P cf hNew ops l e h K = some r → ∃ e' h', opsV P cf ops l e h = some (e', h') ∧ K e' h' = some r
  | [], e, h, K, hv => ⟨e, h, rfl, hv⟩
  | o :: l, e, h, K, hv => by
    show ∃ e' h', cond (wantE ops o e) ((opV P cf o.op e h).bind fun p => opsV P cf ops l (putE e o.dst p.1) p.2) (opsV P cf ops l (putE e o.dst undef) h) = some (e', h') ∧ _
    rcases kwant_ok hv with ⟨hw, hv1⟩ | ⟨hw, hv1⟩
    · rw [hw]
      obtain ⟨v, h1, g1, g2⟩ := yop_ok hv1
      obtain ⟨e', h', g3, g4⟩ := yops_ok l g2
      exact ⟨e', h', by rw [g1]; exact g3, g4⟩
    · rw [hw]
      exact yops_ok l hv1
theorem ydraw_ok {ops : Array Oper} : ∀ (l : List Oper) {i : Nat} {e : Tr Value} {h : AH} {K : Tr Value → AH → Option ρ}, ydraw P cf hNew ops i l e h K = some r → ∃ e' h', drawV P cf ops i l e h = some (e', h') ∧ K e' h' = some r
  | [], i, e, h, K, hv => ⟨e, h, rfl, hv⟩
  | o :: l, i, e, h, K, hv => by
    show ∃ e' h', cond (wantE ops o e)
      (cond (quiet o.op) ((opV P cf o.op e h).bind fun p => drawV P cf ops (i + 1) l (putE e o.dst p.1) p.2)
      (cond (tailOK ops.toList i) (opsV P cf ops (o :: l) e h)
      ((opV P cf o.op e { h with low := h.next }).bind fun p => cond (Nat.beq p.2.low h.next) (drawV P cf ops (i + 1) l (putE e o.dst p.1) { p.2 with low := h.low }) none)))
      (drawV P cf ops (i + 1) l (putE e o.dst undef) h) = some (e', h') ∧ _
    rcases kwant_ok hv with ⟨hw, hv1⟩ | ⟨hw, hv1⟩
    · rw [hw]
      cases hq : quiet o.op with
      | true =>
        rw [hq] at hv1
        simp only [cond_true] at hv1
        obtain ⟨v, h1, g1, g2⟩ := yop_ok hv1
        obtain ⟨e', h', g3, g4⟩ := ydraw_ok l g2
        exact ⟨e', h', by rw [g1]; exact g3, g4⟩
      | false =>
        rw [hq] at hv1
        cases ht : tailOK ops.toList i with
        | true =>
          rw [ht] at hv1
          exact yops_ok _ hv1
        | false =>
          rw [ht] at hv1
          simp only [cond_false] at hv1
          obtain ⟨v, h1, g1, g2⟩ := yop_ok hv1
          obtain ⟨hb, g2⟩ := cond_some' g2
          obtain ⟨e', h', g3, g4⟩ := ydraw_ok l g2
          refine ⟨e', h', ?_, g4⟩
          show (opV P cf o.op e { h with low := h.next }).bind _ = _
          have g1' : opV P cf o.op e { h with low := h.next } = some (v, h1) := g1
          rw [g1']
          show cond (Nat.beq h1.low h.next) _ _ = _
          rw [hb]
          exact g3
    · rw [hw]
      exact ydraw_ok l hv1
theorem yres_ok {e : Tr Value} {h : AH} : ∀ (l : List ResultVar) {K : List Value → Option ρ}, yres P e h l K = some r → ∃ vs, resVs P e h l = some vs ∧ K vs = some r
  | [], K, hv => ⟨[], rfl, hv⟩
  | .tmp t :: l, K, hv => by
    obtain ⟨vs, h1, h2⟩ := yres_ok l hv
    exact ⟨(e.get t).getD undef :: vs, by show (some ((e.get t).getD undef)).bind _ = _; rw [Option.bind_some, h1]; rfl, h2⟩
  | .cell a t :: l, K, hv => by
    obtain ⟨v, g1, g2⟩ := yload_ok hv
    obtain ⟨vs, h1, h2⟩ := yres_ok l g2
    exact ⟨v :: vs, by show (loadV P t ((e.get a).getD undef) h).bind _ = _; rw [g1, Option.bind_some, h1]; rfl, h2⟩
theorem yfin_ok {fn : Func} {h0 : AH} {x : Ex} {e : Tr Value} {h : AH} {r : Value × AH} (hv : yfin P fn h0 x e h = some r) : zfin P fn h0 x e h = some r := by
  have fin : (yres P e h fn.results.toList fun vs => (packV vs).bind fun v => some (exitR h0 h v)) = some r →
      ((resVs P e h fn.results.toList).bind fun vs => (packV vs).map fun v => exitR h0 h v) = some r := fun hv => by
    obtain ⟨vs, q1, q2⟩ := yres_ok _ hv
    obtain ⟨v, q3, q4⟩ := Option.bind_eq_some_iff.1 q2
    rw [q1, Option.bind_some, q3]
    exact q4
  cases x with
  | exit j => cases hv
  | normal => exact fin hv
  | ret => exact fin hv
section
variable {n : Nat} {fn : Func} {h0 : AH} {plan : List (List Nat × List Nat)} {r : Value × AH}
/-- THE TREE IS RIGHT. -/
theorem ygo_ok : ∀ (f : Nat) {x : Ny} {fr : List Fy} {e : Tr Value} {h : AH}, ygo P (run P n) n fn h0 plan hNew (resY0 P n fn h0) f x fr e h = some r → resY0 P n fn h0 x fr e h = some r
  | 0, _, _, _, _, hv => by cases hv
  | f + 1, .ends x, fr, e, h, hv => by
    cases fr with
    | nil => exact yfin_ok hv
    | cons a fr =>
      cases a with
      | seq b p =>
        cases x with
        | normal => have g := ygo_ok f (x := .code b p) (fr := fr) (e := e) (h := h) hv; exact g
        | exit id => have g := ygo_ok f (x := .ends (.exit id)) (fr := fr) (e := e) (h := h) hv; exact g
        | ret => have g := ygo_ok f (x := .ends .ret) (fr := fr) (e := e) (h := h) hv; exact g
      | block id =>
        cases x with
        | normal => have g := ygo_ok f (x := .ends .normal) (fr := fr) (e := e) (h := h) hv; exact g
        | exit j =>
          have hv' : cond (Nat.beq j id) (ygo P (run P n) n fn h0 plan hNew (resY0 P n fn h0) f (.ends .normal) fr e h) (ygo P (run P n) n fn h0 plan hNew (resY0 P n fn h0) f (.ends (.exit j)) fr e h) = some r := hv
          show ((cond (Nat.beq j id) (unwY P (run P n) n fr .normal e h) (unwY P (run P n) n fr (.exit j) e h)).bind _) = _
          cases hb : Nat.beq j id with
          | true =>
            rw [hb] at hv'
            have g := ygo_ok f (x := .ends .normal) (fr := fr) (e := e) (h := h) hv'; exact g
          | false =>
            rw [hb] at hv'
            have g := ygo_ok f (x := .ends (.exit j)) (fr := fr) (e := e) (h := h) hv'; exact g
        | ret => have g := ygo_ok f (x := .ends .ret) (fr := fr) (e := e) (h := h) hv; exact g
      | loop c p m =>
        cases x with
        | normal =>
          have hv' : (match look plan p with
            | some L => cutY fn (resY0 P n fn h0) L (.head c p m) fr e h
            | none => none) = some r := hv
          split at hv'
          · have g := cutY_ok (x := .head c p m) (fr := fr) hv'
            exact g
          · cases hv'
        | exit id => have g := ygo_ok f (x := .ends (.exit id)) (fr := fr) (e := e) (h := h) hv; exact g
        | ret => have g := ygo_ok f (x := .ends .ret) (fr := fr) (e := e) (h := h) hv; exact g
  | f + 1, .code c p, fr, e, h, hv => by
    have hv' : (match look plan p with
      | some L => cond (isLoop c) (ygo P (run P n) n fn h0 plan hNew (resY0 P n fn h0) f (.raw c p) fr e h) (cutY fn (resY0 P n fn h0) L (.code c p) fr e h)
      | none => ygo P (run P n) n fn h0 plan hNew (resY0 P n fn h0) f (.raw c p) fr e h) = some r := hv
    split at hv'
    · cases hl : isLoop c with
      | true =>
        rw [hl] at hv'
        have g := ygo_ok f (x := .raw c p) (fr := fr) (e := e) (h := h) hv'; exact g
      | false =>
        rw [hl] at hv'
        exact cutY_ok hv'
    · have g := ygo_ok f (x := .raw c p) (fr := fr) (e := e) (h := h) hv'; exact g
  | f + 1, .head c p m, fr, e, h, hv => by
    have hv' : (match look plan p with
      | some L => cutY fn (resY0 P n fn h0) L (.head c p m) fr e h
      | none => none) = some r := hv
    split at hv'
    · exact cutY_ok hv'
    · cases hv'
  | f + 1, .raw c p, fr, e, h, hv => by
    cases c with
    | skip => have g := ygo_ok f (x := .ends .normal) (fr := fr) (e := e) (h := h) hv; exact g
    | region id ops d =>
      have hv' : cond d (ydraw P (run P n) hNew ops 0 ops.toList e h fun e h => ygo P (run P n) n fn h0 plan hNew (resY0 P n fn h0) f (.ends .normal) fr e h) (yops P (run P n) hNew ops ops.toList e h fun e h => ygo P (run P n) n fn h0 plan hNew (resY0 P n fn h0) f (.ends .normal) fr e h) = some r := hv
      show ((((cond d (drawV P (run P n) ops 0 ops.toList e h) (opsV P (run P n) ops ops.toList e h)).map fun r => ((Ex.normal, r.1, r.2) : Ex × Tr Value × AH)).bind (fun r => unwY P (run P n) n fr r.1 r.2.1 r.2.2)).bind _) = _
      cases d with
      | true =>
        obtain ⟨e1, h1, g1, g2⟩ := ydraw_ok _ hv'
        rw [cond_true, g1]
        have g := ygo_ok f (x := .ends .normal) (fr := fr) g2; exact g
      | false =>
        obtain ⟨e1, h1, g1, g2⟩ := yops_ok _ hv'
        rw [cond_false, g1]
        have g := ygo_ok f (x := .ends .normal) (fr := fr) g2; exact g
    | seq a b =>
      have g := ygo_ok f (x := .code a (0 :: p)) (fr := .seq b (1 :: p) :: fr) hv
      obtain ⟨q, g1, g2⟩ := Option.bind_eq_some_iff.1 g
      obtain ⟨⟨x1, e1, h1⟩, g3, g4⟩ := Option.bind_eq_some_iff.1 g1
      show ((((exec P (run P n) n a e h).bind fun r => match r.1 with
        | .normal => exec P (run P n) n b r.2.1 r.2.2
        | _ => some r).bind _).bind _) = _
      rw [g3]
      cases x1 with
      | normal =>
        have g4 : ((exec P (run P n) n b e1 h1).bind fun r => unwY P (run P n) n fr r.1 r.2.1 r.2.2) = some q := g4
        show ((((exec P (run P n) n b e1 h1)).bind _).bind _) = _
        rw [g4]
        exact g2
      | exit id =>
        have g4 : unwY P (run P n) n fr (.exit id) e1 h1 = some q := g4
        show ((unwY P (run P n) n fr (.exit id) e1 h1).bind _) = _
        rw [g4]
        exact g2
      | ret =>
        have g4 : unwY P (run P n) n fr .ret e1 h1 = some q := g4
        show ((unwY P (run P n) n fr .ret e1 h1).bind _) = _
        rw [g4]
        exact g2
    | cond c x y =>
      have hv' : kcond c e (fun e => ygo P (run P n) n fn h0 plan hNew (resY0 P n fn h0) f (.code x (0 :: p)) fr e h) (fun e => ygo P (run P n) n fn h0 plan hNew (resY0 P n fn h0) f (.code y (1 :: p)) fr e h) = some r := hv
      clear hv
      obtain ⟨t, ht, hv'⟩ := kcond_ok hv'
      unfold resY0 denY exec
      simp only [ht]
      cases t with
      | true => have g := ygo_ok f (x := .code x (0 :: p)) (fr := fr) hv'; exact g
      | false => have g := ygo_ok f (x := .code y (1 :: p)) (fr := fr) hv'; exact g
    | block id c =>
      have g := ygo_ok f (x := .code c (0 :: p)) (fr := .block id :: fr) hv
      obtain ⟨q, g1, g2⟩ := Option.bind_eq_some_iff.1 g
      obtain ⟨⟨x1, e1, h1⟩, g3, g4⟩ := Option.bind_eq_some_iff.1 g1
      show ((((exec P (run P n) n c e h).bind fun r => match r.1 with
        | .exit j => cond (Nat.beq j id) (some (.normal, r.2.1, r.2.2)) (some r)
        | _ => some r).bind _).bind _) = _
      rw [g3]
      cases x1 with
      | normal =>
        have g4 : unwY P (run P n) n fr .normal e1 h1 = some q := g4
        show ((unwY P (run P n) n fr .normal e1 h1).bind _) = _
        rw [g4]
        exact g2
      | exit j =>
        have g4' : cond (Nat.beq j id) (unwY P (run P n) n fr .normal e1 h1) (unwY P (run P n) n fr (.exit j) e1 h1) = some q := g4
        show (((cond (Nat.beq j id) (some (Ex.normal, e1, h1)) (some (Ex.exit j, e1, h1))).bind _).bind _) = _
        cases hb : Nat.beq j id with
        | true =>
          rw [hb] at g4'
          have g4' : unwY P (run P n) n fr .normal e1 h1 = some q := g4'
          show ((unwY P (run P n) n fr .normal e1 h1).bind _) = _
          rw [g4']
          exact g2
        | false =>
          rw [hb] at g4'
          have g4' : unwY P (run P n) n fr (.exit j) e1 h1 = some q := g4'
          show ((unwY P (run P n) n fr (.exit j) e1 h1).bind _) = _
          rw [g4']
          exact g2
      | ret =>
        have g4 : unwY P (run P n) n fr .ret e1 h1 = some q := g4
        show ((unwY P (run P n) n fr .ret e1 h1).bind _) = _
        rw [g4]
        exact g2
    | exit id => have g := ygo_ok f (x := .ends (.exit id)) (fr := fr) (e := e) (h := h) hv; exact g
    | ret => have g := ygo_ok f (x := .ends .ret) (fr := fr) (e := e) (h := h) hv; exact g
    | loop c => have g := ygo_ok f (x := .head c p n) (fr := fr) (e := e) (h := h) hv; exact g
    | _ => cases hv
theorem yhead_ok0 {c : Code} {p : List Nat} {m : Nat} {fr : List Fy} {e : Tr Value} {h : AH} (hv : yhead P (run P n) n fn h0 plan hNew (resY0 P n fn h0) c p m fr e h = some r) : resY0 P n fn h0 (.head c p (m + 1)) fr e h = some r := by
  have g := ygo_ok _ hv
  obtain ⟨q, g1, g2⟩ := Option.bind_eq_some_iff.1 g
  obtain ⟨⟨x1, e1, h1⟩, g3, g4⟩ := Option.bind_eq_some_iff.1 g1
  unfold resY0 denY
  simp only
  rw [iter_succ, g3]
  cases x1 with
  | normal =>
    have g4 : ((iter (exec P (run P n) n c) m e1 h1).bind fun r => unwY P (run P n) n fr r.1 r.2.1 r.2.2) = some q := g4
    show (((iter (exec P (run P n) n c) m e1 h1).bind _).bind _) = _
    rw [g4]
    exact g2
  | exit j =>
    have g4 : unwY P (run P n) n fr (.exit j) e1 h1 = some q := g4
    show ((unwY P (run P n) n fr (.exit j) e1 h1).bind _) = _
    rw [g4]
    exact g2
  | ret =>
    have g4 : unwY P (run P n) n fr .ret e1 h1 = some q := g4
    show ((unwY P (run P n) n fr .ret e1 h1).bind _) = _
    rw [g4]
    exact g2
theorem yfrom_ok0 {c : Code} {p : List Nat} {fr : List Fy} {e : Tr Value} {h : AH} (hv : yfrom P (run P n) n fn h0 plan hNew (resY0 P n fn h0) c p fr e h = some r) : resY0 P n fn h0 (.code c p) fr e h = some r := by
  have g := ygo_ok 4000 (x := .raw c p) (fr := fr) (e := e) (h := h) hv
  exact g
/-- A whole function's tree is right. -/
theorem yrun_ok0 {f : FuncId} {args : List Value} {h : AH} (hv : yrun P (run P n) n plan hNew (resY0 P n) f args h = some r) : run P (n + 1) f args h = some r := by
  unfold yrun at hv
  unfold run
  split at hv
  · rename_i fn hf
    rw [hf]
    split at hv
    · rename_i c hb
      simp only [hb]
      have g := ygo_ok _ hv
      obtain ⟨q, g1, g2⟩ := Option.bind_eq_some_iff.1 g
      obtain ⟨⟨x1, e1, h1⟩, g3, g4⟩ := Option.bind_eq_some_iff.1 g1
      injection g4 with g4
      subst g4
      have g3 : exec P (run P n) n c (envOf args 0 (env0 fn.ntmps)) { h with low := h.next } = some (x1, e1, h1) := g3
      rw [g3]
      cases x1 with
      | normal => exact g2
      | exit _ => cases g2
      | ret => exact g2
    · cases hv
  · cases hv
theorem yhead_ok {c : Code} {p : List Nat} {m : Nat} {fr : List Fy} {e : Tr Value} {h : AH} (hv : yhead P (runS P n) n fn h0 plan hNew (resY P n fn h0) c p m fr e h = some r) : resY P n fn h0 (.head c p (m + 1)) fr e h = some r := by
  rw [runS_eq, resY_eq] at hv
  rw [resY_eq]
  exact yhead_ok0 hv
theorem yfrom_ok {c : Code} {p : List Nat} {fr : List Fy} {e : Tr Value} {h : AH} (hv : yfrom P (runS P n) n fn h0 plan hNew (resY P n fn h0) c p fr e h = some r) : resY P n fn h0 (.code c p) fr e h = some r := by
  rw [runS_eq, resY_eq] at hv
  rw [resY_eq]
  exact yfrom_ok0 hv
theorem yrun_ok {f : FuncId} {args : List Value} {h : AH} (hv : yrun P (runS P n) n plan hNew (resY P n) f args h = some r) : runS P (n + 1) f args h = some r := by
  rw [runS_eq, resY_eq] at hv
  rw [runS_eq]
  exact yrun_ok0 hv
end
end Go.Proofs.YtiadfnedbbkojaaDoor.X
namespace Go.Proofs.YtiadfnedbbkojaaDoor.X
open Go
theorem gI_int (k : IntKind) (n : Int) : gI k (some (.int k n)) = some n := by
  show vInt k (.int k n) = some n
  exact vInt_int k n
theorem gB_bool (b : Bool) : gB (some (.bool b)) = some b := rfl
theorem gS_str (s : ByteArray) : gS (some (.string s)) = some s := rfl
theorem gL_sl (a : Option Addr) (n c : Nat) : gL (some (.slice a n c)) = some (a, n, c) := rfl
theorem gP_ptr (a : Option Addr) : gP (some (.pointer a)) = some a := rfl
theorem Tr.set_ne {α : Type} {t : Tr α} {n m : Nat} {a : α} (h : m ≠ n) : (t.set n a).get m = t.get m := (Tr.get_set _ _ _ _).trans (if_neg h)
theorem Tr.set_eq {α : Type} {t : Tr α} {n : Nat} {a : α} : (t.set n a).get n = some a := (Tr.get_set _ _ _ _).trans (if_pos rfl)
theorem nm1 {γ x : Nat} {l : List Nat} (h : γ ∉ x :: l) : γ ≠ x := fun e => h (e ▸ List.mem_cons_self ..)
theorem nm2 {γ x y : Nat} {l : List Nat} (h : γ ∉ x :: y :: l) : γ ≠ y := fun e => h (e ▸ List.mem_cons_of_mem _ (List.mem_cons_self ..))
/-- All blocks but those of the list, and all groups but those of the list, are as they were. -/
structure Ch (h h' : AH) (l : List Nat) : Prop where
  same : ∀ β, β ∉ l → h'.blks.get β = h.blks.get β ∧ h'.grps.get β = h.grps.get β
  nxt : h.next ≤ h'.next
  wf : WF h'
theorem Ch.refl {h : AH} (H : WF h) (l : List Nat) : Ch h h l := ⟨fun _ _ => ⟨rfl, rfl⟩, Nat.le_refl _, H⟩
theorem Ch.trans {h h1 h2 : AH} {l m : List Nat} (a : Ch h h1 l) (b : Ch h1 h2 m) : Ch h h2 (l ++ m) := ⟨fun β hβ => by
  have h1 : β ∉ l := fun h => hβ (List.mem_append_left _ h)
  have h2 : β ∉ m := fun h => hβ (List.mem_append_right _ h)
  exact ⟨(b.same β h2).1.trans (a.same β h1).1, (b.same β h2).2.trans (a.same β h1).2⟩, Nat.le_trans a.nxt b.nxt, b.wf⟩
theorem Ch.low {h : AH} (H : WF h) (x : Nat) : Ch h (setLow h x) [] := ⟨fun _ _ => ⟨rfl, rfl⟩, Nat.le_refl _, H.setLow x⟩
/-- A working heap: what was there when the function was entered is as it was. -/
structure Wk (h g : AH) : Prop where
  wf : WF g
  low : g.low = h.next
  nxt : h.next ≤ g.next
  old : ∀ β, β < h.next → g.blks.get β = h.blks.get β ∧ g.grps.get β = h.grps.get β
theorem Wk.start {h : AH} (H : WF h) : Wk h (setLow h h.next) := ⟨H.setLow _, rfl, Nat.le_refl _, fun _ _ => ⟨rfl, rfl⟩⟩
theorem Wk.fr {h g g' : AH} {l : List Nat} (W : Wk h g) (F : Ch g g' l) (hl : g'.low = g.low) (hm : ∀ x ∈ l, h.next ≤ x) : Wk h g' :=
  ⟨F.wf, hl.trans W.low, Nat.le_trans W.nxt F.nxt, fun β hβ => by
    have : β ∉ l := fun hx => absurd (hm β hx) (by omega)
    exact ⟨(F.same β this).1.trans (W.old β hβ).1, (F.same β this).2.trans (W.old β hβ).2⟩⟩
theorem Wk.rd {h g : AH} (H : WF h) (W : Wk h g) {β : Nat} (hβ : β < h.next) : g.rd β = h.rd β := by
  unfold AH.rd AH.members
  rw [(W.old β hβ).1]
  cases hb : h.blks.get β with
  | none => rfl
  | some b =>
    have := H.gle β b hb
    rw [Option.bind_some, Option.bind_some, (W.old b.grp (by omega)).2]
theorem Wk.rdC {h g : AH} (H : WF h) (W : Wk h g) {a : Addr} {i : Nat} {x : Value} (hx : rdC h a i = some x) : rdC g a i = some x := by
  obtain ⟨hs, b, h1, h2⟩ := rdC_ok hx
  have hb := H.lt (rd_get h1).1
  unfold X.rdC
  rw [hs]
  simp only
  rw [W.rd H hb, h1]
  exact h2
theorem Wk.exit {h g : AH} (W : Wk h g) {v : Value} (hv : plainV v = true) : exitR h g v = (v, h) := by
  unfold exitR
  rw [W.low, Nat.beq_refl, hv]
  rfl
/-- A block of one's own. -/
def Own (g : AH) (β : Nat) (cs : List Value) : Prop := ∃ z, g.blks.get β = some ⟨cs, z, β, false⟩ ∧ g.grps.get β = none
theorem Own.lt {g : AH} {β : Nat} {cs : List Value} (H : WF g) (O : Own g β cs) : β < g.next := by
  obtain ⟨z, h, _⟩ := O
  exact H.lt h
theorem Own.fr {g g' : AH} {β : Nat} {cs : List Value} {l : List Nat} (O : Own g β cs) (F : Ch g g' l) (h : β ∉ l) : Own g' β cs := by
  obtain ⟨z, h1, h2⟩ := O
  exact ⟨z, (F.same β h).1.trans h1, (F.same β h).2.trans h2⟩
theorem Own.rd {g : AH} {β : Nat} {cs : List Value} (O : Own g β cs) (o i : Nat) : rdC g ⟨β, o, none⟩ i = cs[o + i]? := by
  obtain ⟨z, h1, h2⟩ := O
  have : g.rd β = some ⟨cs, z, β, false⟩ := rd_of h1 (by
    show β ∈ (g.grps.get β).getD [β]
    rw [h2]
    exact List.mem_singleton.2 rfl)
  unfold rdC
  simp only [this, Option.bind_some]
theorem new_ok {g : AH} (H : WF g) (cs : List Value) (z : Nat) : ∃ g', hNew g cs z = some (g.next, g') ∧ Ch g g' [g.next] ∧ Own g' g.next cs ∧ g'.low = g.low ∧ g'.next = g.next + 1 :=
  ⟨(g.new cs z).2, rfl, ⟨fun _ hβ => ⟨Tr.set_ne (nm1 hβ), rfl⟩, Nat.le_succ _, (Mild.new H cs z).wf⟩,
    ⟨z, Tr.set_eq, (H.new _ (Nat.le_refl _)).2⟩, rfl, rfl⟩
theorem st_ok {g : AH} (H : WF g) {β o : Nat} {cs vs : List Value} (O : Own g β cs) (hl : g.low ≤ β) (hf : o + vs.length ≤ cs.length) :
    ∃ g', stL g ⟨β, o, none⟩ vs = some g' ∧ Ch g g' [β] ∧ Own g' β (putAt cs o vs) ∧ g'.low = g.low ∧ g'.next = g.next := by
  obtain ⟨z, h1, h2⟩ := O
  have hr : g.rd β = some ⟨cs, z, β, false⟩ := rd_of h1 (by
    show β ∈ (g.grps.get β).getD [β]
    rw [h2]
    exact List.mem_singleton.2 rfl)
  have hm : g.members β = [β] := by
    show (g.grps.get β).getD [β] = _
    rw [h2]
    rfl
  have hw : g.wr β ⟨cs, z, β, false⟩ (putAt cs o vs) = some { blks := g.blks.set β ⟨putAt cs o vs, z, β, false⟩, grps := g.grps, next := g.next, low := g.low } := by
    unfold AH.wr
    have : Nat.blt β g.low = false := by
      cases e : Nat.blt β g.low with
      | false => rfl
      | true =>
        have := Nat.le_of_ble_eq_true e
        omega
    simp only [hm, this, cond_false]
  refine ⟨{ blks := g.blks.set β ⟨putAt cs o vs, z, β, false⟩, grps := g.grps, next := g.next, low := g.low }, ?_, ⟨fun γ hγ => ⟨Tr.set_ne (nm1 hγ), rfl⟩, Nat.le_refl _, (Mild.wr H hr hw).wf⟩, ⟨z, Tr.set_eq, h2⟩, rfl, rfl⟩
  unfold stL
  simp only [hr, Option.bind_some, Nat.ble_eq_true_of_le hf, cond_true]
  exact hw
/-- A row that grows: nothing, or the whole of a block. `G`: its group. -/
def Row (g : AH) (a : Option Addr) (n c z G : Nat) (cs : List Value) : Prop :=
  (a = none ∧ n = 0 ∧ c = 0 ∧ cs = []) ∨ ∃ β, a = some ⟨β, 0, none⟩ ∧ cs.length = n * z ∧ OPEN ≤ c ∧ G ≤ β ∧ β < g.next ∧ g.blks.get β = some ⟨cs, z, G, false⟩ ∧ β ∈ g.members G
theorem Row.nil (g : AH) (z G : Nat) : Row g none 0 0 z G [] := .inl ⟨rfl, rfl, rfl, rfl⟩
theorem Row.fr {g g' : AH} {a : Option Addr} {n c z G : Nat} {cs : List Value} {l : List Nat} (R : Row g a n c z G cs) (F : Ch g g' l) (h1 : G ∉ l) (h2 : ∀ β, a = some ⟨β, 0, none⟩ → β ∉ l) : Row g' a n c z G cs := by
  rcases R with R | ⟨β, e, r1, r2, r3, r4, r5, r6⟩
  · exact .inl R
  · refine .inr ⟨β, e, r1, r2, r3, Nat.lt_of_lt_of_le r4 F.nxt, (F.same β (h2 β e)).1.trans r5, ?_⟩
    unfold AH.members at r6 ⊢
    rwa [(F.same G h1).2]
theorem Row.rd {g : AH} {a : Option Addr} {n c z G : Nat} {cs : List Value} (R : Row g a n c z G cs) {i : Nat} {x : Value} (hx : cs[i]? = some x) : ∃ ad, a = some ad ∧ rdC g ad i = some x := by
  rcases R with ⟨_, _, _, e⟩ | ⟨β, e, r1, r2, r3, r4, r5, r6⟩
  · rw [e] at hx
    cases hx
  · refine ⟨_, e, ?_⟩
    have hr : g.rd β = some ⟨cs, z, G, false⟩ := rd_of r5 r6
    unfold rdC
    simp only [hr, Option.bind_some, Nat.zero_add]
    exact hx
theorem cells_own {g : AH} {β z : Nat} {cs : List Value} (O : Own g β cs) (hl : cs.length = z) : sliceCells z 1 (.slice (some ⟨β, 0, none⟩) 1 1) g = some cs := by
  obtain ⟨y, h1, h2⟩ := O
  have hr : g.rd β = some ⟨cs, y, β, false⟩ := rd_of h1 (by
    show β ∈ (g.grps.get β).getD [β]
    rw [h2]
    exact List.mem_singleton.2 rfl)
  unfold sliceCells
  simp only [hr, Option.bind_some, Nat.one_mul]
  cases hz : Nat.beq z 0 with
  | true =>
    have := Nat.eq_of_beq_eq_true hz
    rw [this] at hl
    rw [List.eq_nil_of_length_eq_zero hl]
    rfl
  | false =>
    unfold takeAt
    rw [← hl, Nat.zero_add, Nat.ble_eq_true_of_le (Nat.le_refl _), List.drop_zero, List.take_length]
    rfl
/-- One element is appended to a row of one's own. -/
theorem app_ok {g : AH} (H : WF g) {a : Option Addr} {n c z G by_ β : Nat} {cs vs : List Value} (R : Row g a n c z G cs) (hG : a = none ∨ g.low ≤ G) (O : Own g β vs) (hv : vs.length = z) (hz : 0 < z) (hb : (n + 1) * by_ ≤ 140737488355328) :
    ∃ a' G' g', appL z by_ (.slice a n c) (.slice (some ⟨β, 0, none⟩) 1 1) g = some ((a', n + 1, OPEN), g') ∧ Row g' a' (n + 1) OPEN z G' (cs ++ vs) ∧ Ch g g' [g.next, G] ∧ g'.low = g.low ∧ g'.next = g.next + 1 ∧ a' = some ⟨g.next, 0, none⟩ ∧ (G' = g.next ∨ G' = G) ∧ (a = none → G' = g.next) ∧ (a ≠ none → G' = G) := by
  have hit := cells_own O hv
  rcases R with ⟨rfl, rfl, rfl, rfl⟩ | ⟨γ, rfl, r1, r2, r3, r4, r5, r6⟩
  · refine ⟨some ⟨g.next, 0, none⟩, g.next, (g.new vs z).2, ?_, .inr ⟨g.next, rfl, by simp [hv], Nat.le_refl _, Nat.le_refl _, Nat.lt_succ_self _, Tr.set_eq, ?_⟩, ⟨fun γ hγ => ⟨Tr.set_ne (nm1 hγ), rfl⟩, Nat.le_succ _, (Mild.new H vs z).wf⟩, rfl, rfl, rfl, .inl rfl, fun _ => rfl, fun h => absurd rfl h⟩
    · unfold appL appendV lenV
      simp only [Option.bind_some, hit]
      rw [show Nat.beq 1 0 = false from rfl, show Nat.ble (1 * by_) 140737488355328 = true from Nat.ble_eq_true_of_le (by omega)]
      rfl
    · show g.next ∈ (g.grps.get g.next).getD [g.next]
      rw [(H.new _ (Nat.le_refl _)).2]
      exact List.mem_singleton.2 rfl
  · have hr : g.rd γ = some ⟨cs, z, G, false⟩ := rd_of r5 r6
    have hG' : g.low ≤ G := hG.resolve_left fun e => by cases e
    refine ⟨some ⟨g.next, 0, none⟩, G, g.grow γ G (cs ++ vs) z (Nat.beq (0 + n * z) cs.length), ?_, .inr ⟨g.next, rfl, by rw [List.length_append, r1, hv, Nat.add_mul, Nat.one_mul], Nat.le_refl _, by omega, Nat.lt_succ_self _, Tr.set_eq, ?_⟩, ⟨fun δ hδ => ⟨Tr.set_ne (nm1 hδ), Tr.set_ne (nm2 hδ)⟩, Nat.le_succ _, (Mild.grow H hr (cs ++ vs) z _).wf⟩, ?_, rfl, rfl, .inr rfl, (fun h => by cases h), fun _ => rfl⟩
    · unfold appL appendV lenV
      have e1 : Nat.blt c OPEN = false := by
        cases e : Nat.blt c OPEN with
        | false => rfl
        | true =>
          have := Nat.le_of_ble_eq_true e
          omega
      have e2 : Nat.ble (0 + (n + 1) * z) cs.length = false := by
        cases e : Nat.ble (0 + (n + 1) * z) cs.length with
        | false => rfl
        | true =>
          have := Nat.le_of_ble_eq_true e
          rw [r1, Nat.add_mul] at this
          omega
      have e3 : takeAt cs 0 (n * z) = some cs := by
        unfold takeAt
        rw [← r1, Nat.zero_add, Nat.ble_eq_true_of_le (Nat.le_refl _), List.drop_zero, List.take_length]
        rfl
      have e4 : Nat.beq z 0 = false := by
        cases e : Nat.beq z 0 with
        | false => rfl
        | true =>
          have := Nat.eq_of_beq_eq_true e
          omega
      simp only [Option.bind_some, hit]
      rw [show Nat.beq 1 0 = false from rfl, Nat.ble_eq_true_of_le hb]
      simp only [cond_false, cond_true, e1, hr, Option.bind_some, e2, e3, e4, Nat.beq_refl, Bool.not_true, Bool.or_false]
      rfl
    · show g.next ∈ ((g.grps.set G (cond (Nat.beq (0 + n * z) cs.length) [γ, g.next] [g.next])).get G).getD [G]
      rw [Tr.get_set, if_pos rfl]
      cases Nat.beq (0 + n * z) cs.length <;> simp
    · show cond (Nat.blt G g.low) G g.low = g.low
      have : Nat.blt G g.low = false := by
        cases e : Nat.blt G g.low with
        | false => rfl
        | true =>
          have := Nat.le_of_ble_eq_true e
          omega
      rw [this]
      rfl
/-- Cells behind an address. -/
def Sl (h : AH) (a : Option Addr) (cs : List Value) : Prop := ∀ i x, cs[i]? = some x → ∃ ad, a = some ad ∧ rdC h ad i = some x
theorem rdC_add (h : AH) {a : Addr} (hs : a.spot = none) (k i : Nat) : rdC h (a.add k) i = rdC h a (k + i) := by
  obtain ⟨b, o, s⟩ := a
  have hs : s = none := hs
  subst hs
  rw [add_lit]
  unfold rdC
  simp only [Nat.add_assoc]
theorem Sl.wk {h g : AH} (H : WF h) (W : Wk h g) {a : Option Addr} {cs : List Value} (S : Sl h a cs) : Sl g a cs := fun i x hx => by
  obtain ⟨ad, h1, h2⟩ := S i x hx
  exact ⟨ad, h1, W.rdC H h2⟩
theorem Row.sl {g : AH} {a : Option Addr} {n c z G : Nat} {cs : List Value} (R : Row g a n c z G cs) : Sl g a cs := fun _ _ hx => R.rd hx
theorem Own.sl {g : AH} {β : Nat} {cs : List Value} (O : Own g β cs) : Sl g (some ⟨β, 0, none⟩) cs := fun i x hx => ⟨_, rfl, by rw [O.rd, Nat.zero_add]; exact hx⟩
theorem Sl.nil (h : AH) (a : Option Addr) : Sl h a [] := fun i x hx => by cases hx
theorem inB_true {i n : Nat} (h : i < n) : inB (i : Int) n = true := by
  unfold inB
  rw [decide_eq_true (Int.natCast_nonneg i), decide_eq_true (Int.ofNat_lt.2 h)]
  rfl
/-- An integer of a row. -/
theorem Sl.int {h : AH} {a : Option Addr} {k : IntKind} {L : List Int} (S : Sl h a (L.map fun n => .int k n)) {i : Nat} {n : Int} (hi : L[i]? = some n) : ∃ ad, a = some ad ∧ gI k (rdC h (ad.add (i * 1)) 0) = some n := by
  obtain ⟨ad, h1, h2⟩ := S i (.int k n) (by rw [List.getElem?_map, hi]; rfl)
  refine ⟨ad, h1, ?_⟩
  rw [rdC_add h (rdC_ok h2).1, Nat.mul_one, Nat.add_zero, h2, gI_int]
end Go.Proofs.YtiadfnedbbkojaaDoor.X
namespace Go.Proofs.YtiadfnedbbkojaaDoor.X
open Go
theorem low_loc (h : AH) : setLow h h.next = loc h [] := rfl
theorem setLow_low (h : AH) (x : Nat) : (setLow h x).low = x := rfl
theorem setLow_next (h : AH) (x : Nat) : (setLow h x).next = h.next := rfl
theorem setLow_set (h : AH) (x y : Nat) : setLow (setLow h x) y = setLow h y := rfl
theorem setLow_self (h : AH) : setLow h h.low = h := rfl
theorem setLow_loc (h : AH) (bs : List (List Value)) : setLow (loc h bs) h.next = loc h bs := rfl
theorem wf_low {h : AH} (H : WF h) (x : Nat) : WF (setLow h x) := H.setLow x
theorem hNew_loc (h : AH) (bs : List (List Value)) (cs : List Value) : hNew (loc h bs) cs 0 = some (h.next + bs.length, loc h (bs ++ [cs])) := by
  show some ((loc h bs).next, (AH.new (loc h bs) cs 0).2) = _
  rw [new_loc]
  rfl
theorem loc_rdN {h : AH} (H : WF h) {bs : List (List Value)} {j : Nat} (hj : bs[j]? = none) : (loc h bs).rd (h.next + j) = none := by
  have : (loc h bs).blks.get (h.next + j) = none := ((loc_wf H bs).new _ (by
    have := List.getElem?_eq_none_iff.1 hj
    show h.next + bs.length ≤ h.next + j
    omega)).1
  unfold AH.rd
  rw [this]
  rfl
theorem lrd {h : AH} (H : WF h) (bs : List (List Value)) (j o i : Nat) : rdC (loc h bs) ⟨h.next + j, o, none⟩ i = (bs[j]?).bind fun c => c[o + i]? := by
  cases hj : bs[j]? with
  | some c => exact loc_rdC H hj
  | none =>
    unfold rdC
    simp only [loc_rdN H hj]
    rfl
theorem lrd0 {h : AH} (H : WF h) (bs : List (List Value)) (o i : Nat) : rdC (loc h bs) ⟨h.next, o, none⟩ i = (bs[0]?).bind fun c => c[o + i]? := lrd H bs 0 o i
theorem lst {h : AH} (H : WF h) (bs : List (List Value)) (j o : Nat) (vs : List Value) : stL (loc h bs) ⟨h.next + j, o, none⟩ vs = (bs[j]?).bind fun c => cond (Nat.ble (o + vs.length) c.length) (some (loc h (bs.set j (putAt c o vs)))) none := by
  cases hj : bs[j]? with
  | none =>
    unfold stL
    simp only [loc_rdN H hj]
    rfl
  | some c =>
    have hjl : j < bs.length := (List.getElem?_eq_some_iff.1 hj).1
    unfold stL
    simp only [loc_rd H hj, Option.bind_some]
    refine congrArg (fun z => cond _ z none) ?_
    have hm : (loc h bs).members (h.next + j) = [h.next + j] := by
      show (h.grps.get (h.next + j)).getD [h.next + j] = _
      rw [(H.new _ (by omega)).2]
      rfl
    unfold AH.wr
    simp only [cond_false, hm]
    refine congrArg some ?_
    unfold loc
    rw [List.length_set, ← locB_set bs h.blks h.next j _ hjl]
    have : Nat.blt (h.next + j) h.next = false := by
      cases e : Nat.blt (h.next + j) h.next with
      | false => rfl
      | true =>
        have := Nat.le_of_ble_eq_true e
        omega
    simp only [this, cond_false]
theorem lst0 {h : AH} (H : WF h) (bs : List (List Value)) (o : Nat) (vs : List Value) : stL (loc h bs) ⟨h.next, o, none⟩ vs = (bs[0]?).bind fun c => cond (Nat.ble (o + vs.length) c.length) (some (loc h (bs.set 0 (putAt c o vs)))) none := lst H bs 0 o vs
theorem loc_wk {h : AH} (H : WF h) (bs : List (List Value)) : Wk h (loc h bs) := ⟨loc_wf H bs, rfl, Nat.le_add_right _ _, fun _ hβ => ⟨locB_old _ _ _ _ hβ, rfl⟩⟩
theorem putAt0 (vs cs : List Value) : putAt cs 0 vs = vs ++ cs.drop vs.length := by
  cases cs <;> rfl
theorem putAt1 (c : Value) (cs : List Value) (vs : List Value) : putAt (c :: cs) 1 vs = c :: putAt cs 0 vs := rfl
theorem ble_self (n : Nat) : Nat.ble n n = true := Nat.ble_eq_true_of_le (Nat.le_refl n)
theorem ble12 : Nat.ble 1 2 = true := rfl
end Go.Proofs.YtiadfnedbbkojaaDoor.X
namespace Go.Proofs.YtiadfnedbbkojaaDoor.X
open Go
section
variable {h : AH} {a : Option Addr} {k : IntKind} {L : List Int} {ρ : Type} {K : Int → Option ρ} {n : Nat}
theorem inB_lt {i : Int} {n : Nat} (h0 : 0 ≤ i) (h : i.toNat < n) : inB i n = true := by
  unfold inB
  rw [decide_eq_true h0, decide_eq_true (by omega)]
  rfl
theorem row_at (S : Sl h a (L.map fun n => .int k n)) (hn : n = L.length) (j : Nat) (x : Int) (hx : L[j]? = some x) : (a.bind fun a0 => cond (inB (j : Int) n) ((gI k (rdC h (Addr.add a0 j) 0)).bind K) none) = K x := by
  obtain ⟨ad, h1, h2⟩ := S.int hx
  have hj : j < L.length := (List.getElem?_eq_some_iff.1 hx).1
  rw [h1, Option.bind_some, inB_lt (Int.natCast_nonneg j) (by rw [hn]; simpa using hj), cond_true]
  rw [Nat.mul_one] at h2
  rw [h2, Option.bind_some]
theorem row_i (S : Sl h a (L.map fun n => .int k n)) (hn : n = L.length) (j : Nat) (x : Int) (hx : L[j]? = some x) : (a.bind fun a0 => cond (inB (j : Int) n) ((gI k (rdC h (Addr.add a0 ((Int.toNat (j : Int)) * 1)) 0)).bind K) none) = K x := by
  have := row_at (K := K) S hn j x hx
  simp only [Int.toNat_natCast, Nat.mul_one]
  exact this
theorem row_at' (S : Sl h a (L.map fun n => .int k n)) (hn : n = L.length) (j : Nat) (x : Int) (hx : L[j]? = some x) : (a.bind fun a0 => cond (inB (j : Int) n) ((gI k (rdC h (Addr.add a0 (j * 1)) 0)).bind K) none) = K x := by
  have := row_at (K := K) S hn j x hx
  simp only [Nat.mul_one]
  exact this
theorem row0 (S : Sl h a (L.map fun n => .int k n)) (hn : n = L.length) {x : Int} (hx : L[0]? = some x) : (a.bind fun a0 => cond (inB 0 n) ((gI k (rdC h (Addr.add a0 0) 0)).bind K) none) = K x := row_at S hn 0 x hx
theorem row1 (S : Sl h a (L.map fun n => .int k n)) (hn : n = L.length) {x : Int} (hx : L[1]? = some x) : (a.bind fun a0 => cond (inB 1 n) ((gI k (rdC h (Addr.add a0 1) 0)).bind K) none) = K x := row_at S hn 1 x hx
theorem row2 (S : Sl h a (L.map fun n => .int k n)) (hn : n = L.length) {x : Int} (hx : L[2]? = some x) : (a.bind fun a0 => cond (inB 2 n) ((gI k (rdC h (Addr.add a0 2) 0)).bind K) none) = K x := row_at S hn 2 x hx
end
theorem Sl.low {h : AH} {a : Option Addr} {cs : List Value} (S : Sl h a cs) (x : Nat) : Sl (setLow h x) a cs := S
theorem Sl.loc {h : AH} (H : WF h) {a : Option Addr} {cs : List Value} (S : Sl h a cs) (bs : List (List Value)) : Sl (loc h bs) a cs := S.wk H (loc_wk H bs)
end Go.Proofs.YtiadfnedbbkojaaDoor.X
namespace Go.Proofs.YtiadfnedbbkojaaDoor.X
open Go
/-- All that the base has is as it was; the mark is the base's. -/
structure Kp (b g : AH) : Prop where
  wf : WF g
  low : g.low = b.low
  nxt : b.next ≤ g.next
  old : ∀ β, β < b.next → g.blks.get β = b.blks.get β ∧ g.grps.get β = b.grps.get β
theorem Kp.refl {b : AH} (B : WF b) : Kp b b := ⟨B, rfl, Nat.le_refl _, fun _ _ => ⟨rfl, rfl⟩⟩
theorem Kp.trans {a b c : AH} (K : Kp a b) (M : Kp b c) : Kp a c := ⟨M.wf, M.low.trans K.low, Nat.le_trans K.nxt M.nxt, fun β hβ =>
  have h1 := K.old β hβ
  have h2 := M.old β (Nat.lt_of_lt_of_le hβ K.nxt)
  ⟨h2.1.trans h1.1, h2.2.trans h1.2⟩⟩
theorem Kp.ch {b g g' : AH} {l : List Nat} (K : Kp b g) (F : Ch g g' l) (hl : g'.low = g.low) (hm : ∀ x ∈ l, b.next ≤ x) : Kp b g' :=
  ⟨F.wf, hl.trans K.low, Nat.le_trans K.nxt F.nxt, fun β hβ => by
    have : β ∉ l := fun hx => absurd (hm β hx) (by omega)
    exact ⟨(F.same β this).1.trans (K.old β hβ).1, (F.same β this).2.trans (K.old β hβ).2⟩⟩
theorem Kp.rd {b g : AH} (B : WF b) (K : Kp b g) {β : Nat} (hβ : β < b.next) : g.rd β = b.rd β := by
  unfold AH.rd AH.members
  rw [(K.old β hβ).1]
  cases hb : b.blks.get β with
  | none => rfl
  | some x =>
    have := B.gle β x hb
    rw [Option.bind_some, Option.bind_some, (K.old x.grp (by omega)).2]
theorem Kp.rdC {b g : AH} (B : WF b) (K : Kp b g) {a : Addr} {i : Nat} {x : Value} (hx : rdC b a i = some x) : rdC g a i = some x := by
  obtain ⟨hs, c, h1, h2⟩ := rdC_ok hx
  have hb := B.lt (rd_get h1).1
  unfold X.rdC
  rw [hs]
  simp only
  rw [K.rd B hb, h1]
  exact h2
theorem Sl.kp {b g : AH} (B : WF b) (K : Kp b g) {a : Option Addr} {cs : List Value} (S : Sl b a cs) : Sl g a cs := fun i x hx => by
  obtain ⟨ad, h1, h2⟩ := S i x hx
  exact ⟨ad, h1, K.rdC B h2⟩
theorem Own.kp {b g : AH} (B : WF b) (K : Kp b g) {β : Nat} {cs : List Value} (O : Own b β cs) : Own g β cs := by
  have hb := O.lt B
  obtain ⟨z, h1, h2⟩ := O
  exact ⟨z, (K.old β hb).1.trans h1, (K.old β hb).2.trans h2⟩
theorem exit_low {h g : AH} (e : g.low = h.next) {v : Value} (hv : plainV v = true) : exitR h g v = (v, h) := by
  unfold exitR
  rw [e, Nat.beq_refl, hv]
  rfl
theorem Kp.start {h : AH} (H : WF h) : Kp (setLow h h.next) (setLow h h.next) := Kp.refl (H.setLow _)
theorem Kp.new {b g : AH} (K : Kp b g) (cs : List Value) (z : Nat) : ∃ g', hNew g cs z = some (g.next, g') ∧ Kp b g' ∧ Ch g g' [g.next] ∧ Own g' g.next cs ∧ g'.next = g.next + 1 := by
  obtain ⟨g', h1, h2, h3, h4, h5⟩ := new_ok K.wf cs z
  exact ⟨g', h1, K.ch h2 h4 fun x hx => by rw [List.mem_singleton.1 hx]; exact K.nxt, h2, h3, h5⟩
theorem Kp.st {b g : AH} (K : Kp b g) (hb : b.low ≤ b.next) {β o : Nat} {cs vs : List Value} (O : Own g β cs) (hβ : b.next ≤ β) (hf : o + vs.length ≤ cs.length) :
    ∃ g', stL g ⟨β, o, none⟩ vs = some g' ∧ Kp b g' ∧ Ch g g' [β] ∧ Own g' β (putAt cs o vs) ∧ g'.next = g.next := by
  obtain ⟨g', h1, h2, h3, h4, h5⟩ := st_ok K.wf O (by rw [K.low]; omega) hf
  exact ⟨g', h1, K.ch h2 h4 fun x hx => by rw [List.mem_singleton.1 hx]; exact hβ, h2, h3, h5⟩
/-- One element is put behind a row of one's own. -/
theorem Kp.app {b g : AH} (K : Kp b g) (hb : b.low ≤ b.next) {a : Option Addr} {n c z G by_ : Nat} {cs vs : List Value} (R : Row g a n c z G cs) (hG : b.next ≤ G) (hG2 : G ≤ g.next) (hv : vs.length = z) (hz : 0 < z) (hn : (n + 1) * by_ ≤ 140737488355328) :
    ∃ g1 g2 a' G', hNew g vs z = some (g.next, g1) ∧ appL z by_ (.slice a n c) (.slice (some ⟨g.next, 0, none⟩) 1 1) g1 = some ((a', n + 1, OPEN), g2) ∧ Row g2 a' (n + 1) OPEN z G' (cs ++ vs) ∧ Kp b g2 ∧ b.next ≤ G' ∧ G' ≤ g2.next ∧
      (a ≠ none → G' = G) ∧ (a = none → g.next ≤ G') ∧ Ch g g2 [g.next, g.next + 1, G] ∧ g.next ≤ g2.next ∧ (∃ γ, a' = some ⟨γ, 0, none⟩ ∧ g.next ≤ γ) := by
  obtain ⟨g1, h1, K1, F1, O1, n1⟩ := K.new vs z
  have R1 : Row g1 a n c z G cs := by
    rcases R with R | ⟨β, e, r1, r2, r3, r4, r5, r6⟩
    · exact .inl R
    · refine Row.fr (.inr ⟨β, e, r1, r2, r3, r4, r5, r6⟩) F1 (fun hx => ?_) fun β' e' hx => ?_
      · have := List.mem_singleton.1 hx
        omega
      · have := List.mem_singleton.1 hx
        rw [e] at e'
        injection e' with e'
        injection e' with e'
        omega
  obtain ⟨a', G', g2, q1, q2, q3, q4, q5, q6, q7, q8, q9⟩ := app_ok (by_ := by_) K1.wf R1 (.inr (by rw [K1.low]; omega)) O1 hv hz hn
  refine ⟨g1, g2, a', G', h1, q1, q2, K1.ch q3 q4 ?_, ?_, ?_, q9, fun e => by rw [q8 e]; omega, ?_, ?_, ⟨_, q6, by omega⟩⟩
  · intro x hx
    rcases List.mem_cons.1 hx with rfl | hx
    · rw [n1]
      exact Nat.le_trans K.nxt (Nat.le_succ _)
    · rw [List.mem_singleton.1 hx]
      exact hG
  · rcases q7 with rfl | rfl
    · have := K.nxt
      omega
    · exact hG
  · rcases q7 with rfl | rfl <;> omega
  · have := F1.trans q3
    rw [n1] at this
    exact ⟨fun β hβ => this.same β fun hx => hβ (by
      rcases List.mem_append.1 hx with hx | hx
      · exact List.mem_cons.2 (.inl (List.mem_singleton.1 hx))
      · exact List.mem_cons_of_mem _ hx), this.nxt, this.wf⟩
  · omega
def prs (E : List (Int × Int)) : List Value := E.flatMap fun p => [.int .u64 p.1, .int .u64 p.2]
theorem prs_at : ∀ (E : List (Int × Int)) (i : Nat) (p : Int × Int), E[i]? = some p → (prs E)[i * 2]? = some (.int .u64 p.1) ∧ (prs E)[i * 2 + 1]? = some (.int .u64 p.2)
  | q :: E, 0, p, h => by
    injection h with h
    subst h
    exact ⟨rfl, rfl⟩
  | q :: E, i + 1, p, h => by
    have h : E[i]? = some p := h
    have := prs_at E i p h
    rw [show (i + 1) * 2 = i * 2 + 1 + 1 by omega]
    exact this
theorem rowp {h : AH} {a : Option Addr} {E : List (Int × Int)} {n : Nat} {ρ : Type} {K : Int → Int → Option ρ} (S : Sl h a (prs E)) (hn : n = E.length) (j : Nat) (p : Int × Int) (hp : E[j]? = some p) :
    (a.bind fun a0 => cond (inB (j : Int) n) ((gI .u64 (rdC h (Addr.add a0 (j * 2)) 0)).bind fun x => (gI .u64 (rdC h (Addr.add a0 (j * 2)) 1)).bind fun y => K x y) none) = K p.1 p.2 := by
  obtain ⟨e1, e2⟩ := prs_at E j p hp
  obtain ⟨ad, h1, h2⟩ := S _ _ e1
  obtain ⟨ad', h1', h3⟩ := S _ _ e2
  rw [h1] at h1'
  injection h1' with h1'
  subst h1'
  have hj : j < E.length := (List.getElem?_eq_some_iff.1 hp).1
  rw [h1, Option.bind_some, inB_lt (Int.natCast_nonneg j) (by rw [hn]; simpa using hj), cond_true, rdC_add h (rdC_ok h2).1, rdC_add h (rdC_ok h2).1, Nat.add_zero, h2, h3, gI_int, gI_int]
  rfl
end Go.Proofs.YtiadfnedbbkojaaDoor.X
namespace Go.Proofs.YtiadfnedbbkojaaDoor.X
theorem oe1_1 : iEq 1 1 = true := rfl
theorem oe1_2 : iEq 1 2 = false := rfl
theorem oe1_3 : iEq 1 3 = false := rfl
theorem oe1_4 : iEq 1 4 = false := rfl
theorem oe1_5 : iEq 1 5 = false := rfl
theorem oe1_6 : iEq 1 6 = false := rfl
theorem oe1_7 : iEq 1 7 = false := rfl
theorem oe1_8 : iEq 1 8 = false := rfl
theorem oe1_9 : iEq 1 9 = false := rfl
theorem oe1_10 : iEq 1 10 = false := rfl
theorem oe1_11 : iEq 1 11 = false := rfl
theorem oe1_12 : iEq 1 12 = false := rfl
theorem oe1_13 : iEq 1 13 = false := rfl
theorem oe1_14 : iEq 1 14 = false := rfl
theorem oe1_15 : iEq 1 15 = false := rfl
theorem oe1_16 : iEq 1 16 = false := rfl
theorem oe1_17 : iEq 1 17 = false := rfl
theorem oe1_18 : iEq 1 18 = false := rfl
theorem oe1_19 : iEq 1 19 = false := rfl
theorem oe1_20 : iEq 1 20 = false := rfl
theorem oe1_21 : iEq 1 21 = false := rfl
theorem oe1_22 : iEq 1 22 = false := rfl
theorem oe1_23 : iEq 1 23 = false := rfl
theorem oe1_24 : iEq 1 24 = false := rfl
theorem ol2_1 : iLe 2 1 = false := rfl
theorem ol5_1 : iLe 5 1 = false := rfl
theorem ol12_1 : iLe 12 1 = false := rfl
theorem ol15_1 : iLe 15 1 = false := rfl
theorem og1_8 : iLe 1 8 = true := rfl
theorem og1_14 : iLe 1 14 = true := rfl
theorem og1_20 : iLe 1 20 = true := rfl
theorem oe2_1 : iEq 2 1 = false := rfl
theorem oe2_2 : iEq 2 2 = true := rfl
theorem oe2_3 : iEq 2 3 = false := rfl
theorem oe2_4 : iEq 2 4 = false := rfl
theorem oe2_5 : iEq 2 5 = false := rfl
theorem oe2_6 : iEq 2 6 = false := rfl
theorem oe2_7 : iEq 2 7 = false := rfl
theorem oe2_8 : iEq 2 8 = false := rfl
theorem oe2_9 : iEq 2 9 = false := rfl
theorem oe2_10 : iEq 2 10 = false := rfl
theorem oe2_11 : iEq 2 11 = false := rfl
theorem oe2_12 : iEq 2 12 = false := rfl
theorem oe2_13 : iEq 2 13 = false := rfl
theorem oe2_14 : iEq 2 14 = false := rfl
theorem oe2_15 : iEq 2 15 = false := rfl
theorem oe2_16 : iEq 2 16 = false := rfl
theorem oe2_17 : iEq 2 17 = false := rfl
theorem oe2_18 : iEq 2 18 = false := rfl
theorem oe2_19 : iEq 2 19 = false := rfl
theorem oe2_20 : iEq 2 20 = false := rfl
theorem oe2_21 : iEq 2 21 = false := rfl
theorem oe2_22 : iEq 2 22 = false := rfl
theorem oe2_23 : iEq 2 23 = false := rfl
theorem oe2_24 : iEq 2 24 = false := rfl
theorem ol2_2 : iLe 2 2 = true := rfl
theorem ol5_2 : iLe 5 2 = false := rfl
theorem ol12_2 : iLe 12 2 = false := rfl
theorem ol15_2 : iLe 15 2 = false := rfl
theorem og2_8 : iLe 2 8 = true := rfl
theorem og2_14 : iLe 2 14 = true := rfl
theorem og2_20 : iLe 2 20 = true := rfl
theorem oe3_1 : iEq 3 1 = false := rfl
theorem oe3_2 : iEq 3 2 = false := rfl
theorem oe3_3 : iEq 3 3 = true := rfl
theorem oe3_4 : iEq 3 4 = false := rfl
theorem oe3_5 : iEq 3 5 = false := rfl
theorem oe3_6 : iEq 3 6 = false := rfl
theorem oe3_7 : iEq 3 7 = false := rfl
theorem oe3_8 : iEq 3 8 = false := rfl
theorem oe3_9 : iEq 3 9 = false := rfl
theorem oe3_10 : iEq 3 10 = false := rfl
theorem oe3_11 : iEq 3 11 = false := rfl
theorem oe3_12 : iEq 3 12 = false := rfl
theorem oe3_13 : iEq 3 13 = false := rfl
theorem oe3_14 : iEq 3 14 = false := rfl
theorem oe3_15 : iEq 3 15 = false := rfl
theorem oe3_16 : iEq 3 16 = false := rfl
theorem oe3_17 : iEq 3 17 = false := rfl
theorem oe3_18 : iEq 3 18 = false := rfl
theorem oe3_19 : iEq 3 19 = false := rfl
theorem oe3_20 : iEq 3 20 = false := rfl
theorem oe3_21 : iEq 3 21 = false := rfl
theorem oe3_22 : iEq 3 22 = false := rfl
theorem oe3_23 : iEq 3 23 = false := rfl
theorem oe3_24 : iEq 3 24 = false := rfl
theorem ol2_3 : iLe 2 3 = true := rfl
theorem ol5_3 : iLe 5 3 = false := rfl
theorem ol12_3 : iLe 12 3 = false := rfl
theorem ol15_3 : iLe 15 3 = false := rfl
theorem og3_8 : iLe 3 8 = true := rfl
theorem og3_14 : iLe 3 14 = true := rfl
theorem og3_20 : iLe 3 20 = true := rfl
theorem oe4_1 : iEq 4 1 = false := rfl
theorem oe4_2 : iEq 4 2 = false := rfl
theorem oe4_3 : iEq 4 3 = false := rfl
theorem oe4_4 : iEq 4 4 = true := rfl
theorem oe4_5 : iEq 4 5 = false := rfl
theorem oe4_6 : iEq 4 6 = false := rfl
theorem oe4_7 : iEq 4 7 = false := rfl
theorem oe4_8 : iEq 4 8 = false := rfl
theorem oe4_9 : iEq 4 9 = false := rfl
theorem oe4_10 : iEq 4 10 = false := rfl
theorem oe4_11 : iEq 4 11 = false := rfl
theorem oe4_12 : iEq 4 12 = false := rfl
theorem oe4_13 : iEq 4 13 = false := rfl
theorem oe4_14 : iEq 4 14 = false := rfl
theorem oe4_15 : iEq 4 15 = false := rfl
theorem oe4_16 : iEq 4 16 = false := rfl
theorem oe4_17 : iEq 4 17 = false := rfl
theorem oe4_18 : iEq 4 18 = false := rfl
theorem oe4_19 : iEq 4 19 = false := rfl
theorem oe4_20 : iEq 4 20 = false := rfl
theorem oe4_21 : iEq 4 21 = false := rfl
theorem oe4_22 : iEq 4 22 = false := rfl
theorem oe4_23 : iEq 4 23 = false := rfl
theorem oe4_24 : iEq 4 24 = false := rfl
theorem ol2_4 : iLe 2 4 = true := rfl
theorem ol5_4 : iLe 5 4 = false := rfl
theorem ol12_4 : iLe 12 4 = false := rfl
theorem ol15_4 : iLe 15 4 = false := rfl
theorem og4_8 : iLe 4 8 = true := rfl
theorem og4_14 : iLe 4 14 = true := rfl
theorem og4_20 : iLe 4 20 = true := rfl
theorem oe5_1 : iEq 5 1 = false := rfl
theorem oe5_2 : iEq 5 2 = false := rfl
theorem oe5_3 : iEq 5 3 = false := rfl
theorem oe5_4 : iEq 5 4 = false := rfl
theorem oe5_5 : iEq 5 5 = true := rfl
theorem oe5_6 : iEq 5 6 = false := rfl
theorem oe5_7 : iEq 5 7 = false := rfl
theorem oe5_8 : iEq 5 8 = false := rfl
theorem oe5_9 : iEq 5 9 = false := rfl
theorem oe5_10 : iEq 5 10 = false := rfl
theorem oe5_11 : iEq 5 11 = false := rfl
theorem oe5_12 : iEq 5 12 = false := rfl
theorem oe5_13 : iEq 5 13 = false := rfl
theorem oe5_14 : iEq 5 14 = false := rfl
theorem oe5_15 : iEq 5 15 = false := rfl
theorem oe5_16 : iEq 5 16 = false := rfl
theorem oe5_17 : iEq 5 17 = false := rfl
theorem oe5_18 : iEq 5 18 = false := rfl
theorem oe5_19 : iEq 5 19 = false := rfl
theorem oe5_20 : iEq 5 20 = false := rfl
theorem oe5_21 : iEq 5 21 = false := rfl
theorem oe5_22 : iEq 5 22 = false := rfl
theorem oe5_23 : iEq 5 23 = false := rfl
theorem oe5_24 : iEq 5 24 = false := rfl
theorem ol2_5 : iLe 2 5 = true := rfl
theorem ol5_5 : iLe 5 5 = true := rfl
theorem ol12_5 : iLe 12 5 = false := rfl
theorem ol15_5 : iLe 15 5 = false := rfl
theorem og5_8 : iLe 5 8 = true := rfl
theorem og5_14 : iLe 5 14 = true := rfl
theorem og5_20 : iLe 5 20 = true := rfl
theorem oe6_1 : iEq 6 1 = false := rfl
theorem oe6_2 : iEq 6 2 = false := rfl
theorem oe6_3 : iEq 6 3 = false := rfl
theorem oe6_4 : iEq 6 4 = false := rfl
theorem oe6_5 : iEq 6 5 = false := rfl
theorem oe6_6 : iEq 6 6 = true := rfl
theorem oe6_7 : iEq 6 7 = false := rfl
theorem oe6_8 : iEq 6 8 = false := rfl
theorem oe6_9 : iEq 6 9 = false := rfl
theorem oe6_10 : iEq 6 10 = false := rfl
theorem oe6_11 : iEq 6 11 = false := rfl
theorem oe6_12 : iEq 6 12 = false := rfl
theorem oe6_13 : iEq 6 13 = false := rfl
theorem oe6_14 : iEq 6 14 = false := rfl
theorem oe6_15 : iEq 6 15 = false := rfl
theorem oe6_16 : iEq 6 16 = false := rfl
theorem oe6_17 : iEq 6 17 = false := rfl
theorem oe6_18 : iEq 6 18 = false := rfl
theorem oe6_19 : iEq 6 19 = false := rfl
theorem oe6_20 : iEq 6 20 = false := rfl
theorem oe6_21 : iEq 6 21 = false := rfl
theorem oe6_22 : iEq 6 22 = false := rfl
theorem oe6_23 : iEq 6 23 = false := rfl
theorem oe6_24 : iEq 6 24 = false := rfl
theorem ol2_6 : iLe 2 6 = true := rfl
theorem ol5_6 : iLe 5 6 = true := rfl
theorem ol12_6 : iLe 12 6 = false := rfl
theorem ol15_6 : iLe 15 6 = false := rfl
theorem og6_8 : iLe 6 8 = true := rfl
theorem og6_14 : iLe 6 14 = true := rfl
theorem og6_20 : iLe 6 20 = true := rfl
theorem oe7_1 : iEq 7 1 = false := rfl
theorem oe7_2 : iEq 7 2 = false := rfl
theorem oe7_3 : iEq 7 3 = false := rfl
theorem oe7_4 : iEq 7 4 = false := rfl
theorem oe7_5 : iEq 7 5 = false := rfl
theorem oe7_6 : iEq 7 6 = false := rfl
theorem oe7_7 : iEq 7 7 = true := rfl
theorem oe7_8 : iEq 7 8 = false := rfl
theorem oe7_9 : iEq 7 9 = false := rfl
theorem oe7_10 : iEq 7 10 = false := rfl
theorem oe7_11 : iEq 7 11 = false := rfl
theorem oe7_12 : iEq 7 12 = false := rfl
theorem oe7_13 : iEq 7 13 = false := rfl
theorem oe7_14 : iEq 7 14 = false := rfl
theorem oe7_15 : iEq 7 15 = false := rfl
theorem oe7_16 : iEq 7 16 = false := rfl
theorem oe7_17 : iEq 7 17 = false := rfl
theorem oe7_18 : iEq 7 18 = false := rfl
theorem oe7_19 : iEq 7 19 = false := rfl
theorem oe7_20 : iEq 7 20 = false := rfl
theorem oe7_21 : iEq 7 21 = false := rfl
theorem oe7_22 : iEq 7 22 = false := rfl
theorem oe7_23 : iEq 7 23 = false := rfl
theorem oe7_24 : iEq 7 24 = false := rfl
theorem ol2_7 : iLe 2 7 = true := rfl
theorem ol5_7 : iLe 5 7 = true := rfl
theorem ol12_7 : iLe 12 7 = false := rfl
theorem ol15_7 : iLe 15 7 = false := rfl
theorem og7_8 : iLe 7 8 = true := rfl
theorem og7_14 : iLe 7 14 = true := rfl
theorem og7_20 : iLe 7 20 = true := rfl
theorem oe8_1 : iEq 8 1 = false := rfl
theorem oe8_2 : iEq 8 2 = false := rfl
theorem oe8_3 : iEq 8 3 = false := rfl
theorem oe8_4 : iEq 8 4 = false := rfl
theorem oe8_5 : iEq 8 5 = false := rfl
theorem oe8_6 : iEq 8 6 = false := rfl
theorem oe8_7 : iEq 8 7 = false := rfl
theorem oe8_8 : iEq 8 8 = true := rfl
theorem oe8_9 : iEq 8 9 = false := rfl
theorem oe8_10 : iEq 8 10 = false := rfl
theorem oe8_11 : iEq 8 11 = false := rfl
theorem oe8_12 : iEq 8 12 = false := rfl
theorem oe8_13 : iEq 8 13 = false := rfl
theorem oe8_14 : iEq 8 14 = false := rfl
theorem oe8_15 : iEq 8 15 = false := rfl
theorem oe8_16 : iEq 8 16 = false := rfl
theorem oe8_17 : iEq 8 17 = false := rfl
theorem oe8_18 : iEq 8 18 = false := rfl
theorem oe8_19 : iEq 8 19 = false := rfl
theorem oe8_20 : iEq 8 20 = false := rfl
theorem oe8_21 : iEq 8 21 = false := rfl
theorem oe8_22 : iEq 8 22 = false := rfl
theorem oe8_23 : iEq 8 23 = false := rfl
theorem oe8_24 : iEq 8 24 = false := rfl
theorem ol2_8 : iLe 2 8 = true := rfl
theorem ol5_8 : iLe 5 8 = true := rfl
theorem ol12_8 : iLe 12 8 = false := rfl
theorem ol15_8 : iLe 15 8 = false := rfl
theorem og8_8 : iLe 8 8 = true := rfl
theorem og8_14 : iLe 8 14 = true := rfl
theorem og8_20 : iLe 8 20 = true := rfl
theorem oe9_1 : iEq 9 1 = false := rfl
theorem oe9_2 : iEq 9 2 = false := rfl
theorem oe9_3 : iEq 9 3 = false := rfl
theorem oe9_4 : iEq 9 4 = false := rfl
theorem oe9_5 : iEq 9 5 = false := rfl
theorem oe9_6 : iEq 9 6 = false := rfl
theorem oe9_7 : iEq 9 7 = false := rfl
theorem oe9_8 : iEq 9 8 = false := rfl
theorem oe9_9 : iEq 9 9 = true := rfl
theorem oe9_10 : iEq 9 10 = false := rfl
theorem oe9_11 : iEq 9 11 = false := rfl
theorem oe9_12 : iEq 9 12 = false := rfl
theorem oe9_13 : iEq 9 13 = false := rfl
theorem oe9_14 : iEq 9 14 = false := rfl
theorem oe9_15 : iEq 9 15 = false := rfl
theorem oe9_16 : iEq 9 16 = false := rfl
theorem oe9_17 : iEq 9 17 = false := rfl
theorem oe9_18 : iEq 9 18 = false := rfl
theorem oe9_19 : iEq 9 19 = false := rfl
theorem oe9_20 : iEq 9 20 = false := rfl
theorem oe9_21 : iEq 9 21 = false := rfl
theorem oe9_22 : iEq 9 22 = false := rfl
theorem oe9_23 : iEq 9 23 = false := rfl
theorem oe9_24 : iEq 9 24 = false := rfl
theorem ol2_9 : iLe 2 9 = true := rfl
theorem ol5_9 : iLe 5 9 = true := rfl
theorem ol12_9 : iLe 12 9 = false := rfl
theorem ol15_9 : iLe 15 9 = false := rfl
theorem og9_8 : iLe 9 8 = false := rfl
theorem og9_14 : iLe 9 14 = true := rfl
theorem og9_20 : iLe 9 20 = true := rfl
theorem oe10_1 : iEq 10 1 = false := rfl
theorem oe10_2 : iEq 10 2 = false := rfl
theorem oe10_3 : iEq 10 3 = false := rfl
theorem oe10_4 : iEq 10 4 = false := rfl
theorem oe10_5 : iEq 10 5 = false := rfl
theorem oe10_6 : iEq 10 6 = false := rfl
theorem oe10_7 : iEq 10 7 = false := rfl
theorem oe10_8 : iEq 10 8 = false := rfl
theorem oe10_9 : iEq 10 9 = false := rfl
theorem oe10_10 : iEq 10 10 = true := rfl
theorem oe10_11 : iEq 10 11 = false := rfl
theorem oe10_12 : iEq 10 12 = false := rfl
theorem oe10_13 : iEq 10 13 = false := rfl
theorem oe10_14 : iEq 10 14 = false := rfl
theorem oe10_15 : iEq 10 15 = false := rfl
theorem oe10_16 : iEq 10 16 = false := rfl
theorem oe10_17 : iEq 10 17 = false := rfl
theorem oe10_18 : iEq 10 18 = false := rfl
theorem oe10_19 : iEq 10 19 = false := rfl
theorem oe10_20 : iEq 10 20 = false := rfl
theorem oe10_21 : iEq 10 21 = false := rfl
theorem oe10_22 : iEq 10 22 = false := rfl
theorem oe10_23 : iEq 10 23 = false := rfl
theorem oe10_24 : iEq 10 24 = false := rfl
theorem ol2_10 : iLe 2 10 = true := rfl
theorem ol5_10 : iLe 5 10 = true := rfl
theorem ol12_10 : iLe 12 10 = false := rfl
theorem ol15_10 : iLe 15 10 = false := rfl
theorem og10_8 : iLe 10 8 = false := rfl
theorem og10_14 : iLe 10 14 = true := rfl
theorem og10_20 : iLe 10 20 = true := rfl
theorem oe11_1 : iEq 11 1 = false := rfl
theorem oe11_2 : iEq 11 2 = false := rfl
theorem oe11_3 : iEq 11 3 = false := rfl
theorem oe11_4 : iEq 11 4 = false := rfl
theorem oe11_5 : iEq 11 5 = false := rfl
theorem oe11_6 : iEq 11 6 = false := rfl
theorem oe11_7 : iEq 11 7 = false := rfl
theorem oe11_8 : iEq 11 8 = false := rfl
theorem oe11_9 : iEq 11 9 = false := rfl
theorem oe11_10 : iEq 11 10 = false := rfl
theorem oe11_11 : iEq 11 11 = true := rfl
theorem oe11_12 : iEq 11 12 = false := rfl
theorem oe11_13 : iEq 11 13 = false := rfl
theorem oe11_14 : iEq 11 14 = false := rfl
theorem oe11_15 : iEq 11 15 = false := rfl
theorem oe11_16 : iEq 11 16 = false := rfl
theorem oe11_17 : iEq 11 17 = false := rfl
theorem oe11_18 : iEq 11 18 = false := rfl
theorem oe11_19 : iEq 11 19 = false := rfl
theorem oe11_20 : iEq 11 20 = false := rfl
theorem oe11_21 : iEq 11 21 = false := rfl
theorem oe11_22 : iEq 11 22 = false := rfl
theorem oe11_23 : iEq 11 23 = false := rfl
theorem oe11_24 : iEq 11 24 = false := rfl
theorem ol2_11 : iLe 2 11 = true := rfl
theorem ol5_11 : iLe 5 11 = true := rfl
theorem ol12_11 : iLe 12 11 = false := rfl
theorem ol15_11 : iLe 15 11 = false := rfl
theorem og11_8 : iLe 11 8 = false := rfl
theorem og11_14 : iLe 11 14 = true := rfl
theorem og11_20 : iLe 11 20 = true := rfl
theorem oe12_1 : iEq 12 1 = false := rfl
theorem oe12_2 : iEq 12 2 = false := rfl
theorem oe12_3 : iEq 12 3 = false := rfl
theorem oe12_4 : iEq 12 4 = false := rfl
theorem oe12_5 : iEq 12 5 = false := rfl
theorem oe12_6 : iEq 12 6 = false := rfl
theorem oe12_7 : iEq 12 7 = false := rfl
theorem oe12_8 : iEq 12 8 = false := rfl
theorem oe12_9 : iEq 12 9 = false := rfl
theorem oe12_10 : iEq 12 10 = false := rfl
theorem oe12_11 : iEq 12 11 = false := rfl
theorem oe12_12 : iEq 12 12 = true := rfl
theorem oe12_13 : iEq 12 13 = false := rfl
theorem oe12_14 : iEq 12 14 = false := rfl
theorem oe12_15 : iEq 12 15 = false := rfl
theorem oe12_16 : iEq 12 16 = false := rfl
theorem oe12_17 : iEq 12 17 = false := rfl
theorem oe12_18 : iEq 12 18 = false := rfl
theorem oe12_19 : iEq 12 19 = false := rfl
theorem oe12_20 : iEq 12 20 = false := rfl
theorem oe12_21 : iEq 12 21 = false := rfl
theorem oe12_22 : iEq 12 22 = false := rfl
theorem oe12_23 : iEq 12 23 = false := rfl
theorem oe12_24 : iEq 12 24 = false := rfl
theorem ol2_12 : iLe 2 12 = true := rfl
theorem ol5_12 : iLe 5 12 = true := rfl
theorem ol12_12 : iLe 12 12 = true := rfl
theorem ol15_12 : iLe 15 12 = false := rfl
theorem og12_8 : iLe 12 8 = false := rfl
theorem og12_14 : iLe 12 14 = true := rfl
theorem og12_20 : iLe 12 20 = true := rfl
theorem oe13_1 : iEq 13 1 = false := rfl
theorem oe13_2 : iEq 13 2 = false := rfl
theorem oe13_3 : iEq 13 3 = false := rfl
theorem oe13_4 : iEq 13 4 = false := rfl
theorem oe13_5 : iEq 13 5 = false := rfl
theorem oe13_6 : iEq 13 6 = false := rfl
theorem oe13_7 : iEq 13 7 = false := rfl
theorem oe13_8 : iEq 13 8 = false := rfl
theorem oe13_9 : iEq 13 9 = false := rfl
theorem oe13_10 : iEq 13 10 = false := rfl
theorem oe13_11 : iEq 13 11 = false := rfl
theorem oe13_12 : iEq 13 12 = false := rfl
theorem oe13_13 : iEq 13 13 = true := rfl
theorem oe13_14 : iEq 13 14 = false := rfl
theorem oe13_15 : iEq 13 15 = false := rfl
theorem oe13_16 : iEq 13 16 = false := rfl
theorem oe13_17 : iEq 13 17 = false := rfl
theorem oe13_18 : iEq 13 18 = false := rfl
theorem oe13_19 : iEq 13 19 = false := rfl
theorem oe13_20 : iEq 13 20 = false := rfl
theorem oe13_21 : iEq 13 21 = false := rfl
theorem oe13_22 : iEq 13 22 = false := rfl
theorem oe13_23 : iEq 13 23 = false := rfl
theorem oe13_24 : iEq 13 24 = false := rfl
theorem ol2_13 : iLe 2 13 = true := rfl
theorem ol5_13 : iLe 5 13 = true := rfl
theorem ol12_13 : iLe 12 13 = true := rfl
theorem ol15_13 : iLe 15 13 = false := rfl
theorem og13_8 : iLe 13 8 = false := rfl
theorem og13_14 : iLe 13 14 = true := rfl
theorem og13_20 : iLe 13 20 = true := rfl
theorem oe14_1 : iEq 14 1 = false := rfl
theorem oe14_2 : iEq 14 2 = false := rfl
theorem oe14_3 : iEq 14 3 = false := rfl
theorem oe14_4 : iEq 14 4 = false := rfl
theorem oe14_5 : iEq 14 5 = false := rfl
theorem oe14_6 : iEq 14 6 = false := rfl
theorem oe14_7 : iEq 14 7 = false := rfl
theorem oe14_8 : iEq 14 8 = false := rfl
theorem oe14_9 : iEq 14 9 = false := rfl
theorem oe14_10 : iEq 14 10 = false := rfl
theorem oe14_11 : iEq 14 11 = false := rfl
theorem oe14_12 : iEq 14 12 = false := rfl
theorem oe14_13 : iEq 14 13 = false := rfl
theorem oe14_14 : iEq 14 14 = true := rfl
theorem oe14_15 : iEq 14 15 = false := rfl
theorem oe14_16 : iEq 14 16 = false := rfl
theorem oe14_17 : iEq 14 17 = false := rfl
theorem oe14_18 : iEq 14 18 = false := rfl
theorem oe14_19 : iEq 14 19 = false := rfl
theorem oe14_20 : iEq 14 20 = false := rfl
theorem oe14_21 : iEq 14 21 = false := rfl
theorem oe14_22 : iEq 14 22 = false := rfl
theorem oe14_23 : iEq 14 23 = false := rfl
theorem oe14_24 : iEq 14 24 = false := rfl
theorem ol2_14 : iLe 2 14 = true := rfl
theorem ol5_14 : iLe 5 14 = true := rfl
theorem ol12_14 : iLe 12 14 = true := rfl
theorem ol15_14 : iLe 15 14 = false := rfl
theorem og14_8 : iLe 14 8 = false := rfl
theorem og14_14 : iLe 14 14 = true := rfl
theorem og14_20 : iLe 14 20 = true := rfl
theorem oe15_1 : iEq 15 1 = false := rfl
theorem oe15_2 : iEq 15 2 = false := rfl
theorem oe15_3 : iEq 15 3 = false := rfl
theorem oe15_4 : iEq 15 4 = false := rfl
theorem oe15_5 : iEq 15 5 = false := rfl
theorem oe15_6 : iEq 15 6 = false := rfl
theorem oe15_7 : iEq 15 7 = false := rfl
theorem oe15_8 : iEq 15 8 = false := rfl
theorem oe15_9 : iEq 15 9 = false := rfl
theorem oe15_10 : iEq 15 10 = false := rfl
theorem oe15_11 : iEq 15 11 = false := rfl
theorem oe15_12 : iEq 15 12 = false := rfl
theorem oe15_13 : iEq 15 13 = false := rfl
theorem oe15_14 : iEq 15 14 = false := rfl
theorem oe15_15 : iEq 15 15 = true := rfl
theorem oe15_16 : iEq 15 16 = false := rfl
theorem oe15_17 : iEq 15 17 = false := rfl
theorem oe15_18 : iEq 15 18 = false := rfl
theorem oe15_19 : iEq 15 19 = false := rfl
theorem oe15_20 : iEq 15 20 = false := rfl
theorem oe15_21 : iEq 15 21 = false := rfl
theorem oe15_22 : iEq 15 22 = false := rfl
theorem oe15_23 : iEq 15 23 = false := rfl
theorem oe15_24 : iEq 15 24 = false := rfl
theorem ol2_15 : iLe 2 15 = true := rfl
theorem ol5_15 : iLe 5 15 = true := rfl
theorem ol12_15 : iLe 12 15 = true := rfl
theorem ol15_15 : iLe 15 15 = true := rfl
theorem og15_8 : iLe 15 8 = false := rfl
theorem og15_14 : iLe 15 14 = false := rfl
theorem og15_20 : iLe 15 20 = true := rfl
theorem oe16_1 : iEq 16 1 = false := rfl
theorem oe16_2 : iEq 16 2 = false := rfl
theorem oe16_3 : iEq 16 3 = false := rfl
theorem oe16_4 : iEq 16 4 = false := rfl
theorem oe16_5 : iEq 16 5 = false := rfl
theorem oe16_6 : iEq 16 6 = false := rfl
theorem oe16_7 : iEq 16 7 = false := rfl
theorem oe16_8 : iEq 16 8 = false := rfl
theorem oe16_9 : iEq 16 9 = false := rfl
theorem oe16_10 : iEq 16 10 = false := rfl
theorem oe16_11 : iEq 16 11 = false := rfl
theorem oe16_12 : iEq 16 12 = false := rfl
theorem oe16_13 : iEq 16 13 = false := rfl
theorem oe16_14 : iEq 16 14 = false := rfl
theorem oe16_15 : iEq 16 15 = false := rfl
theorem oe16_16 : iEq 16 16 = true := rfl
theorem oe16_17 : iEq 16 17 = false := rfl
theorem oe16_18 : iEq 16 18 = false := rfl
theorem oe16_19 : iEq 16 19 = false := rfl
theorem oe16_20 : iEq 16 20 = false := rfl
theorem oe16_21 : iEq 16 21 = false := rfl
theorem oe16_22 : iEq 16 22 = false := rfl
theorem oe16_23 : iEq 16 23 = false := rfl
theorem oe16_24 : iEq 16 24 = false := rfl
theorem ol2_16 : iLe 2 16 = true := rfl
theorem ol5_16 : iLe 5 16 = true := rfl
theorem ol12_16 : iLe 12 16 = true := rfl
theorem ol15_16 : iLe 15 16 = true := rfl
theorem og16_8 : iLe 16 8 = false := rfl
theorem og16_14 : iLe 16 14 = false := rfl
theorem og16_20 : iLe 16 20 = true := rfl
theorem oe17_1 : iEq 17 1 = false := rfl
theorem oe17_2 : iEq 17 2 = false := rfl
theorem oe17_3 : iEq 17 3 = false := rfl
theorem oe17_4 : iEq 17 4 = false := rfl
theorem oe17_5 : iEq 17 5 = false := rfl
theorem oe17_6 : iEq 17 6 = false := rfl
theorem oe17_7 : iEq 17 7 = false := rfl
theorem oe17_8 : iEq 17 8 = false := rfl
theorem oe17_9 : iEq 17 9 = false := rfl
theorem oe17_10 : iEq 17 10 = false := rfl
theorem oe17_11 : iEq 17 11 = false := rfl
theorem oe17_12 : iEq 17 12 = false := rfl
theorem oe17_13 : iEq 17 13 = false := rfl
theorem oe17_14 : iEq 17 14 = false := rfl
theorem oe17_15 : iEq 17 15 = false := rfl
theorem oe17_16 : iEq 17 16 = false := rfl
theorem oe17_17 : iEq 17 17 = true := rfl
theorem oe17_18 : iEq 17 18 = false := rfl
theorem oe17_19 : iEq 17 19 = false := rfl
theorem oe17_20 : iEq 17 20 = false := rfl
theorem oe17_21 : iEq 17 21 = false := rfl
theorem oe17_22 : iEq 17 22 = false := rfl
theorem oe17_23 : iEq 17 23 = false := rfl
theorem oe17_24 : iEq 17 24 = false := rfl
theorem ol2_17 : iLe 2 17 = true := rfl
theorem ol5_17 : iLe 5 17 = true := rfl
theorem ol12_17 : iLe 12 17 = true := rfl
theorem ol15_17 : iLe 15 17 = true := rfl
theorem og17_8 : iLe 17 8 = false := rfl
theorem og17_14 : iLe 17 14 = false := rfl
theorem og17_20 : iLe 17 20 = true := rfl
theorem oe18_1 : iEq 18 1 = false := rfl
theorem oe18_2 : iEq 18 2 = false := rfl
theorem oe18_3 : iEq 18 3 = false := rfl
theorem oe18_4 : iEq 18 4 = false := rfl
theorem oe18_5 : iEq 18 5 = false := rfl
theorem oe18_6 : iEq 18 6 = false := rfl
theorem oe18_7 : iEq 18 7 = false := rfl
theorem oe18_8 : iEq 18 8 = false := rfl
theorem oe18_9 : iEq 18 9 = false := rfl
theorem oe18_10 : iEq 18 10 = false := rfl
theorem oe18_11 : iEq 18 11 = false := rfl
theorem oe18_12 : iEq 18 12 = false := rfl
theorem oe18_13 : iEq 18 13 = false := rfl
theorem oe18_14 : iEq 18 14 = false := rfl
theorem oe18_15 : iEq 18 15 = false := rfl
theorem oe18_16 : iEq 18 16 = false := rfl
theorem oe18_17 : iEq 18 17 = false := rfl
theorem oe18_18 : iEq 18 18 = true := rfl
theorem oe18_19 : iEq 18 19 = false := rfl
theorem oe18_20 : iEq 18 20 = false := rfl
theorem oe18_21 : iEq 18 21 = false := rfl
theorem oe18_22 : iEq 18 22 = false := rfl
theorem oe18_23 : iEq 18 23 = false := rfl
theorem oe18_24 : iEq 18 24 = false := rfl
theorem ol2_18 : iLe 2 18 = true := rfl
theorem ol5_18 : iLe 5 18 = true := rfl
theorem ol12_18 : iLe 12 18 = true := rfl
theorem ol15_18 : iLe 15 18 = true := rfl
theorem og18_8 : iLe 18 8 = false := rfl
theorem og18_14 : iLe 18 14 = false := rfl
theorem og18_20 : iLe 18 20 = true := rfl
theorem oe19_1 : iEq 19 1 = false := rfl
theorem oe19_2 : iEq 19 2 = false := rfl
theorem oe19_3 : iEq 19 3 = false := rfl
theorem oe19_4 : iEq 19 4 = false := rfl
theorem oe19_5 : iEq 19 5 = false := rfl
theorem oe19_6 : iEq 19 6 = false := rfl
theorem oe19_7 : iEq 19 7 = false := rfl
theorem oe19_8 : iEq 19 8 = false := rfl
theorem oe19_9 : iEq 19 9 = false := rfl
theorem oe19_10 : iEq 19 10 = false := rfl
theorem oe19_11 : iEq 19 11 = false := rfl
theorem oe19_12 : iEq 19 12 = false := rfl
theorem oe19_13 : iEq 19 13 = false := rfl
theorem oe19_14 : iEq 19 14 = false := rfl
theorem oe19_15 : iEq 19 15 = false := rfl
theorem oe19_16 : iEq 19 16 = false := rfl
theorem oe19_17 : iEq 19 17 = false := rfl
theorem oe19_18 : iEq 19 18 = false := rfl
theorem oe19_19 : iEq 19 19 = true := rfl
theorem oe19_20 : iEq 19 20 = false := rfl
theorem oe19_21 : iEq 19 21 = false := rfl
theorem oe19_22 : iEq 19 22 = false := rfl
theorem oe19_23 : iEq 19 23 = false := rfl
theorem oe19_24 : iEq 19 24 = false := rfl
theorem ol2_19 : iLe 2 19 = true := rfl
theorem ol5_19 : iLe 5 19 = true := rfl
theorem ol12_19 : iLe 12 19 = true := rfl
theorem ol15_19 : iLe 15 19 = true := rfl
theorem og19_8 : iLe 19 8 = false := rfl
theorem og19_14 : iLe 19 14 = false := rfl
theorem og19_20 : iLe 19 20 = true := rfl
theorem oe20_1 : iEq 20 1 = false := rfl
theorem oe20_2 : iEq 20 2 = false := rfl
theorem oe20_3 : iEq 20 3 = false := rfl
theorem oe20_4 : iEq 20 4 = false := rfl
theorem oe20_5 : iEq 20 5 = false := rfl
theorem oe20_6 : iEq 20 6 = false := rfl
theorem oe20_7 : iEq 20 7 = false := rfl
theorem oe20_8 : iEq 20 8 = false := rfl
theorem oe20_9 : iEq 20 9 = false := rfl
theorem oe20_10 : iEq 20 10 = false := rfl
theorem oe20_11 : iEq 20 11 = false := rfl
theorem oe20_12 : iEq 20 12 = false := rfl
theorem oe20_13 : iEq 20 13 = false := rfl
theorem oe20_14 : iEq 20 14 = false := rfl
theorem oe20_15 : iEq 20 15 = false := rfl
theorem oe20_16 : iEq 20 16 = false := rfl
theorem oe20_17 : iEq 20 17 = false := rfl
theorem oe20_18 : iEq 20 18 = false := rfl
theorem oe20_19 : iEq 20 19 = false := rfl
theorem oe20_20 : iEq 20 20 = true := rfl
theorem oe20_21 : iEq 20 21 = false := rfl
theorem oe20_22 : iEq 20 22 = false := rfl
theorem oe20_23 : iEq 20 23 = false := rfl
theorem oe20_24 : iEq 20 24 = false := rfl
theorem ol2_20 : iLe 2 20 = true := rfl
theorem ol5_20 : iLe 5 20 = true := rfl
theorem ol12_20 : iLe 12 20 = true := rfl
theorem ol15_20 : iLe 15 20 = true := rfl
theorem og20_8 : iLe 20 8 = false := rfl
theorem og20_14 : iLe 20 14 = false := rfl
theorem og20_20 : iLe 20 20 = true := rfl
theorem oe21_1 : iEq 21 1 = false := rfl
theorem oe21_2 : iEq 21 2 = false := rfl
theorem oe21_3 : iEq 21 3 = false := rfl
theorem oe21_4 : iEq 21 4 = false := rfl
theorem oe21_5 : iEq 21 5 = false := rfl
theorem oe21_6 : iEq 21 6 = false := rfl
theorem oe21_7 : iEq 21 7 = false := rfl
theorem oe21_8 : iEq 21 8 = false := rfl
theorem oe21_9 : iEq 21 9 = false := rfl
theorem oe21_10 : iEq 21 10 = false := rfl
theorem oe21_11 : iEq 21 11 = false := rfl
theorem oe21_12 : iEq 21 12 = false := rfl
theorem oe21_13 : iEq 21 13 = false := rfl
theorem oe21_14 : iEq 21 14 = false := rfl
theorem oe21_15 : iEq 21 15 = false := rfl
theorem oe21_16 : iEq 21 16 = false := rfl
theorem oe21_17 : iEq 21 17 = false := rfl
theorem oe21_18 : iEq 21 18 = false := rfl
theorem oe21_19 : iEq 21 19 = false := rfl
theorem oe21_20 : iEq 21 20 = false := rfl
theorem oe21_21 : iEq 21 21 = true := rfl
theorem oe21_22 : iEq 21 22 = false := rfl
theorem oe21_23 : iEq 21 23 = false := rfl
theorem oe21_24 : iEq 21 24 = false := rfl
theorem ol2_21 : iLe 2 21 = true := rfl
theorem ol5_21 : iLe 5 21 = true := rfl
theorem ol12_21 : iLe 12 21 = true := rfl
theorem ol15_21 : iLe 15 21 = true := rfl
theorem og21_8 : iLe 21 8 = false := rfl
theorem og21_14 : iLe 21 14 = false := rfl
theorem og21_20 : iLe 21 20 = false := rfl
theorem oe22_1 : iEq 22 1 = false := rfl
theorem oe22_2 : iEq 22 2 = false := rfl
theorem oe22_3 : iEq 22 3 = false := rfl
theorem oe22_4 : iEq 22 4 = false := rfl
theorem oe22_5 : iEq 22 5 = false := rfl
theorem oe22_6 : iEq 22 6 = false := rfl
theorem oe22_7 : iEq 22 7 = false := rfl
theorem oe22_8 : iEq 22 8 = false := rfl
theorem oe22_9 : iEq 22 9 = false := rfl
theorem oe22_10 : iEq 22 10 = false := rfl
theorem oe22_11 : iEq 22 11 = false := rfl
theorem oe22_12 : iEq 22 12 = false := rfl
theorem oe22_13 : iEq 22 13 = false := rfl
theorem oe22_14 : iEq 22 14 = false := rfl
theorem oe22_15 : iEq 22 15 = false := rfl
theorem oe22_16 : iEq 22 16 = false := rfl
theorem oe22_17 : iEq 22 17 = false := rfl
theorem oe22_18 : iEq 22 18 = false := rfl
theorem oe22_19 : iEq 22 19 = false := rfl
theorem oe22_20 : iEq 22 20 = false := rfl
theorem oe22_21 : iEq 22 21 = false := rfl
theorem oe22_22 : iEq 22 22 = true := rfl
theorem oe22_23 : iEq 22 23 = false := rfl
theorem oe22_24 : iEq 22 24 = false := rfl
theorem ol2_22 : iLe 2 22 = true := rfl
theorem ol5_22 : iLe 5 22 = true := rfl
theorem ol12_22 : iLe 12 22 = true := rfl
theorem ol15_22 : iLe 15 22 = true := rfl
theorem og22_8 : iLe 22 8 = false := rfl
theorem og22_14 : iLe 22 14 = false := rfl
theorem og22_20 : iLe 22 20 = false := rfl
theorem oe23_1 : iEq 23 1 = false := rfl
theorem oe23_2 : iEq 23 2 = false := rfl
theorem oe23_3 : iEq 23 3 = false := rfl
theorem oe23_4 : iEq 23 4 = false := rfl
theorem oe23_5 : iEq 23 5 = false := rfl
theorem oe23_6 : iEq 23 6 = false := rfl
theorem oe23_7 : iEq 23 7 = false := rfl
theorem oe23_8 : iEq 23 8 = false := rfl
theorem oe23_9 : iEq 23 9 = false := rfl
theorem oe23_10 : iEq 23 10 = false := rfl
theorem oe23_11 : iEq 23 11 = false := rfl
theorem oe23_12 : iEq 23 12 = false := rfl
theorem oe23_13 : iEq 23 13 = false := rfl
theorem oe23_14 : iEq 23 14 = false := rfl
theorem oe23_15 : iEq 23 15 = false := rfl
theorem oe23_16 : iEq 23 16 = false := rfl
theorem oe23_17 : iEq 23 17 = false := rfl
theorem oe23_18 : iEq 23 18 = false := rfl
theorem oe23_19 : iEq 23 19 = false := rfl
theorem oe23_20 : iEq 23 20 = false := rfl
theorem oe23_21 : iEq 23 21 = false := rfl
theorem oe23_22 : iEq 23 22 = false := rfl
theorem oe23_23 : iEq 23 23 = true := rfl
theorem oe23_24 : iEq 23 24 = false := rfl
theorem ol2_23 : iLe 2 23 = true := rfl
theorem ol5_23 : iLe 5 23 = true := rfl
theorem ol12_23 : iLe 12 23 = true := rfl
theorem ol15_23 : iLe 15 23 = true := rfl
theorem og23_8 : iLe 23 8 = false := rfl
theorem og23_14 : iLe 23 14 = false := rfl
theorem og23_20 : iLe 23 20 = false := rfl
theorem oe24_1 : iEq 24 1 = false := rfl
theorem oe24_2 : iEq 24 2 = false := rfl
theorem oe24_3 : iEq 24 3 = false := rfl
theorem oe24_4 : iEq 24 4 = false := rfl
theorem oe24_5 : iEq 24 5 = false := rfl
theorem oe24_6 : iEq 24 6 = false := rfl
theorem oe24_7 : iEq 24 7 = false := rfl
theorem oe24_8 : iEq 24 8 = false := rfl
theorem oe24_9 : iEq 24 9 = false := rfl
theorem oe24_10 : iEq 24 10 = false := rfl
theorem oe24_11 : iEq 24 11 = false := rfl
theorem oe24_12 : iEq 24 12 = false := rfl
theorem oe24_13 : iEq 24 13 = false := rfl
theorem oe24_14 : iEq 24 14 = false := rfl
theorem oe24_15 : iEq 24 15 = false := rfl
theorem oe24_16 : iEq 24 16 = false := rfl
theorem oe24_17 : iEq 24 17 = false := rfl
theorem oe24_18 : iEq 24 18 = false := rfl
theorem oe24_19 : iEq 24 19 = false := rfl
theorem oe24_20 : iEq 24 20 = false := rfl
theorem oe24_21 : iEq 24 21 = false := rfl
theorem oe24_22 : iEq 24 22 = false := rfl
theorem oe24_23 : iEq 24 23 = false := rfl
theorem oe24_24 : iEq 24 24 = true := rfl
theorem ol2_24 : iLe 2 24 = true := rfl
theorem ol5_24 : iLe 5 24 = true := rfl
theorem ol12_24 : iLe 12 24 = true := rfl
theorem ol15_24 : iLe 15 24 = true := rfl
theorem og24_8 : iLe 24 8 = false := rfl
theorem og24_14 : iLe 24 14 = false := rfl
theorem og24_20 : iLe 24 20 = false := rfl
end Go.Proofs.YtiadfnedbbkojaaDoor.X
namespace Go.Proofs.YtiadfnedbbkojaaDoor.Bv
open Go Go.RowKit Go.Proofs.YtiadfnedbbkojaaDoor.X
/-- A word as the whole number that it is. -/
def U (x : BitVec 64) : Int := (x.toNat : Int)
theorem U_nonneg (x : BitVec 64) : 0 ≤ U x := Int.natCast_nonneg _
theorem U_lt (x : BitVec 64) : U x < 18446744073709551616 := by
  have := x.isLt
  unfold U
  omega
theorem of_range {a : Int} (h0 : 0 ≤ a) (h1 : a < 18446744073709551616) : ∃ x, a = U x := by
  refine ⟨BitVec.ofNat 64 a.toNat, ?_⟩
  unfold U
  rw [BitVec.toNat_ofNat, Nat.mod_eq_of_lt (by omega)]
  omega
theorem of_wf {a : Int} (h : (Lit.int .u64 a).wf = true) : ∃ x, a = U x := by
  simp [Lit.wf, IntKind.min, IntKind.max, IntKind.bits, IntKind.signed] at h
  exact of_range (by omega) (by omega)
theorem U_inj {x y : BitVec 64} : U x = U y ↔ x = y := by
  unfold U
  rw [Int.ofNat_inj]
  exact BitVec.toNat_inj
theorem U_lt_iff {x y : BitVec 64} : U x < U y ↔ x < y := by
  unfold U
  rw [Int.ofNat_lt]
  exact Iff.rfl
theorem U_le_iff {x y : BitVec 64} : U x ≤ U y ↔ x ≤ y := by
  unfold U
  rw [Int.ofNat_le]
  exact Iff.rfl
theorem U_ofNat (n : Nat) (h : n < 18446744073709551616) : U (BitVec.ofNat 64 n) = (n : Int) := by
  unfold U
  rw [BitVec.toNat_ofNat, Nat.mod_eq_of_lt (by omega)]
theorem U_max : U (BitVec.allOnes 64) = 18446744073709551615 := by decide
theorem wrap_u64 (n : Int) : IntKind.u64.wrap n = n % 18446744073709551616 := by simp [IntKind.wrap, IntKind.bits, IntKind.signed]
theorem wrap_U (x : BitVec 64) : IntKind.u64.wrap (U x) = U x := by
  have h0 := U_nonneg x
  have h1 := U_lt x
  rw [wrap_u64]
  omega
theorem ofInt_U (x : BitVec 64) : BitVec.ofInt 64 (U x) = x := by
  unfold U
  rw [BitVec.ofInt_natCast, BitVec.ofNat_toNat, BitVec.setWidth_eq]
theorem wrap_ofInt (n : Int) : IntKind.u64.wrap n = U (BitVec.ofInt 64 n) := by
  unfold U
  rw [wrap_u64, BitVec.toNat_ofInt]
  omega
theorem b_and (x y : BitVec 64) : Go.bits .and .u64 (U x) (U y) = U (x &&& y) := by
  have h : Go.bits .and .u64 (U x) (U y) = IntKind.u64.wrap (U (BitVec.ofInt 64 (U x) &&& BitVec.ofInt 64 (U y))) := rfl
  rw [h, ofInt_U, ofInt_U, wrap_U]
theorem b_or (x y : BitVec 64) : Go.bits .or .u64 (U x) (U y) = U (x ||| y) := by
  have h : Go.bits .or .u64 (U x) (U y) = IntKind.u64.wrap (U (BitVec.ofInt 64 (U x) ||| BitVec.ofInt 64 (U y))) := rfl
  rw [h, ofInt_U, ofInt_U, wrap_U]
theorem b_xor (x y : BitVec 64) : Go.bits .xor .u64 (U x) (U y) = U (x ^^^ y) := by
  have h : Go.bits .xor .u64 (U x) (U y) = IntKind.u64.wrap (U (BitVec.ofInt 64 (U x) ^^^ BitVec.ofInt 64 (U y))) := rfl
  rw [h, ofInt_U, ofInt_U, wrap_U]
theorem b_andNot (x y : BitVec 64) : Go.bits .andNot .u64 (U x) (U y) = U (x &&& ~~~ y) := by
  have h : Go.bits .andNot .u64 (U x) (U y) = IntKind.u64.wrap (U (BitVec.ofInt 64 (U x) &&& ~~~ BitVec.ofInt 64 (U y))) := rfl
  rw [h, ofInt_U, ofInt_U, wrap_U]
theorem b_not (x : BitVec 64) : Go.bits .xor .u64 18446744073709551615 (U x) = U (~~~ x) := by
  rw [← U_max, b_xor]
  congr 1
theorem w_add (x y : BitVec 64) : IntKind.u64.wrap (U x + U y) = U (x + y) := by
  rw [wrap_ofInt, BitVec.ofInt_add, ofInt_U, ofInt_U]
theorem w_sub (x y : BitVec 64) : IntKind.u64.wrap (U x - U y) = U (x - y) := by
  rw [Int.sub_eq_add_neg, wrap_ofInt, BitVec.ofInt_add, BitVec.ofInt_neg, ofInt_U, ofInt_U, BitVec.sub_eq_add_neg]
theorem w_mul (x y : BitVec 64) : IntKind.u64.wrap (U x * U y) = U (x * y) := by
  rw [wrap_ofInt, BitVec.ofInt_mul, ofInt_U, ofInt_U]
theorem w_neg (x : BitVec 64) : IntKind.u64.wrap (- U x) = U (- x) := by
  rw [wrap_ofInt, BitVec.ofInt_neg, ofInt_U]
theorem s_left (x : BitVec 64) (i : Int) (_h : 0 ≤ i) : iShl .u64 (U x) i = U (x <<< i.toNat) := by
  have hb : IntKind.u64.bits = 64 := rfl
  unfold iShl
  rw [wrap_u64, hb]
  unfold U
  rw [BitVec.toNat_shiftLeft, Nat.shiftLeft_eq]
  by_cases hi : i.toNat ≤ 64
  · rw [Nat.min_eq_left hi]
    simp
  · rw [Nat.min_eq_right (by show 64 ≤ i.toNat; omega)]
    have h1 : x.toNat * 2 ^ i.toNat % 2 ^ 64 = 0 := by
      obtain ⟨j, hj⟩ : ∃ j, i.toNat = 64 + j := ⟨i.toNat - 64, by omega⟩
      rw [hj, Nat.pow_add, ← Nat.mul_assoc, Nat.mul_comm x.toNat, Nat.mul_assoc]
      exact Nat.mul_mod_right _ _
    rw [h1]
    show ((x.toNat : Int) * 2 ^ 64) % 18446744073709551616 = 0
    omega
theorem s_right (x : BitVec 64) (i : Int) (_h : 0 ≤ i) : iShr .u64 (U x) i = U (x >>> i.toNat) := by
  have hb : IntKind.u64.bits = 64 := rfl
  unfold iShr U
  rw [Int.fdiv_eq_ediv_of_nonneg _ (Int.le_of_lt (Int.pow_pos (by decide)))]
  rw [hb, BitVec.toNat_ushiftRight, Nat.shiftRight_eq_div_pow]
  by_cases hi : i.toNat ≤ 64
  · rw [Nat.min_eq_left hi, Int.natCast_ediv]
    simp
  · rw [Nat.min_eq_right (by show 64 ≤ i.toNat; omega)]
    have h1 : x.toNat / 2 ^ i.toNat = 0 := by
      refine Nat.div_eq_of_lt (Nat.lt_of_lt_of_le x.isLt (Nat.pow_le_pow_right (Nat.zero_lt_succ 1) (by omega)))
    rw [h1]
    have := x.isLt
    show (x.toNat : Int) / 2 ^ 64 = 0
    omega
theorem q_div (x y : BitVec 64) : Int.tdiv (U x) (U y) = U (x / y) := by
  unfold U
  rw [← Int.ofNat_tdiv, BitVec.toNat_udiv]
theorem q_mod (x y : BitVec 64) : Int.tmod (U x) (U y) = U (x % y) := by
  unfold U
  rw [← Int.ofNat_tmod, BitVec.toNat_umod]
/-- The word of w ones, for a width of any sign. -/
def M (w : Int) : BitVec 64 := if 64 ≤ w then BitVec.allOnes 64 else (1#64 <<< w.toNat) - 1#64
theorem M_nat (w : Nat) (h : w ≤ 64) : (M w).toNat = 2 ^ w - 1 := by
  have : ∀ w : Fin 65, (M (w.val : Int)).toNat = 2 ^ w.val - 1 := by decide +kernel
  exact this ⟨w, by omega⟩
theorem M_bit (w : Nat) (h : w ≤ 64) (i : Nat) : (M w).getLsbD i = decide (i < w) := by
  unfold BitVec.getLsbD
  rw [M_nat w h, Nat.testBit_two_pow_sub_one]
theorem i_and (x y : BitVec 64) : iAnd .u64 (U x) (U y) = U (x &&& y) := b_and x y
theorem i_or (x y : BitVec 64) : iOr .u64 (U x) (U y) = U (x ||| y) := b_or x y
theorem i_xor (x y : BitVec 64) : iXor .u64 (U x) (U y) = U (x ^^^ y) := b_xor x y
theorem i_andNot (x y : BitVec 64) : iAndNot .u64 (U x) (U y) = U (x &&& ~~~ y) := b_andNot x y
theorem i_not (x : BitVec 64) : iNot .u64 (U x) = U (~~~ x) := b_not x
theorem i_add (x y : BitVec 64) : iAdd .u64 (U x) (U y) = U (x + y) := w_add x y
theorem i_sub (x y : BitVec 64) : iSub .u64 (U x) (U y) = U (x - y) := w_sub x y
theorem i_mul (x y : BitVec 64) : iMul .u64 (U x) (U y) = U (x * y) := w_mul x y
theorem i_mulS (x y : BitVec 64) : mulS .u64 (U x) (U y) = U (x * y) := by
  rw [mulS_eq]
  exact i_mul x y
theorem i_neg (x : BitVec 64) : iNeg .u64 (U x) = U (- x) := by
  unfold iNeg
  rw [Int.zero_sub]
  exact w_neg x
theorem i_eq (x y : BitVec 64) : iEq (U x) (U y) = (x == y) := by
  unfold iEq
  rw [Bool.eq_iff_iff, beq_iff_eq, beq_iff_eq]
  exact U_inj
theorem i_ne (x y : BitVec 64) : iNe (U x) (U y) = (x != y) := by
  unfold iNe
  rw [bne, bne, show (U x == U y) = (x == y) from i_eq x y]
theorem i_ne' (x y : BitVec 64) : iNe (U x) (U y) = !(x == y) := i_ne x y
theorem i_lt (x y : BitVec 64) : iLt (U x) (U y) = decide (x < y) := by
  unfold iLt
  exact decide_eq_decide.2 U_lt_iff
theorem i_le (x y : BitVec 64) : iLe (U x) (U y) = decide (x ≤ y) := by
  unfold iLe
  exact decide_eq_decide.2 U_le_iff
theorem i_shl (x : BitVec 64) (i : Int) (h : 0 ≤ i) : iShl .u64 (U x) i = U (x <<< i.toNat) := s_left x i h
theorem i_shr (x : BitVec 64) (i : Int) (h : 0 ≤ i) : iShr .u64 (U x) i = U (x >>> i.toNat) := s_right x i h
theorem i_quo (x y : BitVec 64) : iQuo .u64 (U x) (U y) = U (x / y) := by
  unfold iQuo
  rw [q_div, wrap_U]
theorem i_rem (x y : BitVec 64) : iRem .u64 (U x) (U y) = U (x % y) := q_mod x y
theorem U0 : (0 : Int) = U 0#64 := rfl
theorem U1 : (1 : Int) = U 1#64 := rfl
end Go.Proofs.YtiadfnedbbkojaaDoor.Bv
