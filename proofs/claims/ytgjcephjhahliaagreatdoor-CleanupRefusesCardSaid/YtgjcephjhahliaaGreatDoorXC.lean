/- Joined texts: XC. -/
import Derived.LoopN
import Derived.ChangeArms
import Derived.OpenShut
import Derived.ChangeOld
import Derived.Carry
import Derived.LaidLaws
import Derived.SizedLaws
import Derived.Test.YtgjcephjhahliaaGreatDoorXB
namespace Go.Proofs.YtgjcephjhahliaaGreatDoor.X
open Go
variable {P : Program} {G nt : Nat} {cf : FuncId → List Value → AH → Option (Value × AH)} {ops : Array Oper} {es : Nat → Tr Value} {hs : Nat → AH}
def Loud (ops : Array Oper) (j : Nat) : Prop := silentAt ops.toList j = false
/-- It gives the same at p. -/
def SafeP (P : Program) (cf : FuncId → List Value → AH → Option (Value × AH)) (es : Nat → Tr Value) (hs : Nat → AH) (ops : Array Oper) (x p : Nat) (o : Oper) : Prop :=
  wantE ops o (es x) = true → ∃ v, opV P cf o.op (es x) (hs p) = some (v, hs p) ∧ es (x + 1) = putE (es x) o.dst v
structure InvW (P : Program) (cf : FuncId → List Value → AH → Option (Value × AH)) (G nt : Nat) (ops : Array Oper) (p : Nat) (es : Nat → Tr Value) (hs : Nat → AH) (base : Nat) (ι0 : Inj) (w0 : World) (listed : Array Bool) (ι : Inj) (a : Act) (w : World) : Prop where
  rel : Rel ι base (hs p) w
  tmp : ∀ t, (∃ j o, Lst listed j ∧ ops.toList[j]? = some o ∧ o.dst = some t ∧ vRel ι (((es (j + 1)).get t).getD undef) (a.tmps.getD t undef)) ∨
    ((∀ j o, Lst listed j → ops.toList[j]? = some o → o.dst ≠ some t) ∧ vRel ι (((es 0).get t).getD undef) (a.tmps.getD t undef))
  dfr : a.defers = []
  glb : GOK G ι
  siz : nt ≤ a.tmps.size
  low : ∀ j, Lst listed j → Loud ops j → j < p
  pen : ∀ j, j < p → Loud ops j → Lst listed j
  ext : Ext (hs 0).next w0 ι0 ι
  kep : Keep base ι0 w0 w
  nxt : (hs 0).next ≤ (hs p).next
section
variable {base p : Nat} {ι0 ι : Inj} {w0 w : World} {listed : Array Bool} {a : Act}
theorem InvW.read (T : Tr2 P cf ops 0 es hs) (hC : drawC ops.toList = true) (I : InvW P cf G nt ops p es hs base ι0 w0 listed ι a w) (hc : Clo ops listed) {i : Nat} (hi : i ∈ Region.ready .any ops listed) {o : Oper} (ho : ops.toList[i]? = some o)
    {t : Tmp} (ht : t ∈ looks ops.toList o) : vRel ι (((es i).get t).getD undef) (a.tmps.getD t undef) := by
  have hil := (List.getElem?_eq_some_iff.1 ho).1
  have hsure := sure hC ho ht
  rcases I.tmp t with ⟨j, o', hl, ho', hd, hv⟩ | ⟨hno, hv⟩
  · have hjl := (List.getElem?_eq_some_iff.1 ho').1
    rcases hsure j o' ho' hd with rfl | ⟨h1, _⟩ | ⟨_, h2⟩
    · exact absurd hl (ready_not hi).2
    · have e : (es i).get t = (es (j + 1)).get t := T.envLe (by omega) (by omega) fun j' o'' h3 h4 e1 e2 => by
        have := once hC j j' o' o'' t ho' e1 hd e2
        omega
      rw [e]
      exact hv
    · exact absurd (hc j hl i h2) (ready_not hi).2
  · have e : (es i).get t = (es 0).get t := T.envLe (Nat.zero_le _) (by omega) fun j o' _ h2 e1 e2 => by
      rcases hsure j o' e1 e2 with rfl | ⟨_, h3⟩ | ⟨h3, _⟩
      · omega
      · exact hno j o' (ready_bfr hc hi j h3) e1 e2
      · omega
    rw [e]
    exact hv
theorem InvW.next (I : InvW P cf G nt ops p es hs base ι0 w0 listed ι a w) {i p' : Nat} (hsz : i < listed.size) {o : Oper} (ho : ops.toList[i]? = some o) (hdst : ∀ t, o.dst = some t → t < nt)
    {v vc : Value} (hes : es (i + 1) = putE (es i) o.dst v) {ι1 : Inj} {w1 : World} (hvr : vRel ι1 v vc) (R1 : Rel ι1 base (hs p') w1) (E1 : Ext (hs p).next w ι ι1) (K1 : Keep base ι w w1) (N1 : (hs p).next ≤ (hs p').next)
    (hip : Loud ops i → i < p') (hpp : p ≤ p') (hpen : ∀ j, p ≤ j → j < p' → Loud ops j → j = i) : InvW P cf G nt ops p' es hs base ι0 w0 (listed.setIfInBounds i true) ι1 (a.put o.dst vc) w1 := by
  have s1 : Sub ι ι1 := E1.sub fun β k e => (I.rel.dom β k e).1
  have lm : ∀ j, Lst listed j → Lst (listed.setIfInBounds i true) j := fun j h => (lst_set hsz).2 (.inl h)
  have li : Lst (listed.setIfInBounds i true) i := (lst_set hsz).2 (.inr rfl)
  refine ⟨R1, fun t => ?_, by rw [put_defers]; exact I.dfr, I.glb.mono s1, by rw [put_size]; exact I.siz, fun j hj hjl => ?_, fun j hj hjl => ?_, I.ext.trans E1 I.nxt I.kep.1, I.kep.trans I.ext K1, Nat.le_trans I.nxt N1⟩
  · by_cases hd : o.dst = some t
    · refine .inl ⟨i, o, li, ho, hd, ?_⟩
      rw [put_self hd (Nat.lt_of_lt_of_le (hdst t hd) I.siz), hes, hd]
      have : ((putE (es i) (some t) v).get t).getD undef = v := by
        show (((es i).set t v).get t).getD undef = v
        rw [Tr.get_set, if_pos rfl]
        rfl
      rw [this]
      exact hvr
    · rw [put_other hd]
      rcases I.tmp t with ⟨j, o', hl, ho', hd', hv⟩ | ⟨hno, hv⟩
      · exact .inl ⟨j, o', lm j hl, ho', hd', hv.mono s1⟩
      · refine .inr ⟨fun j o' hl ho' => ?_, hv.mono s1⟩
        rcases (lst_set hsz).1 hl with hl | rfl
        · exact hno j o' hl ho'
        · rw [ho] at ho'
          injection ho' with ho'
          exact ho' ▸ hd
  · rcases (lst_set hsz).1 hj with hl | rfl
    · exact Nat.lt_of_lt_of_le (I.low j hl hjl) hpp
    · exact hip hjl
  · rcases Nat.lt_or_ge j p with hl | hl
    · exact lm j (I.pen j hl hjl)
    · exact hpen j hl hj hjl ▸ li
/-- Conversions make no rows. -/
def Plain (P : Program) (ops : Array Oper) : Prop := ∀ o ∈ ops.toList, ∀ s d x, o.op = .convert s d x → isSliceT P d = false
theorem conv_any {s d : TypeId} {x : Operand} (hd : isSliceT P d = false) {e : Tr Value} {h h1 : AH} {v : Value} (hv : opV P cf (.convert s d x) e h = some (v, h1)) (g : AH) : opV P cf (.convert s d x) e g = some (v, g) := by
  unfold opV at hv ⊢
  simp only [hd, cond_false] at hv ⊢
  obtain ⟨v', h2, h3⟩ := Option.map_eq_some_iff.1 hv
  rw [h2]
  rw [← (Prod.mk.inj h3).1]
  rfl
/-- Silent operations leave the heap. -/
theorem silent_op {o : Oper} (hp : ∀ s d x, o.op = .convert s d x → isSliceT P d = false) (hs' : silentO o = true) {e : Tr Value} {h h1 : AH} {v : Value} (hv : opV P cf o.op e h = some (v, h1)) : h1 = h := by
  unfold silentO at hs'
  rcases Bool.or_eq_true _ _ ▸ hs' with hs' | hs'
  · have := heapless_any hs' hv h
    rw [hv] at this
    exact (Prod.mk.inj (Option.some.inj this)).2
  rcases Bool.or_eq_true _ _ ▸ hs' with hs' | hs'
  · unfold convT at hs'
    split at hs'
    · rename_i s d x ho
      rw [ho] at hv
      have := conv_any (hp s d x ho) hv h
      rw [hv] at this
      exact (Prod.mk.inj (Option.some.inj this)).2
    · cases hs'
  · rw [Bool.and_eq_true] at hs'
    have h2 := hs'.1
    unfold loadT at h2
    split at h2
    · rename_i t τ ho
      rw [ho] at hv
      obtain ⟨v', _, h3⟩ := Option.map_eq_some_iff.1 (show (loadV P t (ev e (.tmp τ)) h).map (fun v => (v, h)) = some (v, h1) from hv)
      exact (Prod.mk.inj h3).2.symm
    · cases h2
theorem silent_step {o : Oper} (hp : ∀ s d x, o.op = .convert s d x → isSliceT P d = false) (hs' : silentO o = true) {e e1 : Tr Value} {h h1 : AH} (hv : tstepV P cf ops o e h = some (e1, h1)) : h1 = h := by
  unfold tstepV at hv
  rcases cond_either hv with hv | hv
  · obtain ⟨⟨v, h2⟩, hp', hv1⟩ := Option.bind_eq_some_iff.1 hv
    rw [← silent_op hp hs' hp']
    exact (Prod.mk.inj (Option.some.inj hv1)).2.symm
  · exact (Prod.mk.inj (Option.some.inj hv)).2.symm
theorem silent_at {l : List Oper} {x : Nat} {o : Oper} (ho : l[x]? = some o) : silentAt l x = silentO o := by
  unfold silentAt
  rw [ho]
theorem Tr2.chain (hpl : Plain P ops) (T : Tr2 P cf ops 0 es hs) (p : Nat) : ∀ d, p + d ≤ ops.toList.length → (∀ j, p ≤ j → j < p + d → ¬ Loud ops j) → hs (p + d) = hs p
  | 0, _, _ => rfl
  | d + 1, hl, hno => by
    have hlt : p + d < ops.toList.length := by omega
    have ho := List.getElem?_eq_getElem hlt
    have h1 := hno (p + d) (by omega) (by omega)
    have h1 : silentO (ops.toList[p + d]) = true := by
      unfold Loud at h1
      rw [silent_at ho] at h1
      simpa using h1
    have := silent_step (hpl _ (List.mem_of_getElem? ho)) h1 (T.lst (p + d) _ (Nat.zero_le _) hlt ho)
    exact this.trans (Tr2.chain hpl T p d (by omega) fun j h1 h2 => hno j h1 (by omega))
theorem Tr2.chainLe (hpl : Plain P ops) (T : Tr2 P cf ops 0 es hs) {p q : Nat} (h : p ≤ q) (hq : q ≤ ops.toList.length) (hno : ∀ j, p ≤ j → j < q → ¬ Loud ops j) : hs q = hs p := by
  have := Tr2.chain hpl T p (q - p) (by omega) fun j h1 h2 => hno j h1 (by omega)
  rwa [show p + (q - p) = q by omega] at this
theorem loud_lt {j : Nat} (h : Loud ops j) : j < ops.toList.length := by
  rcases Nat.lt_or_ge j ops.toList.length with hl | hl
  · exact hl
  · unfold Loud silentAt at h
    rw [List.getElem?_eq_none hl] at h
    cases h
theorem InvW.done (hpl' : Plain P ops) (T : Tr2 P cf ops 0 es hs) (hC : drawC ops.toList = true) (I : InvW P cf G nt ops p es hs base ι0 w0 listed ι a w) (hp : p ≤ ops.toList.length) (hall : ∀ j, j < ops.size → Lst listed j) : Post P G nt ι0 base (hs 0) w0 (es ops.toList.length) (hs ops.toList.length) a w := by
  have hpe : hs ops.toList.length = hs p := Tr2.chainLe hpl' T hp (Nat.le_refl _) fun j h1 h2 hl => by
    have := I.low j (hall j (by rw [← Array.length_toList]; exact h2)) hl
    omega
  rw [hpe]
  refine ⟨ι, ⟨I.rel, fun t => ?_, I.dfr, I.glb, I.siz⟩, I.ext, I.kep, I.nxt⟩
  rcases I.tmp t with ⟨j, o', hl, ho', hd, hv⟩ | ⟨hno, hv⟩
  · have hjl := (List.getElem?_eq_some_iff.1 ho').1
    have e : (es ops.toList.length).get t = (es (j + 1)).get t := T.envLe (by omega) (Nat.le_refl _) fun j' o'' h3 h4 e1 e2 => by
      have := once hC j j' o' o'' t ho' e1 hd e2
      omega
    rw [e]
    exact hv
  · have e : (es ops.toList.length).get t = (es 0).get t := T.envLe (Nat.zero_le _) (Nat.le_refl _) fun j o' _ h2 e1 e2 => hno j o' (hall j (by rw [← Array.length_toList]; exact h2)) e1 e2
    rw [e]
    exact hv
end
theorem wtail_any (hN : namesOK P = true) (hcf : CallsOK P G cf) (hfn : HasBody P cf) (hC : drawC ops.toList = true) (hok : ops.toList.all (operOK nt G) = true) {base : Nat} {ι0 : Inj} {w0 : World} {Q : Exit → Act → World → Prop} (hpl' : Plain P ops) (T : Tr2 P cf ops 0 es hs)
    (hord : ∀ j x, Loud ops j → x < j → Loud ops x → x ∈ bfr ops j)
    (hsaf : ∀ x o, ops.toList[x]? = some o → ¬ Loud ops x → ∀ p, p ≤ ops.toList.length → (∀ y, Loud ops y → y ∈ bfr ops x → y < p) → (∀ y, y < p → Loud ops y → x ∉ bfr ops y) → SafeP P cf es hs ops x p o)
    (hq : ∀ a' w', Post P G nt ι0 base (hs 0) w0 (es ops.toList.length) (hs ops.toList.length) a' w' → Q .normal a' w') :
    ∀ (fuel p : Nat) {listed : Array Bool} {ι : Inj} {w : World} {a : Act}, listed.size = ops.size → cnt listed.toList ≤ fuel → Clo ops listed → p ≤ ops.toList.length → InvW P cf G nt ops p es hs base ι0 w0 listed ι a w → wpAny P .any ops Q fuel listed a w := by
  intro fuel
  induction fuel with
  | zero =>
    intro p listed ι w a hz hc hcl hpl I
    have hall := cnt_all hz (by omega)
    exact ⟨ready_nil hall, hq a w (I.done hpl' T hC hpl hall)⟩
  | succ fuel ih =>
    intro p listed ι w a hz hc hcl hpl I
    refine ⟨fun hr => hq a w (I.done hpl' T hC hpl (all_listed hz (lowE hC) hr)), fun i hi => ?_⟩
    obtain ⟨o, ho, ho'⟩ := ready_op hi
    obtain ⟨hsz, hnl⟩ := ready_not hi
    have hil := (List.getElem?_eq_some_iff.1 ho').1
    have hoo : operOK nt G o = true := List.all_eq_true.1 hok o (List.mem_of_getElem? ho')
    have hrd : ∀ t ∈ looks ops.toList o, vRel ι (((es i).get t).getD undef) (a.tmps.getD t undef) := fun t ht' => I.read T hC hcl hi ho' ht'
    have hz' : (listed.setIfInBounds i true).size = ops.size := by rw [Array.size_setIfInBounds]; exact hz
    have hops : ∀ x ∈ o.op.operands.toList, vRel ι (ev (es i) x) (a.eval x) := fun x hx => by
      have hxo := List.all_eq_true.1 (operOK_ops hoo) x hx
      cases x with
      | tmp t => exact hrd t (List.mem_append_left _ (opdTmps_mem hx))
      | const v => exact plainV_rel hxo
      | global g =>
        obtain ⟨k, h1, h2, h3⟩ := I.glb g (Nat.le_of_ble_eq_true hxo)
        exact (pRel.ptr _ _ ⟨rfl, rfl, k, h1, h2.symm, by rw [h3]; rfl⟩).v
      | func f => exact (cRel.func (.func f) #[] #[] #[] #[] trivial trivial).v
    have cont : ∀ p', (Loud ops i → i < p') → p ≤ p' → p' ≤ ops.toList.length → (∀ j, p ≤ j → j < p' → Loud ops j → j = i) → (hs p).next ≤ (hs p').next →
        (wantE ops o (es i) = false → es (i + 1) = putE (es i) o.dst undef ∧ hs p' = hs p) → (wantE ops o (es i) = true → ∃ v, opV P cf o.op (es i) (hs p) = some (v, hs p') ∧ es (i + 1) = putE (es i) o.dst v) →
        wpOp P ops Q i (fun a' w' => wpAny P .any ops Q fuel (listed.setIfInBounds i true) a' w') a w := fun p' hip hpp hpl' hpen hnx hw0 hw1 => by
      unfold wpOp
      rw [ho]
      simp only
      rw [want_same' hrd]
      cases hw : wantE ops o (es i) with
      | false =>
        obtain ⟨g1, g2⟩ := hw0 hw
        rw [if_neg (by decide)]
        exact ih p' hz' (cnt_step hi hc) (clo_step hcl hi) hpl' (I.next hsz ho' (operOK_dst hoo) g1 (ι1 := ι) (w1 := w) vRel.undef (g2 ▸ I.rel) (Ext.refl _ _ _) (Keep.refl _ _ _) hnx hip hpp hpen)
      | true =>
        obtain ⟨v, g1, g2⟩ := hw1 hw
        rw [if_pos rfl]
        left
        refine opV_sound' hN hcf hfn I.rel I.glb hops g1 fun vc ι1 w1 hvr R1 E1 K1 N1 => ?_
        exact ih p' hz' (cnt_step hi hc) (clo_step hcl hi) hpl' (I.next hsz ho' (operOK_dst hoo) g2 hvr R1 E1 K1 N1 hip hpp hpen)
    have hst := T.lst i o (Nat.zero_le _) hil ho'
    unfold tstepV at hst
    by_cases hlo : Loud ops i
    · have hpi : p ≤ i := by
        rcases Nat.lt_or_ge i p with hl | hl
        · exact absurd (I.pen i hl hlo) hnl
        · exact hl
      have hno : ∀ j, p ≤ j → j < i → ¬ Loud ops j := fun j h1 h2 h3 => by
        have := I.low j (ready_bfr hcl hi j (hord i j hlo h2 h3)) h3
        omega
      have hch : hs i = hs p := Tr2.chainLe hpl' T hpi (by omega) hno
      refine cont (i + 1) (fun _ => Nat.lt_succ_self _) (by omega) (by omega) (fun j h1 h2 h3 => ?_) ?_ (fun hw => ?_) (fun hw => ?_)
      · rcases Nat.lt_or_ge j i with hl | hl
        · exact absurd h3 (hno j h1 hl)
        · omega
      · rw [← hch]
        exact T.nx i o (Nat.zero_le _) hil ho'
      · rw [hw] at hst
        obtain ⟨h1, h2⟩ := Prod.mk.inj (Option.some.inj hst)
        exact ⟨h1.symm, h2.symm.trans hch⟩
      · rw [hw] at hst
        obtain ⟨⟨v, h1⟩, hp, hst⟩ := Option.bind_eq_some_iff.1 hst
        obtain ⟨h2, h3⟩ := Prod.mk.inj (Option.some.inj hst)
        refine ⟨v, ?_, h2.symm⟩
        rw [← hch, hp]
        exact congrArg (fun x => some (v, x)) h3
    · have hS := hsaf i o ho' hlo p hpl (fun y h1 h2 => I.low y (ready_bfr hcl hi y h2) h1) (fun y h1 h2 h3 => hnl (hcl y (I.pen y h1 h2) i h3))
      refine cont p (fun h => absurd h hlo) (Nat.le_refl _) hpl (fun j h1 h2 _ => absurd h2 (by omega)) (Nat.le_refl _) (fun hw => ?_) hS
      rw [hw] at hst
      obtain ⟨h1, _⟩ := Prod.mk.inj (Option.some.inj hst)
      exact ⟨h1.symm, rfl⟩
theorem loudMask_spec (l : List Oper) : ∀ (n x : Nat), x < n → silentAt l x = false → Nat.testBit (loudMask l n) x = true
  | 0, x, h, _ => absurd h (Nat.not_lt_zero _)
  | n + 1, x, h, hx => by
    unfold loudMask
    rcases Nat.lt_or_ge x n with hl | hl
    · have := loudMask_spec l n x hl hx
      cases silentAt l n with
      | true => exact this
      | false =>
        show Nat.testBit (1 <<< n ||| loudMask l n) x = true
        rw [Nat.testBit_or, this, Bool.or_true]
    · have : x = n := by omega
      subst this
      rw [hx]
      show Nat.testBit (1 <<< x ||| loudMask l x) x = true
      rw [Nat.testBit_or, Nat.one_shiftLeft, Nat.testBit_two_pow_self, Bool.true_or]
theorem subM_spec {a m x : Nat} (h : subM a m = true) (hx : Nat.testBit a x = true) : Nat.testBit m x = true := by
  have h : a &&& m = a := Nat.eq_of_beq_eq_true h
  rw [← h, Nat.testBit_and, Bool.and_eq_true] at hx
  exact hx.2
theorem eqAd_eq {a b : Addr} (h : eqAd a b = true) : a = b := by
  unfold eqAd at h
  rw [Bool.and_eq_true, Bool.and_eq_true, Bool.and_eq_true] at h
  obtain ⟨h1, h2, h3, h4⟩ := h
  obtain ⟨a1, a2, a3⟩ := a
  obtain ⟨b1, b2, b3⟩ := b
  have e1 : a1 = b1 := Nat.eq_of_beq_eq_true h1
  have e2 : a2 = b2 := Nat.eq_of_beq_eq_true h2
  subst e1
  subst e2
  cases a3 with
  | some _ => cases h3
  | none =>
    cases b3 with
    | some _ => cases h4
    | none => rfl
theorem eqA_eq {x y : Value} (h : eqA x y = true) : x = y := by
  unfold eqA at h
  split at h
  · rw [Bool.and_eq_true] at h
    rw [of_decide_eq_true h.1, of_decide_eq_true h.2]
  · rw [eq_of_beq h]
  · rfl
  · rw [eqAd_eq h]
  · rw [Bool.and_eq_true] at h
    rw [Nat.eq_of_beq_eq_true h.1, Nat.eq_of_beq_eq_true h.2]
  · rw [Bool.and_eq_true, Bool.and_eq_true] at h
    rw [eqAd_eq h.1, Nat.eq_of_beq_eq_true h.2.1, Nat.eq_of_beq_eq_true h.2.2]
  · cases h
theorem sameC_spec {h h' : AH} {a : Addr} : ∀ {k : Nat}, sameC h h' a k = true → ∀ i, i < k → ∃ x, cellAt h a i = some x ∧ cellAt h' a i = some x
  | 0, _, i, hi => absurd hi (Nat.not_lt_zero _)
  | k + 1, hc, i, hi => by
    unfold sameC at hc
    rw [Bool.and_eq_true] at hc
    rcases Nat.lt_or_ge i k with hl | hl
    · exact sameC_spec hc.2 i hl
    · have : i = k := by omega
      subst this
      have h1 := hc.1
      unfold eqO at h1
      split at h1
      · rename_i x y hx hy
        exact ⟨x, hx, by rw [hy, eqA_eq h1]⟩
      · cases h1
theorem takeAt_same {cs ds : List Value} {o k : Nat} (hk : k ≠ 0) (h : ∀ i, i < k → ∃ x, cs[o + i]? = some x ∧ ds[o + i]? = some x) : takeAt cs o k = takeAt ds o k := by
  have len : ∀ l : List Value, (∀ i, i < k → ∃ x, l[o + i]? = some x) → o + k ≤ l.length := fun l hl => by
    obtain ⟨x, hx⟩ := hl (k - 1) (by omega)
    have := (List.getElem?_eq_some_iff.1 hx).1
    omega
  have h1 := len cs fun i hi => (h i hi).imp fun _ q => q.1
  have h2 := len ds fun i hi => (h i hi).imp fun _ q => q.2
  unfold takeAt
  rw [Nat.ble_eq_true_of_le h1, Nat.ble_eq_true_of_le h2]
  have : (cs.drop o).take k = (ds.drop o).take k := by
    apply List.ext_getElem?
    intro i
    rw [List.getElem?_take, List.getElem?_take]
    split
    · rename_i hi
      obtain ⟨x, q1, q2⟩ := h i hi
      rw [List.getElem?_drop, List.getElem?_drop, q1, q2]
    · rfl
  rw [this]
theorem sameC_load {t : TypeId} {a : Addr} {h h' : AH} {v : Value} (hk : loadK P t ≠ 0) (hs' : sameC h h' a (loadK P t) = true) (hv : loadV P t (.pointer (some a)) h = some v) : loadV P t (.pointer (some a)) h' = some v := by
  have hc := sameC_spec hs'
  have cell : ∀ (g : AH) (i : Nat) (x : Value), cellAt g a i = some x → a.spot = none ∧ ∃ b, g.rd a.block = some b ∧ b.cells[a.off + i]? = some x := fun g i x hx => by
    unfold cellAt at hx
    split at hx
    · rename_i hsp
      obtain ⟨b, h1, h2⟩ := Option.bind_eq_some_iff.1 hx
      exact ⟨hsp, b, h1, h2⟩
    · cases hx
  obtain ⟨x0, q1, q2⟩ := hc 0 (by omega)
  obtain ⟨hsp, b, hb, _⟩ := cell h 0 x0 q1
  obtain ⟨_, b', hb', _⟩ := cell h' 0 x0 q2
  have hcells : ∀ i, i < loadK P t → ∃ x, b.cells[a.off + i]? = some x ∧ b'.cells[a.off + i]? = some x := fun i hi => by
    obtain ⟨x, r1, r2⟩ := hc i hi
    obtain ⟨_, c, h1, h2⟩ := cell h i x r1
    obtain ⟨_, c', h1', h2'⟩ := cell h' i x r2
    rw [hb] at h1
    rw [hb'] at h1'
    injection h1 with h1
    injection h1' with h1'
    subst h1
    subst h1'
    exact ⟨x, h2, h2'⟩
  have hv : (h.rd a.block).bind (fun b => match a.spot with | none => partT P t b.cells a.off | some _ => none) = some v := hv
  show (h'.rd a.block).bind (fun b => match a.spot with | none => partT P t b.cells a.off | some _ => none) = some v
  rw [hb, hsp] at hv
  rw [hb', hsp]
  have hv : partT P t b.cells a.off = some v := hv
  show partT P t b'.cells a.off = some v
  unfold partT at hv ⊢
  obtain ⟨ag, ha, hv⟩ := Option.bind_eq_some_iff.1 hv
  rw [ha]
  rw [Option.bind_some]
  cases ag with
  | true =>
    obtain ⟨s, hs1, hv⟩ := Option.bind_eq_some_iff.1 hv
    have hks : loadK P t = s := by
      unfold loadK
      rw [ha]
      simp only
      rw [hs1]
      rfl
    rw [hks] at hcells hk
    show ((sizeT P t).bind fun s => (takeAt b'.cells a.off s).map fun l => Value.agg l.toArray) = some v
    rw [hs1, Option.bind_some, ← takeAt_same hk hcells]
    exact hv
  | false =>
    have hks : loadK P t = 1 := by
      unfold loadK
      rw [ha]
    rw [hks] at hcells
    obtain ⟨x, r1, r2⟩ := hcells 0 (by omega)
    rw [Nat.add_zero] at r1 r2
    have hv : b.cells[a.off]? = some v := hv
    show b'.cells[a.off]? = some v
    rw [r1] at hv
    rw [r2]
    exact hv
theorem opsH_trace : ∀ (l : List Oper) {e e' : Tr Value} {h h' : AH} {H H' : List AH}, opsH P cf ops l e h H = some (e', h', H') →
    ∃ (es : Nat → Tr Value) (hs : Nat → AH), es 0 = e ∧ hs 0 = h ∧ (∀ (k : Nat) (o : Oper), k < l.length → l[k]? = some o → tstepV P cf ops o (es k) (hs k) = some (es (k + 1), hs (k + 1))) ∧ e' = es l.length ∧ h' = hs l.length ∧ H'.length = H.length + l.length + 1 ∧ (∀ k, k < H.length → H'[k]? = H[k]?) ∧ ∀ k, k ≤ l.length → H'[H.length + k]? = some (hs k)
  | [], e, e', h, h', H, H', hv => by
    injection hv with hv
    injection hv with h1 hv
    injection hv with h2 h3
    subst h1
    subst h2
    subst h3
    refine ⟨fun _ => e, fun _ => h, rfl, rfl, fun k _ hk => absurd hk (Nat.not_lt_zero _), rfl, rfl, by simp, fun k hk => List.getElem?_append_left hk, fun k hk => ?_⟩
    have : k = 0 := by simpa using hk
    subst this
    rw [Nat.add_zero, List.getElem?_append_right (Nat.le_refl _), Nat.sub_self]
    rfl
  | o :: l, e, e', h, h', H, H', hv => by
    have hv' : cond (wantE ops o e) ((opV P cf o.op e h).bind fun p => opsH P cf ops l (putE e o.dst p.1) p.2 (H ++ [h])) (opsH P cf ops l (putE e o.dst undef) h (H ++ [h])) = some (e', h', H') := hv
    have key : ∃ e1 h1, tstepV P cf ops o e h = some (e1, h1) ∧ opsH P cf ops l e1 h1 (H ++ [h]) = some (e', h', H') := by
      unfold tstepV
      cases hw : wantE ops o e with
      | true =>
        rw [hw] at hv'
        obtain ⟨⟨v, h1⟩, hp, hv1⟩ := Option.bind_eq_some_iff.1 hv'
        exact ⟨_, _, by rw [cond_true, hp]; rfl, hv1⟩
      | false =>
        rw [hw] at hv'
        exact ⟨_, _, rfl, hv'⟩
    obtain ⟨e1, h1, hs1, hv1⟩ := key
    obtain ⟨es, hs, g1, g2, g3, g4, g5, g6, g7, g8⟩ := opsH_trace l hv1
    have hl : (H ++ [h]).length = H.length + 1 := by simp
    refine ⟨fun k => match k with | 0 => e | k + 1 => es k, fun k => match k with | 0 => h | k + 1 => hs k, rfl, rfl, fun k o' hk ho' => ?_, g4, g5, by rw [g6, hl, List.length_cons]; omega, fun k hk => ?_, fun k hk => ?_⟩
    · cases k with
      | zero =>
        injection ho' with ho'
        subst ho'
        show tstepV P cf ops o e h = some (es 0, hs 0)
        rw [g1, g2]
        exact hs1
      | succ k => exact g3 k o' (Nat.lt_of_succ_lt_succ hk) ho'
    · rw [g7 k (by omega), List.getElem?_append_left hk]
    · cases k with
      | zero =>
        rw [Nat.add_zero, g7 _ (by omega), List.getElem?_append_right (Nat.le_refl _), Nat.sub_self]
        rfl
      | succ k =>
        have := g8 k (by simpa using hk)
        rw [hl] at this
        rw [show H.length + (k + 1) = H.length + 1 + k by omega]
        exact this
theorem wchk_spec {l : List Oper} {ms : List Nat} {e : Tr Value} {H : List AH} : ∀ (r : List Oper) (n : Nat), wchk P l ms e H n r = true → ∀ (x : Nat) (o : Oper), r[x]? = some o → wchk1 P l ms e H (n + x) o = true
  | [], _, _, _, _, h => by cases h
  | o :: r, n, h, x, o1, ho => by
    unfold wchk at h
    rw [Bool.and_eq_true] at h
    cases x with
    | zero =>
      injection ho with ho
      subst ho
      exact h.1
    | succ x =>
      have := wchk_spec r (n + 1) h.2 x o1 ho
      rwa [show n + 1 + x = n + (x + 1) by omega] at this
theorem wchkH_spec {l : List Oper} {ms : List Nat} {x : Nat} {h : AH} {a : Addr} {k : Nat} : ∀ (H : List AH) (p : Nat), wchkH l ms x h a k p H = true → ∀ (d : Nat) (g : AH), H[d]? = some g → needC l ms x (p + d) = true → sameC h g a k = true
  | [], _, _, _, _, h, _ => by cases h
  | g0 :: H, p, hc, d, g, hd, hn => by
    unfold wchkH at hc
    cases d with
    | zero =>
      injection hd with hd
      subst hd
      rw [Nat.add_zero] at hn
      rw [hn] at hc
      rw [cond_true, Bool.and_eq_true] at hc
      exact hc.1
    | succ d =>
      have hr : wchkH l ms x h a k (p + 1) H = true := by
        cases hnp : needC l ms x p with
        | true =>
          rw [hnp, cond_true, Bool.and_eq_true] at hc
          exact hc.2
        | false =>
          rw [hnp] at hc
          exact hc
      exact wchkH_spec H (p + 1) hr d g hd (by rwa [show p + 1 + d = p + (d + 1) by omega])
theorem noL_spec {l : List Oper} {a b : Nat} (h : noL l a b = true) : ∀ y, a ≤ y → y < b → y < l.length → silentAt l y = true := by
  intro y h1 h2 hl
  have := List.all_eq_true.1 h y (List.mem_range.2 hl)
  rcases Bool.or_eq_true _ _ ▸ this with h3 | h3
  · exact h3
  · rcases Bool.or_eq_true _ _ ▸ h3 with h4 | h4
    · have : y + 1 ≤ a := Nat.le_of_ble_eq_true h4
      omega
    · have := Nat.le_of_ble_eq_true h4
      omega
theorem noWr_spec {t : Nat} {l : List Oper} (h : noWr t l = true) : ∀ o ∈ l, o.dst ≠ some t := fun o ho e => by
  have := List.all_eq_true.1 h o ho
  rw [e] at this
  have this : (!(Nat.beq t t)) = true := this
  rw [Nat.beq_refl] at this
  cases this
theorem wrun_ok (hm : P.follows .mixedOrders = true) (hN : namesOK P = true) (hcf : CallsOK P G cf) (hfn : HasBody P cf) (hml : CallsMild cf) (hC : drawB ops = true) (hok : ops.toList.all (operOK nt G) = true) (id : Nat) (ι : Inj) (base : Nat) (h : AH) (w : World) (e e' : Tr Value) (h' : AH) (a : Act) (S : St P G nt ι base h w e a) (hv : wrunV P cf ops e h = some (e', h')) :
    (Code.region id ops true).wp P (fun ex a' w' => ex = .normal ∧ Post P G nt ι base h w e' h' a' w') a w := by
  obtain ⟨hW, H, hH, hck⟩ := wrunV_ok hv
  obtain ⟨es, hs, rfl, rfl, g3, rfl, rfl, g6, _, g8⟩ := opsH_trace _ hH
  have g8 : ∀ k, k ≤ ops.toList.length → H[k]? = some (hs k) := fun k hk => by
    have := g8 k hk
    rwa [List.length_nil, Nat.zero_add] at this
  have T : Tr2 P cf ops 0 es hs := ⟨fun k _ hk => absurd hk (Nat.not_lt_zero _), fun k o _ hk ho => g3 k o hk ho, hml, fun k hk => by
    obtain rfl : k = 0 := by omega
    exact S.rel.wf⟩
  have hms := bmasks_spec ops.toList MB.nil
  have hpl' : Plain P ops := fun o ho s d x hop => by
    obtain ⟨j, hj⟩ := List.mem_iff_getElem?.1 ho
    have := wchk_spec _ 0 hck j o hj
    unfold wchk1 at this
    rw [hop] at this
    simpa using this
  have hst : ∀ j o, ops.toList[j]? = some o → (silentO o || subM (loudMask ops.toList j) (((bmasks ops.toList [])[j]?).getD 0)) = true ∧ ∀ t τ, o.op = .load t (.tmp τ) → noWr τ (ops.toList.drop j) = true := fun j o ho => by
    have := List.all_eq_true.1 hW j (List.mem_range.2 (List.getElem?_eq_some_iff.1 ho).1)
    unfold tailW1 at this
    rw [ho] at this
    simp only at this
    rw [Bool.and_eq_true] at this
    refine ⟨this.1, fun t τ hop => ?_⟩
    have h2 := this.2
    rw [hop] at h2
    exact h2
  have hord : ∀ j x, Loud ops j → x < j → Loud ops x → x ∈ bfr ops j := fun j x hj hx hxl => by
    have hjl := loud_lt hj
    have ho := List.getElem?_eq_getElem hjl
    have h1 := (hst j _ ho).1
    have hj' : silentO _ = false := (silent_at ho).symm.trans hj
    rw [hj', Bool.false_or] at h1
    exact hms.2 _ _ (subM_spec h1 (loudMask_spec _ _ _ hx hxl))
  have nbit : ∀ y x, x ∉ bfr ops y → bitIn (((bmasks ops.toList [])[y]?).getD 0) x = false := fun y x hn => by
    cases hb : bitIn (((bmasks ops.toList [])[y]?).getD 0) x with
    | false => rfl
    | true => exact absurd (hms.2 _ _ (bitIn_iff hb)) hn
  have hsaf : ∀ x o, ops.toList[x]? = some o → ¬ Loud ops x → ∀ p, p ≤ ops.toList.length → (∀ y, Loud ops y → y ∈ bfr ops x → y < p) → (∀ y, y < p → Loud ops y → x ∉ bfr ops y) → SafeP P cf es hs ops x p o := by
    intro x o ho hx p hp h1 h2 hw
    have hxl := (List.getElem?_eq_some_iff.1 ho).1
    have hxs : silentO o = true := by
      unfold Loud at hx
      rw [silent_at ho] at hx
      simpa using hx
    have hstep := T.lst x o (Nat.zero_le _) hxl ho
    unfold tstepV at hstep
    rw [hw] at hstep
    obtain ⟨⟨v, h0⟩, hop, hstep⟩ := Option.bind_eq_some_iff.1 hstep
    obtain ⟨he, _⟩ := Prod.mk.inj (Option.some.inj hstep)
    refine ⟨v, ?_, he.symm⟩
    have hxs' := hxs
    unfold silentO at hxs'
    rcases Bool.or_eq_true _ _ ▸ hxs' with hf | hld
    · exact heapless_any hf hop (hs p)
    rcases Bool.or_eq_true _ _ ▸ hld with hcv | hld
    · unfold convT at hcv
      split at hcv
      · rename_i s d y hopc
        have := hpl' o (List.mem_of_getElem? ho) s d y hopc
        rw [hopc] at hop ⊢
        exact conv_any this hop (hs p)
      · cases hcv
    rw [Bool.and_eq_true] at hld
    have hl := hld.1
    unfold loadT at hl
    split at hl
    · rename_i t τ hopt
      have hwr := (hst x o ho).2 t τ hopt
      have hev : (es ops.toList.length).get τ = (es x).get τ := T.envLe (by omega) (Nat.le_refl _) fun j o' hj1 hj2 ho' =>
        noWr_spec hwr o' (List.mem_iff_getElem?.2 ⟨j - x, by rw [List.getElem?_drop, show x + (j - x) = j by omega]; exact ho'⟩)
      have hld : ∀ g : AH, opV P cf o.op (es x) g = (loadV P t (((es x).get τ).getD undef) g).map fun v => (v, g) := fun g => by
        rw [hopt]
        rfl
      rw [hld] at hop
      obtain ⟨v', hv1, hv2⟩ := Option.map_eq_some_iff.1 hop
      obtain ⟨rfl, _⟩ := Prod.mk.inj hv2
      rw [hld]
      -- the latest loud one
      have hp0 : ∀ p, p ≤ ops.toList.length → ∃ p0, p0 ≤ p ∧ (p0 = 0 ∨ Loud ops (p0 - 1)) ∧ ∀ y, p0 ≤ y → y < p → ¬ Loud ops y := by
        intro p
        induction p with
        | zero => exact fun _ => ⟨0, Nat.le_refl _, .inl rfl, fun y h1 h2 => absurd h2 (Nat.not_lt_zero _)⟩
        | succ p ih =>
          intro hp
          by_cases hl : Loud ops p
          · exact ⟨p + 1, Nat.le_refl _, .inr hl, fun y h1 h2 => by omega⟩
          · obtain ⟨p0, q1, q2, q3⟩ := ih (by omega)
            refine ⟨p0, by omega, q2, fun y h1 h2 => ?_⟩
            rcases Nat.lt_or_ge y p with h | h
            · exact q3 y h1 h
            · obtain rfl : y = p := by omega
              exact hl
      obtain ⟨p0, q1, q2, q3⟩ := hp0 p hp
      have hpp : hs p = hs p0 := Tr2.chainLe hpl' T q1 hp q3
      rw [hpp]
      have fin : loadV P t (((es x).get τ).getD undef) (hs p0) = some v' := by
        cases hn : needC ops.toList (bmasks ops.toList []) x p0 with
        | false =>
          have hx2 : (noL ops.toList x p0 && noL ops.toList p0 x) = true := by
            unfold needC at hn
            have e1 : (Nat.beq p0 0 || !(silentAt ops.toList (p0 - 1))) = true := by
              rcases q2 with rfl | q2
              · rfl
              · rw [show silentAt ops.toList (p0 - 1) = false from q2, Bool.not_false, Bool.or_true]
            have e2 : permit ops.toList (bmasks ops.toList []) x p0 = true := by
              unfold permit
              refine List.all_eq_true.2 fun y hy => ?_
              cases hsy : silentAt ops.toList y with
              | true => rfl
              | false =>
                rw [Bool.false_or]
                cases hb : Nat.blt y p0 with
                | true =>
                  have : y + 1 ≤ p0 := Nat.le_of_ble_eq_true hb
                  show (!(bitIn _ x)) = true
                  rw [nbit y x (h2 y (by omega) hsy)]
                  rfl
                | false =>
                  show (!(bitIn _ y)) = true
                  rw [nbit x y fun hm' => ?_]
                  · rfl
                  · have hyp := h1 y hsy hm'
                    have hy0 : p0 ≤ y := by
                      rcases Nat.lt_or_ge y p0 with hlt | hge
                      · rw [show Nat.blt y p0 = true from Nat.ble_eq_true_of_le hlt] at hb
                        cases hb
                      · exact hge
                    exact q3 y hy0 hyp hsy
            rw [e1, e2, Bool.true_and, Bool.and_true] at hn
            simpa using hn
          rw [Bool.and_eq_true] at hx2
          have : hs p0 = hs x := by
            rcases Nat.le_total x p0 with hle | hle
            · exact Tr2.chainLe hpl' T hle (by omega) fun j h1 h2 h3 => by
                have := noL_spec hx2.1 j h1 h2 (by omega)
                rw [show silentAt ops.toList j = false from h3] at this
                cases this
            · exact (Tr2.chainLe hpl' T hle (by omega) fun j h1 h2 h3 => by
                have := noL_spec hx2.2 j h1 h2 (by omega)
                rw [show silentAt ops.toList j = false from h3] at this
                cases this).symm
          rw [this]
          exact hv1
        | true =>
          have hc1 := wchk_spec _ 0 hck x o ho
          rw [Nat.zero_add] at hc1
          unfold wchk1 at hc1
          rw [hopt] at hc1
          simp only at hc1
          rw [hev] at hc1
          cases hg : (es x).get τ with
          | none => rw [hg] at hv1; cases hv1
          | some y =>
            rw [hg] at hv1 hc1
            simp only [Option.getD_some] at hv1 ⊢
            cases y with
            | pointer ad =>
              cases ad with
              | none => cases hv1
              | some ad =>
                simp only at hc1
                rw [g8 x (by omega)] at hc1
                simp only at hc1
                rw [Bool.and_eq_true] at hc1
                have hk : loadK P t ≠ 0 := fun e => by
                  rw [e] at hc1
                  cases hc1.1
                exact sameC_load hk (wchkH_spec _ 0 hc1.2 p0 _ (g8 p0 (by omega)) (by rwa [Nat.zero_add])) hv1
            | _ => cases hv1
      rw [fin]
      rfl
    · cases hl
  have hno : ∀ j, ¬ Lst (Array.replicate ops.size false) j := fun j hj => by
    unfold Lst at hj
    rw [Array.getD_eq_getD_getElem?, Array.getElem?_replicate] at hj
    split at hj <;> cases hj
  refine wp_region_any hm (wtail_any hN hcf hfn hC hok (ι0 := ι) (w0 := w) (base := base) hpl' T hord hsaf (fun a' w' p => ⟨rfl, p⟩) ops.size 0 (ι := ι) (by simp) ?_ (fun j hj => absurd hj (hno j)) (Nat.zero_le _) ⟨⟨S.rel.blk, S.rel.esz, S.rel.own, S.rel.gle, S.rel.dis, S.rel.dom, S.rel.new, S.rel.grp, S.rel.bas, S.rel.has, S.rel.map⟩, fun t => .inr ⟨fun j o hj => absurd hj (hno j), S.env t⟩, S.dfr, S.glb, S.siz, fun j hj => absurd hj (hno j), fun j hj => absurd hj (Nat.not_lt_zero _), Ext.refl _ _ _, ⟨Nat.le_refl _, fun _ _ _ => rfl, rfl, rfl⟩, Nat.le_refl _⟩)
  rw [Array.toList_replicate]
  generalize ops.size = n
  induction n with
  | zero => exact Nat.le_refl _
  | succ n ih =>
    rw [List.replicate_succ]
    exact Nat.succ_le_succ ih
/-- A region whose order is open does what the executor says. -/
def DrawOK (P : Program) (G nt : Nat) (cf : FuncId → List Value → AH → Option (Value × AH)) (ops : Array Oper) : Prop :=
  ∀ (id : Nat) (ι : Inj) (base : Nat) (h : AH) (w : World) (e e' : Tr Value) (h' : AH) (a : Act), St P G nt ι base h w e a → drawV P cf ops (wrunV P cf ops e h) 0 ops.toList e h = some (e', h') →
    (Code.region id ops true).wp P (fun ex a' w' => ex = .normal ∧ Post P G nt ι base h w e' h' a' w') a w
theorem draw_ok (hm : P.follows .mixedOrders = true) (hN : namesOK P = true) (hcf : CallsOK P G cf) (hfn : HasBody P cf) (hml : CallsMild cf) (hC : drawB ops = true) (hok : ops.toList.all (operOK nt G) = true) : DrawOK P G nt cf ops := by
  intro id ι base h w e e' h' a S hv
  rcases drawV_drawn _ hv with hv | hv
  · exact draw_ok0 hm hN hcf hfn hml hC hok id ι base h w e e' h' a S hv
  · exact wrun_ok hm hN hcf hfn hml hC hok id ι base h w e e' h' a S hv
end Go.Proofs.YtgjcephjhahliaaGreatDoor.X
namespace Go.Proofs.YtgjcephjhahliaaGreatDoor.X
open Go
variable {P : Program} {G : Nat} {cf : FuncId → List Value → AH → Option (Value × AH)}
theorem three_inj {α β γ : Type} {a a' : α} {b b' : β} {c c' : γ} (h : some (a, b, c) = some (a', b', c')) : a = a' ∧ b = b' ∧ c = c' := by
  injection h with h
  injection h with h1 h2
  injection h2 with h2 h3
  exact ⟨h1, h2, h3⟩
theorem three_inj' {α β γ : Type} {a a' : α} {b b' : β} {c c' : γ} (h : (a, b, c) = (a', b', c')) : a = a' ∧ b = b' ∧ c = c' := by
  injection h with h1 h2
  injection h2 with h2 h3
  exact ⟨h1, h2, h3⟩
def Ex.to : Ex → Exit
  | .normal => .normal
  | .exit id => .exit id
  | .ret => .ret
def codeOK (nt G : Nat) (draw : Array Oper → Bool) : Code → Bool
  | .region _ ops d => ops.toList.all (operOK nt G) && (!d || draw ops)
  | .seq a b => codeOK nt G draw a && codeOK nt G draw b
  | .cond c x y => opdOK G c && (codeOK nt G draw x && codeOK nt G draw y)
  | .block _ c => codeOK nt G draw c
  | .loop c => codeOK nt G draw c
  | _ => true
theorem exec_sound (hN : namesOK P = true) (hcf : CallsOK P G cf) (hfn : HasBody P cf) {nt base : Nat} {draw : Array Oper → Bool} (hdr : ∀ ops, draw ops = true → ops.toList.all (operOK nt G) = true → DrawOK P G nt cf ops) (kf : Nat) :
    ∀ (c : Code) {ι : Inj} {h : AH} {w : World} {e e' : Tr Value} {h' : AH} {a : Act} {x : Ex}, codeOK nt G draw c = true → St P G nt ι base h w e a → exec P cf kf c e h = some (x, e', h') →
      c.wp P (fun ex a' w' => ex = x.to ∧ Post P G nt ι base h w e' h' a' w') a w := by
  intro c
  induction c with
  | skip =>
    intro ι h w e e' h' a x _ S hx
    obtain ⟨rfl, rfl, rfl⟩ := three_inj hx
    exact wp_skip ⟨rfl, Post.refl S⟩
  | ret =>
    intro ι h w e e' h' a x _ S hx
    obtain ⟨rfl, rfl, rfl⟩ := three_inj hx
    exact wp_ret ⟨rfl, Post.refl S⟩
  | exit id =>
    intro ι h w e e' h' a x _ S hx
    obtain ⟨rfl, rfl, rfl⟩ := three_inj hx
    exact wp_exit ⟨rfl, Post.refl S⟩
  | region id ops d =>
    intro ι h w e e' h' a x hok S hx
    obtain ⟨⟨e1, h1⟩, hv, hx⟩ := Option.map_eq_some_iff.1 hx
    obtain ⟨rfl, rfl, rfl⟩ := three_inj' hx
    have hok' : (ops.toList.all (operOK nt G) && (!d || draw ops)) = true := hok
    rw [Bool.and_eq_true] at hok'
    cases d with
    | false =>
      have hv : opsV P cf ops ops.toList e h = some (e1, h1) := hv
      exact wp_region_list (ops_step hN hcf hfn ops.toList S hok'.1 hv fun a' w' p => ⟨rfl, p⟩)
    | true =>
      have hv : drawV P cf ops (wrunV P cf ops e h) 0 ops.toList e h = some (e1, h1) := hv
      exact hdr ops (by simpa using hok'.2) hok'.1 id ι base h w e e1 h1 a S hv
  | seq c1 c2 ih1 ih2 =>
    intro ι h w e e' h' a x hok S hx
    have hok' : (codeOK nt G draw c1 && codeOK nt G draw c2) = true := hok
    rw [Bool.and_eq_true] at hok'
    obtain ⟨⟨x1, e1, h1⟩, hx1, hx⟩ := Option.bind_eq_some_iff.1 hx
    refine wp_seq (wp_mono (ih1 hok'.1 S hx1) ?_)
    rintro ex a1 w1 ⟨rfl, ι1, S1, E1, K1, N1⟩
    cases x1 with
    | normal => exact wp_mono (ih2 hok'.2 S1 hx) fun ex a' w' ⟨q1, q2⟩ => ⟨q1, q2.trans E1 K1 N1⟩
    | exit id =>
      obtain ⟨rfl, rfl, rfl⟩ := three_inj hx
      exact ⟨rfl, ι1, S1, E1, K1, N1⟩
    | ret =>
      obtain ⟨rfl, rfl, rfl⟩ := three_inj hx
      exact ⟨rfl, ι1, S1, E1, K1, N1⟩
  | cond c x y ihx ihy =>
    intro ι h w e e' h' a xx hok S hx
    have hok' : (opdOK G c && (codeOK nt G draw x && codeOK nt G draw y)) = true := hok
    rw [Bool.and_eq_true, Bool.and_eq_true] at hok'
    have hc := ev_rel S.env S.glb hok'.1
    have hx' : (match ev e c with | .bool t => cond t (exec P cf kf x e h) (exec P cf kf y e h) | _ => none) = some (xx, e', h') := hx
    split at hx'
    · rename_i t ht
      rw [ht] at hc
      refine wp_cond hc.bool_inv ?_
      cases t with
      | true => exact ihx hok'.2.1 S hx'
      | false => exact ihy hok'.2.2 S hx'
    · cases hx'
  | block id c ih =>
    intro ι h w e e' h' a x hok S hx
    obtain ⟨⟨x1, e1, h1⟩, hx1, hx⟩ := Option.bind_eq_some_iff.1 hx
    refine wp_block (wp_mono (ih hok S hx1) ?_)
    rintro ex a1 w1 ⟨rfl, p⟩
    cases x1 with
    | normal =>
      obtain ⟨rfl, rfl, rfl⟩ := three_inj hx
      exact ⟨rfl, p⟩
    | exit j =>
      have hx' : cond (Nat.beq j id) (some (Ex.normal, e1, h1)) (some (Ex.exit j, e1, h1)) = some (x, e', h') := hx
      rw [cond_beq] at hx'
      show (if j = id then _ else _)
      split at hx'
      · rename_i hj
        obtain ⟨rfl, rfl, rfl⟩ := three_inj hx'
        rw [if_pos hj]
        exact ⟨rfl, p⟩
      · rename_i hj
        obtain ⟨rfl, rfl, rfl⟩ := three_inj hx'
        rw [if_neg hj]
        exact ⟨rfl, p⟩
    | ret =>
      obtain ⟨rfl, rfl, rfl⟩ := three_inj hx
      exact ⟨rfl, p⟩
  | loop c ih =>
    intro ι h w e e' h' a x hok S hx
    have key : ∀ (n : Nat) {ι : Inj} {h : AH} {w : World} {e : Tr Value} {a : Act}, St P G nt ι base h w e a → iter (exec P cf kf c) n e h = some (x, e', h') →
        Code.rounds P c (fun ex a' w' => ex = x.to ∧ Post P G nt ι base h w e' h' a' w') n a w := by
      intro n
      induction n with
      | zero =>
        intro ι h w e a S hx
        cases hx
      | succ n ihn =>
        intro ι h w e a S hx
        obtain ⟨⟨x1, e1, h1⟩, hx1, hx⟩ := Option.bind_eq_some_iff.1 hx
        rw [rounds_succ]
        refine wp_mono (ih hok S hx1) ?_
        rintro ex a1 w1 ⟨rfl, ι1, S1, E1, K1, N1⟩
        cases x1 with
        | normal =>
          have hr := ihn S1 hx
          have mono : ∀ (n : Nat) (Q Q' : Exit → Act → World → Prop), (∀ ex a w, Q ex a w → Q' ex a w) → ∀ a w, Code.rounds P c Q n a w → Code.rounds P c Q' n a w := by
            intro n Q Q' hqq
            induction n with
            | zero => exact fun _ _ h => h
            | succ n ihm =>
              intro a w hh
              rw [rounds_succ] at hh ⊢
              refine wp_mono hh ?_
              intro ex a' w' q
              cases ex with
              | normal => exact ihm a' w' q
              | exit _ => exact hqq _ _ _ q
              | goto _ => exact hqq _ _ _ q
              | ret => exact hqq _ _ _ q
              | panic _ => exact hqq _ _ _ q
              | outgrown => exact hqq _ _ _ q
          exact mono n _ _ (fun ex a' w' ⟨q1, q2⟩ => ⟨q1, q2.trans E1 K1 N1⟩) a1 w1 hr
        | exit id =>
          obtain ⟨rfl, rfl, rfl⟩ := three_inj hx
          exact ⟨rfl, ι1, S1, E1, K1, N1⟩
        | ret =>
          obtain ⟨rfl, rfl, rfl⟩ := three_inj hx
          exact ⟨rfl, ι1, S1, E1, K1, N1⟩
    exact wp_loop_rounds kf (key kf S hx)
  | rangeFunc f ps x y _ _ => exact fun _ _ hx => by cases hx
  | scope c _ => exact fun _ _ hx => by cases hx
  | label l => exact fun _ _ hx => by cases hx
  | goto l => exact fun _ _ hx => by cases hx
  | refuse s => exact fun _ _ hx => by cases hx
end Go.Proofs.YtgjcephjhahliaaGreatDoor.X
namespace Go.Proofs.YtgjcephjhahliaaGreatDoor.X
open Go
variable {P : Program} {G : Nat}
theorem envOf_get : ∀ (l : List Value) (i : Nat) (e : Tr Value) (j : Nat), (envOf l i e).get j = if i ≤ j ∧ j < i + l.length then l[j - i]? else e.get j
  | [], i, e, j => by
    unfold envOf
    rw [if_neg (fun hh => by simp only [List.length_nil] at hh; omega)]
  | v :: l, i, e, j => by
    unfold envOf
    rw [envOf_get l (i + 1) (e.set i v) j, Tr.get_set]
    simp only [List.length_cons]
    by_cases h1 : j = i
    · subst h1
      rw [if_neg (by omega), if_pos rfl, if_pos (by omega), Nat.sub_self]
      rfl
    · by_cases h2 : i + 1 ≤ j ∧ j < i + 1 + l.length
      · rw [if_pos h2, if_pos (by omega), show j - i = (j - (i + 1)) + 1 by omega]
        rfl
      · rw [if_neg h2, if_neg h1, if_neg (by omega)]
theorem env0_get (nt i : Nat) : (env0 nt).get i = none := by
  unfold env0
  generalize Nat.log2 (nt + 1) + 1 = d
  have key : ∀ (d a b i : Nat), (mkT ([] : List (Option Value)) d a b).get i = none := by
    intro d
    induction d with
    | zero => exact fun _ _ i => Tr.get_nil i
    | succ d ih =>
      intro a b i
      cases i with
      | zero => rfl
      | succ i =>
        show (Tr.node _ _ _).get (i + 1) = none
        rw [Tr.get_succ]
        split
        · exact ih _ _ _
        · exact ih _ _ _
  exact key d 1 0 i
theorem envOf_rel {ι : Inj} {args : List Value} {argsc : Array Value} (ha : AllR (vRel ι) args argsc.toList) (nt n : Nat) : relE ι (envOf args 0 (env0 nt)) (argsc ++ Array.replicate n undef) := by
  intro i
  rw [envOf_get]
  have hl : args.length = argsc.size := ha.length_eq.trans Array.length_toList
  by_cases hi : 0 ≤ i ∧ i < 0 + args.length
  · rw [if_pos hi, Nat.sub_zero]
    have hlt : i < args.length := by omega
    obtain ⟨y, hy, hr⟩ := ha.get (List.getElem?_eq_getElem hlt)
    rw [List.getElem?_eq_getElem hlt]
    rw [Array.getElem?_toList] at hy
    have : (argsc ++ Array.replicate n undef).getD i undef = y := by
      rw [Array.getD_eq_getD_getElem?, Array.getElem?_append_left (by omega), hy]
      rfl
    rw [this]
    exact hr
  · rw [if_neg hi, env0_get]
    have : (argsc ++ Array.replicate n undef).getD i undef = undef := by
      rw [Array.getD_eq_getD_getElem?, Array.getElem?_append_right (by omega), Array.getElem?_replicate]
      split <;> rfl
    rw [this]
    exact vRel.undef
def resF (t : Array Value) : ResultVar → Sem Value
  | .tmp t1 => pure (t.getD t1 undef)
  | .cell a t1 => do loadVar t1 (← asAddr (t.getD a undef))
theorem results_eq (fn : Func) (t : Array Value) : results fn t = (do
    let vs ← fn.results.mapM (resF t)
    pure (if h : vs.size = 1 then vs[0] else .tuple vs)) := rfl
theorem resV_sound {ι : Inj} {base : Nat} {h : AH} {w : World} {e : Tr Value} {t : Array Value} (R : Rel ι base h w) (E : relE ι e t) : ∀ (l : List ResultVar) (vs : List Value), resVs P e h l = some vs →
    ∃ vcs : List Value, (l.mapM (resF t)).run P w = .ok vcs w ∧ AllR (vRel ι) vs vcs
  | [], vs, hv => by
    injection hv with hv
    subst hv
    exact ⟨[], by simp, trivial⟩
  | r :: l, vs, hv => by
    unfold resVs at hv
    obtain ⟨v, hv1, hv⟩ := Option.bind_eq_some_iff.1 hv
    obtain ⟨vs', hv2, hv⟩ := Option.bind_eq_some_iff.1 hv
    injection hv with hv
    subst hv
    obtain ⟨vcs, g1, g2⟩ := resV_sound R E l vs' hv2
    cases r with
    | tmp t1 =>
      injection hv1 with hv1
      subst hv1
      refine ⟨t.getD t1 undef :: vcs, ?_, E t1, g2⟩
      rw [List.mapM_cons]
      simp only [resF, Sem.run_bind, Sem.run_pure, Result.andThen_ok, g1]
    | cell a t1 =>
      obtain ⟨vc, q1, q2⟩ := loadV_sound (P := P) R hv1 (E a)
      refine ⟨vc :: vcs, ?_, q2, g2⟩
      have q3 : (do loadVar t1 (← asAddr (t.getD a undef)) : Sem Value).run P w = .ok vc w := by
        have hv1' : loadV P t1 ((e.get a).getD undef) h = some v := hv1
        unfold loadV at hv1'
        split at hv1'
        · rename_i ad had
          have hE := E a
          rw [had] at hE
          obtain ⟨c, hc, _⟩ := hE.ptr_inv
          rw [hc] at q1 ⊢
          simpa [Instr.loadAt, Instr.sureAddr, asAddr] using q1
        · cases hv1'
      have q4 : (resF t (.cell a t1)).run P w = .ok vc w := q3
      rw [List.mapM_cons]
      simp only [Sem.run_bind, q4, Result.andThen_ok, g1, Sem.run_pure]
theorem noTup_rel {ι : Inj} : ∀ {vs vcs : List Value}, AllR (vRel ι) vs vcs → vs.all noTup = true → AllR (wRel ι) vs vcs
  | [], [], _, _ => trivial
  | v :: vs, c :: vcs, h, hn => by
    rw [List.all_cons, Bool.and_eq_true] at hn
    refine ⟨?_, noTup_rel h.2 hn.2⟩
    have h1 := h.1
    cases h1 with
    | one h1 => exact h1
    | tuple _ _ _ => cases hn.1
  | [], _ :: _, h, _ => h.elim
  | _ :: _, [], h, _ => h.elim
theorem packV_sound {ι : Inj} {vs vcs : List Value} {v : Value} (h : AllR (vRel ι) vs vcs) (hp : packV vs = some v) : vRel ι v (if h : vcs.toArray.size = 1 then vcs.toArray[0] else .tuple vcs.toArray) := by
  unfold packV at hp
  split at hp
  · injection hp with hp
    subst hp
    obtain ⟨y, l, rfl, h1, h2⟩ := h.cons_inv
    obtain rfl := h2.nil_inv
    simpa using h1
  · rename_i hne
    obtain ⟨hn, hp⟩ := cond_some' hp
    injection hp with hp
    subst hp
    have hl := h.length_eq
    have hs : ¬ (vcs.toArray.size = 1) := by
      intro e
      rw [List.size_toArray] at e
      rw [e] at hl
      match vs, hl, hne with
      | [x], _, hne => exact hne x rfl
    rw [dif_neg hs]
    exact .tuple _ _ (by rw [List.toList_toArray, List.toList_toArray]; exact noTup_rel h hn)
theorem vRel.through {ι' ι1 : Inj} (hs : Sub ι' ι1) {x y y' : Value} (h : vRel ι' x y) (h' : vRel ι1 x y') : vRel ι' x y' := by
  cases h with
  | one h =>
    cases h' with
    | one h' => exact .one (h.through hs h')
    | tuple cs ds h' => cases h with
      | cell h => cases h with
        | atom h => cases h
  | tuple cs ds h =>
    cases h' with
    | one h' => cases h' with
      | cell h' => cases h' with
        | atom h' => cases h'
    | tuple _ ds' h' => exact .tuple cs ds' (AllR.through (R := wRel ι') (S := wRel ι1) (fun _ _ _ a b => wRel.through hs a b) h h')
def fnOK (G : Nat) (draw : Array Oper → Bool) (fn : Func) : Bool := match fn.body with
  | some c => codeOK fn.ntmps G draw c
  | none => true
def progOK (P : Program) (G : Nat) (draw : Array Oper → Bool) : Bool := P.funcs.toList.all (fnOK G draw)
theorem run_succ {n : Nat} {f : FuncId} {args : List Value} {h : AH} {r : Value × AH} (hr : run P (n + 1) f args h = some r) :
    ∃ fn c, P.funcs[f]? = some fn ∧ fn.body = some c ∧ ((exec P (run P n) n c (envOf args 0 (env0 fn.ntmps)) { h with low := h.next }).bind fun r => match r.1 with
        | .exit _ => none
        | _ => (resVs P r.2.1 r.2.2 fn.results.toList).bind fun vs => (packV vs).map fun v => exitR h r.2.2 v) = some r := by
  unfold run at hr
  split at hr
  · rename_i fn hf
    split at hr
    · rename_i c hb
      exact ⟨fn, c, hf, hb, hr⟩
    · cases hr
  · cases hr
theorem run_body (n : Nat) : HasBody P (run P n) := by
  intro f args h r hr
  cases n with
  | zero => cases hr
  | succ n =>
    obtain ⟨fn, c, hf, hb, _⟩ := run_succ hr
    exact ⟨fn, hf, by rw [hb]; rfl⟩
theorem run1_succ {cf : FuncId → List Value → AH → Option (Value × AH)} {n : Nat} {f : FuncId} {args : List Value} {h : AH} {r : Value × AH} (hr : run1 P cf n f args h = some r) :
    ∃ fn c, P.funcs[f]? = some fn ∧ fn.body = some c ∧ ((exec P cf n c (envOf args 0 (env0 fn.ntmps)) { h with low := h.next }).bind fun r => match r.1 with
        | .exit _ => none
        | _ => (resVs P r.2.1 r.2.2 fn.results.toList).bind fun vs => (packV vs).map fun v => exitR h r.2.2 v) = some r := by
  unfold run1 at hr
  split at hr
  · rename_i fn hf
    split at hr
    · rename_i c hb
      exact ⟨fn, c, hf, hb, hr⟩
    · cases hr
  · cases hr
theorem run1_sound (hm : P.follows .mixedOrders = true) (hN : namesOK P = true) (hP : progOK P G drawB = true) {cf : FuncId → List Value → AH → Option (Value × AH)} (ih : CallsOK P G cf) (hbd : HasBody P cf) (hml : CallsMild cf) (n : Nat) : CallsOK P G (run1 P cf n) := by
  intro f args h v h' hr ι base w argsc R hG ha
  obtain ⟨fn, c, hf, hb, hr⟩ := run1_succ hr
  obtain ⟨⟨x, e1, h1⟩, hx, hr⟩ := Option.bind_eq_some_iff.1 hr
  have hok : codeOK fn.ntmps G drawB c = true := by
    have hm : fn ∈ P.funcs.toList := by
      rw [← Array.getElem?_toList] at hf
      exact List.mem_of_getElem? hf
    have := List.all_eq_true.1 hP fn hm
    unfold fnOK at this
    rw [hb] at this
    exact this
  refine calls_of_wp hf hb (wp_mono (exec_sound hN ih hbd (fun ops hd ho => draw_ok hm hN ih hbd hml hd ho) n c hok (ι := ι) (h := { h with low := h.next }) (base := base) (a := ⟨argsc ++ Array.replicate (fn.ntmps - argsc.size) undef, []⟩) ⟨R.setLow _, envOf_rel ha _ _, rfl, hG, by simp; omega⟩ hx) ?_)
  rintro ex a' w' ⟨rfl, ι', S', E', K', N'⟩
  have M := exec_mild hml n c (R.wf.setLow h.next) hx
  have fin : ∀ {v : Value} {h' : AH}, ((resVs P e1 h1 fn.results.toList).bind fun vs => (packV vs).map fun v => exitR h h1 v) = some (v, h') →
      a'.defers = [] ∧ ∃ vc, (results fn a'.tmps).run P w' = .ok vc w' ∧ ∃ vc' ι', Ending.returned vc = .returned vc' ∧ vRel ι' v vc' ∧ Rel ι' base h' w' ∧ Ext h.next w ι ι' ∧ Keep base ι w w' ∧ h.next ≤ h'.next := by
    intro v h' hr
    obtain ⟨vs, hvs, hr⟩ := Option.bind_eq_some_iff.1 hr
    obtain ⟨v1, hv1, e2⟩ := Option.map_eq_some_iff.1 hr
    obtain ⟨vcs, g1, g2⟩ := resV_sound (P := P) S'.rel S'.env _ _ hvs
    have hvr := packV_sound g2 hv1
    have hrun : (results fn a'.tmps).run P w' = .ok (if h : vcs.toArray.size = 1 then vcs.toArray[0] else .tuple vcs.toArray) w' := by
      rw [results_eq, Array.mapM_eq_mapM_toList]
      simp only [Sem.run_bind, Sem.run_map, g1, Result.andThen_ok, Sem.run_pure]
    have hs : Sub ι ι' := E'.sub fun β k hk => (R.dom β k hk).1
    unfold exitR at e2
    cases hg : (Nat.beq h1.low h.next && plainV v1) with
    | true =>
      rw [hg] at e2
      obtain ⟨rfl, rfl⟩ := Prod.mk.inj e2
      rw [Bool.and_eq_true] at hg
      have hS := same_of_mild R.wf M (Nat.eq_of_beq_eq_true hg.1)
      exact ⟨S'.dfr, _, hrun, _, ι, rfl, vRel.through hs (plainV_rel hg.2) hvr, R.below S'.rel hS hs K'.1, Ext.refl _ _ _, K', Nat.le_refl _⟩
    | false =>
      rw [hg] at e2
      obtain ⟨rfl, rfl⟩ := Prod.mk.inj e2
      exact ⟨S'.dfr, _, hrun, _, ι', rfl, hvr, S'.rel.setLow _, E', K', N'⟩
  cases x with
  | normal => exact fin hr
  | ret => exact fin hr
  | exit _ => cases hr
theorem run_sound (hm : P.follows .mixedOrders = true) (hN : namesOK P = true) (hP : progOK P G drawB = true) : ∀ n, CallsOK P G (run P n)
  | 0 => fun _ _ _ _ _ hr => by cases hr
  | n + 1 => run1_sound hm hN hP (run_sound hm hN hP n) (run_body n) (run_mild n) n
end Go.Proofs.YtgjcephjhahliaaGreatDoor.X
namespace Go.Proofs.YtgjcephjhahliaaGreatDoor.X
open Go
variable {H : Type}
def AH.newRo (h : AH) (cells : List Value) (esz : Nat) : AH := { blks := h.blks.set h.next ⟨cells, esz, h.next, true⟩, grps := h.grps, next := h.next + 1, low := h.low }
def layAll (f : TypeId → DataW H → AH → Option (List Value × AH)) : List (TypeId × DataW H) → AH → Option (List Value × AH)
  | [], h => some ([], h)
  | d :: l, h => (f d.1 d.2 h).bind fun p => (layAll f l p.2).bind fun q => some (p.1 ++ q.1, q.2)
def contig (P : Program) : Nat → List Field → Nat → Bool
  | o, [], e => Nat.beq o e
  | o, f :: r, e => Nat.beq f.offset o && contig P (o + P.cellsOf f.type) r e
/-- The cells of a datum: what it points to becomes blocks. -/
def layD (P : Program) : Nat → TypeId → DataW H → AH → Option (List Value × AH)
  | 0, _, _, _ => none
  | N + 1, t, d, h => match P.underlying t, d with
    | some .bool, .lit (.bool b) => some ([.bool b], h)
    | some (.int _), .lit (.int k n) => some ([.int k n], h)
    | some .string, .lit (.string s) => some ([.string ⟨s.toArray⟩], h)
    | some (.slice _), .nil => some ([.slice none 0 0], h)
    | some (.slice e), .slice xs ys => cond (Nat.beq (xs.length + ys.length) 0) (some ([.slice (some ⟨0, 0, none⟩) 0 0], h)) (cond (Nat.beq (P.cellsOf e) 0 || Nat.ble OPEN (xs.length + ys.length)) none
        ((layAll (layD P N) ((xs ++ ys).map fun d => (e, d)) h).bind fun p => some ([.slice (some ⟨p.2.next, 0, none⟩) xs.length (xs.length + ys.length)], p.2.newRo p.1 (P.cellsOf e))))
    | some (.pointer _), .nil => some ([.pointer none], h)
    | some (.pointer e), .ptr d => cond (Nat.beq (P.cellsOf e) 0) none ((layD P N e d h).bind fun p => some ([.pointer (some ⟨p.2.next, 0, none⟩)], p.2.newRo p.1 0))
    | some (.struct fs), .agg xs => cond (contig P 0 fs.toList (P.cellsOf t)) (layAll (layD P N) ((fs.toList.map fun f => f.type).zip xs) h) none
    | some (.array n e), .agg xs => cond (Nat.beq (n * P.cellsOf e) (P.cellsOf t)) (layAll (layD P N) (xs.map fun d => (e, d)) h) none
    | _, _ => none
/-- All blocks are only read. -/
def RoAll (h : AH) : Prop := ∀ β b, h.blks.get β = some b → b.ro = true
variable {enc : TypeId × Value → H} {P : Program} {w : World} {base : Nat} {spare : Nat → Bool} {held : Bool} {ι : Inj} {h : AH}
theorem Rel.newRo (R : Rel ι base h w) (hro : RoAll h) {cells : List Value} {z : Nat} {k : Img} {cs : Array Value} {el : TypeId} {fz : Nat × Nat} (h1 : w.heap[k.b]? = some (.cells cs el fz)) (h2 : cs.size = k.bsz) (hz : k.esz = z)
    (h3 : AllR (cRel ι) cells ((cs.toList.drop k.sh).take cells.length)) : ∃ ι' : Inj, ι' h.next = some k ∧ Rel ι' base (h.newRo cells z) w ∧ RoAll (h.newRo cells z) ∧ (∀ β, β < h.next → ι' β = ι β) := by
  obtain ⟨_, hn2⟩ := R.new h.next (Nat.le_refl _)
  let ι' : Inj := fun γ => if γ = h.next then some k else ι γ
  have hι1 : ι' h.next = some k := if_pos rfl
  have hι2 : ∀ γ, γ ≠ h.next → ι' γ = ι γ := fun γ e => if_neg e
  have hsub : Sub ι ι' := fun β k e => (hι2 β (Nat.ne_of_lt (R.dom β k e).1)).trans e
  have hblk : ∀ γ, (h.newRo cells z).blks.get γ = if γ = h.next then some ⟨cells, z, h.next, true⟩ else h.blks.get γ := fun γ => Tr.get_set _ _ _ _
  have hra : RoAll (h.newRo cells z) := fun β b hb => by
    rw [hblk] at hb
    split at hb
    · injection hb with hb
      subst hb
      rfl
    · exact hro β b hb
  have hrd : ∀ γ c, (h.newRo cells z).rd γ = some c → (γ = h.next ∧ c = ⟨cells, z, h.next, true⟩) ∨ (γ ≠ h.next ∧ h.rd γ = some c) := fun γ c hc => by
    obtain ⟨q1, q2⟩ := rd_get hc
    rw [hblk] at q1
    split at q1
    · rename_i e
      injection q1 with q1
      exact .inl ⟨e, q1.symm⟩
    · rename_i e
      exact .inr ⟨e, rd_of q1 q2⟩
  have hkb : k.b < w.heap.size := by
    rcases Nat.lt_or_ge k.b w.heap.size with g | g
    · exact g
    · rw [Array.getElem?_eq_none g] at h1
      cases h1
  refine ⟨ι', hι1, ⟨?_, ?_, ?_, ?_, ?_, ?_, ?_, ?_, R.bas, ?_, fun β b q hb hk hm => ?_⟩, hra, fun β hb => hι2 β (Nat.ne_of_lt hb)⟩
  · intro β b q hr hk
    rcases hrd β b hr with ⟨rfl, rfl⟩ | ⟨e, hr⟩
    · rw [hι1] at hk
      injection hk with hk
      subst hk
      exact ⟨cs, el, fz, h1, h2, fun e => (by cases e), _, rfl, h3.mono fun _ _ => cRel.mono hsub⟩
    · rw [hι2 β e] at hk
      obtain ⟨cs', el', fz', g1, g2, g3, l, g4, g5⟩ := R.blk β b q hr hk
      exact ⟨cs', el', fz', g1, g2, g3, l, g4, g5.mono fun _ _ => cRel.mono hsub⟩
  · intro β b q hb hk
    rw [hblk] at hb
    split at hb
    · rename_i e
      subst e
      injection hb with hb
      subst hb
      rw [hι1] at hk
      injection hk with hk
      subst hk
      exact hz
    · rename_i e
      rw [hι2 β e] at hk
      exact R.esz β b q hb hk
  · intro β b q hb _ hr
    rw [hra β b hb] at hr
    cases hr
  · intro β b hb
    rw [hblk] at hb
    split at hb
    · rename_i e
      injection hb with hb
      subst hb
      exact Nat.le_of_eq e.symm
    · exact R.gle β b hb
  · intro β β' b b' q q' hb hb' _ _ _ hr
    rw [hra β b hb, hra β' b' hb'] at hr
    rcases hr with hr | hr <;> cases hr
  · intro β q hk
    by_cases e : β = h.next
    · subst e
      rw [hι1] at hk
      injection hk with hk
      subst hk
      exact ⟨Nat.lt_succ_self _, hkb⟩
    · rw [hι2 β e] at hk
      exact ⟨Nat.lt_succ_of_lt (R.dom β q hk).1, (R.dom β q hk).2⟩
  · intro β hβ
    have hβ' : h.next + 1 ≤ β := hβ
    rw [hblk, if_neg (by omega)]
    exact R.new β (by omega)
  · intro β b hb
    rw [hblk] at hb
    split at hb
    · injection hb with hb
      subst hb
      exact Nat.lt_succ_self _
    · exact Nat.lt_succ_of_lt (R.grp β b hb)
  · intro β q hk
    rw [hblk]
    by_cases e : β = h.next
    · exact ⟨_, if_pos e⟩
    · rw [hι2 β e] at hk
      obtain ⟨b, hb⟩ := R.has β q hk
      exact ⟨b, by rw [if_neg e]; exact hb⟩
  · have hm : h.grps.get b.grp = some [] := hm
    rw [hblk] at hb
    split at hb
    · injection hb with hb
      subst hb
      have hm : h.grps.get h.next = some [] := hm
      rw [hn2] at hm
      cases hm
    · rename_i e
      rw [hι2 β e] at hk
      have := (R.map β b q hb hk hm).1.2
      rw [hro β b hb] at this
      cases this
/-- Data, one after another, are what the cells read as. -/
def ReadsL (enc : TypeId × Value → H) (P : Program) (w : World) (base : Nat) (spare : Nat → Bool) (held : Bool) (m : Nat) : List (TypeId × DataW H) → List Value → Prop
  | [], l => l = []
  | td :: r, l => (∃ ps, DataW.trod enc P w base spare held m td.1 (l.take (P.cellsOf td.1)) = some (td.2, ps)) ∧ ReadsL enc P w base spare held m r (l.drop (P.cellsOf td.1))
/-- What laying does. -/
def Laid (ι : Inj) (base : Nat) (w : World) (h : AH) (xs cs : List Value) (h' : AH) : Prop :=
  ∃ ι' : Inj, Rel ι' base h' w ∧ RoAll h' ∧ (∀ β, β < h.next → ι' β = ι β) ∧ h.next ≤ h'.next ∧ AllR (cRel ι') xs cs
theorem layAll_sound {f : TypeId → DataW H → AH → Option (List Value × AH)} {m tb : Nat}
    (hf : ∀ t cs d ps ι h xs h', DataW.trod enc P w tb spare held m t cs = some (d, ps) → f t d h = some (xs, h') → Rel ι base h w → RoAll h → Laid ι base w h xs cs h') :
    ∀ (l : List (TypeId × DataW H)) {cs : List Value} {ι : Inj} {h h' : AH} {xs : List Value}, ReadsL enc P w tb spare held m l cs → layAll f l h = some (xs, h') → Rel ι base h w → RoAll h → Laid ι base w h xs cs h'
  | [], cs, ι, h, h', xs, hr, hl, R, hro => by
    obtain rfl : cs = [] := hr
    obtain ⟨rfl, rfl⟩ := Prod.mk.inj (Option.some.inj hl)
    exact ⟨ι, R, hro, fun _ _ => rfl, Nat.le_refl _, trivial⟩
  | td :: l, cs, ι, h, h', xs, hr, hl, R, hro => by
    obtain ⟨⟨ps, hp⟩, hr⟩ := hr
    obtain ⟨⟨x1, h1⟩, hx1, hl⟩ := Option.bind_eq_some_iff.1 hl
    obtain ⟨⟨x2, h2⟩, hx2, hl⟩ := Option.bind_eq_some_iff.1 hl
    obtain ⟨rfl, rfl⟩ := Prod.mk.inj (Option.some.inj hl)
    obtain ⟨ι1, R1, ro1, a1, n1, c1⟩ := hf _ _ _ _ _ _ _ _ hp hx1 R hro
    obtain ⟨ι2, R2, ro2, a2, n2, c2⟩ := layAll_sound hf l hr hx2 R1 ro1
    have hs : Sub ι1 ι2 := fun β k e => (a2 β (R1.dom β k e).1).trans e
    refine ⟨ι2, R2, ro2, fun β hb => (a2 β (Nat.lt_of_lt_of_le hb n1)).trans (a1 β hb), Nat.le_trans n1 n2, ?_⟩
    have := (c1.mono fun _ _ => cRel.mono hs).append c2
    rwa [List.take_append_drop] at this
/-- n data of one type. -/
theorem readsL_rep {m : Nat} {e : TypeId} : ∀ (ds : List (DataW H)) (cs : List Value), cs.length = ds.length * P.cellsOf e →
    (∀ i d, ds[i]? = some d → ∃ ps, DataW.trod enc P w base spare held m e ((cs.drop (i * P.cellsOf e)).take (P.cellsOf e)) = some (d, ps)) → ReadsL enc P w base spare held m (ds.map fun d => (e, d)) cs
  | [], cs, hl, _ => List.eq_nil_of_length_eq_zero (by rw [hl, List.length_nil, Nat.zero_mul])
  | d :: ds, cs, hl, hr => by
    refine ⟨?_, readsL_rep ds _ (by rw [List.length_drop, hl, List.length_cons, Nat.add_mul, Nat.one_mul, Nat.add_sub_cancel]) fun i d' hd => ?_⟩
    · have := hr 0 d rfl
      rwa [Nat.zero_mul, List.drop_zero] at this
    · have := hr (i + 1) d' hd
      rwa [List.drop_drop, Nat.add_comm (P.cellsOf e), ← Nat.succ_mul]
theorem readsL_fields {m : Nat} : ∀ (fs : List Field) (ds : List (DataW H)) (o e : Nat) (cs : List Value), contig P o fs e = true → ds.length = fs.length → cs.length = e - o → o ≤ e →
    (∀ (i : Nat) (f : Field) (d : DataW H), fs[i]? = some f → ds[i]? = some d → ∃ ps, DataW.trod enc P w base spare held m f.type ((cs.drop (f.offset - o)).take (P.cellsOf f.type)) = some (d, ps)) → ReadsL enc P w base spare held m ((fs.map fun f => f.type).zip ds) cs := by
  intro fs
  induction fs with
  | nil =>
    intro ds o e cs hc hd hl _ _
    cases ds with
    | nil =>
      have := Nat.eq_of_beq_eq_true hc
      exact List.eq_nil_of_length_eq_zero (by omega)
    | cons _ _ => cases hd
  | cons f fs ih =>
    intro ds o e cs hc hd hl hoe hr
    cases ds with
    | nil => cases hd
    | cons d ds =>
      unfold contig at hc
      rw [Bool.and_eq_true] at hc
      have ho := Nat.eq_of_beq_eq_true hc.1
      have mono : ∀ (fs : List Field) (o e : Nat), contig P o fs e = true → o ≤ e ∧ ∀ f ∈ fs, o ≤ f.offset := by
        intro fs
        induction fs with
        | nil => exact fun o e h => ⟨Nat.le_of_eq (Nat.eq_of_beq_eq_true h), fun f hf => by cases hf⟩
        | cons g fs ih =>
          intro o e h
          unfold contig at h
          rw [Bool.and_eq_true] at h
          have h1 := ih _ _ h.2
          refine ⟨by omega, fun f hf => ?_⟩
          rcases List.mem_cons.1 hf with rfl | hf
          · exact Nat.le_of_eq (Nat.eq_of_beq_eq_true h.1).symm
          · have := h1.2 f hf
            omega
      have hm := mono fs _ e hc.2
      refine ⟨?_, ih ds _ e _ hc.2 (Nat.succ.inj hd) (by rw [List.length_drop]; show cs.length - P.cellsOf f.type = _; omega) hm.1 fun i f' d' hf' hd' => ?_⟩
      · have := hr 0 f d rfl rfl
        rwa [ho, Nat.sub_self, List.drop_zero] at this
      · have := hr (i + 1) f' d' hf' hd'
        rw [List.drop_drop]
        have hle := hm.2 f' (List.mem_of_getElem? hf')
        rwa [show P.cellsOf f.type + (f'.offset - (o + P.cellsOf f.type)) = f'.offset - o by omega]
/-- A stretch of cells. -/
theorem cells_of {a : Addr} {n : Nat} {l : List Value} (hc : w.cells? base a n = some l) (hn : n ≠ 0) : a.spot = none ∧ ∃ cs el fz, w.heap[a.block]? = some (.cells cs el fz) ∧ a.off + n ≤ cs.size ∧ l = (cs.toList.drop a.off).take n := by
  unfold World.cells? at hc
  split at hc
  · have hlen := mapM_some_length hc
    rw [List.length_range] at hlen
    have hget := fun i (hi : i < n) => mapM_some_get hc i i (by simp [hi])
    have hcell : ∀ i (hi : i < n), w.cell? (a.add i) = some (l[i]'(by omega)) := fun i hi => by
      rw [hget i hi]
      exact List.getElem?_eq_getElem (by omega)
    have h0 := hcell 0 (by omega)
    have hsp : a.spot = none := by
      unfold World.cell? at h0
      split at h0
      · cases hs : a.spot with
        | none => rfl
        | some s =>
          have : ((a.add 0).spot).isSome = true := by
            show a.spot.isSome = true
            rw [hs]
            rfl
          rw [if_pos this] at h0
          cases h0
      · cases h0
    obtain ⟨ab, ao, as⟩ := a
    obtain rfl : as = none := hsp
    have hadd : ∀ i, (⟨ab, ao, none⟩ : Addr).add i = ⟨ab, ao + i, none⟩ := fun i => add_none rfl i
    have h0' := h0
    rw [hadd] at h0'
    unfold World.cell? at h0'
    split at h0'
    · rename_i cs el fz hh
      have hc' : ∀ i (hi : i < n), cs[ao + i]? = some (l[i]'(by omega)) := fun i hi => by
        have := hcell i hi
        rw [hadd] at this
        unfold World.cell? at this
        rw [hh] at this
        exact this
      have hsz : ao + n ≤ cs.size := by
        have := hc' (n - 1) (by omega)
        have := (Array.getElem?_eq_some_iff.1 this).1
        omega
      refine ⟨rfl, cs, el, fz, hh, hsz, ?_⟩
      apply List.ext_getElem?
      intro i
      rw [List.getElem?_take]
      split
      · rename_i hi
        rw [List.getElem?_drop]
        exact (List.getElem?_eq_getElem (by omega)).trans ((hc' i hi).symm.trans Array.getElem?_toList.symm)
      · exact List.getElem?_eq_none (by omega)
    · cases h0'
  · cases hc
end Go.Proofs.YtgjcephjhahliaaGreatDoor.X
namespace Go.Proofs.YtgjcephjhahliaaGreatDoor.X
open Go
variable {H : Type} {enc : TypeId × Value → H} {P : Program} {w : World} {base : Nat} {held : Bool}
/-- A row of elements at an address. -/
theorem readsL_row {m : Nat} {e : TypeId} {a : Addr} (hz : P.cellsOf e ≠ 0) : ∀ (ds : List (DataW H)), ds ≠ [] →
    (∀ i d, ds[i]? = some d → ∃ l ps, w.cells? 0 (a.add (i * P.cellsOf e)) (P.cellsOf e) = some l ∧ DataW.trod enc P w 0 (fun _ => true) held m e l = some (d, ps)) →
    a.spot = none ∧ ∃ cs el fz, w.heap[a.block]? = some (.cells cs el fz) ∧ a.off + ds.length * P.cellsOf e ≤ cs.size ∧
      ReadsL enc P w 0 (fun _ => true) held m (ds.map fun d => (e, d)) ((cs.toList.drop a.off).take (ds.length * P.cellsOf e)) := by
  intro ds hne hr
  have hpos : 0 < ds.length := List.length_pos_iff.2 hne
  obtain ⟨l0, ps0, h0, _⟩ := hr 0 _ (List.getElem?_eq_getElem hpos)
  rw [Nat.zero_mul] at h0
  obtain ⟨hsp, cs, el, fz, hh, _, _⟩ := cells_of h0 hz
  have hsp : a.spot = none := hsp
  obtain ⟨ab, ao, as⟩ := a
  obtain rfl : as = none := hsp
  have hb : (⟨ab, ao, none⟩ : Addr).add 0 = ⟨ab, ao + 0, none⟩ := add_none rfl 0
  rw [hb] at hh
  have hall : ∀ i d, ds[i]? = some d → ao + i * P.cellsOf e + P.cellsOf e ≤ cs.size ∧ ∃ ps, DataW.trod enc P w 0 (fun _ => true) held m e ((cs.toList.drop (ao + i * P.cellsOf e)).take (P.cellsOf e)) = some (d, ps) := by
    intro i d hd
    obtain ⟨l, ps, h1, h2⟩ := hr i d hd
    obtain ⟨_, cs', el', fz', hh', hsz, rfl⟩ := cells_of h1 hz
    have hb : (⟨ab, ao, none⟩ : Addr).add (i * P.cellsOf e) = ⟨ab, ao + i * P.cellsOf e, none⟩ := add_none rfl _
    rw [hb] at hh' hsz h2
    have hh' : w.heap[ab]? = some (.cells cs' el' fz') := hh'
    have hh : w.heap[ab]? = some (.cells cs el fz) := hh
    rw [hh] at hh'
    injection hh' with hh'
    injection hh' with h5 _ _
    subst h5
    exact ⟨hsz, ps, h2⟩
  have hfit : ao + ds.length * P.cellsOf e ≤ cs.size := by
    obtain ⟨h1, _⟩ := hall (ds.length - 1) _ (List.getElem?_eq_getElem (by omega))
    have : (ds.length - 1) * P.cellsOf e + P.cellsOf e = ds.length * P.cellsOf e := by
      rw [← Nat.succ_mul]
      congr 1
      omega
    omega
  refine ⟨rfl, cs, el, fz, hh, hfit, readsL_rep ds _ (by rw [List.length_take, List.length_drop]; have hq : cs.toList.length = cs.size := Array.length_toList; show min _ (cs.toList.length - ao) = _; omega) fun i d hd => ?_⟩
  obtain ⟨_, ps, h2⟩ := hall i d hd
  refine ⟨ps, ?_⟩
  have hi := (List.getElem?_eq_some_iff.1 hd).1
  have hle : i * P.cellsOf e + P.cellsOf e ≤ ds.length * P.cellsOf e := by
    rw [← Nat.succ_mul]
    exact Nat.mul_le_mul_right _ hi
  rw [List.drop_take, List.drop_drop, List.take_take, Nat.min_eq_left (by omega)]
  exact h2
theorem Laid.one {ι : Inj} {h : AH} (R : Rel ι base h w) (hro : RoAll h) {x y : Value} (hx : pRel ι x y) : Laid ι base w h [x] [y] h :=
  ⟨ι, R, hro, fun _ _ => rfl, Nat.le_refl _, .atom hx, trivial⟩
theorem layD_sound : ∀ (N : Nat) (m : Nat) (t : TypeId) (cs : List Value) (d : DataW H) (ps : List MemPlace) (ι : Inj) (h : AH) (xs : List Value) (h' : AH),
    DataW.trod enc P w 0 (fun _ => true) held m t cs = some (d, ps) → layD P N t d h = some (xs, h') → Rel ι base h w → RoAll h → Laid ι base w h xs cs h' := by
  intro N
  induction N with
  | zero => exact fun _ _ _ _ _ _ _ _ _ _ hl => by cases hl
  | succ N ih =>
    intro m t cs d ps ι h xs h' hp hl R hro
    unfold layD at hl
    split at hl
    · rename_i hu
      obtain ⟨b, rfl, e⟩ := DataW.trod_bool hu hp
      injection e with e1 e2
      cases e1
      obtain ⟨rfl, rfl⟩ := Prod.mk.inj (Option.some.inj hl)
      exact .one R hro (.bool _)
    · rename_i hu
      obtain ⟨n, rfl, e, _⟩ := DataW.trod_int hu hp
      injection e with e1 e2
      cases e1
      obtain ⟨rfl, rfl⟩ := Prod.mk.inj (Option.some.inj hl)
      exact .one R hro (.int _ _)
    · rename_i hu
      obtain ⟨s, rfl, e, _⟩ := DataW.trod_string hu hp
      injection e with e1 e2
      cases e1
      obtain ⟨rfl, rfl⟩ := Prod.mk.inj (Option.some.inj hl)
      exact .one R hro (.string _)
    · rename_i hu
      obtain ⟨rfl, rfl⟩ := Prod.mk.inj (Option.some.inj hl)
      rcases DataW.trod_slice hu hp with ⟨rfl, _⟩ | ⟨_, _, _, _, _, _, _, _, e, _⟩
      · exact .one R hro .snil
      · injection e with e1 _
        cases e1
    · rename_i e xs0 ys0 hu
      rcases DataW.trod_slice hu hp with ⟨rfl, e⟩ | ⟨a, len, cap, el, rs, n, rfl, rfl, e, _, hlc, hcm, hel, h1, h2, _⟩
      · injection e with e1 _
        cases e1
      · injection e with e1 _
        injection e1 with e1 e2
        subst e1
        subst e2
        obtain ⟨hrl, h2⟩ := h2 rfl
        rw [cond_beq] at hl
        have hlen : (el.map (·.1)).length + (rs.map (·.1)).length = cap := by
          rw [List.length_map, List.length_map]
          omega
        rw [hlen] at hl
        split at hl
        · rename_i h0
          obtain ⟨rfl, rfl⟩ := Prod.mk.inj (Option.some.inj hl)
          have : len = 0 := by omega
          subst h0
          subst this
          exact .one R hro (.slice _ _ _ _ _ (.inl ⟨rfl, rfl, rfl⟩))
        · rename_i h0
          cases hz : (Nat.beq (P.cellsOf e) 0 || Nat.ble OPEN cap) with
          | true =>
            rw [hz] at hl
            cases hl
          | false =>
            rw [hz] at hl
            rw [Bool.or_eq_false_iff] at hz
            have hz0 : P.cellsOf e ≠ 0 := Nat.ne_of_beq_eq_false hz.1
            have hopen : cap < OPEN := by
              rcases Nat.lt_or_ge cap OPEN with g | g
              · exact g
              · rw [Nat.ble_eq_true_of_le g] at hz
                cases hz.2
            obtain ⟨⟨cells, h1'⟩, hl1, hl⟩ := Option.bind_eq_some_iff.1 hl
            obtain ⟨rfl, rfl⟩ := Prod.mk.inj (Option.some.inj hl)
            have hdl : (el.map (·.1) ++ rs.map (·.1)).length = cap := by
              rw [List.length_append]
              exact hlen
            obtain ⟨hsp, bs, bt, fz, hh, hfit, hrd⟩ := readsL_row (enc := enc) (P := P) (w := w) (held := held) (m := n) (a := a) hz0 (el.map (·.1) ++ rs.map (·.1)) (fun e => by rw [e] at hdl; exact h0 hdl.symm) (fun i d hd => by
              rw [← List.map_append, List.getElem?_map] at hd
              obtain ⟨x, hx, rfl⟩ := Option.map_eq_some_iff.1 hd
              rcases Nat.lt_or_ge i len with hi | hi
              · rw [List.getElem?_append_left (by omega)] at hx
                obtain ⟨l, g1, g2⟩ := Option.bind_eq_some_iff.1 ((h1 i hi).trans hx)
                exact ⟨l, x.2, g1, g2⟩
              · rw [List.getElem?_append_right (by omega), hel] at hx
                have hi2 : i - len < cap - len := by
                  have := (List.getElem?_eq_some_iff.1 hx).1
                  omega
                obtain ⟨l, g1, g2⟩ := Option.bind_eq_some_iff.1 ((h2 (i - len) hi2).trans hx)
                rw [show len + (i - len) = i by omega] at g1
                exact ⟨l, x.2, g1, g2⟩)
            rw [hdl] at hfit hrd
            obtain ⟨ι1, R1, ro1, a1, n1, c1⟩ := layAll_sound (ih n) _ hrd hl1 R hro
            have hcl : cells.length = cap * P.cellsOf e := by
              rw [c1.length_eq, List.length_take, List.length_drop, Array.length_toList]
              omega
            obtain ⟨ι2, k2, R2, ro2, a2⟩ := R1.newRo ro1 (cells := cells) (z := P.cellsOf e) (k := ⟨a.block, a.off, P.cellsOf e, bs.size⟩) hh rfl rfl (by rw [hcl]; exact c1)
            refine ⟨ι2, R2, ro2, fun β hb => (a2 β (Nat.lt_of_lt_of_le hb n1)).trans (a1 β hb), Nat.le_succ_of_le n1, (by
              show cRel ι2 (.slice (some ⟨h1'.next, 0, none⟩) (el.map (·.1)).length cap) _
              rw [List.length_map, hel]
              exact .atom (.sl _ _ _ _ _ ⟨hlc, rfl, hsp, _, k2, rfl, .inr ⟨rfl, .inl ⟨hopen, rfl⟩⟩⟩)), trivial⟩
    · rename_i hu
      obtain ⟨rfl, rfl⟩ := Prod.mk.inj (Option.some.inj hl)
      rcases DataW.trod_pointer hu hp with ⟨rfl, _⟩ | ⟨_, _, _, _, _, _, e, _⟩
      · exact .one R hro .pnil
      · injection e with e1 _
        cases e1
    · rename_i e d0 hu
      rcases DataW.trod_pointer hu hp with ⟨_, e1⟩ | ⟨a, cs', y, n, rfl, rfl, e1, hc, hy⟩
      · injection e1 with e1 _
        cases e1
      · injection e1 with e1 _
        injection e1 with e1
        subst e1
        cases hz : Nat.beq (P.cellsOf e) 0 with
        | true =>
          rw [hz] at hl
          cases hl
        | false =>
          rw [hz] at hl
          have hz0 : P.cellsOf e ≠ 0 := Nat.ne_of_beq_eq_false hz
          obtain ⟨⟨cells, h1'⟩, hl1, hl⟩ := Option.bind_eq_some_iff.1 hl
          obtain ⟨rfl, rfl⟩ := Prod.mk.inj (Option.some.inj hl)
          obtain ⟨hsp, bs, bt, fz, hh, hfit, rfl⟩ := cells_of hc hz0
          obtain ⟨ι1, R1, ro1, a1, n1, c1⟩ := ih n _ _ _ _ _ _ _ _ hy hl1 R hro
          have hcl : cells.length = P.cellsOf e := by
            rw [c1.length_eq, List.length_take, List.length_drop, Array.length_toList]
            omega
          obtain ⟨ι2, k2, R2, ro2, a2⟩ := R1.newRo ro1 (cells := cells) (z := 0) (k := ⟨a.block, a.off, 0, bs.size⟩) hh rfl rfl (by rw [hcl]; exact c1)
          exact ⟨ι2, R2, ro2, fun β hb => (a2 β (Nat.lt_of_lt_of_le hb n1)).trans (a1 β hb), Nat.le_succ_of_le n1, .atom (.ptr _ _ ⟨rfl, hsp, _, k2, rfl, rfl⟩), trivial⟩
    · rename_i fs xs0 hu
      obtain ⟨ys, n, rfl, e, hlen, hys, hget⟩ := DataW.trod_struct hu hp
      injection e with e1 _
      injection e1 with e1
      subst e1
      obtain ⟨hc, hl⟩ := cond_some' hl
      refine layAll_sound (ih n) _ (readsL_fields fs.toList _ 0 _ cs hc (by rw [List.length_map, hys, Array.length_toList]) (by rw [hlen, Nat.sub_zero]) (Nat.zero_le _) fun i f d hf hd => ?_) hl R hro
      rw [Array.getElem?_toList] at hf
      rw [List.getElem?_map] at hd
      obtain ⟨y, hy, rfl⟩ := Option.map_eq_some_iff.1 hd
      refine ⟨y.2, ?_⟩
      rw [Nat.sub_zero, hget i f hf, hy]
    · rename_i k e xs0 hu
      obtain ⟨ys, n, rfl, e1, hlen, hys, hget⟩ := DataW.trod_array hu hp
      injection e1 with e1 _
      injection e1 with e1
      subst e1
      obtain ⟨hc, hl⟩ := cond_some' hl
      have hc := Nat.eq_of_beq_eq_true hc
      refine layAll_sound (ih n) _ (readsL_rep _ cs (by rw [List.length_map, hys, hlen, hc]) fun i d hd => ?_) hl R hro
      rw [List.getElem?_map] at hd
      obtain ⟨y, hy, rfl⟩ := Option.map_eq_some_iff.1 hd
      refine ⟨y.2, ?_⟩
      rw [hget i (by have := (List.getElem?_eq_some_iff.1 hy).1; omega), hy]
    · cases hl
end Go.Proofs.YtgjcephjhahliaaGreatDoor.X
namespace Go.Proofs.YtgjcephjhahliaaGreatDoor.X
open Go
variable {H : Type} {enc : TypeId × Value → H} {P : Program} {w : World} {base : Nat}
def valT (P : Program) (t : TypeId) (xs : List Value) : Option Value := (aggT P t).bind fun ag => cond ag (some (.agg xs.toArray)) (match xs with | [x] => some x | _ => none)
def layArgs (P : Program) (N : Nat) : List TypeId → List (DataW H) → AH → Option (List Value × AH)
  | [], [], h => some ([], h)
  | t :: ts, d :: ds, h => (layD P N t d h).bind fun p => (valT P t p.1).bind fun v => (layArgs P N ts ds p.2).bind fun q => some (v :: q.1, q.2)
  | _, _, _ => none
theorem cell_not_agg {r : Reach} {b : Nat} {t : TypeId} {d : TypeDesc} (hd : P.underlying t = some d) {cs : Array Value} (h : Cell.okWide P w r b t (.agg cs)) : False := by
  unfold Cell.okWide at h
  rw [hd] at h
  split at h
  all_goals first
    | (rename_i e; cases e; done)
    | (rename_i e _; cases e; done)
    | skip
  unfold Cell.ok at h
  rw [hd] at h
  split at h
  all_goals first
    | (rename_i e; cases e; done)
    | (rename_i e _; cases e; done)
    | exact h
theorem valT_sound {ι : Inj} {r : Reach} {b : Nat} {t : TypeId} {v x : Value} {xs : List Value} (hok : Value.okWide P w r b t v) (hc : AllR (cRel ι) xs v.cells.toList) (hx : valT P t xs = some x) : vRel ι x v := by
  unfold valT at hx
  obtain ⟨ag, hag, hx⟩ := Option.bind_eq_some_iff.1 hx
  unfold aggT at hag
  obtain ⟨d, hd, hag⟩ := Option.map_eq_some_iff.1 hag
  unfold Value.okWide at hok
  rw [hd] at hok
  cases ag with
  | true =>
    injection hx with hx
    subst hx
    have : ∃ cs, v = .agg cs := by
      cases d <;> first | (cases hag; done) | exact hok.imp fun _ h => h.1
    obtain ⟨cs, rfl⟩ := this
    exact .one (.agg _ _ hc)
  | false =>
    have hok' : Cell.okWide P w r b t v := by
      cases d <;> first | (cases hag; done) | exact hok
    have hv : v.cells = #[v] := by
      cases v with
      | agg cs => exact (cell_not_agg hd hok').elim
      | _ => rfl
    rw [hv] at hc
    match xs, hx, hc with
    | [y], hx, hc =>
      injection hx with hx
      subst hx
      exact hc.1.v
theorem layArgs_sound {N : Nat} {r : Reach} {b : Nat} : ∀ (ts : List TypeId) (vs : List Value) (ds : List (DataW H)) (ps : List MemPlace) {ι : Inj} {h h' : AH} {avs : List Value}, DataW.TrodAll enc P w 0 (fun _ => true) true ts vs ds ps →
    (∀ (j : Nat) t v, ts[j]? = some t → vs[j]? = some v → Value.okWide P w r b t v) → layArgs P N ts ds h = some (avs, h') → Rel ι base h w → RoAll h →
    ∃ ι' : Inj, Rel ι' base h' w ∧ RoAll h' ∧ (∀ β, β < h.next → ι' β = ι β) ∧ h.next ≤ h'.next ∧ AllR (vRel ι') avs vs
  | [], vs, ds, ps, ι, h, h', avs, hA, _, hl, R, hro => by
    cases vs with
    | cons _ _ => exact hA.elim
    | nil =>
      cases ds with
      | cons _ _ => exact hA.elim
      | nil =>
        obtain ⟨rfl, rfl⟩ := Prod.mk.inj (Option.some.inj hl)
        exact ⟨ι, R, hro, fun _ _ => rfl, Nat.le_refl _, trivial⟩
  | t :: ts, vs, ds, ps, ι, h, h', avs, hA, hok, hl, R, hro => by
    cases vs with
    | nil => exact hA.elim
    | cons v vs =>
      cases ds with
      | nil => exact hA.elim
      | cons d ds =>
        obtain ⟨p, q, ⟨m, hp⟩, hA, _⟩ := hA
        obtain ⟨⟨xs, h1⟩, hx, hl⟩ := Option.bind_eq_some_iff.1 hl
        obtain ⟨x, hv, hl⟩ := Option.bind_eq_some_iff.1 hl
        obtain ⟨⟨ys, h2⟩, hy, hl⟩ := Option.bind_eq_some_iff.1 hl
        obtain ⟨rfl, rfl⟩ := Prod.mk.inj (Option.some.inj hl)
        obtain ⟨ι1, R1, ro1, a1, n1, c1⟩ := layD_sound N m t _ d p ι h xs h1 hp hx R hro
        obtain ⟨ι2, R2, ro2, a2, n2, c2⟩ := layArgs_sound ts vs ds q hA (fun j t v ht hv => hok (j + 1) t v ht hv) hy R1 ro1
        have hs : Sub ι1 ι2 := fun β k e => (a2 β (R1.dom β k e).1).trans e
        exact ⟨ι2, R2, ro2, fun β hb => (a2 β (Nat.lt_of_lt_of_le hb n1)).trans (a1 β hb), Nat.le_trans n1 n2, (valT_sound (hok 0 t v rfl rfl) c1 hv).mono hs, c2⟩
def hNil : AH := { blks := .nil, grps := .nil, next := 0, low := 0 }
/-- Each variable in its own block, by its number. -/
def layVars (P : Program) (N : Nat) : List (String × DataW Unit) → AH → Option AH
  | [], h => some h
  | x :: r, h => cond (decide (P.globalNamed x.1 = some h.next)) (((P.globals[h.next]?).map (·.type)).bind fun t => (layD P N t x.2 h).bind fun p => cond (Nat.beq p.2.next h.next) (layVars P N r (p.2.newRo p.1 0)) none) none
theorem rel_nil (hb : base ≤ w.heap.size) : Rel (fun _ => none) base hNil w ∧ RoAll hNil := by
  have hg : ∀ β b, hNil.blks.get β ≠ some b := fun β b e => by
    have : hNil.blks.get β = none := Tr.get_nil β
    rw [this] at e
    cases e
  exact ⟨⟨fun _ _ _ _ hk => (by cases hk), fun _ _ _ _ hk => (by cases hk), fun _ _ _ _ hk => (by cases hk), fun β b hb => absurd hb (hg β b), fun _ _ _ _ _ _ _ _ hk => (by cases hk), fun _ _ hk => (by cases hk),
    fun β _ => ⟨Tr.get_nil β, Tr.get_nil β⟩, fun β b hb => absurd hb (hg β b), hb, fun _ _ hk => (by cases hk), fun β b _ hb => absurd hb (hg β b)⟩, fun β b hb => absurd hb (hg β b)⟩
theorem layVars_sound {N : Nat} : ∀ (l : List (String × DataW Unit)) (ps : List MemPlace) {ι : Inj} {h h' : AH}, DataW.LaidVars P w l ps → layVars P N l h = some h' → Rel ι base h w → RoAll h → GOK h.next ι →
    ∃ ι' : Inj, Rel ι' base h' w ∧ RoAll h' ∧ GOK h'.next ι' ∧ h'.next = h.next + l.length
  | [], ps, ι, h, h', _, hl, R, hro, hg => by
    injection hl with hl
    subst hl
    exact ⟨ι, R, hro, hg, rfl⟩
  | x :: l, ps, ι, h, h', hL, hl, R, hro, hg => by
    obtain ⟨g, t, cs, fuel, p, q, h1, h2, h3, h4, h5, _⟩ := hL
    obtain ⟨hc, hl⟩ := cond_some' hl
    have hc := of_decide_eq_true hc
    have h1 : P.globalNamed x.1 = some g := h1
    rw [h1] at hc
    injection hc with hc
    subst hc
    obtain ⟨t', ht', hl⟩ := Option.bind_eq_some_iff.1 hl
    rw [h2] at ht'
    injection ht' with ht'
    subst ht'
    obtain ⟨⟨xs, h1'⟩, hx, hl⟩ := Option.bind_eq_some_iff.1 hl
    obtain ⟨hn, hl⟩ := cond_some' hl
    have hn : h1'.next = h.next := Nat.eq_of_beq_eq_true hn
    obtain ⟨ι1, R1, ro1, a1, n1, c1⟩ := layD_sound (held := false) N fuel t _ x.2 p ι h xs h1' h4 hx R hro
    have hh : ∃ el fz, w.heap[h.next]? = some (.cells cs el fz) := by
      unfold World.var? at h3
      rw [h1] at h3
      simp only [Option.bind_some] at h3
      split at h3
      · rename_i cs' el fz hh
        injection h3 with h3
        subst h3
        exact ⟨el, fz, hh⟩
      · cases h3
    obtain ⟨el, fz, hh⟩ := hh
    have hcl : xs.length = cs.size := c1.length_eq.trans Array.length_toList
    obtain ⟨ι2, k2, R2, ro2, a2⟩ := R1.newRo ro1 (cells := xs) (z := 0) (k := ⟨h.next, 0, 0, cs.size⟩) hh rfl rfl (by
      show AllR _ xs (List.take xs.length (List.drop 0 cs.toList))
      rw [List.drop_zero, hcl, show cs.size = cs.toList.length from Array.length_toList.symm, List.take_length]
      exact c1)
    have hgok : GOK (h1'.newRo xs 0).next ι2 := fun g hgl => by
      have hgl : g < h1'.next + 1 := hgl
      by_cases e : g = h1'.next
      · subst e
        exact ⟨_, k2, hn.symm, rfl⟩
      · obtain ⟨k, g1, g2⟩ := hg g (by omega)
        exact ⟨k, (a2 g (by omega)).trans ((a1 g (by omega)).trans g1), g2⟩
    obtain ⟨ι3, R3, ro3, g3, n3⟩ := layVars_sound l q h5 hl R2 ro2 hgok
    refine ⟨ι3, R3, ro3, g3, ?_⟩
    rw [n3]
    show h1'.next + 1 + l.length = h.next + (l.length + 1)
    omega
/-- What is asked of a program once. -/
structure Static (P : Program) (G : Nat) : Prop where
  orders : P.follows .mixedOrders = true
  names : namesOK P = true
  prog : progOK P G drawB = true
  laid : laidOutB P = true
/-- What stays behind a call that turns nothing that was there. -/
structure Stays (w w' : World) : Prop where
  os : w'.os = w.os
  output : w'.output = w.output
  size : w.heap.size ≤ w'.heap.size
  block : ∀ k, k < w.heap.size → w'.heap[k]? = w.heap[k]?
theorem Stays.frame {w w' : World} (h : Stays w w') (may : MemPlace → Prop) : w.keptBut w' may := by
  refine ⟨h.os, h.output, fun i hi => ?_⟩
  rw [h.block i hi]
  split <;> simp_all
open Go.RowKit in
theorem Stays.trod {t : TypeId} (hl : laidOutB P = true) (hr : P.readableRec t = true) (hrow : t < P.types.size) {W W' : World} {v : Value} {d : DataW H} {ps : List MemPlace}
    (h : DataW.Trod enc P W 0 (fun _ => true) true t v d ps) (hb : Stays W W') : DataW.Trod enc P W' 0 (fun b => decide (b < W.heap.size)) true t v d ps := by
  have hlt : ∀ x ∈ ps, x.block < W.heap.size := by
    obtain ⟨n, hn⟩ := h
    exact DataW.trod_lt n t _ _ hn
  have hB : Below W.heap.size W { W' with tape := W.tape } := ⟨hb.os, rfl, hb.output, hb.size, hb.block⟩
  obtain ⟨n, hn⟩ := Below.trod hl hr hrow h hB hlt
  exact ⟨n, by rw [← hn]; exact DataW.trod_heap (w := W') (w' := { W' with tape := W.tape }) rfl n t _⟩
theorem Stays.trodAll (hl : laidOutB P = true) {W W' : World} (hb : Stays W W') : ∀ (ts : List TypeId) (vs : List Value) (ds : List (DataW H)) (ps : List MemPlace), (ts.all fun t => P.readableRec t && decide (t < P.types.size)) = true →
    DataW.TrodAll enc P W 0 (fun _ => true) true ts vs ds ps → DataW.TrodAll enc P W' 0 (fun b => decide (b < W.heap.size)) true ts vs ds ps
  | [], vs, ds, ps, _, h => by
    cases vs with
    | cons _ _ => exact h.elim
    | nil =>
      cases ds with
      | cons _ _ => exact h.elim
      | nil => exact h
  | t :: ts, vs, ds, ps, ht, h => by
    cases vs with
    | nil => exact h.elim
    | cons v vs =>
      cases ds with
      | nil => exact h.elim
      | cons d ds =>
        rw [List.all_cons, Bool.and_eq_true, Bool.and_eq_true] at ht
        obtain ⟨p, q, h1, h2, e⟩ := h
        exact ⟨p, q, h1.elim fun n hn => Stays.trod hl ht.1.1 (of_decide_eq_true ht.1.2) ⟨n, hn⟩ hb, Stays.trodAll hl hb ts vs ds q ht.2 h2, e⟩
theorem law_callsC {G N : Nat} {cf : FuncId → List Value → AH → Option (Value × AH)} {f : FuncId} {ts : List TypeId} {args : Array Value} {ds : List (DataW H)} {ps qs : List MemPlace} {vars : List (String × DataW Unit)} {b : Nat}
    (hL : DataW.LaidVars P w vars qs) (hA : DataW.TrodAll enc P w 0 (fun _ => true) true ts args.toList ds ps) (hok : ∀ (j : Nat) t v, ts[j]? = some t → args[j]? = some v → Value.okWide P w .any b t v)
    {h0 h1 h2 : AH} {avs : List Value} (hcf : RoAll h0 → WF h0 → h0.next = G → CallsOK P G cf) (hv : layVars P N vars hNil = some h0) (hG : G = vars.length) (ha : layArgs P N ts ds h0 = some (avs, h1)) {v : Value} (hr : cf f avs h1 = some (v, h2)) :
    Calls P f args w fun e w' => ∃ vc ι', e = .returned vc ∧ vRel ι' v vc ∧ Stays w w' := by
  obtain ⟨R0, ro0⟩ := rel_nil (w := w) (base := w.heap.size) (Nat.le_refl _)
  obtain ⟨ι1, R1, ro1, g1, n1⟩ := layVars_sound vars qs hL hv R0 ro0 (fun g hg => absurd hg (Nat.not_lt_zero _))
  obtain ⟨ι2, R2, ro2, a2, n2, c2⟩ := layArgs_sound ts _ ds ps hA (fun j t v ht hv => hok j t v ht (by rw [← hv, Array.getElem?_toList])) ha R1 ro1
  have n1' : h0.next = G := by
    rw [n1, hG]
    exact Nat.zero_add _
  have g2 : GOK G ι2 := fun g hg => by
    obtain ⟨k, e1, e2⟩ := g1 g (by omega)
    exact ⟨k, (a2 g (by omega)).trans e1, e2⟩
  refine (hcf ro1 ⟨R1.gle, R1.new⟩ n1' f avs h1 v h2 hr ι2 w.heap.size w args R2 g2 c2).mono ?_
  rintro e w' ⟨vc, ι', rfl, g3, _, _, k, _⟩
  exact ⟨vc, ι', rfl, g3, k.2.2.1, k.2.2.2, k.1, fun b hb => k.2.1 b hb (.inl hb)⟩
end Go.Proofs.YtgjcephjhahliaaGreatDoor.X
namespace Go.Proofs.YtgjcephjhahliaaGreatDoor.X
open Go
variable {H : Type} {enc : TypeId × Value → H} {P : Program} {w : World} {base : Nat} {held : Bool}
def AllT (R : TypeId → DataW H → Prop) : List TypeId → List (DataW H) → Prop
  | [], ds => ds = []
  | t :: ts, ds => ∃ d r, ds = d :: r ∧ R t d ∧ AllT R ts r
def typD (P : Program) : Nat → TypeId → DataW H → Prop
  | 0, _, _ => True
  | N + 1, t, d => match P.underlying t with
    | some .bool => ∃ b, d = .lit (.bool b)
    | some (.int k) => ∃ n, d = .lit (.int k n) ∧ (Lit.int k n).wf = true
    | some .string => ∃ s, d = .lit (.string s) ∧ s.length ≤ maxLen
    | some (.slice e) => d = .nil ∨ ∃ xs ys, d = .slice xs ys ∧ xs.length + ys.length ≤ maxLen ∧ (∀ x ∈ xs, typD P N e x) ∧ ∀ y ∈ ys, typD P N e y
    | some (.pointer e) => d = .nil ∨ ∃ x, d = .ptr x ∧ typD P N e x
    | some (.struct fs) => ∃ xs, d = .agg xs ∧ AllT (typD P N) (fs.toList.map fun f => f.type) xs
    | some (.array n e) => ∃ xs, d = .agg xs ∧ xs.length = n ∧ ∀ x ∈ xs, typD P N e x
    | _ => True
theorem allT_of {R : TypeId → DataW H → Prop} : ∀ (ts : List TypeId) (ds : List (DataW H)), ds.length = ts.length → (∀ (i : Nat) (t : TypeId) (d : DataW H), ts[i]? = some t → ds[i]? = some d → R t d) → AllT R ts ds
  | [], ds, hl, _ => List.eq_nil_of_length_eq_zero hl
  | t :: ts, [], hl, _ => by cases hl
  | t :: ts, d :: ds, hl, hr => ⟨d, ds, rfl, hr 0 t d rfl rfl, allT_of ts ds (Nat.succ.inj hl) fun i t d ht hd => hr (i + 1) t d ht hd⟩
theorem typD_of : ∀ (N m : Nat) (t : TypeId) (cs : List Value) (d : DataW H) (ps : List MemPlace), DataW.trod enc P w 0 (fun _ => true) held m t cs = some (d, ps) → typD P N t d := by
  intro N
  induction N with
  | zero => exact fun _ _ _ _ _ _ => trivial
  | succ N ih =>
    intro m t cs d ps hp
    unfold typD
    split
    · rename_i hu
      obtain ⟨b, rfl, e⟩ := DataW.trod_bool hu hp
      injection e with e1 _
      exact ⟨b, e1⟩
    · rename_i k hu
      obtain ⟨n, rfl, e, hw⟩ := DataW.trod_int hu hp
      injection e with e1 _
      exact ⟨n, e1, hw⟩
    · rename_i hu
      obtain ⟨s, rfl, e, hs⟩ := DataW.trod_string hu hp
      injection e with e1 _
      exact ⟨_, e1, by rw [Array.length_toList]; exact hs⟩
    · rename_i e0 hu
      rcases DataW.trod_slice hu hp with ⟨rfl, e⟩ | ⟨a, len, cap, el, rs, n, rfl, rfl, e, _, hlc, hcm, hel, h1, h2, _⟩
      · injection e with e1 _
        exact .inl e1
      · injection e with e1 _
        obtain ⟨hrl, h2⟩ := h2 rfl
        refine .inr ⟨_, _, e1, by rw [List.length_map, List.length_map]; omega, fun x hx => ?_, fun y hy => ?_⟩
        · obtain ⟨i, hi⟩ := List.getElem?_of_mem hx
          rw [List.getElem?_map] at hi
          obtain ⟨z, hz, rfl⟩ := Option.map_eq_some_iff.1 hi
          obtain ⟨l, _, g2⟩ := Option.bind_eq_some_iff.1 ((h1 i (by have := (List.getElem?_eq_some_iff.1 hz).1; omega)).trans hz)
          exact ih n _ _ _ z.2 g2
        · obtain ⟨i, hi⟩ := List.getElem?_of_mem hy
          rw [List.getElem?_map] at hi
          obtain ⟨z, hz, rfl⟩ := Option.map_eq_some_iff.1 hi
          obtain ⟨l, _, g2⟩ := Option.bind_eq_some_iff.1 ((h2 i (by have := (List.getElem?_eq_some_iff.1 hz).1; omega)).trans hz)
          exact ih n _ _ _ z.2 g2
    · rename_i e0 hu
      rcases DataW.trod_pointer hu hp with ⟨_, e1⟩ | ⟨a, cs', y, n, rfl, rfl, e1, hc, hy⟩
      · injection e1 with e1 _
        exact .inl e1
      · injection e1 with e1 _
        exact .inr ⟨_, e1, ih n _ _ _ y.2 hy⟩
    · rename_i fs hu
      obtain ⟨ys, n, rfl, e, hlen, hys, hget⟩ := DataW.trod_struct hu hp
      injection e with e1 _
      refine ⟨_, e1, allT_of _ _ (by rw [List.length_map, List.length_map, hys]; exact Array.length_toList.symm) fun i t x ht hx => ?_⟩
      rw [List.getElem?_map] at ht hx
      obtain ⟨f, hf, rfl⟩ := Option.map_eq_some_iff.1 ht
      obtain ⟨z, hz, rfl⟩ := Option.map_eq_some_iff.1 hx
      rw [Array.getElem?_toList] at hf
      exact ih n _ _ _ z.2 ((hget i f hf).trans hz)
    · rename_i k e0 hu
      obtain ⟨ys, n, rfl, e1, hlen, hys, hget⟩ := DataW.trod_array hu hp
      injection e1 with e1 _
      refine ⟨_, e1, by rw [List.length_map]; exact hys, fun x hx => ?_⟩
      obtain ⟨i, hi⟩ := List.getElem?_of_mem hx
      rw [List.getElem?_map] at hi
      obtain ⟨z, hz, rfl⟩ := Option.map_eq_some_iff.1 hi
      exact ih n _ _ _ z.2 ((hget i (by have := (List.getElem?_eq_some_iff.1 hz).1; omega)).trans hz)
    · trivial
theorem typArgs {N : Nat} : ∀ (ts : List TypeId) (vs : List Value) (ds : List (DataW H)) (ps : List MemPlace), DataW.TrodAll enc P w 0 (fun _ => true) true ts vs ds ps → AllT (typD P N) ts ds
  | [], vs, ds, ps, h => by
    cases vs with
    | cons _ _ => exact h.elim
    | nil =>
      cases ds with
      | cons _ _ => exact h.elim
      | nil => rfl
  | t :: ts, vs, ds, ps, h => by
    cases vs with
    | nil => exact h.elim
    | cons v vs =>
      cases ds with
      | nil => exact h.elim
      | cons d ds =>
        obtain ⟨p, q, ⟨m, h1⟩, h2, _⟩ := h
        exact ⟨d, ds, rfl, typD_of N m t _ d p h1, typArgs ts vs ds q h2⟩
/-- THE ROW OF A LAW: whatever the arguments, it says true; so the executor. -/
theorem contract_trueC {C : Checked} {cf : FuncId → List Value → AH → Option (Value × AH)} {f : FuncId} {fn : Func} {s : ChangeSpec} {apart fresh handsOn : Bool} {G N : Nat} (S : Static C.prog G) {vars : List (String × DataW Unit)} (hG : G = vars.length)
    {h0 : AH} (hcf : RoAll h0 → WF h0 → h0.next = G → CallsOK C.prog G cf) (hv : layVars C.prog N vars hNil = some h0) {tb : TypeId} (hrt : fn.resultTypes = #[tb]) (htb : C.prog.underlying tb = some .bool) (hts : (fn.params.toList.all fun t => C.prog.readableRec t && decide (t < C.prog.types.size)) = true)
    (hsv : s.vars = []) (hfn : ∀ ds : List (DataW H), ds.length = fn.params.size → s.fn H ds = { results := [.lit (.bool true)], args := ds })
    (pure : ∀ ds : List (DataW H), AllT (typD C.prog N) fn.params.toList ds → ∃ avs h1 h2, layArgs C.prog N fn.params.toList ds h0 = some (avs, h1) ∧ cf f avs h1 = some (.bool true, h2)) 
    (W : World) (b : Nat) (args : Array Value) (ds gs : List (DataW H)) (before : List MemPlace) (hval : ∀ (j : Nat) t v, fn.params[j]? = some t → args[j]? = some v → Value.okWide C.prog W .any b t v)
    (hW : DataW.Whole enc C.prog fn.params.toList s.vars apart W args.toList ds gs before) {qs : List MemPlace} (hL : DataW.LaidVars C.prog W vars qs) :
    Calls C.prog f args W fun e W' => ∃ v, e = .returned v ∧ s.post enc C.prog fn apart fresh handsOn false W args v W' := by
  have hW' := hW
  obtain ⟨p, q, hA, hV, rfl, hfz, hnd⟩ := hW
  rw [hsv] at hV
  have hgq : gs = [] ∧ q = [] := by
    cases gs with
    | nil => exact ⟨rfl, hV⟩
    | cons g r => exact absurd hV (by intro h; cases h)
  obtain ⟨rfl, rfl⟩ := hgq
  obtain ⟨avs, h1, h2, ha, hr⟩ := pure ds (typArgs _ _ _ _ hA)
  have hlen : ds.length = fn.params.size := by
    have key : ∀ (ts : List TypeId) (vs : List Value) (ds : List (DataW H)) (ps : List MemPlace), DataW.TrodAll enc C.prog W 0 (fun _ => true) true ts vs ds ps → ds.length = ts.length := by
      intro ts
      induction ts with
      | nil =>
        intro vs ds ps h
        cases vs with
        | cons _ _ => exact h.elim
        | nil =>
          cases ds with
          | cons _ _ => exact h.elim
          | nil => rfl
      | cons t ts ih =>
        intro vs ds ps h
        cases vs with
        | nil => exact h.elim
        | cons v vs =>
          cases ds with
          | nil => exact h.elim
          | cons d ds =>
            obtain ⟨p, q, _, h2, _⟩ := h
            exact congrArg Nat.succ (ih vs ds q h2)
    exact (key _ _ _ _ hA).trans Array.length_toList
  refine (law_callsC hL hA (fun j t v ht hv => hval j t v (by rw [← Array.getElem?_toList]; exact ht) hv) hcf hv hG ha hr).mono ?_
  rintro e W' ⟨vc, ι', rfl, hvr, hst⟩
  obtain rfl := hvr.bool_inv
  have hf := hfn ds hlen
  refine ⟨_, rfl, ds, [], p ++ [], [], p, [], hW', ?_, ?_, ?_, hst.frame _, fun h => by cases h⟩
  · rw [List.append_nil, hf, hrt]
    exact ⟨[], [], ⟨1, by unfold DataW.trod; rw [htb]; rfl⟩, rfl, rfl⟩
  · rw [List.append_nil, hf]
    exact Stays.trodAll S.laid hst _ _ _ _ hts hA
  · rw [List.append_nil, hf, hsv]
    rfl
end Go.Proofs.YtgjcephjhahliaaGreatDoor.X
namespace Go.Proofs.YtgjcephjhahliaaGreatDoor.X
open Go Go.Proofs
variable {P : Program} {G : Nat}
/-- What is old is as it was. -/
def OldAs (h0 h : AH) : Prop := ∀ β, β < h0.next → h.blks.get β = h0.blks.get β ∧ h.grps.get β = h0.grps.get β
/-- The executor, the function fa answering true at once. -/
 noncomputable def withA (cf : FuncId → List Value → AH → Option (Value × AH)) (fa : FuncId) (h0 : AH) : FuncId → List Value → AH → Option (Value × AH) :=
  fun f args h => open Classical in if f = fa ∧ args = [] ∧ OldAs h0 h then some (.bool true, h) else cf f args h
theorem withA_yes {cf : FuncId → List Value → AH → Option (Value × AH)} {fa : FuncId} {h0 h : AH} (ho : OldAs h0 h) : withA cf fa h0 fa [] h = some (.bool true, h) := if_pos ⟨rfl, rfl, ho⟩
theorem withA_no {cf : FuncId → List Value → AH → Option (Value × AH)} {fa f : FuncId} {h0 h : AH} {args : List Value} (hf : f ≠ fa) : withA cf fa h0 f args h = cf f args h := if_neg fun h => hf h.1
theorem withA_body {cf : FuncId → List Value → AH → Option (Value × AH)} {fa : FuncId} {h0 : AH} (hb : HasBody P cf) (hfa : ∃ fn, P.funcs[fa]? = some fn ∧ fn.body.isSome = true) : HasBody P (withA cf fa h0) := by
  intro f args h r hr
  unfold withA at hr
  split at hr
  · rename_i e
    rw [e.1]
    exact hfa
  · exact hb f args h r hr
theorem withA_mild {cf : FuncId → List Value → AH → Option (Value × AH)} {fa : FuncId} {h0 : AH} (hb : CallsMild cf) : CallsMild (withA cf fa h0) := by
  intro f args h v h' H hr
  unfold withA at hr
  split at hr
  · injection hr with hr
    injection hr with _ hr
    subst hr
    exact .refl H
  · exact hb f args h v h' H hr
theorem Rel.grown {ι : Inj} {base : Nat} {h : AH} {w w' : World} (R : Rel ι base h w) (hs : w.heap.size ≤ w'.heap.size) (hk : ∀ b, b < w.heap.size → w'.heap[b]? = w.heap[b]?) : Rel ι base h w' :=
  ⟨fun β b k hr hi => by
    obtain ⟨cs, el, fz, h1, h2⟩ := R.blk β b k hr hi
    exact ⟨cs, el, fz, (hk _ (R.dom β k hi).2).trans h1, h2⟩, R.esz, R.own, R.gle, R.dis, fun β k hi => ⟨(R.dom β k hi).1, Nat.lt_of_lt_of_le (R.dom β k hi).2 hs⟩, R.new, R.grp, Nat.le_trans R.bas hs, R.has, fun β b k hb hi hg => by
    obtain ⟨h1, es, h2, h3⟩ := R.map β b k hb hi hg
    exact ⟨h1, es, (hk _ (R.dom β k hi).2).trans h2, h3⟩⟩
theorem cRel.plain {ι ι' : Inj} {v vc : Value} (hp : plainC v = true) (h : cRel ι v vc) : cRel ι' v vc := by
  cases h with
  | atom h => cases h with
    | bool b => exact .atom (.bool b)
    | int k n => exact .atom (.int k n)
    | string s => exact .atom (.string s)
    | pnil => exact .atom .pnil
    | snil => exact .atom .snil
    | fnil => exact .atom .fnil
    | inil => exact .atom .inil
    | mnil => exact .atom .mnil
    | ptr a c h => simp [plainC] at hp
    | slice a c n c1 c2 h => simp [plainC] at hp
    | map β n k h e => simp [plainC] at hp
  | func fn f f' c c' hf hc => simp [plainC] at hp
theorem allR_plain {ι ι' : Inj} : ∀ {l l' : List Value}, (l.all plainC) = true → AllR (cRel ι) l l' → AllR (cRel ι') l l'
  | [], [], _, _ => trivial
  | x :: l, y :: l', hp, h => by
    rw [List.all_cons, Bool.and_eq_true] at hp
    exact ⟨h.1.plain hp.1, allR_plain hp.2 h.2⟩
  | [], _ :: _, _, h => h.elim
  | _ :: _, [], _, h => h.elim
theorem withA_ok {cf cg : FuncId → List Value → AH → Option (Value × AH)} {fa : FuncId} {h0 h0' : AH} (hcf : CallsOK P G cf) (hcg : CallsOK P G cg) (hro : RoAll h0) (hpl : ∀ β b, h0.blks.get β = some b → (b.cells.all plainC) = true) (hW : WF h0) (hG : h0.next = G) (hr : cg fa [] h0 = some (.bool true, h0')) : CallsOK P G (withA cf fa h0) := by
  intro f args h v h' hv ι base w argsc R hGOK ha
  unfold withA at hv
  split at hv
  · rename_i e
    obtain ⟨e1, e2, ho⟩ := e
    subst e2
    injection hv with hv
    injection hv with hv1 hv2
    subst hv1
    subst hv2
    have hgl : ∀ β b, h0.blks.get β = some b → b.grp < h0.next := fun β b hb => Nat.lt_of_le_of_lt (hW.gle β b hb) (hW.lt hb)
    have dm : ∀ β k, (if β < G then ι β else none) = some k → β < G ∧ ι β = some k := fun β k hk => by
      by_cases hb : β < G
      · rw [if_pos hb] at hk
        exact ⟨hb, hk⟩
      · rw [if_neg hb] at hk
        cases hk
    have R0 : Rel (fun β => if β < G then ι β else none) w.heap.size h0 w := by
      refine ⟨fun β b k hb hk => ?_, fun β b k hb hk => ?_, fun β b k hb hk he => ?_, hW.gle, fun β β' b b' k k' hb hb' _ _ _ he => ?_, fun β k hk => ?_, hW.new, hgl, Nat.le_refl _, fun β k hk => ?_, fun β b k hb hk hg => ?_⟩
      · obtain ⟨h1, h2⟩ := dm β k hk
        have hg := (rd_get hb).1
        have hr1 : h.rd β = some b := by
          refine rd_of ((ho β (by omega)).1.trans hg) ?_
          have := (rd_get hb).2
          unfold AH.members at this ⊢
          rw [(ho b.grp (hgl β b hg)).2]
          exact this
        obtain ⟨cs, el, fz, q1, q2, q3, l, q4, q5⟩ := R.blk β b k hr1 h2
        exact ⟨cs, el, fz, q1, q2, fun he => (by rw [hro β b hg] at he; cases he), l, q4, allR_plain (hpl β b hg) q5⟩
      · obtain ⟨h1, h2⟩ := dm β k hk
        exact R.esz β b k ((ho β (by omega)).1.trans hb) h2
      · rw [hro β b hb] at he
        cases he
      · rcases he with he | he
        · rw [hro β b hb] at he
          cases he
        · rw [hro β' b' hb'] at he
          cases he
      · obtain ⟨h1, h2⟩ := dm β k hk
        exact ⟨by omega, (R.dom β k h2).2⟩
      · obtain ⟨h1, h2⟩ := dm β k hk
        obtain ⟨b, hb⟩ := R.has β k h2
        exact ⟨b, (ho β (by omega)).1.symm.trans hb⟩
      · obtain ⟨h1, h2⟩ := dm β k hk
        have := (R.map β b k ((ho β (by omega)).1.trans hb) h2 ((ho b.grp (hgl β b hb)).2.trans hg)).1.2
        rw [hro β b hb] at this
        cases this
    have G0 : GOK G (fun β => if β < G then ι β else none) := fun g hg => by
      obtain ⟨k, h1, h2⟩ := hGOK g hg
      exact ⟨k, (if_pos hg).trans h1, h2⟩
    rw [e1]
    refine (hcg fa [] h0 _ _ hr _ w.heap.size w argsc R0 G0 (by
      cases e : argsc.toList with
      | nil => trivial
      | cons x l =>
        rw [e] at ha
        exact ha.elim)).mono ?_
    rintro e w' ⟨vc, ι', rfl, q1, q2, q3, q4, q5⟩
    have hvc : vRel ι (.bool true) vc := by
      have : vc = .bool true := by
        cases q1 with
        | one q => cases q with
          | cell q => cases q with
            | atom q => cases q; rfl
      rw [this]
      exact plainV_rel rfl
    exact ⟨vc, ι, rfl, hvc, R.grown q4.1 (fun b hb => q4.2.1 b hb (.inl hb)), Ext.refl _ _ _, ⟨q4.1, fun b hb _ => q4.2.1 b hb (.inl hb), q4.2.2⟩, Nat.le_refl _⟩
  · exact hcf f args h v h' hv ι base w argsc R hGOK ha
end Go.Proofs.YtgjcephjhahliaaGreatDoor.X
