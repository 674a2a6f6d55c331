/- Joined texts: XB. -/
import Derived.LoopN
import Derived.Orders
import Derived.ChangeArms
import Derived.OpenShut
import Derived.ChangeOld
import Derived.Carry
import Derived.LaidLaws
import Derived.SizedLaws
import Derived.Test.YtiadfnedbbkojaaDoorXA
namespace Go.Proofs.YtiadfnedbbkojaaDoor.X
open Go
variable {P : Program} {G : Nat}
/-- What is known in the middle of a function. -/
structure St (P : Program) (G nt : Nat) (ι : Inj) (base : Nat) (h : AH) (w : World) (e : Tr Value) (a : Act) : Prop where
  rel : Rel ι base h w
  env : relE ι e a.tmps
  dfr : a.defers = []
  glb : GOK G ι
  siz : nt ≤ a.tmps.size
theorem relE.mono {ι ι' : Inj} (hs : Sub ι ι') {e : Tr Value} {t : Array Value} (E : relE ι e t) : relE ι' e t := fun i => (E i).mono hs
theorem relE.put {ι : Inj} {e : Tr Value} {a : Act} (E : relE ι e a.tmps) {d : Option Tmp} (hd : ∀ t, d = some t → t < a.tmps.size) {v vc : Value} (hv : vRel ι v vc) : relE ι (putE e d v) (a.put d vc).tmps := by
  cases d with
  | none => exact E
  | some t =>
    intro i
    have ht := hd t rfl
    show vRel ι (((e.set t v).get i).getD undef) ((a.tmps.setIfInBounds t vc).getD i undef)
    rw [Tr.get_set]
    by_cases hi : i = t
    · subst hi
      rw [if_pos rfl]
      have : (a.tmps.setIfInBounds i vc).getD i undef = vc := by
        simp [Array.getD, ht]
      rw [this]
      exact hv
    · rw [if_neg hi]
      have : (a.tmps.setIfInBounds t vc).getD i undef = a.tmps.getD i undef := by
        simp only [Array.getD_eq_getD_getElem?]
        rw [Array.getElem?_setIfInBounds_ne (Ne.symm hi)]
      rw [this]
      exact E i
theorem put_size (a : Act) (d : Option Tmp) (v : Value) : (a.put d v).tmps.size = a.tmps.size := by
  cases d with
  | none => rfl
  | some t => simp [Act.put]
theorem put_defers (a : Act) (d : Option Tmp) (v : Value) : (a.put d v).defers = a.defers := by
  cases d <;> rfl
def operOK (nt G : Nat) (o : Oper) : Bool := (match o.dst with | some d => Nat.blt d nt | none => true) && o.op.operands.toList.all (opdOK G)
theorem operOK_dst {nt : Nat} {o : Oper} (h : operOK nt G o = true) : ∀ t, o.dst = some t → t < nt := by
  intro t ht
  unfold operOK at h
  rw [Bool.and_eq_true, ht] at h
  exact Nat.le_of_ble_eq_true h.1
theorem operOK_ops {nt : Nat} {o : Oper} (h : operOK nt G o = true) : o.op.operands.toList.all (opdOK G) = true := by
  unfold operOK at h
  rw [Bool.and_eq_true] at h
  exact h.2
theorem bool_of_rel {ι : Inj} {x : Value} {b : Bool} (h : vRel ι x (.bool b)) : x = .bool b := by
  cases h with
  | one h => cases h with
    | cell h => cases h with
      | atom h =>
        cases h
        rfl
theorem want_same {ι : Inj} {e : Tr Value} {t : Array Value} (E : relE ι e t) (ops : Array Oper) (o : Oper) : Region.wanted o (yielded ops t) = wantE ops o e := by
  unfold Region.wanted wantE
  cases o.guard with
  | none => rfl
  | some p =>
    obtain ⟨j, wt⟩ := p
    simp only [yielded]
    rw [← Array.getElem?_toList]
    cases (ops.toList[j]?).bind (·.dst) with
    | none => rfl
    | some d =>
      have hd := E d
      rw [Array.getD_eq_getD_getElem?] at hd
      simp only [Option.bind_some, Option.map_some]
      cases htd : t[d]? with
      | none =>
        rw [htd] at hd
        have hd : vRel ι ((e.get d).getD undef) undef := hd
        generalize (e.get d).getD undef = y at hd
        cases hd with
        | one h => cases h with
          | cell h => cases h with
            | atom h => cases h
        | tuple _ _ _ => rfl
      | some y =>
        rw [htd] at hd
        have hd : vRel ι ((e.get d).getD undef) y := hd
        generalize (e.get d).getD undef = x at hd
        cases x with
        | bool b =>
          obtain rfl := hd.bool_inv
          simp
        | _ => cases y <;> first | rfl | exact absurd (bool_of_rel hd) (by simp)
/-- What the run of a piece of code leaves. -/
def Post (P : Program) (G nt : Nat) (ι : Inj) (base : Nat) (h : AH) (w : World) (e' : Tr Value) (h' : AH) (a' : Act) (w' : World) : Prop :=
  ∃ ι', St P G nt ι' base h' w' e' a' ∧ Ext h.next w ι ι' ∧ Keep base ι w w' ∧ h.next ≤ h'.next
theorem Post.refl {nt base : Nat} {ι : Inj} {h : AH} {w : World} {e : Tr Value} {a : Act} (S : St P G nt ι base h w e a) : Post P G nt ι base h w e h a w :=
  ⟨ι, S, Ext.refl _ _ _, Keep.refl _ _ _, Nat.le_refl _⟩
theorem Post.trans {nt base : Nat} {ι ι1 : Inj} {h h1 h2 : AH} {w w1 w2 : World} {e2 : Tr Value} {a2 : Act} (E : Ext h.next w ι ι1) (K : Keep base ι w w1) (N : h.next ≤ h1.next) (p : Post P G nt ι1 base h1 w1 e2 h2 a2 w2) : Post P G nt ι base h w e2 h2 a2 w2 := by
  obtain ⟨ι2, S2, E2, K2, N2⟩ := p
  exact ⟨ι2, S2, E.trans E2 N K.1, K.trans E K2, Nat.le_trans N N2⟩
variable {cf : FuncId → List Value → AH → Option (Value × AH)}
def HasBody (P : Program) (cf : FuncId → List Value → AH → Option (Value × AH)) : Prop := ∀ f args h r, cf f args h = some r → ∃ fn, P.funcs[f]? = some fn ∧ fn.body.isSome = true
/-- One operation, from state to state. -/
theorem op_step (hN : namesOK P = true) (hcf : CallsOK P G cf) (hfn : HasBody P cf) {nt base : Nat} {ι : Inj} {h : AH} {w : World} {e : Tr Value} {a : Act} (S : St P G nt ι base h w e a) {o : Oper} (hok : operOK nt G o = true)
    {v : Value} {h' : AH} (hv : opV P cf o.op e h = some (v, h')) {next : Act → World → Prop} {Q : Exit → Act → World → Prop}
    (hn : ∀ a' w' ι', St P G nt ι' base h' w' (putE e o.dst v) a' → Ext h.next w ι ι' → Keep base ι w w' → h.next ≤ h'.next → next a' w') : o.wp P a w next Q := by
  refine opV_sound hN hcf hfn S.rel S.glb S.env (operOK_ops hok) hv fun vc ι' w' hvr R' E' K' N' => hn _ w' ι' ⟨R', ?_, ?_, ?_, ?_⟩ E' K' N'
  · have hs := E'.sub fun β k hk => (S.rel.dom β k hk).1
    exact (S.env.mono hs).put (fun t ht => Nat.lt_of_lt_of_le (operOK_dst hok t ht) S.siz) hvr
  · rw [put_defers]
    exact S.dfr
  · exact S.glb.mono (E'.sub fun β k hk => (S.rel.dom β k hk).1)
  · rw [put_size]
    exact S.siz
theorem St.undef {nt base : Nat} {ι : Inj} {h : AH} {w : World} {e : Tr Value} {a : Act} (S : St P G nt ι base h w e a) {o : Oper} (hok : operOK nt G o = true) : St P G nt ι base h w (putE e o.dst undef) (a.put o.dst undef) :=
  ⟨S.rel, S.env.put (fun t ht => Nat.lt_of_lt_of_le (operOK_dst hok t ht) S.siz) vRel.undef, by rw [put_defers]; exact S.dfr, S.glb, by rw [put_size]; exact S.siz⟩
/-- A list of operations, one after another. -/
theorem ops_step (hN : namesOK P = true) (hcf : CallsOK P G cf) (hfn : HasBody P cf) {nt base : Nat} {ops : Array Oper} {Q : Exit → Act → World → Prop} :
    ∀ (l : List Oper) {ι : Inj} {h : AH} {w : World} {e e' : Tr Value} {h' : AH} {a : Act}, St P G nt ι base h w e a → l.all (operOK nt G) = true → opsV P cf ops l e h = some (e', h') →
      (∀ a' w', Post P G nt ι base h w e' h' a' w' → Q .normal a' w') → wpList P ops Q l a w
  | [], ι, h, w, e, e', h', a, S, _, hv, hq => by
    obtain ⟨rfl, rfl⟩ := Prod.mk.inj (Option.some.inj hv)
    exact hq a w (Post.refl S)
  | o :: l, ι, h, w, e, e', h', a, S, hok, hv, hq => by
    rw [List.all_cons, Bool.and_eq_true] at hok
    have hv' : cond (wantE ops o e) ((opV P cf o.op e h).bind fun p => opsV P cf ops l (putE e o.dst p.1) p.2) (opsV P cf ops l (putE e o.dst undef) h) = some (e', h') := hv
    unfold wpList
    rw [want_same S.env]
    cases hw : wantE ops o e with
    | true =>
      rw [hw] at hv'
      rw [if_pos rfl]
      left
      obtain ⟨⟨v, h1⟩, hp, hv1⟩ := Option.bind_eq_some_iff.1 hv'
      refine op_step hN hcf hfn S hok.1 hp fun a1 w1 ι1 S1 E1 K1 N1 => ?_
      exact ops_step hN hcf hfn l S1 hok.2 hv1 fun a' w' p => hq a' w' (p.trans E1 K1 N1)
    | false =>
      rw [hw] at hv'
      rw [if_neg (by decide)]
      exact ops_step hN hcf hfn l (S.undef hok.1) hok.2 hv' hq
end Go.Proofs.YtiadfnedbbkojaaDoor.X
namespace Go.Proofs.YtiadfnedbbkojaaDoor.X
open Go
structure WF (h : AH) : Prop where
  gle : ∀ β b, h.blks.get β = some b → b.grp ≤ β
  new : ∀ β, h.next ≤ β → h.blks.get β = none ∧ h.grps.get β = none
structure Mild (h h' : AH) : Prop where
  nxt : h.next ≤ h'.next
  low : h'.low ≤ h.low
  old : ∀ n, n ≤ h.next → n ≤ h'.low → ∀ β, β < n → h'.blks.get β = h.blks.get β ∧ h'.grps.get β = h.grps.get β
  neu : ∀ β b, h'.blks.get β = some b → (∃ b0, h.blks.get β = some b0 ∧ b0.grp = b.grp ∧ b0.ro = b.ro) ∨ (h.next ≤ β ∧ b.ro = false ∧ ∀ n, n ≤ h.next → n ≤ h'.low → n ≤ b.grp)
  wf : WF h'
variable {h h' h1 h2 : AH}
theorem WF.lt (H : WF h) {β : Nat} {b : ABlk} (e : h.blks.get β = some b) : β < h.next := by
  rcases Nat.lt_or_ge β h.next with hl | hl
  · exact hl
  · rw [(H.new β hl).1] at e
    cases e
theorem Mild.refl (H : WF h) : Mild h h := ⟨Nat.le_refl _, Nat.le_refl _, fun _ _ _ _ _ => ⟨rfl, rfl⟩, fun _ b hb => .inl ⟨b, hb, rfl, rfl⟩, H⟩
theorem Mild.trans (M : Mild h h1) (K : Mild h1 h2) : Mild h h2 := by
  refine ⟨Nat.le_trans M.nxt K.nxt, Nat.le_trans K.low M.low, fun n h1' h2' β hb => ?_, fun β b hb => ?_, K.wf⟩
  · obtain ⟨g1, g2⟩ := K.old n (Nat.le_trans h1' M.nxt) h2' β hb
    obtain ⟨g3, g4⟩ := M.old n h1' (Nat.le_trans h2' K.low) β hb
    exact ⟨g1.trans g3, g2.trans g4⟩
  · rcases K.neu β b hb with ⟨b0, g1, g2, g3⟩ | ⟨g1, g2, g3⟩
    · rcases M.neu β b0 g1 with ⟨b1, q1, q2, q3⟩ | ⟨q1, q2, q3⟩
      · exact .inl ⟨b1, q1, q2.trans g2, q3.trans g3⟩
      · exact .inr ⟨q1, g3 ▸ q2, fun n a b => g2 ▸ q3 n a (Nat.le_trans b K.low)⟩
    · exact .inr ⟨Nat.le_trans M.nxt g1, g2, fun n a b => g3 n (Nat.le_trans a M.nxt) b⟩
theorem WF.setLow (H : WF h) (x : Nat) : WF { h with low := x } := ⟨H.gle, H.new⟩
theorem cond_lt_le (a b : Nat) : cond (Nat.blt a b) a b ≤ a ∧ cond (Nat.blt a b) a b ≤ b := by
  cases e : Nat.blt a b with
  | true => exact ⟨Nat.le_refl _, Nat.le_of_lt (Nat.le_of_ble_eq_true e)⟩
  | false =>
    refine ⟨?_, Nat.le_refl _⟩
    rcases Nat.lt_or_ge a b with hl | hl
    · have : Nat.blt a b = true := Nat.ble_eq_true_of_le hl
      rw [e] at this
      cases this
    · exact hl
theorem Mild.new (H : WF h) (cells : List Value) (z : Nat) : Mild h (h.new cells z).2 := by
  refine ⟨Nat.le_succ _, Nat.le_refl _, fun n hn _ β hb => ⟨?_, rfl⟩, fun β b hb => ?_, ?_, ?_⟩
  · rw [new_get, if_neg (by omega)]
  · rw [new_get] at hb
    split at hb
    · rename_i e
      injection hb with hb
      subst hb
      exact .inr ⟨Nat.le_of_eq e.symm, rfl, fun n hn _ => hn⟩
    · exact .inl ⟨b, hb, rfl, rfl⟩
  · intro β b hb
    rw [new_get] at hb
    split at hb
    · rename_i e
      injection hb with hb
      subst hb
      exact Nat.le_of_eq e.symm
    · exact H.gle β b hb
  · intro β hβ
    have hβ : h.next + 1 ≤ β := hβ
    rw [new_get, if_neg (by omega)]
    exact H.new β (by omega)
theorem Mild.wr (H : WF h) {β : Nat} {b : ABlk} {cs : List Value} (hr : h.rd β = some b) (hw : h.wr β b cs = some h') : Mild h h' := by
  obtain ⟨hro, hnx, hblk, hgrp, _⟩ := wr_tells hr hw
  have hg := (rd_get hr).1
  have hlt := H.lt hg
  have hle := H.gle _ _ hg
  have hlow : h'.low ≤ b.grp ∧ h'.low ≤ h.low := by
    unfold AH.wr at hw
    rw [hro] at hw
    injection hw with hw
    subst hw
    exact cond_lt_le _ _
  refine ⟨Nat.le_of_eq hnx.symm, hlow.2, fun n hn hl γ hγ => ⟨?_, hgrp γ (by omega)⟩, fun γ c hc => .inl ?_, ?_, ?_⟩
  · rw [hblk, if_neg (by omega)]
  · rw [hblk] at hc
    split at hc
    · rename_i e
      injection hc with hc
      subst hc
      exact ⟨b, e ▸ hg, rfl, rfl⟩
    · exact ⟨c, hc, rfl, rfl⟩
  · intro γ c hc
    rw [hblk] at hc
    split at hc
    · rename_i e
      injection hc with hc
      subst hc
      exact e ▸ hle
    · exact H.gle γ c hc
  · intro γ hγ
    rw [hnx] at hγ
    rw [hblk, if_neg (by omega), hgrp γ (by omega)]
    exact H.new γ hγ
theorem Mild.grow (H : WF h) {β : Nat} {b : ABlk} (hr : h.rd β = some b) (cells : List Value) (z : Nat) (kp : Bool) : Mild h (h.grow β b.grp cells z kp) := by
  have hg := (rd_get hr).1
  have hlt := H.lt hg
  have hle := H.gle _ _ hg
  have hblk : ∀ γ, (h.grow β b.grp cells z kp).blks.get γ = if γ = h.next then some ⟨cells, z, b.grp, false⟩ else h.blks.get γ := fun γ => Tr.get_set _ _ _ _
  have hgrp : ∀ γ, γ ≠ b.grp → (h.grow β b.grp cells z kp).grps.get γ = h.grps.get γ := fun γ e => by
    show (h.grps.set b.grp _).get γ = _
    rw [Tr.get_set, if_neg e]
  have hlow := cond_lt_le b.grp h.low
  refine ⟨Nat.le_succ _, hlow.2, fun n hn hl γ hγ => ⟨?_, hgrp γ ?_⟩, fun γ c hc => ?_, ?_, ?_⟩
  · rw [hblk, if_neg (by omega)]
  · have : n ≤ b.grp := Nat.le_trans hl hlow.1
    omega
  · rw [hblk] at hc
    split at hc
    · rename_i e
      injection hc with hc
      subst hc
      exact .inr ⟨Nat.le_of_eq e.symm, rfl, fun n _ hl => Nat.le_trans hl hlow.1⟩
    · exact .inl ⟨c, hc, rfl, rfl⟩
  · intro γ c hc
    rw [hblk] at hc
    split at hc
    · rename_i e
      injection hc with hc
      subst hc
      show b.grp ≤ γ
      omega
    · exact H.gle γ c hc
  · intro γ hγ
    have hγ : h.next + 1 ≤ γ := hγ
    rw [hblk, if_neg (by omega), hgrp γ (by omega)]
    exact H.new γ (by omega)
variable {P : Program} {cf : FuncId → List Value → AH → Option (Value × AH)}
theorem storeV_mild (H : WF h) {t : TypeId} {x v : Value} (hv : storeV P t x v h = some h') : Mild h h' := by
  unfold storeV at hv
  split at hv
  · obtain ⟨b, hb, hv⟩ := Option.bind_eq_some_iff.1 hv
    obtain ⟨s, hs, hv⟩ := Option.bind_eq_some_iff.1 hv
    obtain ⟨vs, hvs, hv⟩ := Option.bind_eq_some_iff.1 hv
    split at hv
    · obtain ⟨_, hv⟩ := cond_some' hv
      exact .wr H hb hv
    · cases hv
  · cases hv
theorem map_wr {a : Option AH} {v r : Value} (hv : (a.map fun x => (v, x)) = some (r, h')) : a = some h' := by
  obtain ⟨x, h1, h2⟩ := Option.map_eq_some_iff.1 hv
  injection h2 with _ h2
  rw [h1, h2]
theorem cond_either {α : Type} {c : Bool} {x y r : α} (hv : cond c x y = r) : x = r ∨ y = r := by
  cases c with
  | true => exact .inl hv
  | false => exact .inr hv
theorem appendV_mild (H : WF h) {z by_ : Nat} {s x v : Value} (hv : appendV z by_ s x h = some (v, h')) : Mild h h' := by
  unfold appendV at hv
  obtain ⟨k, hk, hv⟩ := Option.bind_eq_some_iff.1 hv
  obtain ⟨items, hi, hv⟩ := Option.bind_eq_some_iff.1 hv
  split at hv
  · rcases cond_either hv with hv | hv
    · obtain ⟨_, rfl⟩ := Prod.mk.inj (Option.some.inj hv)
      exact .refl H
    · obtain ⟨_, hv⟩ := cond_some' hv
      obtain ⟨_, rfl⟩ := Prod.mk.inj (Option.some.inj hv)
      exact .new H _ _
  · split at hv
    · cases hv
    · rcases cond_either hv with hv | hv
      · obtain ⟨_, rfl⟩ := Prod.mk.inj (Option.some.inj hv)
        exact .refl H
      · obtain ⟨_, hv⟩ := cond_some' hv
        rcases cond_either hv with hv | hv
        · rcases cond_either hv with hv | hv
          · obtain ⟨b, hb, hv⟩ := Option.bind_eq_some_iff.1 hv
            obtain ⟨_, hv⟩ := cond_some' hv
            exact .wr H hb (map_wr hv)
          · obtain ⟨o, _, hv⟩ := Option.bind_eq_some_iff.1 hv
            obtain ⟨_, rfl⟩ := Prod.mk.inj (Option.some.inj hv)
            exact .new H _ _
        · obtain ⟨b, hb, hv⟩ := Option.bind_eq_some_iff.1 hv
          rcases cond_either hv with hv | hv
          · cases hv
          · rcases cond_either hv with hv | hv
            · exact .wr H hb (map_wr hv)
            · obtain ⟨o, _, hv⟩ := Option.bind_eq_some_iff.1 hv
              obtain ⟨_, rfl⟩ := Prod.mk.inj (Option.some.inj hv)
              exact .grow H hb _ _ _
  · cases hv
theorem copyV_mild (H : WF h) {z : Nat} {d x v : Value} (hv : copyV z d x h = some (v, h')) : Mild h h' := by
  unfold copyV at hv
  split at hv
  · obtain ⟨k, hk, hv⟩ := Option.bind_eq_some_iff.1 hv
    obtain ⟨items, hi, hv⟩ := Option.bind_eq_some_iff.1 hv
    rcases cond_either hv with hv | hv
    · obtain ⟨_, rfl⟩ := Prod.mk.inj (Option.some.inj hv)
      exact .refl H
    · split at hv
      · split at hv
        · obtain ⟨b, hb, hv⟩ := Option.bind_eq_some_iff.1 hv
          obtain ⟨_, hv⟩ := cond_some' hv
          exact .wr H hb (map_wr hv)
        · cases hv
      · cases hv
  · cases hv
theorem same_mild (H : WF h) {a : Option Value} {v : Value} (hv : (a.map fun x => (x, h)) = some (v, h')) : Mild h h' := by
  obtain ⟨x, _, h2⟩ := Option.map_eq_some_iff.1 hv
  injection h2 with _ h2
  exact h2 ▸ .refl H
theorem builtinV_mild (H : WF h) {b : Builtin} {ats : List TypeId} {args : List Value} {v : Value} (hv : builtinV P b ats args h = some (v, h')) : Mild h h' := by
  unfold builtinV at hv
  split at hv
  · obtain ⟨_, _, hv⟩ := Option.bind_eq_some_iff.1 hv
    obtain ⟨_, _, hv⟩ := Option.bind_eq_some_iff.1 hv
    split at hv
    · obtain ⟨_, _, hv⟩ := Option.bind_eq_some_iff.1 hv
      obtain ⟨_, _, hv⟩ := Option.bind_eq_some_iff.1 hv
      obtain ⟨_, _, hv⟩ := Option.bind_eq_some_iff.1 hv
      obtain ⟨_, _, hv⟩ := Option.bind_eq_some_iff.1 hv
      rcases cond_either hv with hv | hv
      · cases hv
      · exact appendV_mild H hv
    · obtain ⟨_, _, hv⟩ := Option.bind_eq_some_iff.1 hv
      obtain ⟨_, _, hv⟩ := Option.bind_eq_some_iff.1 hv
      obtain ⟨_, _, hv⟩ := Option.bind_eq_some_iff.1 hv
      obtain ⟨_, _, hv⟩ := Option.bind_eq_some_iff.1 hv
      rcases cond_either hv with hv | hv
      · cases hv
      · exact appendV_mild H hv
    · cases hv
  · obtain ⟨_, _, hv⟩ := Option.bind_eq_some_iff.1 hv
    split at hv <;> first | cases hv; done | (obtain ⟨_, rfl⟩ := Prod.mk.inj (Option.some.inj hv); exact .refl H)
  · exact same_mild H hv
  · exact same_mild H hv
  · obtain ⟨_, _, hv⟩ := Option.bind_eq_some_iff.1 hv
    split at hv
    · obtain ⟨_, _, hv⟩ := Option.bind_eq_some_iff.1 hv
      exact copyV_mild H hv
    · cases hv
  · cases hv
def CallsMild (cf : FuncId → List Value → AH → Option (Value × AH)) : Prop := ∀ f args h v h', WF h → cf f args h = some (v, h') → Mild h h'
theorem opV_mild (hcf : CallsMild cf) (H : WF h) {o : Op} {e : Tr Value} {v : Value} (hv : opV P cf o e h = some (v, h')) : Mild h h' := by
  have same : ∀ {x : Value}, some (x, h) = some (v, h') → Mild h h' := fun hv => by
    obtain ⟨_, rfl⟩ := Prod.mk.inj (Option.some.inj hv)
    exact .refl H
  cases o with
  | move x => exact same hv
  | assign x => exact same hv
  | pick c a b =>
    have hv' : (match ev e c with | .bool t => some (cond t (ev e a) (ev e b), h) | _ => none) = some (v, h') := hv
    split at hv'
    · exact same hv'
    · cases hv'
  | alloc t =>
    obtain ⟨_, _, hv⟩ := Option.bind_eq_some_iff.1 hv
    obtain ⟨_, _, hv⟩ := Option.bind_eq_some_iff.1 hv
    obtain ⟨_, hv⟩ := cond_some' hv
    obtain ⟨_, rfl⟩ := Prod.mk.inj (Option.some.inj hv)
    exact .new H _ _
  | box t x =>
    obtain ⟨_, _, hv⟩ := Option.bind_eq_some_iff.1 hv
    obtain ⟨_, rfl⟩ := Prod.mk.inj (Option.some.inj hv)
    exact .new H _ _
  | build t ps =>
    obtain ⟨z, _, hv⟩ := Option.bind_eq_some_iff.1 hv
    obtain ⟨d, _, hv⟩ := Option.bind_eq_some_iff.1 hv
    split at hv
    · obtain ⟨_, _, hv⟩ := Option.bind_eq_some_iff.1 hv
      obtain ⟨_, hv⟩ := cond_some' hv
      obtain ⟨_, _, hv⟩ := Option.bind_eq_some_iff.1 hv
      obtain ⟨_, _, h2⟩ := Option.map_eq_some_iff.1 hv
      injection h2 with _ h2
      exact h2 ▸ .refl H
    · obtain ⟨_, _, hv⟩ := Option.bind_eq_some_iff.1 hv
      obtain ⟨_, hv⟩ := cond_some' hv
      obtain ⟨_, _, hv⟩ := Option.bind_eq_some_iff.1 hv
      obtain ⟨_, _, h2⟩ := Option.map_eq_some_iff.1 hv
      injection h2 with _ h2
      exact h2 ▸ .refl H
    · cases hv
  | buildSlice t n ps =>
    obtain ⟨d, _, hv⟩ := Option.bind_eq_some_iff.1 hv
    split at hv
    · obtain ⟨_, _, hv⟩ := Option.bind_eq_some_iff.1 hv
      obtain ⟨_, _, hv⟩ := Option.bind_eq_some_iff.1 hv
      obtain ⟨_, _, hv⟩ := Option.bind_eq_some_iff.1 hv
      obtain ⟨_, hv⟩ := cond_some' hv
      obtain ⟨_, _, h2⟩ := Option.map_eq_some_iff.1 hv
      injection h2 with _ h2
      exact h2 ▸ .new H _ _
    · cases hv
  | load t x => exact same_mild H hv
  | store t x y =>
    obtain ⟨_, h1, h2⟩ := Option.map_eq_some_iff.1 hv
    injection h2 with _ h2
    exact h2 ▸ storeV_mild H h1
  | nilCheck x =>
    have hv' : (match ev e x with | .pointer none | .nilIface | .nilFunc => none | .func (.method _) _ _ => none | v => some (v, h)) = some (v, h') := hv
    split at hv' <;> first | cases hv'; done | exact same hv'
  | binOp op t x y yt => exact same_mild H hv
  | unOp op t x => exact same_mild H hv
  | convert s d x => exact same_mild H hv
  | slice t x lo hi mx => exact same_mild H hv
  | fieldAddr s x f => exact same_mild H hv
  | field s x f => exact same_mild H hv
  | indexAddr t x i => exact same_mild H hv
  | index t x i => exact same_mild H hv
  | extract x i => exact same_mild H hv
  | makeSlice t n c =>
    obtain ⟨d, _, hv⟩ := Option.bind_eq_some_iff.1 hv
    split at hv
    · obtain ⟨_, _, hv⟩ := Option.bind_eq_some_iff.1 hv
      obtain ⟨_, _, hv⟩ := Option.bind_eq_some_iff.1 hv
      obtain ⟨_, _, hv⟩ := Option.bind_eq_some_iff.1 hv
      obtain ⟨_, _, hv⟩ := Option.bind_eq_some_iff.1 hv
      obtain ⟨_, hv⟩ := cond_some' hv
      obtain ⟨_, rfl⟩ := Prod.mk.inj (Option.some.inj hv)
      exact .new H _ _
    · cases hv
  | makeFunc fn first captured =>
    obtain ⟨_, hv⟩ := cond_some' hv
    exact same hv
  | call c =>
    obtain ⟨callee, cargs, cts⟩ := c
    cases callee with
    | builtin b =>
      have hv' : builtinV P b cts.toList (cargs.toList.map (ev e)) h = some (v, h') := hv
      exact builtinV_mild H hv'
    | value f =>
      have hv' : (match ev e f with | .func (.func g) first captured => cf g (first.toList ++ (cargs.toList.map (ev e) ++ captured.toList)) h | _ => none) = some (v, h') := hv
      split at hv'
      · exact hcf _ _ _ _ _ H hv'
      · cases hv'
    | invoke r m => cases hv
  | _ => cases hv
theorem opsV_mild (hcf : CallsMild cf) {ops : Array Oper} : ∀ (l : List Oper) {h h' : AH} {e e' : Tr Value}, WF h → opsV P cf ops l e h = some (e', h') → Mild h h'
  | [], h, h', e, e', H, hv => by
    obtain ⟨_, rfl⟩ := Prod.mk.inj (Option.some.inj hv)
    exact .refl H
  | o :: l, h, h', e, e', H, hv => by
    have hv' : cond (wantE ops o e) ((opV P cf o.op e h).bind fun p => opsV P cf ops l (putE e o.dst p.1) p.2) (opsV P cf ops l (putE e o.dst undef) h) = some (e', h') := hv
    rcases cond_either hv' with hv' | hv'
    · obtain ⟨⟨v, h1⟩, hp, hv1⟩ := Option.bind_eq_some_iff.1 hv'
      have M := opV_mild hcf H hp
      exact M.trans (opsV_mild hcf l M.wf hv1)
    · exact opsV_mild hcf l H hv'
/-- One operation that turns nothing that was there. -/
def stepV (P : Program) (cf : FuncId → List Value → AH → Option (Value × AH)) (ops : Array Oper) (o : Oper) (e : Tr Value) (h : AH) : Option (Tr Value × AH) :=
  cond (wantE ops o e) (cond (quiet o.op) ((opV P cf o.op e h).bind fun p => some (putE e o.dst p.1, p.2))
    ((opV P cf o.op e { h with low := h.next }).bind fun p => cond (Nat.beq p.2.low h.next) (some (putE e o.dst p.1, { p.2 with low := h.low })) none)) (some (putE e o.dst undef, h))
structure Same (h h' : AH) : Prop where
  nxt : h.next ≤ h'.next
  old : ∀ β, β < h.next → h'.blks.get β = h.blks.get β ∧ h'.grps.get β = h.grps.get β
  neu : ∀ β b, h.next ≤ β → h'.blks.get β = some b → h.next ≤ b.grp ∧ b.ro = false
  wf : WF h'
theorem Same.refl (H : WF h) : Same h h := ⟨Nat.le_refl _, fun _ _ => ⟨rfl, rfl⟩, fun β b hl hb => absurd (H.lt hb) (by omega), H⟩
theorem Same.trans (M : Same h h1) (K : Same h1 h2) : Same h h2 := by
  refine ⟨Nat.le_trans M.nxt K.nxt, fun β hb => ?_, fun β b hl hb => ?_, K.wf⟩
  · obtain ⟨g1, g2⟩ := K.old β (Nat.lt_of_lt_of_le hb M.nxt)
    obtain ⟨g3, g4⟩ := M.old β hb
    exact ⟨g1.trans g3, g2.trans g4⟩
  · rcases Nat.lt_or_ge β h1.next with g | g
    · exact M.neu β b hl (by rw [← (K.old β g).1]; exact hb)
    · obtain ⟨g1, g2⟩ := K.neu β b g hb
      exact ⟨Nat.le_trans M.nxt g1, g2⟩
theorem Same.new (H : WF h) (cells : List Value) (z : Nat) : Same h (h.new cells z).2 := by
  have M := Mild.new H cells z
  refine ⟨Nat.le_succ _, fun β hb => ⟨?_, rfl⟩, fun β b hl hb => ?_, M.wf⟩
  · rw [new_get, if_neg (by omega)]
  · rw [new_get] at hb
    split at hb
    · injection hb with hb
      subst hb
      exact ⟨Nat.le_refl _, rfl⟩
    · exact absurd (H.lt hb) (by omega)
theorem quiet_new {o : Op} (hq : quiet o = true) {e : Tr Value} {v : Value} (hv : opV P cf o e h = some (v, h')) : h' = h ∨ ∃ cells z, h' = (h.new cells z).2 := by
  have same : ∀ {x : Value}, some (x, h) = some (v, h') → h' = h := fun hv => (Prod.mk.inj (Option.some.inj hv)).2.symm
  have mapS : ∀ {a : Option Value}, (a.map fun x => (x, h)) = some (v, h') → h' = h := fun hv => by
    obtain ⟨x, _, h2⟩ := Option.map_eq_some_iff.1 hv
    injection h2 with _ h2
    exact h2.symm
  cases o with
  | move x => exact .inl (same hv)
  | assign x => exact .inl (same hv)
  | pick c a b =>
    have hv' : (match ev e c with | .bool t => some (cond t (ev e a) (ev e b), h) | _ => none) = some (v, h') := hv
    split at hv'
    · exact .inl (same hv')
    · cases hv'
  | alloc t =>
    obtain ⟨_, _, hv⟩ := Option.bind_eq_some_iff.1 hv
    obtain ⟨_, _, hv⟩ := Option.bind_eq_some_iff.1 hv
    obtain ⟨_, hv⟩ := cond_some' hv
    exact .inr ⟨_, _, (Prod.mk.inj (Option.some.inj hv)).2.symm⟩
  | box t x =>
    obtain ⟨_, _, hv⟩ := Option.bind_eq_some_iff.1 hv
    exact .inr ⟨_, _, (Prod.mk.inj (Option.some.inj hv)).2.symm⟩
  | build t ps =>
    obtain ⟨z, _, hv⟩ := Option.bind_eq_some_iff.1 hv
    obtain ⟨d, _, hv⟩ := Option.bind_eq_some_iff.1 hv
    split at hv
    · obtain ⟨_, _, hv⟩ := Option.bind_eq_some_iff.1 hv
      obtain ⟨_, hv⟩ := cond_some' hv
      obtain ⟨_, _, hv⟩ := Option.bind_eq_some_iff.1 hv
      obtain ⟨_, _, h2⟩ := Option.map_eq_some_iff.1 hv
      injection h2 with _ h2
      exact .inl h2.symm
    · obtain ⟨_, _, hv⟩ := Option.bind_eq_some_iff.1 hv
      obtain ⟨_, hv⟩ := cond_some' hv
      obtain ⟨_, _, hv⟩ := Option.bind_eq_some_iff.1 hv
      obtain ⟨_, _, h2⟩ := Option.map_eq_some_iff.1 hv
      injection h2 with _ h2
      exact .inl h2.symm
    · cases hv
  | buildSlice t n ps =>
    obtain ⟨d, _, hv⟩ := Option.bind_eq_some_iff.1 hv
    split at hv
    · obtain ⟨_, _, hv⟩ := Option.bind_eq_some_iff.1 hv
      obtain ⟨_, _, hv⟩ := Option.bind_eq_some_iff.1 hv
      obtain ⟨_, _, hv⟩ := Option.bind_eq_some_iff.1 hv
      obtain ⟨_, hv⟩ := cond_some' hv
      obtain ⟨_, _, h2⟩ := Option.map_eq_some_iff.1 hv
      injection h2 with _ h2
      exact .inr ⟨_, _, h2.symm⟩
    · cases hv
  | load t x => exact .inl (mapS hv)
  | nilCheck x =>
    have hv' : (match ev e x with | .pointer none | .nilIface | .nilFunc => none | .func (.method _) _ _ => none | v => some (v, h)) = some (v, h') := hv
    split at hv' <;> first | cases hv'; done | exact .inl (same hv')
  | binOp op t x y yt => exact .inl (mapS hv)
  | unOp op t x => exact .inl (mapS hv)
  | convert s d x => exact .inl (mapS hv)
  | slice t x lo hi mx => exact .inl (mapS hv)
  | fieldAddr s x f => exact .inl (mapS hv)
  | field s x f => exact .inl (mapS hv)
  | indexAddr t x i => exact .inl (mapS hv)
  | index t x i => exact .inl (mapS hv)
  | extract x i => exact .inl (mapS hv)
  | makeSlice t n c =>
    obtain ⟨d, _, hv⟩ := Option.bind_eq_some_iff.1 hv
    split at hv
    · obtain ⟨_, _, hv⟩ := Option.bind_eq_some_iff.1 hv
      obtain ⟨_, _, hv⟩ := Option.bind_eq_some_iff.1 hv
      obtain ⟨_, _, hv⟩ := Option.bind_eq_some_iff.1 hv
      obtain ⟨_, _, hv⟩ := Option.bind_eq_some_iff.1 hv
      obtain ⟨_, hv⟩ := cond_some' hv
      exact .inr ⟨_, _, (Prod.mk.inj (Option.some.inj hv)).2.symm⟩
    · cases hv
  | makeFunc fn first captured =>
    obtain ⟨_, hv⟩ := cond_some' hv
    exact .inl (same hv)
  | call c =>
    obtain ⟨callee, cargs, cts⟩ := c
    cases callee with
    | builtin b =>
      have hv' : builtinV P b cts.toList (cargs.toList.map (ev e)) h = some (v, h') := hv
      unfold builtinV at hv'
      have hb : b = .len ∨ b = .max ∨ b = .min := by
        cases b <;> first | exact .inl rfl | exact .inr (.inl rfl) | exact .inr (.inr rfl) | cases hq
      split at hv'
      · rcases hb with hb | hb | hb <;> cases hb
      · obtain ⟨_, _, hv'⟩ := Option.bind_eq_some_iff.1 hv'
        split at hv' <;> first | cases hv'; done | exact .inl (same hv')
      · exact .inl (mapS hv')
      · exact .inl (mapS hv')
      · rcases hb with hb | hb | hb <;> cases hb
      · cases hv'
    | value f => cases hq
    | invoke r m => cases hq
  | _ => cases hq
theorem quiet_same (H : WF h) {o : Op} (hq : quiet o = true) {e : Tr Value} {v : Value} (hv : opV P cf o e h = some (v, h')) : Same h h' ∧ h'.low = h.low := by
  rcases quiet_new hq hv with rfl | ⟨cells, z, rfl⟩
  · exact ⟨.refl H, rfl⟩
  · exact ⟨.new H _ _, rfl⟩
theorem stepV_same (hcf : CallsMild cf) {ops : Array Oper} {o : Oper} {e e' : Tr Value} (H : WF h) (hv : stepV P cf ops o e h = some (e', h')) : Mild h h' ∧ h'.low = h.low ∧ Same h h' := by
  unfold stepV at hv
  rcases cond_either hv with hv | hv
  · cases hq : quiet o.op with
    | true =>
      rw [hq] at hv
      obtain ⟨⟨v, h1⟩, hp, hv1⟩ := Option.bind_eq_some_iff.1 hv
      obtain ⟨_, rfl⟩ := Prod.mk.inj (Option.some.inj hv1)
      have S := quiet_same H hq hp
      exact ⟨opV_mild hcf H hp, S.2, S.1⟩
    | false =>
    rw [hq] at hv
    obtain ⟨⟨v, h1⟩, hp, hv1⟩ := Option.bind_eq_some_iff.1 hv
    obtain ⟨hc, hv1⟩ := cond_some' hv1
    obtain ⟨_, rfl⟩ := Prod.mk.inj (Option.some.inj hv1)
    have hc : h1.low = h.next := Nat.eq_of_beq_eq_true hc
    have M := opV_mild hcf (H.setLow _) hp
    refine ⟨⟨M.nxt, Nat.le_refl _, fun n hn _ => M.old n hn (by omega), fun β b hb => ?_, M.wf.setLow _⟩, rfl, M.nxt, M.old h.next (Nat.le_refl _) (Nat.le_of_eq hc.symm), fun β b hl hb => ?_, M.wf.setLow _⟩
    · rcases M.neu β b hb with g | ⟨g1, g2, g3⟩
      · exact .inl g
      · exact .inr ⟨g1, g2, fun n hn _ => g3 n hn (by omega)⟩
    · rcases M.neu β b hb with ⟨b0, g1, _⟩ | ⟨g1, g2, g3⟩
      · exact absurd (H.lt g1) (by omega)
      · exact ⟨g3 h.next (Nat.le_refl _) (Nat.le_of_eq hc.symm), g2⟩
  · obtain ⟨_, rfl⟩ := Prod.mk.inj (Option.some.inj hv)
    exact ⟨.refl H, rfl, .refl H⟩
/-- What a drawn region does: such operations first, and then the rest. -/
inductive Drawn (P : Program) (cf : FuncId → List Value → AH → Option (Value × AH)) (ops : Array Oper) : Nat → List Oper → Tr Value → AH → Tr Value × AH → Prop
  | done {i : Nat} {e : Tr Value} {h : AH} : Drawn P cf ops i [] e h (e, h)
  | step {i : Nat} {o : Oper} {l : List Oper} {e e1 : Tr Value} {h h1 : AH} {r : Tr Value × AH} (hs : stepV P cf ops o e h = some (e1, h1)) (t : Drawn P cf ops (i + 1) l e1 h1 r) : Drawn P cf ops i (o :: l) e h r
  | tail {i : Nat} {l : List Oper} {e : Tr Value} {h : AH} {r : Tr Value × AH} (ht : tailOK ops.toList i = true) (hv : opsV P cf ops l e h = some r) : Drawn P cf ops i l e h r
theorem drawV_drawn {ops : Array Oper} : ∀ (l : List Oper) {i : Nat} {e : Tr Value} {h : AH} {r : Tr Value × AH}, drawV P cf ops i l e h = some r → Drawn P cf ops i l e h r
  | [], i, e, h, r, hv => by
    injection hv with hv
    subst hv
    exact .done
  | o :: l, i, e, h, r, hv => by
    have hv' : cond (wantE ops o e)
      (cond (quiet o.op) ((opV P cf o.op e h).bind fun p => drawV P cf ops (i + 1) l (putE e o.dst p.1) p.2)
      (cond (tailOK ops.toList i) (opsV P cf ops (o :: l) e h)
      ((opV P cf o.op e { h with low := h.next }).bind fun p => cond (Nat.beq p.2.low h.next) (drawV P cf ops (i + 1) l (putE e o.dst p.1) { p.2 with low := h.low }) none)))
      (drawV P cf ops (i + 1) l (putE e o.dst undef) h) = some r := hv
    cases hw : wantE ops o e with
    | true =>
      rw [hw] at hv'
      cases hq : quiet o.op with
      | true =>
        rw [hq] at hv'
        obtain ⟨⟨v, h1⟩, hp, hv1⟩ := Option.bind_eq_some_iff.1 hv'
        refine .step (e1 := putE e o.dst v) (h1 := h1) ?_ (drawV_drawn l hv1)
        unfold stepV
        rw [hw, hq]
        simp only [cond_true, hp, Option.bind_some]
      | false =>
        rw [hq] at hv'
        cases ht : tailOK ops.toList i with
        | true =>
          rw [ht] at hv'
          exact .tail ht hv'
        | false =>
          rw [ht] at hv'
          obtain ⟨⟨v, h1⟩, hp, hv1⟩ := Option.bind_eq_some_iff.1 hv'
          obtain ⟨hb, hv2⟩ := cond_some' hv1
          have hb : Nat.beq h1.low h.next = true := hb
          refine .step (e1 := putE e o.dst v) (h1 := { h1 with low := h.low }) ?_ (drawV_drawn l hv2)
          unfold stepV
          rw [hw, hq]
          simp only [cond_true, cond_false, hp, Option.bind_some, hb]
    | false =>
      rw [hw] at hv'
      refine .step (e1 := putE e o.dst undef) (h1 := h) ?_ (drawV_drawn l hv')
      unfold stepV
      rw [hw]
      rfl
theorem Drawn.mild (hcf : CallsMild cf) {ops : Array Oper} {i : Nat} {l : List Oper} {e : Tr Value} {h : AH} {r : Tr Value × AH} (H : WF h) (D : Drawn P cf ops i l e h r) : Mild h r.2 := by
  induction D with
  | done => exact .refl H
  | step hs t ih =>
    have M := (stepV_same hcf H hs).1
    exact M.trans (ih M.wf)
  | tail ht hv => exact opsV_mild hcf _ H hv
theorem iter_mild {st : Tr Value → AH → Option (Ex × Tr Value × AH)} (hs : ∀ e h x e' h', WF h → st e h = some (x, e', h') → Mild h h') : ∀ (n : Nat) {e e' : Tr Value} {h h' : AH} {x : Ex}, WF h → iter st n e h = some (x, e', h') → Mild h h'
  | 0, _, _, _, _, _, _, hv => by cases hv
  | n + 1, e, e', h, h', x, H, hv => by
    obtain ⟨⟨x1, e1, h1⟩, hx1, hv⟩ := Option.bind_eq_some_iff.1 hv
    have M := hs _ _ _ _ _ H hx1
    cases x1 with
    | normal => exact M.trans (iter_mild hs n M.wf hv)
    | exit id =>
      injection hv with hv
      injection hv with _ hv
      injection hv with _ hv
      exact hv ▸ M
    | ret =>
      injection hv with hv
      injection hv with _ hv
      injection hv with _ hv
      exact hv ▸ M
theorem exec_mild (hcf : CallsMild cf) (kf : Nat) : ∀ (c : Code) {e e' : Tr Value} {h h' : AH} {x : Ex}, WF h → exec P cf kf c e h = some (x, e', h') → Mild h h' := by
  intro c
  have id' : ∀ {x x' : Ex} {e e' : Tr Value} {h h' : AH}, WF h → some (x', e', h) = some (x, e, h') → Mild h h' := fun H hv => by
    injection hv with hv
    injection hv with _ hv
    injection hv with _ hv
    exact hv ▸ .refl H
  induction c with
  | skip => exact fun H hv => id' H hv
  | ret => exact fun H hv => id' H hv
  | exit id => exact fun H hv => id' H hv
  | region id ops d =>
    intro e e' h h' x H hv
    obtain ⟨⟨e1, h1⟩, hv1, hx⟩ := Option.map_eq_some_iff.1 hv
    injection hx with _ hx
    injection hx with _ hx
    subst hx
    rcases cond_either hv1 with hv1 | hv1
    · exact (drawV_drawn _ hv1).mild hcf H
    · exact opsV_mild hcf _ H hv1
  | seq a b iha ihb =>
    intro e e' h h' x H hv
    obtain ⟨⟨x1, e1, h1⟩, hx1, hv⟩ := Option.bind_eq_some_iff.1 hv
    have M := iha H hx1
    cases x1 with
    | normal => exact M.trans (ihb M.wf hv)
    | exit id => exact M.trans (id' M.wf hv)
    | ret => exact M.trans (id' M.wf hv)
  | cond c x y ihx ihy =>
    intro e e' h h' xx H hv
    have hx' : (match ev e c with | .bool t => cond t (exec P cf kf x e h) (exec P cf kf y e h) | _ => none) = some (xx, e', h') := hv
    split at hx'
    · rcases cond_either hx' with hv | hv
      · exact ihx H hv
      · exact ihy H hv
    · cases hx'
  | block id c ih =>
    intro e e' h h' x H hv
    obtain ⟨⟨x1, e1, h1⟩, hx1, hv⟩ := Option.bind_eq_some_iff.1 hv
    have M := ih H hx1
    cases x1 with
    | normal => exact M.trans (id' M.wf hv)
    | exit j =>
      have hx' : cond (Nat.beq j id) (some (Ex.normal, e1, h1)) (some (Ex.exit j, e1, h1)) = some (x, e', h') := hv
      rcases cond_either hx' with hv | hv <;> exact M.trans (id' M.wf hv)
    | ret => exact M.trans (id' M.wf hv)
  | loop c ih =>
    intro e e' h h' x H hv
    exact iter_mild (fun e h x e' h' H hv => ih H hv) kf H hv
  | _ => exact fun _ hv => by cases hv
theorem same_of_mild {h h1 : AH} (H : WF h) (M : Mild { h with low := h.next } h1) (hl : h1.low = h.next) : Same h h1 :=
  ⟨M.nxt, M.old h.next (Nat.le_refl _) (Nat.le_of_eq hl.symm), fun β b hb hx => by
    rcases M.neu β b hx with ⟨b0, g1, _⟩ | ⟨g1, g2, g3⟩
    · exact absurd (H.lt g1) (by omega)
    · exact ⟨g3 h.next (Nat.le_refl _) (Nat.le_of_eq hl.symm), g2⟩, M.wf⟩
theorem exitR_mild {h h1 : AH} (H : WF h) (M : Mild { h with low := h.next } h1) (v : Value) : Mild h (exitR h h1 v).2 := by
  unfold exitR
  cases (Nat.beq h1.low h.next && plainV v) with
  | true => exact .refl H
  | false =>
    show Mild h { h1 with low := cond (Nat.blt h1.low h.next) (cond (Nat.blt h1.low h.low) h1.low h.low) h.low }
    have c := cond_lt_le h1.low h.low
    have key : ∀ n, n ≤ h.next → n ≤ cond (Nat.blt h1.low h.next) (cond (Nat.blt h1.low h.low) h1.low h.low) h.low → n ≤ h1.low := fun n hn hl => by
      cases e : Nat.blt h1.low h.next with
      | true =>
        rw [e] at hl
        exact Nat.le_trans hl c.1
      | false =>
        rcases Nat.lt_or_ge h1.low h.next with g | g
        · have : Nat.blt h1.low h.next = true := Nat.ble_eq_true_of_le g
          rw [e] at this
          cases this
        · omega
    refine ⟨M.nxt, ?_, fun n hn hl => M.old n hn (key n hn hl), fun β b hb => ?_, M.wf.setLow _⟩
    · show cond (Nat.blt h1.low h.next) _ h.low ≤ h.low
      cases Nat.blt h1.low h.next with
      | true => exact c.2
      | false => exact Nat.le_refl _
    · rcases M.neu β b hb with g | ⟨g1, g2, g3⟩
      · exact .inl g
      · exact .inr ⟨g1, g2, fun n hn hl => g3 n hn (key n hn hl)⟩
theorem run_mild : ∀ n, CallsMild (run P n)
  | 0 => fun _ _ _ _ _ _ hv => by cases hv
  | n + 1 => by
    intro f args h v h' H hv
    unfold run at hv
    split at hv
    · rename_i fn _
      split at hv
      · obtain ⟨⟨x1, e1, h1⟩, hx1, hv⟩ := Option.bind_eq_some_iff.1 hv
        have M := exec_mild (run_mild n) _ _ (H.setLow h.next) hx1
        have key : ((resVs P e1 h1 fn.results.toList).bind fun vs => (packV vs).map fun v => exitR h h1 v) = some (v, h') → Mild h h' := fun hv => by
          obtain ⟨_, _, hv⟩ := Option.bind_eq_some_iff.1 hv
          obtain ⟨v1, _, hv⟩ := Option.map_eq_some_iff.1 hv
          have := exitR_mild H M v1
          rw [hv] at this
          exact this
        cases x1 with
        | normal => exact key hv
        | ret => exact key hv
        | exit _ => cases hv
      · cases hv
    · cases hv
end Go.Proofs.YtiadfnedbbkojaaDoor.X
namespace Go.Proofs.YtiadfnedbbkojaaDoor.X
open Go
def opdTmps : List Operand → List Tmp
  | [] => []
  | .tmp t :: l => t :: opdTmps l
  | _ :: l => opdTmps l
def looks (ops : List Oper) (o : Oper) : List Tmp :=
  opdTmps o.op.operands.toList ++ (match o.guard with
   | some (g, _) => (match (ops[g]?).bind (·.dst) with | some t => [t] | none => [])
   | none => [])
/-- One writer for each temporary. -/
def dstOnce : List Oper → List Nat → Bool
  | [], _ => true
  | o :: r, acc => match o.dst with
    | some d => cond (memB d acc) false (dstOnce r (d :: acc))
    | none => dstOnce r acc
def edgesLow : Nat → List Oper → Bool
  | _, [] => true
  | i, o :: r => (o.after.toList.all fun e => !(Region.binds .any e) || Nat.blt e.on i) && edgesLow (i + 1) r
/-- Operation i (that looks at ts) and all that write: each comes surely before or after. -/
def sureW (bf : List (List Nat)) (i : Nat) (ts : List Tmp) : Nat → List Oper → Bool
  | _, [] => true
  | j, o :: r => (match o.dst with
      | some d => cond (memB d ts) (cond (Nat.beq i j) true (cond (Nat.blt j i) (memB j ((bf[i]?).getD [])) (memB i ((bf[j]?).getD [])))) true
      | none => true) && sureW bf i ts (j + 1) r
def sureAll (ops : List Oper) (bf : List (List Nat)) : Nat → List Oper → Bool
  | _, [] => true
  | i, o :: r => sureW bf i (looks ops o) 0 ops && sureAll ops bf (i + 1) r
def drawC (ops : List Oper) : Bool := dstOnce ops [] && (edgesLow 0 ops && sureAll ops (befores ops []) 0 ops)
def drawB (ops : Array Oper) : Bool := drawC ops.toList
theorem opdTmps_mem : ∀ {l : List Operand} {t : Tmp}, .tmp t ∈ l → t ∈ opdTmps l
  | x :: l, t, h => by
    rcases List.mem_cons.1 h with rfl | h
    · exact List.mem_cons_self
    · have := opdTmps_mem h
      cases x with
      | tmp u => exact List.mem_cons_of_mem _ this
      | _ => exact this
theorem dstOnce_spec : ∀ (l : List Oper) (acc : List Nat), dstOnce l acc = true →
    (∀ (i : Nat) (o : Oper) (d : Nat), l[i]? = some o → o.dst = some d → d ∉ acc) ∧ ∀ (i j : Nat) (o o' : Oper) (d : Nat), l[i]? = some o → l[j]? = some o' → o.dst = some d → o'.dst = some d → i = j
  | [], _, _ => ⟨fun _ _ _ h => (by cases h), fun _ _ _ _ _ h => (by cases h)⟩
  | o :: l, acc, h => by
    unfold dstOnce at h
    split at h
    · rename_i d hd
      cases hm : memB d acc with
      | true =>
        rw [hm] at h
        cases h
      | false =>
        rw [hm] at h
        have hd' : d ∉ acc := fun hh => by
          rw [(memB_iff _ _).2 hh] at hm
          cases hm
        obtain ⟨h1, h2⟩ := dstOnce_spec l (d :: acc) h
        refine ⟨fun i o1 d1 e1 e2 => ?_, fun i j o1 o2 d1 e1 e2 e3 e4 => ?_⟩
        · cases i with
          | zero =>
            injection e1 with e1
            subst e1
            rw [hd] at e2
            injection e2 with e2
            exact e2 ▸ hd'
          | succ i => exact fun hh => h1 i o1 d1 e1 e2 (List.mem_cons_of_mem _ hh)
        · cases i with
          | zero =>
            injection e1 with e1
            subst e1
            rw [hd] at e3
            injection e3 with e3
            subst e3
            cases j with
            | zero => rfl
            | succ j => exact absurd List.mem_cons_self (h1 j o2 d e2 e4)
          | succ i =>
            cases j with
            | zero =>
              injection e2 with e2
              subst e2
              rw [hd] at e4
              injection e4 with e4
              subst e4
              exact absurd List.mem_cons_self (h1 i o1 d e1 e3)
            | succ j => rw [h2 i j o1 o2 d1 e1 e2 e3 e4]
    · rename_i hd
      obtain ⟨h1, h2⟩ := dstOnce_spec l acc h
      refine ⟨fun i o1 d1 e1 e2 => ?_, fun i j o1 o2 d1 e1 e2 e3 e4 => ?_⟩
      · cases i with
        | zero =>
          injection e1 with e1
          subst e1
          rw [hd] at e2
          cases e2
        | succ i => exact h1 i o1 d1 e1 e2
      · cases i with
        | zero =>
          injection e1 with e1
          subst e1
          rw [hd] at e3
          cases e3
        | succ i =>
          cases j with
          | zero =>
            injection e2 with e2
            subst e2
            rw [hd] at e4
            cases e4
          | succ j => rw [h2 i j o1 o2 d1 e1 e2 e3 e4]
theorem edgesLow_spec : ∀ (l : List Oper) (n : Nat), edgesLow n l = true → ∀ (i : Nat) (o : Oper), l[i]? = some o → ∀ e ∈ o.after, Region.binds .any e = true → e.on < n + i
  | [], _, _, _, _, h, _, _, _ => by cases h
  | o :: l, n, h, i, o1, e1, e, he, hb => by
    unfold edgesLow at h
    rw [Bool.and_eq_true] at h
    cases i with
    | zero =>
      injection e1 with e1
      subst e1
      have := List.all_eq_true.1 h.1 e (Array.mem_toList_iff.2 he)
      rw [hb] at this
      exact Nat.le_of_ble_eq_true this
    | succ i =>
      have := edgesLow_spec l (n + 1) h.2 i o1 e1 e he hb
      omega
theorem sureW_spec (bf : List (List Nat)) (i : Nat) (ts : List Tmp) : ∀ (l : List Oper) (n : Nat), sureW bf i ts n l = true → ∀ (j : Nat) (o : Oper) (t : Tmp), l[j]? = some o → o.dst = some t → t ∈ ts →
    n + j = i ∨ (n + j < i ∧ n + j ∈ (bf[i]?).getD []) ∨ (i < n + j ∧ i ∈ (bf[n + j]?).getD [])
  | [], _, _, _, _, _, h, _, _ => by cases h
  | o :: l, n, h, j, o1, t, e1, e2, ht => by
    unfold sureW at h
    rw [Bool.and_eq_true] at h
    cases j with
    | zero =>
      injection e1 with e1
      subst e1
      have h1 := h.1
      rw [e2] at h1
      simp only at h1
      rw [(memB_iff _ _).2 ht] at h1
      simp only [cond_true] at h1
      rw [cond_beq] at h1
      split at h1
      · rename_i hi
        exact .inl hi.symm
      · rename_i hi
        cases hl : Nat.blt n i with
        | true =>
          rw [hl] at h1
          exact .inr (.inl ⟨Nat.le_of_ble_eq_true hl, (memB_iff _ _).1 h1⟩)
        | false =>
          rw [hl] at h1
          have : ¬ n < i := fun hh => by
            have : Nat.blt n i = true := Nat.ble_eq_true_of_le hh
            rw [hl] at this
            cases this
          exact .inr (.inr ⟨by omega, (memB_iff _ _).1 h1⟩)
    | succ j =>
      have := sureW_spec bf i ts l (n + 1) h.2 j o1 t e1 e2 ht
      rwa [show n + 1 + j = n + (j + 1) by omega] at this
theorem sureAll_spec (ops : List Oper) (bf : List (List Nat)) : ∀ (l : List Oper) (n : Nat), sureAll ops bf n l = true → ∀ (i : Nat) (o : Oper), l[i]? = some o → sureW bf (n + i) (looks ops o) 0 ops = true
  | [], _, _, _, _, h => by cases h
  | o :: l, n, h, i, o1, e1 => by
    unfold sureAll at h
    rw [Bool.and_eq_true] at h
    cases i with
    | zero =>
      injection e1 with e1
      subst e1
      exact h.1
    | succ i =>
      have := sureAll_spec ops bf l (n + 1) h.2 i o1 e1
      rwa [show n + 1 + i = n + (i + 1) by omega] at this
theorem befores_pre : ∀ (l : List Oper) (acc : List (List Nat)) (j : Nat), j < acc.length → (befores l acc)[j]? = acc[j]?
  | [], _, _, _ => rfl
  | o :: l, acc, j, hj => by
    unfold befores
    rw [befores_pre l _ j (by rw [List.length_append]; omega), List.getElem?_append_left hj]
theorem befores_at : ∀ (l : List Oper) (acc : List (List Nat)) (i : Nat) (o : Oper), l[i]? = some o → ∀ x, x ∈ ((befores l acc)[acc.length + i]?).getD [] →
    ∃ e ∈ o.after, Region.binds .any e = true ∧ (x = e.on ∨ x ∈ ((befores l acc)[e.on]?).getD [])
  | [], _, _, _, h, _, _ => by cases h
  | o :: l, acc, i, o1, e1, x, hx => by
    have hlen : ∀ y : List Nat, (acc ++ [y]).length = acc.length + 1 := fun y => by rw [List.length_append]; rfl
    unfold befores at hx ⊢
    cases i with
    | zero =>
      injection e1 with e1
      subst e1
      rw [befores_pre _ _ _ (by rw [hlen]; omega), List.getElem?_append_right (by omega)] at hx
      simp only [Nat.add_zero, Nat.sub_self, List.getElem?_cons_zero, Option.getD_some] at hx
      obtain ⟨e, he, hx⟩ := List.mem_flatMap.1 hx
      refine ⟨e, Array.mem_toList_iff.1 he, ?_⟩
      cases hb : Region.binds .any e with
      | false =>
        rw [hb] at hx
        cases hx
      | true =>
        rw [hb] at hx
        refine ⟨rfl, ?_⟩
        rcases List.mem_cons.1 hx with hx | hx
        · exact .inl hx
        · refine .inr ?_
          rcases Nat.lt_or_ge e.on acc.length with hl | hl
          · rw [befores_pre _ _ _ (by rw [hlen]; omega), List.getElem?_append_left hl]
            exact hx
          · rw [List.getElem?_eq_none hl] at hx
            cases hx
    | succ i =>
      rw [show acc.length + (i + 1) = (acc ++ [o.after.toList.flatMap fun e => cond (Region.binds .any e) (e.on :: (acc[e.on]?).getD []) []]).length + i by rw [hlen]; omega] at hx
      exact befores_at l _ i o1 e1 x hx
theorem allIn_spec : ∀ (n : Nat) (l : List Nat), allIn n l = true → ∀ x, x < n → x ∈ l
  | 0, _, _, _, h => absurd h (Nat.not_lt_zero _)
  | n + 1, l, h, x, hx => by
    unfold allIn at h
    rw [Bool.and_eq_true] at h
    rcases Nat.lt_or_ge x n with hl | hl
    · exact allIn_spec n l h.2 x hl
    · rw [show x = n by omega]
      exact (memB_iff _ _).1 h.1
theorem allIn2_spec (ops : List Oper) (i : Nat) : ∀ (n : Nat) (l : List Nat), allIn2 ops i n l = true → ∀ x, x < n → x ∈ l ∨ (x < i ∧ ∃ o, ops[x]? = some o ∧ heapless o.op = true)
  | 0, _, _, _, h => absurd h (Nat.not_lt_zero _)
  | n + 1, l, h, x, hx => by
    unfold allIn2 at h
    rw [Bool.and_eq_true, Bool.or_eq_true] at h
    rcases Nat.lt_or_ge x n with hl | hl
    · exact allIn2_spec ops i n l h.2 x hl
    · rw [show x = n by omega]
      rcases h.1 with h1 | h1
      · exact .inl ((memB_iff _ _).1 h1)
      · unfold freeAt at h1
        rw [Bool.and_eq_true] at h1
        refine .inr ⟨Nat.le_of_ble_eq_true h1.1, ?_⟩
        cases e : ops[n]? with
        | none => rw [e] at h1; exact absurd h1.2 (by decide)
        | some o => rw [e] at h1; exact ⟨o, rfl, h1.2⟩
theorem tailOK_spec {l : List Oper} {p : Nat} (h : tailOK l p = true) : ∀ j, j < l.length → p ≤ j → ∀ x, x < j → x ∈ ((befores l [])[j]?).getD [] ∨ (x < p ∧ ∃ o, l[x]? = some o ∧ heapless o.op = true) := by
  intro j hj hp x hx
  unfold tailOK at h
  rw [Bool.or_eq_true, Bool.and_eq_true] at h
  rcases h with h | ⟨_, h⟩
  · have := List.all_eq_true.1 h j (List.mem_range.2 hj)
    rcases Bool.or_eq_true _ _ ▸ this with h1 | h1
    · exact absurd (Nat.le_of_ble_eq_true h1) (by omega)
    · exact .inl (allIn_spec _ _ h1 x hx)
  · have := List.all_eq_true.1 h j (List.mem_range.2 hj)
    rcases Bool.or_eq_true _ _ ▸ this with h1 | h1
    · exact absurd (Nat.le_of_ble_eq_true h1) (by omega)
    · exact allIn2_spec _ _ _ _ h1 x hx
def Lst (listed : Array Bool) (j : Nat) : Prop := listed.getD j false = true
def bfr (ops : Array Oper) (j : Nat) : List Nat := ((befores ops.toList [])[j]?).getD []
def Clo (ops : Array Oper) (listed : Array Bool) : Prop := ∀ j, Lst listed j → ∀ x ∈ bfr ops j, Lst listed x
theorem lst_set {listed : Array Bool} {i j : Nat} (hi : i < listed.size) : Lst (listed.setIfInBounds i true) j ↔ Lst listed j ∨ j = i := by
  unfold Lst
  simp only [Array.getD_eq_getD_getElem?]
  by_cases e : i = j
  · subst e
    rw [Array.getElem?_setIfInBounds_self_of_lt hi]
    simp
  · rw [Array.getElem?_setIfInBounds_ne e]
    exact ⟨.inl, fun h => h.resolve_right fun h => e h.symm⟩
theorem ready_not {ops : Array Oper} {listed : Array Bool} {i : Nat} (h : i ∈ Region.ready .any ops listed) : i < listed.size ∧ ¬ Lst listed i := by
  obtain ⟨h0, _⟩ := mem_ready.1 h
  have hi : i < listed.size := by
    rcases Nat.lt_or_ge i listed.size with h' | h'
    · exact h'
    · simp [Array.getElem?_eq_none h'] at h0
  refine ⟨hi, fun hl => ?_⟩
  unfold Lst at hl
  simp [hi] at h0 hl
  rw [h0] at hl
  cases hl
theorem ready_op {ops : Array Oper} {listed : Array Bool} {i : Nat} (h : i ∈ Region.ready .any ops listed) : ∃ o, ops[i]? = some o ∧ ops.toList[i]? = some o := by
  obtain ⟨_, o, ho, _⟩ := mem_ready.1 h
  exact ⟨o, ho, by rw [Array.getElem?_toList]; exact ho⟩
theorem ready_bfr {ops : Array Oper} {listed : Array Bool} {i : Nat} (hc : Clo ops listed) (h : i ∈ Region.ready .any ops listed) : ∀ x ∈ bfr ops i, Lst listed x := by
  obtain ⟨_, o, ho, hall⟩ := mem_ready.1 h
  intro x hx
  have ho' : ops.toList[i]? = some o := by rw [Array.getElem?_toList]; exact ho
  obtain ⟨e, he, hb, hx⟩ := befores_at ops.toList [] i o ho' x (by rw [List.length_nil, Nat.zero_add]; exact hx)
  have hl : Lst listed e.on := hall e he hb
  rcases hx with rfl | hx
  · exact hl
  · exact hc _ hl x hx
theorem clo_step {ops : Array Oper} {listed : Array Bool} {i : Nat} (hc : Clo ops listed) (h : i ∈ Region.ready .any ops listed) : Clo ops (listed.setIfInBounds i true) := by
  intro j hj x hx
  have hi := (ready_not h).1
  rw [lst_set hi] at hj ⊢
  rcases hj with hj | rfl
  · exact .inl (hc j hj x hx)
  · exact .inl (ready_bfr hc h x hx)
theorem all_listed {ops : Array Oper} {listed : Array Bool} (hs : listed.size = ops.size) (hl : edgesLow 0 ops.toList = true) (hr : Region.ready .any ops listed = []) : ∀ j, j < ops.size → Lst listed j := by
  intro j
  induction j using Nat.strongRecOn with
  | ind j ih =>
    intro hj
    refine Classical.byContradiction fun hn => ?_
    have : j ∈ Region.ready .any ops listed := by
      refine mem_ready.2 ⟨?_, ops[j], Array.getElem?_eq_getElem hj, fun e he hb => ?_⟩
      · unfold Lst at hn
        have hj' : j < listed.size := by omega
        simp [hj'] at hn ⊢
        exact hn
      · have := edgesLow_spec ops.toList 0 hl j ops[j] (by rw [Array.getElem?_toList]; exact Array.getElem?_eq_getElem hj) e he hb
        exact ih e.on (by omega) (by omega)
    rw [hr] at this
    cases this
theorem ready_nil {ops : Array Oper} {listed : Array Bool} (h : ∀ j, j < ops.size → Lst listed j) : Region.ready .any ops listed = [] := by
  cases hr : Region.ready .any ops listed with
  | nil => rfl
  | cons i l =>
    have hi : i ∈ Region.ready .any ops listed := by rw [hr]; exact List.mem_cons_self
    obtain ⟨o, ho, _⟩ := ready_op hi
    exact absurd (h i (Array.getElem?_eq_some_iff.1 ho).1) (ready_not hi).2
def cnt : List Bool → Nat
  | [] => 0
  | b :: l => cond b (cnt l) (cnt l + 1)
theorem cnt_set : ∀ (l : List Bool) (i : Nat), l[i]? = some false → cnt (l.set i true) + 1 = cnt l
  | [], _, h => by cases h
  | b :: l, 0, h => by
    injection h with h
    subst h
    rfl
  | b :: l, i + 1, h => by
    have := cnt_set l i h
    cases b with
    | true => exact this
    | false => exact congrArg Nat.succ this
theorem cnt_zero : ∀ (l : List Bool), cnt l = 0 → ∀ (i : Nat), i < l.length → l[i]? = some true
  | [], _, i, h => absurd h (Nat.not_lt_zero _)
  | true :: l, h, 0, _ => rfl
  | true :: l, h, i + 1, hi => cnt_zero l h i (Nat.lt_of_succ_lt_succ hi)
  | false :: l, h, _, _ => by cases h
theorem cnt_step {ops : Array Oper} {listed : Array Bool} {i n : Nat} (h : i ∈ Region.ready .any ops listed) (hc : cnt listed.toList ≤ n + 1) : cnt (listed.setIfInBounds i true).toList ≤ n := by
  obtain ⟨hi, hn⟩ := ready_not h
  have : listed.toList[i]? = some false := by
    rw [Array.getElem?_toList, Array.getElem?_eq_getElem hi]
    unfold Lst at hn
    simp [hi] at hn
    rw [hn]
  have := cnt_set _ _ this
  rw [Array.toList_setIfInBounds]
  omega
theorem cnt_all {ops : Array Oper} {listed : Array Bool} (hs : listed.size = ops.size) (hc : cnt listed.toList = 0) : ∀ j, j < ops.size → Lst listed j := by
  intro j hj
  have := cnt_zero _ hc j (by rw [Array.length_toList]; omega)
  rw [Array.getElem?_toList] at this
  unfold Lst
  rw [Array.getD_eq_getD_getElem?, this]
  rfl
end Go.Proofs.YtiadfnedbbkojaaDoor.X
namespace Go.Proofs.YtiadfnedbbkojaaDoor.X
open Go
def res (n : Nat) (ι : Inj) : Inj := fun β => if β < n then ι β else none
theorem res_some {n : Nat} {ι : Inj} {β : Nat} {k : Img} (h : res n ι β = some k) : β < n ∧ ι β = some k := by
  unfold res at h
  split at h
  · exact ⟨by assumption, h⟩
  · cases h
theorem res_of {n : Nat} {ι : Inj} {β : Nat} {k : Img} (hn : β < n) (h : ι β = some k) : res n ι β = some k := by
  unfold res
  rw [if_pos hn, h]
theorem res_mono (n : Nat) {ι ι' : Inj} (hs : Sub ι ι') : Sub (res n ι) (res n ι') := fun β k h => res_of (res_some h).1 (hs β k (res_some h).2)
theorem res_le {n m : Nat} (h : n ≤ m) (ι : Inj) : Sub (res n ι) (res m ι) := fun _ _ e => res_of (Nat.lt_of_lt_of_le (res_some e).1 h) (res_some e).2
section
variable {ι' ι1 : Inj} (hs : Sub ι' ι1)
 include hs
theorem pRel.through {x y y' : Value} (h : pRel ι' x y) (h' : pRel ι1 x y') : pRel ι' x y' := by
  cases h with
  | ptr a c h =>
    cases h' with
    | ptr _ c' h' =>
      obtain ⟨_, _, k, g1, _⟩ := h
      obtain ⟨q1, q2, k', q3, q4⟩ := h'
      rw [hs _ _ g1] at q3
      injection q3 with q3
      subst q3
      exact .ptr a c' ⟨q1, q2, k, g1, q4⟩
  | slice a c n c1 c2 h =>
    cases h' with
    | slice _ c' _ _ c2' h' =>
      rcases h' with h' | ⟨q0, q1, q2, k', q3, q4⟩
      · exact .slice a c' n c1 c2' (.inl h')
      · rcases h with ⟨h1, h2, h3⟩ | ⟨_, _, _, k, g1, _⟩
        · have : c2' = c1 := by
            rcases q4.2 with ⟨_, q5 | ⟨q5, _⟩⟩ | ⟨_, ⟨_, q5⟩ | ⟨q5, _⟩⟩ <;> (unfold OPEN at *; omega)
          exact .slice a c' n c1 c2' (.inl ⟨h1, h2, this.trans h2⟩)
        · rw [hs _ _ g1] at q3
          injection q3 with q3
          subst q3
          exact .slice a c' n c1 c2' (.inr ⟨q0, q1, q2, k, g1, q4⟩)
  | bool b =>
    cases h'
    exact .bool b
  | int k n =>
    cases h'
    exact .int k n
  | string s =>
    cases h'
    exact .string s
  | pnil =>
    cases h'
    exact .pnil
  | snil =>
    cases h'
    exact .snil
  | fnil =>
    cases h'
    exact .fnil
  | inil =>
    cases h'
    exact .inil
  | mnil =>
    cases h'
    exact .mnil
 omit hs in
theorem AllR.through {α β : Type} {R S : α → β → Prop} (hrs : ∀ x y y', R x y → S x y' → R x y') : ∀ {xs : List α} {ys ys' : List β}, AllR R xs ys → AllR S xs ys' → AllR R xs ys'
  | [], [], [], _, _ => trivial
  | _ :: _, _ :: _, _ :: _, h, h' => ⟨hrs _ _ _ h.1 h'.1, AllR.through hrs h.2 h'.2⟩
  | [], [], _ :: _, _, h => h.elim
  | [], _ :: _, _, h, _ => h.elim
  | _ :: _, [], _, h, _ => h.elim
  | _ :: _, _ :: _, [], _, h => h.elim
theorem cRel.through {x y y' : Value} (h : cRel ι' x y) (h' : cRel ι1 x y') : cRel ι' x y' := by
  cases h with
  | atom h =>
    cases h' with
    | atom h' => exact .atom (h.through hs h')
    | func fn f f' c c' hf hc => cases h
  | func fn f f' c c' hf hc =>
    cases h' with
    | atom h' => cases h'
    | func _ _ f'' _ c'' hf' hc' => exact .func fn f f'' c c'' (AllR.through (R := pRel ι') (S := pRel ι1) (fun _ _ _ a b => pRel.through hs a b) hf hf') (AllR.through (R := pRel ι') (S := pRel ι1) (fun _ _ _ a b => pRel.through hs a b) hc hc')
end
theorem same_rd {h h' : AH} (H : WF h) (M : Same h h') {β : Nat} {b : ABlk} (hb : β < h.next) : h'.rd β = some b ↔ h.rd β = some b := by
  have hg := (M.old β hb).1
  have key : ∀ c : ABlk, h.blks.get β = some c → h'.members c.grp = h.members c.grp := fun c hc => by
    have := H.gle β c hc
    show (h'.grps.get c.grp).getD _ = (h.grps.get c.grp).getD _
    rw [(M.old c.grp (by omega)).2]
  constructor
  · intro e
    obtain ⟨e1, e2⟩ := rd_get e
    rw [hg] at e1
    rw [key b e1] at e2
    exact rd_of e1 e2
  · intro e
    obtain ⟨e1, e2⟩ := rd_get e
    rw [← key b e1] at e2
    exact rd_of (hg.trans e1) e2
section
variable {base : Nat} {w w1 : World}
theorem Rel.wf {ι : Inj} {h : AH} (R : Rel ι base h w) : WF h := ⟨R.gle, R.new⟩
/-- More blocks, which the laying does not know. -/
theorem Rel.up {ι : Inj} {h h' : AH} (R : Rel ι base h w) (M : Same h h') : Rel ι base h' w := by
  have hd := fun β k (e : ι β = some k) => (R.dom β k e).1
  have hg := fun β b k (e : ι β = some k) (hb : h'.blks.get β = some b) => ((M.old β (hd β k e)).1.symm.trans hb)
  exact ⟨fun β b k hr hk => R.blk β b k ((same_rd R.wf M (hd β k hk)).1 hr) hk, fun β b k hb hk => R.esz β b k (hg β b k hk hb) hk, fun β b k hb hk => R.own β b k (hg β b k hk hb) hk,
    M.wf.gle, fun β β' b b' k k' hb hb' hk hk' => R.dis β β' b b' k k' (hg β b k hk hb) (hg β' b' k' hk' hb') hk hk', fun β k hk => ⟨Nat.lt_of_lt_of_le (hd β k hk) M.nxt, (R.dom β k hk).2⟩,
    M.wf.new, fun β b hb => Nat.lt_of_le_of_lt (M.wf.gle β b hb) (M.wf.lt hb), R.bas, fun β k hk => (R.has β k hk).imp fun b hb => (M.old β (hd β k hk)).1.trans hb⟩
/-- The blocks of an earlier state, behind an operation. -/
theorem Rel.below {κ ι1 : Inj} {h h1 : AH} (R : Rel κ base h w) (R1 : Rel ι1 base h1 w1) (M : Same h h1) (hs : Sub κ ι1) (hw : w.heap.size ≤ w1.heap.size) : Rel κ base h w1 := by
  refine ⟨fun β b k hr hk => ?_, R.esz, R.own, R.gle, R.dis, fun β k hk => ⟨(R.dom β k hk).1, Nat.lt_of_lt_of_le (R.dom β k hk).2 hw⟩, R.new, R.grp, Nat.le_trans R.bas hw, R.has⟩
  obtain ⟨_, _, _, _, _, _, _, _, g⟩ := R.blk β b k hr hk
  obtain ⟨cs, el, fz, h1, h2, h3, l, h4, h5⟩ := R1.blk β b k ((same_rd R.wf M (R.dom β k hk).1).2 hr) (hs β k hk)
  exact ⟨cs, el, fz, h1, h2, h3, l, h4, AllR.through (R := cRel κ) (S := cRel ι1) (fun _ _ _ a b => cRel.through hs a b) g h5⟩
/-- The blocks of a later state, behind an operation. -/
theorem Rel.above {κi κ ι1 κ' : Inj} {hi h1 h : AH} (R : Rel κ base h w) (R1 : Rel ι1 base h1 w1) (M : Same h1 h) (Mi : Same hi h) (H1 : WF h1) (hn : hi.next ≤ h1.next)
    (hκ : Sub κ κ') (h1κ : Sub ι1 κ') (hiκ : Sub κi κ) (hid : ∀ β k, κi β = some k → β < hi.next) (hsp : ∀ β k, κ' β = some k → (β < h1.next ∧ ι1 β = some k) ∨ (h1.next ≤ β ∧ κ β = some k))
    (E : Ext hi.next w κi ι1) (K : Keep base κi w w1) : Rel κ' base h w1 := by
  -- an old block lies elsewhere than a block of a later operation
  have apart : ∀ β β' k k', κi β = some k → h1.next ≤ β' → κ β' = some k' → k.b ≠ k'.b := by
    intro β β' k k' hk hl hk'
    obtain ⟨b, hb⟩ := R.has β k (hiκ β k hk)
    obtain ⟨b', hb'⟩ := R.has β' k' hk'
    obtain ⟨g1, g2⟩ := Mi.neu β' b' (Nat.le_trans hn hl) hb'
    have := R.gle β b hb
    have := hid β k hk
    exact R.dis β β' b b' k k' hb hb' (hiκ β k hk) hk' (by omega) (.inr g2)
  have apart1 : ∀ β β' k k', β < h1.next → ι1 β = some k → h1.next ≤ β' → κ β' = some k' → k.b ≠ k'.b := by
    intro β β' k k' _ hk hl hk' e
    rcases E.img β k hk with ⟨β0, k0, e0, e1⟩ | hl'
    · exact apart β0 β' k0 k' e0 hl hk' (e1.trans e)
    · have := (R.dom β' k' hk').2
      omega
  have hg1 : ∀ β b, β < h1.next → h.blks.get β = some b → h1.blks.get β = some b := fun β b hl hb => (M.old β hl).1.symm.trans hb
  refine ⟨fun β b k hr hk => ?_, fun β b k hb hk => ?_, fun β b k hb hk hro => ?_, R.gle, fun β β' b b' k k' hb hb' hk hk' hg hro => ?_, fun β k hk => ?_, R.new, R.grp, Nat.le_trans R.bas K.1, fun β k hk => ?_⟩
  · rcases hsp β k hk with ⟨hl, hk⟩ | ⟨hl, hk⟩
    · obtain ⟨cs, el, fz, g1, g2, g3, l, g4, g5⟩ := R1.blk β b k ((same_rd H1 M hl).1 hr) hk
      exact ⟨cs, el, fz, g1, g2, g3, l, g4, g5.mono fun _ _ => cRel.mono h1κ⟩
    · obtain ⟨cs, el, fz, g1, g2, g3, l, g4, g5⟩ := R.blk β b k hr hk
      refine ⟨cs, el, fz, ?_, g2, g3, l, g4, g5.mono fun _ _ => cRel.mono hκ⟩
      rw [K.2.1 k.b (R.dom β k hk).2 (.inr fun β' k' hk' => apart β' β k' k hk' hl hk)]
      exact g1
  · rcases hsp β k hk with ⟨hl, hk⟩ | ⟨hl, hk⟩
    · exact R1.esz β b k (hg1 β b hl hb) hk
    · exact R.esz β b k hb hk
  · rcases hsp β k hk with ⟨hl, hk⟩ | ⟨hl, hk⟩
    · exact R1.own β b k (hg1 β b hl hb) hk hro
    · exact R.own β b k hb hk hro
  · rcases hsp β k hk with ⟨hl, hk⟩ | ⟨hl, hk⟩
    · rcases hsp β' k' hk' with ⟨hl', hk'⟩ | ⟨hl', hk'⟩
      · exact R1.dis β β' b b' k k' (hg1 β b hl hb) (hg1 β' b' hl' hb') hk hk' hg hro
      · exact apart1 β β' k k' hl hk hl' hk'
    · rcases hsp β' k' hk' with ⟨hl', hk'⟩ | ⟨hl', hk'⟩
      · exact fun e => apart1 β' β k' k hl' hk' hl hk e.symm
      · exact R.dis β β' b b' k k' hb hb' hk hk' hg hro
  · rcases hsp β k hk with ⟨hl, hk⟩ | ⟨hl, hk⟩
    · exact ⟨Nat.lt_of_lt_of_le hl M.nxt, (R1.dom β k hk).2⟩
    · exact ⟨(R.dom β k hk).1, Nat.lt_of_lt_of_le (R.dom β k hk).2 K.1⟩
  · rcases hsp β k hk with ⟨hl, hk⟩ | ⟨hl, hk⟩
    · exact (R1.has β k hk).imp fun b hb => (M.old β hl).1.trans hb
    · exact R.has β k hk
end
variable {P : Program} {G : Nat} {cf : FuncId → List Value → AH → Option (Value × AH)}
theorem Drawn.trace {ops : Array Oper} {i : Nat} {l : List Oper} {e : Tr Value} {h : AH} {r : Tr Value × AH} (D : Drawn P cf ops i l e h r) :
    ∃ (s : Nat) (es : Nat → Tr Value) (hs : Nat → AH), s ≤ l.length ∧ es 0 = e ∧ hs 0 = h ∧ (∀ (k : Nat) (o : Oper), k < s → l[k]? = some o → stepV P cf ops o (es k) (hs k) = some (es (k + 1), hs (k + 1))) ∧
      opsV P cf ops (l.drop s) (es s) (hs s) = some r ∧ (s = l.length ∨ tailOK ops.toList (i + s) = true) := by
  induction D with
  | @done i e h => exact ⟨0, fun _ => e, fun _ => h, Nat.le_refl _, rfl, rfl, fun k _ hk => absurd hk (Nat.not_lt_zero _), rfl, .inl rfl⟩
  | @step i o l e e1 h h1 r st t ih =>
    obtain ⟨s, es, hs, g1, g2, g3, g4, g5, g6⟩ := ih
    refine ⟨s + 1, fun k => match k with | 0 => e | k + 1 => es k, fun k => match k with | 0 => h | k + 1 => hs k, Nat.succ_le_succ g1, rfl, rfl, fun k o' hk ho' => ?_, g5, ?_⟩
    · cases k with
      | zero =>
        injection ho' with ho'
        subst ho'
        show stepV P cf ops o e h = some (es 0, hs 0)
        rw [g2, g3]
        exact st
      | succ k => exact g4 k o' (Nat.lt_of_succ_lt_succ hk) ho'
    · rcases g6 with g6 | g6
      · exact .inl (congrArg Nat.succ g6)
      · exact .inr (by rw [show i + (s + 1) = i + 1 + s by omega]; exact g6)
  | @tail i l e h r ht hv => exact ⟨0, fun _ => e, fun _ => h, Nat.zero_le _, rfl, rfl, fun k _ hk => absurd hk (Nat.not_lt_zero _), hv, .inr ht⟩
/-- The run of the first operations. -/
structure Trc (P : Program) (cf : FuncId → List Value → AH → Option (Value × AH)) (ops : Array Oper) (s : Nat) (es : Nat → Tr Value) (hs : Nat → AH) : Prop where
  mld : CallsMild cf
  wf0 : WF (hs 0)
  len : s ≤ ops.toList.length
  stp : ∀ (k : Nat) (o : Oper), k < s → ops.toList[k]? = some o → stepV P cf ops o (es k) (hs k) = some (es (k + 1), hs (k + 1))
variable {ops : Array Oper} {s : Nat} {es : Nat → Tr Value} {hs : Nat → AH}
theorem Trc.wf (T : Trc P cf ops s es hs) : ∀ k, k ≤ s → WF (hs k)
  | 0, _ => T.wf0
  | k + 1, hk => by
    have hlt : k < ops.toList.length := Nat.lt_of_lt_of_le hk T.len
    exact (stepV_same T.mld (T.wf k (by omega)) (T.stp k _ hk (List.getElem?_eq_getElem hlt))).2.2.wf
theorem Trc.same (T : Trc P cf ops s es hs) (k : Nat) : ∀ d, k + d ≤ s → Same (hs k) (hs (k + d))
  | 0, hk => .refl (T.wf k hk)
  | d + 1, hk => by
    have hlt : k + d < ops.toList.length := Nat.lt_of_lt_of_le hk T.len
    exact (T.same k d (by omega)).trans (stepV_same T.mld (T.wf (k + d) (by omega)) (T.stp (k + d) _ hk (List.getElem?_eq_getElem hlt))).2.2
theorem Trc.sameLe (T : Trc P cf ops s es hs) {k k' : Nat} (h : k ≤ k') (h' : k' ≤ s) : Same (hs k) (hs k') := by
  have := T.same k (k' - k) (by omega)
  rwa [show k + (k' - k) = k' by omega] at this
theorem stepV_env {o : Oper} {e e' : Tr Value} {h h' : AH} (hv : stepV P cf ops o e h = some (e', h')) {t : Tmp} (ht : o.dst ≠ some t) : e'.get t = e.get t := by
  have key : ∀ v, (putE e o.dst v).get t = e.get t := fun v => by
    unfold putE
    split
    · rename_i d hd
      rw [Tr.get_set, if_neg (fun e => ht (by rw [hd, e]))]
    · rfl
  unfold stepV at hv
  rcases cond_either hv with hv | hv
  · rcases cond_either hv with hv | hv
    · obtain ⟨⟨v, h1⟩, hp, hv1⟩ := Option.bind_eq_some_iff.1 hv
      obtain ⟨rfl, _⟩ := Prod.mk.inj (Option.some.inj hv1)
      exact key v
    · obtain ⟨⟨v, h1⟩, hp, hv1⟩ := Option.bind_eq_some_iff.1 hv
      obtain ⟨_, hv1⟩ := cond_some' hv1
      obtain ⟨rfl, _⟩ := Prod.mk.inj (Option.some.inj hv1)
      exact key v
  · obtain ⟨rfl, _⟩ := Prod.mk.inj (Option.some.inj hv)
    exact key _
theorem Trc.env (T : Trc P cf ops s es hs) {t : Tmp} (k : Nat) : ∀ d, k + d ≤ s → (∀ j o, k ≤ j → j < k + d → ops.toList[j]? = some o → o.dst ≠ some t) → (es (k + d)).get t = (es k).get t
  | 0, _, _ => rfl
  | d + 1, hk, hw => by
    have hlt : k + d < ops.toList.length := Nat.lt_of_lt_of_le hk T.len
    have ho := List.getElem?_eq_getElem hlt
    have h1 := stepV_env (T.stp (k + d) _ hk ho) (hw (k + d) _ (by omega) (by omega) ho)
    exact h1.trans (T.env k d (by omega) fun j o h1 h2 => hw j o h1 (by omega))
theorem Trc.envLe (T : Trc P cf ops s es hs) {t : Tmp} {k k' : Nat} (h : k ≤ k') (h' : k' ≤ s) (hw : ∀ j o, k ≤ j → j < k' → ops.toList[j]? = some o → o.dst ≠ some t) : (es k').get t = (es k).get t := by
  have := T.env (t := t) k (k' - k) (by omega) fun j o h1 h2 => hw j o h1 (by omega)
  rwa [show k + (k' - k) = k' by omega] at this
end Go.Proofs.YtiadfnedbbkojaaDoor.X
namespace Go.Proofs.YtiadfnedbbkojaaDoor.X
open Go
variable {P : Program} {G nt : Nat} {cf : FuncId → List Value → AH → Option (Value × AH)} {ops : Array Oper} {s : Nat} {es : Nat → Tr Value} {hs : Nat → AH}
/-- In the midst of such a region. -/
structure Inv (G nt : Nat) (ops : Array Oper) (s : Nat) (es : Nat → Tr Value) (hs : Nat → AH) (base : Nat) (ι0 : Inj) (w0 : World) (listed : Array Bool) (ι : Inj) (a : Act) (w : World) : Prop where
  rel : ∀ k, k ≤ s → Rel (res (hs k).next ι) base (hs k) w
  dom : ∀ β q, ι β = some q → β < (hs 0).next ∨ ∃ j, j < s ∧ Lst listed j ∧ (hs j).next ≤ β ∧ β < (hs (j + 1)).next
  tmp : ∀ t, (∃ j o, j < s ∧ Lst listed j ∧ ops.toList[j]? = some o ∧ o.dst = some t ∧ vRel (res (hs (j + 1)).next ι) (((es (j + 1)).get t).getD undef) (a.tmps.getD t undef)) ∨
    ((∀ j o, Lst listed j → ops.toList[j]? = some o → o.dst ≠ some t) ∧ vRel (res (hs 0).next ι) (((es 0).get t).getD undef) (a.tmps.getD t undef))
  dfr : a.defers = []
  glb : GOK G (res (hs 0).next ι)
  siz : nt ≤ a.tmps.size
  low : ∀ j, Lst listed j → j < s
  ext : Ext (hs 0).next w0 ι0 ι
  kep : Keep base ι0 w0 w
theorem put_self {a : Act} {d : Option Tmp} {t : Tmp} {v : Value} (hd : d = some t) (ht : t < a.tmps.size) : (a.put d v).tmps.getD t undef = v := by
  subst hd
  show (a.tmps.setIfInBounds t v).getD t undef = v
  simp [Array.getD, ht]
theorem put_other {a : Act} {d : Option Tmp} {t : Tmp} {v : Value} (hd : d ≠ some t) : (a.put d v).tmps.getD t undef = a.tmps.getD t undef := by
  cases d with
  | none => rfl
  | some u =>
    show (a.tmps.setIfInBounds u v).getD t undef = _
    simp only [Array.getD_eq_getD_getElem?]
    rw [Array.getElem?_setIfInBounds_ne (fun e => hd (congrArg some e))]
theorem once {l : List Oper} (hC : drawC l = true) : ∀ (i j : Nat) (o o' : Oper) (d : Nat), l[i]? = some o → l[j]? = some o' → o.dst = some d → o'.dst = some d → i = j := by
  unfold drawC at hC
  rw [Bool.and_eq_true, Bool.and_eq_true] at hC
  exact (dstOnce_spec _ _ hC.1).2
theorem lowE {l : List Oper} (hC : drawC l = true) : edgesLow 0 l = true := by
  unfold drawC at hC
  rw [Bool.and_eq_true, Bool.and_eq_true] at hC
  exact hC.2.1
theorem sure (hC : drawC ops.toList = true) {i : Nat} {o : Oper} (ho : ops.toList[i]? = some o) {t : Tmp} (ht : t ∈ looks ops.toList o) (j : Nat) (o' : Oper) (ho' : ops.toList[j]? = some o') (hd : o'.dst = some t) :
    j = i ∨ (j < i ∧ j ∈ bfr ops i) ∨ (i < j ∧ i ∈ bfr ops j) := by
  unfold drawC at hC
  rw [Bool.and_eq_true, Bool.and_eq_true] at hC
  have h1 := sureAll_spec _ _ _ _ hC.2.2 i o ho
  have h2 := sureW_spec _ _ _ _ _ h1 j o' t ho' hd ht
  simp only [Nat.zero_add] at h2
  exact h2
theorem want_same' {ι : Inj} {e : Tr Value} {tm : Array Value} {o : Oper} (hg : ∀ t ∈ looks ops.toList o, vRel ι ((e.get t).getD undef) (tm.getD t undef)) : Region.wanted o (yielded ops tm) = wantE ops o e := by
  unfold looks at hg
  unfold Region.wanted wantE
  cases hgd : o.guard with
  | none => rfl
  | some p =>
    obtain ⟨j, wt⟩ := p
    rw [hgd] at hg
    simp only [yielded] at hg ⊢
    rw [← Array.getElem?_toList]
    cases hj : (ops.toList[j]?).bind (·.dst) with
    | none => rfl
    | some d =>
      rw [hj] at hg
      have hd := hg d (List.mem_append_right _ (List.mem_singleton.2 rfl))
      rw [Array.getD_eq_getD_getElem?] at hd
      simp only [Option.bind_some, Option.map_some]
      cases htd : tm[d]? with
      | none =>
        rw [htd] at hd
        have hd : vRel ι ((e.get d).getD undef) undef := hd
        generalize (e.get d).getD undef = y at hd
        cases hd with
        | one h => cases h with
          | cell h => cases h with
            | atom h => cases h
        | tuple _ _ _ => rfl
      | some y =>
        rw [htd] at hd
        have hd : vRel ι ((e.get d).getD undef) y := hd
        generalize (e.get d).getD undef = x at hd
        cases x with
        | bool b =>
          obtain rfl := hd.bool_inv
          simp
        | _ => cases y <;> first | rfl | exact absurd (bool_of_rel hd) (by simp)
section
variable {base : Nat} {ι0 ι : Inj} {w0 w : World} {listed : Array Bool} {a : Act}
theorem Inv.read (T : Trc P cf ops s es hs) (hC : drawC ops.toList = true) (I : Inv G nt ops s es hs base ι0 w0 listed ι a w) (hc : Clo ops listed) {i : Nat} (hi : i ∈ Region.ready .any ops listed) (his : i < s) {o : Oper} (ho : ops.toList[i]? = some o)
    {t : Tmp} (ht : t ∈ looks ops.toList o) : vRel (res (hs i).next ι) (((es i).get t).getD undef) (a.tmps.getD t undef) := by
  have hsure := sure hC ho ht
  rcases I.tmp t with ⟨j, o', hj, hl, ho', hd, hv⟩ | ⟨hno, hv⟩
  · rcases hsure j o' ho' hd with rfl | ⟨h1, _⟩ | ⟨_, h2⟩
    · exact absurd hl (ready_not hi).2
    · have e : (es i).get t = (es (j + 1)).get t := T.envLe (by omega) (by omega) fun j' o'' h3 h4 e1 e2 => by
        have := once hC j j' o' o'' t ho' e1 hd e2
        omega
      rw [e]
      exact hv.mono (res_le (T.sameLe (by omega) (by omega)).nxt ι)
    · exact absurd (hc j hl i h2) (ready_not hi).2
  · have e : (es i).get t = (es 0).get t := T.envLe (Nat.zero_le _) (by omega) fun j o' _ h2 e1 e2 => by
      rcases hsure j o' e1 e2 with rfl | ⟨_, h3⟩ | ⟨h3, _⟩
      · omega
      · exact hno j o' (ready_bfr hc hi j h3) e1 e2
      · omega
    rw [e]
    exact hv.mono (res_le (T.sameLe (Nat.zero_le _) (by omega)).nxt ι)
theorem Inv.next (T : Trc P cf ops s es hs) (I : Inv G nt ops s es hs base ι0 w0 listed ι a w) {i : Nat} (hnl : ¬ Lst listed i) (hsz : i < listed.size) (his : i < s) {o : Oper} (ho : ops.toList[i]? = some o) (hdst : ∀ t, o.dst = some t → t < nt)
    {v vc : Value} (hes : es (i + 1) = putE (es i) o.dst v) {ι1 : Inj} {w1 : World} (hvr : vRel ι1 v vc) (R1 : Rel ι1 base (hs (i + 1)) w1) (E1 : Ext (hs i).next w (res (hs i).next ι) ι1) (K1 : Keep base (res (hs i).next ι) w w1) :
    ∃ ι', Inv G nt ops s es hs base ι0 w0 (listed.setIfInBounds i true) ι' (a.put o.dst vc) w1 := by
  have nx : ∀ k k', k ≤ k' → k' ≤ s → (hs k).next ≤ (hs k').next := fun k k' h h' => (T.sameLe h h').nxt
  have n01 := nx 0 i (Nat.zero_le _) (by omega)
  have n12 := nx i (i + 1) (by omega) (by omega)
  have d1 : ∀ β k, ι1 β = some k → β < (hs (i + 1)).next := fun β k h => (R1.dom β k h).1
  have o1 : ∀ β, β < (hs i).next → ι1 β = ι β := fun β hβ => (E1.old β hβ).trans (by unfold res; rw [if_pos hβ])
  have u1 : ∀ β q, (hs i).next ≤ β → β < (hs (i + 1)).next → ι β ≠ some q := fun β q h1 h2 e => by
    rcases I.dom β q e with h | ⟨j, hj, hl, h3, h4⟩
    · omega
    · rcases Nat.lt_trichotomy j i with h | h | h
      · have := nx (j + 1) i (by omega) (by omega)
        omega
      · exact hnl (h ▸ hl)
      · have := nx (i + 1) j (by omega) (by omega)
        omega
  let ι' : Inj := fun β => if (hs i).next ≤ β ∧ β < (hs (i + 1)).next then ι1 β else ι β
  have p1 : ∀ β, (hs i).next ≤ β → β < (hs (i + 1)).next → ι' β = ι1 β := fun β h1 h2 => if_pos ⟨h1, h2⟩
  have p2 : ∀ β, ¬ ((hs i).next ≤ β ∧ β < (hs (i + 1)).next) → ι' β = ι β := fun β h => if_neg h
  have s1 : Sub ι ι' := fun β k e => by
    by_cases h : (hs i).next ≤ β ∧ β < (hs (i + 1)).next
    · exact absurd e (u1 β k h.1 h.2)
    · rw [p2 β h]
      exact e
  have s2 : Sub ι1 ι' := fun β k e => by
    by_cases h : (hs i).next ≤ β ∧ β < (hs (i + 1)).next
    · rw [p1 β h.1 h.2]
      exact e
    · have := d1 β k e
      rw [p2 β h, ← o1 β (by omega)]
      exact e
  have sp : ∀ β k, ι' β = some k → (β < (hs (i + 1)).next ∧ ι1 β = some k) ∨ ((hs (i + 1)).next ≤ β ∧ ι β = some k) := fun β k e => by
    by_cases h : (hs i).next ≤ β ∧ β < (hs (i + 1)).next
    · rw [p1 β h.1 h.2] at e
      exact .inl ⟨h.2, e⟩
    · rw [p2 β h] at e
      rcases Nat.lt_or_ge β (hs i).next with g | g
      · exact .inl ⟨by omega, (o1 β g).trans e⟩
      · exact .inr ⟨by omega, e⟩
  have lm : ∀ j, Lst listed j → Lst (listed.setIfInBounds i true) j := fun j h => (lst_set hsz).2 (.inl h)
  have li : Lst (listed.setIfInBounds i true) i := (lst_set hsz).2 (.inr rfl)
  refine ⟨ι', fun k hk => ?_, fun β q e => ?_, fun t => ?_, by rw [put_defers]; exact I.dfr, I.glb.mono (res_mono _ s1), by rw [put_size]; exact I.siz, fun j hj => ?_, ⟨fun β hb => ?_, fun β k e => ?_⟩, ⟨Nat.le_trans I.kep.1 K1.1, fun b hb hob => ?_, K1.2.2.1.trans I.kep.2.2.1, K1.2.2.2.trans I.kep.2.2.2⟩⟩
  · rcases Nat.lt_or_ge i k with hki | hki
    · refine (I.rel k hk).above R1 (T.sameLe (by omega) hk) (T.sameLe (by omega) hk) (T.wf _ (by omega)) n12 (res_mono _ s1) ?_ (res_le (nx i k (by omega) hk) ι) (fun β q e => (res_some e).1) ?_ E1 K1
      · exact fun β q e => res_of (Nat.lt_of_lt_of_le (d1 β q e) (nx (i + 1) k (by omega) hk)) (s2 β q e)
      · intro β q e
        obtain ⟨g1, g2⟩ := res_some e
        rcases sp β q g2 with g | ⟨g3, g4⟩
        · exact .inl g
        · exact .inr ⟨g3, res_of g1 g4⟩
    · have hki' := nx k i hki (by omega)
      have e : res (hs k).next ι' = res (hs k).next ι := funext fun β => by
        unfold res
        split
        · exact p2 β (by omega)
        · rfl
      rw [e]
      exact (I.rel k hk).below R1 (T.sameLe (by omega) (by omega)) (fun β q e => by
        obtain ⟨g1, g2⟩ := res_some e
        rw [o1 β (by omega)]
        exact g2) K1.1
  · rcases sp β q e with ⟨g1, g2⟩ | ⟨g1, g2⟩
    · rcases Nat.lt_or_ge β (hs i).next with g | g
      · rw [o1 β g] at g2
        rcases I.dom β q g2 with h | ⟨j, hj, hl, h3⟩
        · exact .inl h
        · exact .inr ⟨j, hj, lm j hl, h3⟩
      · exact .inr ⟨i, his, li, g, g1⟩
    · rcases I.dom β q g2 with h | ⟨j, hj, hl, h3⟩
      · exact .inl h
      · exact .inr ⟨j, hj, lm j hl, h3⟩
  · by_cases hd : o.dst = some t
    · refine .inl ⟨i, o, his, li, ho, hd, ?_⟩
      rw [put_self hd (Nat.lt_of_lt_of_le (hdst t hd) I.siz), hes, hd]
      have : ((putE (es i) (some t) v).get t).getD undef = v := by
        show (((es i).set t v).get t).getD undef = v
        rw [Tr.get_set, if_pos rfl]
        rfl
      rw [this]
      exact hvr.mono fun β q e => res_of (d1 β q e) (s2 β q e)
    · rw [put_other hd]
      rcases I.tmp t with ⟨j, o', hj, hl, ho', hd', hv⟩ | ⟨hno, hv⟩
      · exact .inl ⟨j, o', hj, lm j hl, ho', hd', hv.mono (res_mono _ s1)⟩
      · refine .inr ⟨fun j o' hl ho' => ?_, hv.mono (res_mono _ s1)⟩
        rcases (lst_set hsz).1 hl with hl | rfl
        · exact hno j o' hl ho'
        · rw [ho] at ho'
          injection ho' with ho'
          exact ho' ▸ hd
  · rcases (lst_set hsz).1 hj with hl | rfl
    · exact I.low j hl
    · exact his
  · rw [p2 β (by omega)]
    exact I.ext.old β hb
  · rcases sp β k e with ⟨g1, g2⟩ | ⟨g1, g2⟩
    · rcases E1.img β k g2 with ⟨β0, k0, e0, e1⟩ | hl
      · rcases I.ext.img β0 k0 (res_some e0).2 with ⟨β1, k1, e2, e3⟩ | hl
        · exact .inl ⟨β1, k1, e2, e3.trans e1⟩
        · exact .inr (e1 ▸ hl)
      · exact .inr (Nat.le_trans I.kep.1 hl)
    · exact I.ext.img β k g2
  · refine (K1.2.1 b (Nat.lt_of_lt_of_le hb I.kep.1) ?_).trans (I.kep.2.1 b hb hob)
    rcases hob with hob | hob
    · exact .inl hob
    · refine .inr fun β q hq e1 => ?_
      rcases I.ext.img β q (res_some hq).2 with ⟨β0, k0, e2, e3⟩ | hl
      · exact hob β0 k0 e2 (e3.trans e1)
      · omega
theorem Inv.step (hN : namesOK P = true) (hcf : CallsOK P G cf) (hfn : HasBody P cf) (T : Trc P cf ops s es hs) (hC : drawC ops.toList = true) (hok : ops.toList.all (operOK nt G) = true) (I : Inv G nt ops s es hs base ι0 w0 listed ι a w) (hc : Clo ops listed)
    {i : Nat} (hi : i ∈ Region.ready .any ops listed) (his : i < s) {K : Act → World → Prop} {Q : Exit → Act → World → Prop}
    (hK : ∀ ι' a' w', Inv G nt ops s es hs base ι0 w0 (listed.setIfInBounds i true) ι' a' w' → K a' w') : wpOp P ops Q i K a w := by
  obtain ⟨o, ho, ho'⟩ := ready_op hi
  obtain ⟨hsz, hnl⟩ := ready_not hi
  have hoo : operOK nt G o = true := List.all_eq_true.1 hok o (List.mem_of_getElem? ho')
  have hstp := T.stp i o his ho'
  have hrd : ∀ t ∈ looks ops.toList o, vRel (res (hs i).next ι) (((es i).get t).getD undef) (a.tmps.getD t undef) := fun t ht => I.read T hC hc hi his ho' ht
  have R := I.rel i (by omega)
  have hG : GOK G (res (hs i).next ι) := I.glb.mono (res_le (T.sameLe (Nat.zero_le _) (by omega)).nxt ι)
  unfold wpOp
  rw [ho]
  simp only
  rw [want_same' hrd]
  unfold stepV at hstp
  cases hw : wantE ops o (es i) with
  | false =>
    rw [hw] at hstp
    obtain ⟨h1, h2⟩ := Prod.mk.inj (Option.some.inj hstp)
    rw [if_neg (by decide)]
    obtain ⟨ι', I'⟩ := I.next T hnl hsz his ho' (operOK_dst hoo) h1.symm (ι1 := res (hs i).next ι) (w1 := w) vRel.undef (h2 ▸ R) (Ext.refl _ _ _) (Keep.refl _ _ _)
    exact hK ι' _ _ I'
  | true =>
    rw [hw] at hstp
    rw [if_pos rfl]
    left
    have hops : ∀ x ∈ o.op.operands.toList, vRel (res (hs i).next ι) (ev (es i) x) (a.eval x) := fun x hx => by
      have hxo := List.all_eq_true.1 (operOK_ops hoo) x hx
      cases x with
      | tmp t => exact hrd t (List.mem_append_left _ (opdTmps_mem hx))
      | const v => exact plainV_rel hxo
      | global g =>
        obtain ⟨k, h1, h2, h3⟩ := hG g (Nat.le_of_ble_eq_true hxo)
        exact (pRel.ptr _ _ ⟨rfl, rfl, k, h1, h2.symm, by rw [h3]; rfl⟩).v
      | func f => exact (cRel.func (.func f) #[] #[] #[] #[] trivial trivial).v
    cases hq : quiet o.op with
    | true =>
      rw [hq] at hstp
      obtain ⟨⟨v, h1⟩, hp, hstp⟩ := Option.bind_eq_some_iff.1 hstp
      obtain ⟨h2, h3⟩ := Prod.mk.inj (Option.some.inj hstp)
      refine opV_sound' hN hcf hfn R hG hops hp fun vc ι1 w1 hvr R1 E1 K1 N1 => ?_
      obtain ⟨ι', I'⟩ := I.next T hnl hsz his ho' (operOK_dst hoo) h2.symm (ι1 := ι1) (w1 := w1) hvr (h3 ▸ R1) E1 K1
      exact hK ι' _ _ I'
    | false =>
      rw [hq] at hstp
      obtain ⟨⟨v, h1⟩, hp, hstp⟩ := Option.bind_eq_some_iff.1 hstp
      obtain ⟨hb, hstp⟩ := cond_some' hstp
      obtain ⟨h2, h3⟩ := Prod.mk.inj (Option.some.inj hstp)
      refine opV_sound' hN hcf hfn (R.setLow _) hG hops hp fun vc ι1 w1 hvr R1 E1 K1 N1 => ?_
      obtain ⟨ι', I'⟩ := I.next T hnl hsz his ho' (operOK_dst hoo) h2.symm (ι1 := ι1) (w1 := w1) hvr (h3 ▸ R1.setLow _) E1 K1
      exact hK ι' _ _ I'
theorem Inv.full (T : Trc P cf ops s es hs) (hC : drawC ops.toList = true) (I : Inv G nt ops s es hs base ι0 w0 listed ι a w) (hall : ∀ j, j < s → Lst listed j) :
    St P G nt (res (hs s).next ι) base (hs s) w (es s) a ∧ Ext (hs 0).next w0 ι0 (res (hs s).next ι) := by
  have n0 := (T.sameLe (Nat.zero_le s) (Nat.le_refl _)).nxt
  refine ⟨⟨I.rel s (Nat.le_refl _), fun t => ?_, I.dfr, I.glb.mono (res_le n0 ι), I.siz⟩, ⟨fun β hb => ?_, fun β k e => I.ext.img β k (res_some e).2⟩⟩
  · rcases I.tmp t with ⟨j, o', hj, hl, ho', hd, hv⟩ | ⟨hno, hv⟩
    · have e : (es s).get t = (es (j + 1)).get t := T.envLe (by omega) (Nat.le_refl _) fun j' o'' h3 h4 e1 e2 => by
        have := once hC j j' o' o'' t ho' e1 hd e2
        omega
      rw [e]
      exact hv.mono (res_le (T.sameLe (by omega) (Nat.le_refl _)).nxt ι)
    · have e : (es s).get t = (es 0).get t := T.envLe (Nat.zero_le _) (Nat.le_refl _) fun j o' _ h2 e1 e2 => hno j o' (hall j h2) e1 e2
      rw [e]
      exact hv.mono (res_le n0 ι)
  · show (if β < (hs s).next then ι β else none) = _
    rw [if_pos (by omega)]
    exact I.ext.old β hb
end
theorem heapless_any {o : Op} (ho : heapless o = true) {e : Tr Value} {h h1 : AH} {v : Value} (hv : opV P cf o e h = some (v, h1)) : ∀ g, opV P cf o e g = some (v, g) := by
  have m : ∀ {x : Option Value}, (x.map fun v => (v, h)) = some (v, h1) → ∀ g : AH, (x.map fun v => (v, g)) = some (v, g) := fun {x} hx g => by
    cases x with
    | none => cases hx
    | some y =>
      obtain ⟨rfl, _⟩ := Prod.mk.inj (Option.some.inj hx)
      rfl
  intro g
  cases o with
  | move x =>
    obtain ⟨rfl, _⟩ := Prod.mk.inj (Option.some.inj hv)
    rfl
  | assign x =>
    obtain ⟨rfl, _⟩ := Prod.mk.inj (Option.some.inj hv)
    rfl
  | pick c a b =>
    unfold opV at hv ⊢
    simp only at hv ⊢
    split at hv
    · obtain ⟨rfl, _⟩ := Prod.mk.inj (Option.some.inj hv)
      rfl
    · cases hv
  | binOp op t x y z => exact m hv g
  | unOp op t x => exact m hv g
  | convert s d x => exact m hv g
  | fieldAddr s x f => exact m hv g
  | field s x f => exact m hv g
  | indexAddr t x i => exact m hv g
  | index t x i => exact m hv g
  | extract x i => exact m hv g
  | _ => cases ho
/-- One operation of the end. -/
def tstepV (P : Program) (cf : FuncId → List Value → AH → Option (Value × AH)) (ops : Array Oper) (o : Oper) (e : Tr Value) (h : AH) : Option (Tr Value × AH) :=
  cond (wantE ops o e) ((opV P cf o.op e h).bind fun p => some (putE e o.dst p.1, p.2)) (some (putE e o.dst undef, h))
theorem tstepV_env {o : Oper} {e e' : Tr Value} {h h' : AH} (hv : tstepV P cf ops o e h = some (e', h')) {t : Tmp} (ht : o.dst ≠ some t) : e'.get t = e.get t := by
  have key : ∀ v, (putE e o.dst v).get t = e.get t := fun v => by
    unfold putE
    split
    · rename_i d hd
      rw [Tr.get_set, if_neg (fun e => ht (by rw [hd, e]))]
    · rfl
  unfold tstepV at hv
  rcases cond_either hv with hv | hv
  · obtain ⟨⟨v, h1⟩, hp, hv1⟩ := Option.bind_eq_some_iff.1 hv
    obtain ⟨rfl, _⟩ := Prod.mk.inj (Option.some.inj hv1)
    exact key v
  · obtain ⟨rfl, _⟩ := Prod.mk.inj (Option.some.inj hv)
    exact key _
theorem opsV_trace : ∀ (l : List Oper) {e : Tr Value} {h : AH} {r : Tr Value × AH}, opsV P cf ops l e h = some r →
    ∃ (es : Nat → Tr Value) (hs : Nat → AH), es 0 = e ∧ hs 0 = h ∧ (∀ (k : Nat) (o : Oper), k < l.length → l[k]? = some o → tstepV P cf ops o (es k) (hs k) = some (es (k + 1), hs (k + 1))) ∧ r = (es l.length, hs l.length)
  | [], e, h, r, hv => ⟨fun _ => e, fun _ => h, rfl, rfl, fun k _ hk => absurd hk (Nat.not_lt_zero _), (Option.some.inj hv).symm⟩
  | o :: l, e, h, r, hv => by
    have hv' : cond (wantE ops o e) ((opV P cf o.op e h).bind fun p => opsV P cf ops l (putE e o.dst p.1) p.2) (opsV P cf ops l (putE e o.dst undef) h) = some r := hv
    have key : ∃ e1 h1, tstepV P cf ops o e h = some (e1, h1) ∧ opsV P cf ops l e1 h1 = some r := by
      unfold tstepV
      cases hw : wantE ops o e with
      | true =>
        rw [hw] at hv'
        obtain ⟨⟨v, h1⟩, hp, hv1⟩ := Option.bind_eq_some_iff.1 hv'
        exact ⟨_, _, by rw [cond_true, hp]; rfl, hv1⟩
      | false =>
        rw [hw] at hv'
        exact ⟨_, _, rfl, hv'⟩
    obtain ⟨e1, h1, hs1, hv1⟩ := key
    obtain ⟨es, hs, g1, g2, g3, g4⟩ := opsV_trace l hv1
    refine ⟨fun k => match k with | 0 => e | k + 1 => es k, fun k => match k with | 0 => h | k + 1 => hs k, rfl, rfl, fun k o' hk ho' => ?_, g4⟩
    cases k with
    | zero =>
      injection ho' with ho'
      subst ho'
      show tstepV P cf ops o e h = some (es 0, hs 0)
      rw [g1, g2]
      exact hs1
    | succ k => exact g3 k o' (Nat.lt_of_succ_lt_succ hk) ho'
/-- The whole run, its end from s on. -/
structure Tr2 (P : Program) (cf : FuncId → List Value → AH → Option (Value × AH)) (ops : Array Oper) (s : Nat) (es : Nat → Tr Value) (hs : Nat → AH) : Prop where
  fst : ∀ (k : Nat) (o : Oper), k < s → ops.toList[k]? = some o → stepV P cf ops o (es k) (hs k) = some (es (k + 1), hs (k + 1))
  lst : ∀ (k : Nat) (o : Oper), s ≤ k → k < ops.toList.length → ops.toList[k]? = some o → tstepV P cf ops o (es k) (hs k) = some (es (k + 1), hs (k + 1))
  mld : CallsMild cf
  wf0 : ∀ k, k ≤ s → WF (hs k)
theorem tstepV_mild (hcf : CallsMild cf) {o : Oper} {e e' : Tr Value} {h h' : AH} (H : WF h) (hv : tstepV P cf ops o e h = some (e', h')) : Mild h h' := by
  unfold tstepV at hv
  rcases cond_either hv with hv | hv
  · obtain ⟨⟨v, h1⟩, hp, hv1⟩ := Option.bind_eq_some_iff.1 hv
    obtain ⟨_, rfl⟩ := Prod.mk.inj (Option.some.inj hv1)
    exact opV_mild hcf H hp
  · obtain ⟨_, rfl⟩ := Prod.mk.inj (Option.some.inj hv)
    exact .refl H
theorem Tr2.wf (T : Tr2 P cf ops s es hs) : ∀ k, k ≤ ops.toList.length → WF (hs k)
  | 0, _ => T.wf0 0 (Nat.zero_le _)
  | k + 1, hk => by
    rcases Nat.lt_or_ge k s with hl | hl
    · exact T.wf0 (k + 1) hl
    · exact (tstepV_mild T.mld (T.wf k (by omega)) (T.lst k _ hl hk (List.getElem?_eq_getElem hk))).wf
theorem Tr2.nx (T : Tr2 P cf ops s es hs) (k : Nat) (o : Oper) (h1 : s ≤ k) (h2 : k < ops.toList.length) (h3 : ops.toList[k]? = some o) : (hs k).next ≤ (hs (k + 1)).next :=
  (tstepV_mild T.mld (T.wf k (by omega)) (T.lst k o h1 h2 h3)).nxt
theorem Tr2.env (T : Tr2 P cf ops s es hs) {t : Tmp} (k : Nat) : ∀ d, k + d ≤ ops.toList.length → (∀ j o, k ≤ j → j < k + d → ops.toList[j]? = some o → o.dst ≠ some t) → (es (k + d)).get t = (es k).get t
  | 0, _, _ => rfl
  | d + 1, hk, hw => by
    have hlt : k + d < ops.toList.length := by omega
    have ho := List.getElem?_eq_getElem hlt
    have hd := hw (k + d) _ (by omega) (by omega) ho
    have h1 : (es (k + d + 1)).get t = (es (k + d)).get t := by
      rcases Nat.lt_or_ge (k + d) s with hl | hl
      · exact stepV_env (T.fst (k + d) _ hl ho) hd
      · exact tstepV_env (T.lst (k + d) _ hl hlt ho) hd
    exact h1.trans (T.env k d (by omega) fun j o h1 h2 => hw j o h1 (by omega))
theorem Tr2.envLe (T : Tr2 P cf ops s es hs) {t : Tmp} {k k' : Nat} (h : k ≤ k') (h' : k' ≤ ops.toList.length) (hw : ∀ j o, k ≤ j → j < k' → ops.toList[j]? = some o → o.dst ≠ some t) : (es k').get t = (es k).get t := by
  have := T.env (t := t) k (k' - k) (by omega) fun j o h1 h2 => hw j o h1 (by omega)
  rwa [show k + (k' - k) = k' by omega] at this
/-- In the midst of the end: the operations below p are done, but for some that need no heap. -/
structure InvT (G nt : Nat) (ops : Array Oper) (s p : Nat) (es : Nat → Tr Value) (hs : Nat → AH) (base : Nat) (ι0 : Inj) (w0 : World) (listed : Array Bool) (ι : Inj) (a : Act) (w : World) : Prop where
  rel : Rel ι base (hs p) w
  tmp : ∀ t, (∃ j o, Lst listed j ∧ ops.toList[j]? = some o ∧ o.dst = some t ∧ vRel ι (((es (j + 1)).get t).getD undef) (a.tmps.getD t undef)) ∨
    ((∀ j o, Lst listed j → ops.toList[j]? = some o → o.dst ≠ some t) ∧ vRel ι (((es 0).get t).getD undef) (a.tmps.getD t undef))
  dfr : a.defers = []
  glb : GOK G ι
  siz : nt ≤ a.tmps.size
  low : ∀ j, Lst listed j → j < p
  pen : ∀ j o, j < p → ops.toList[j]? = some o → ¬ Lst listed j → j < s ∧ heapless o.op = true
  ext : Ext (hs 0).next w0 ι0 ι
  kep : Keep base ι0 w0 w
  nxt : (hs 0).next ≤ (hs p).next
section
variable {base p : Nat} {ι0 ι : Inj} {w0 w : World} {listed : Array Bool} {a : Act}
theorem InvT.read (T : Tr2 P cf ops s es hs) (hC : drawC ops.toList = true) (I : InvT G nt ops s p es hs base ι0 w0 listed ι a w) (hc : Clo ops listed) {i : Nat} (hi : i ∈ Region.ready .any ops listed) {o : Oper} (ho : ops.toList[i]? = some o)
    {t : Tmp} (ht : t ∈ looks ops.toList o) : vRel ι (((es i).get t).getD undef) (a.tmps.getD t undef) := by
  have hil := (List.getElem?_eq_some_iff.1 ho).1
  have hsure := sure hC ho ht
  rcases I.tmp t with ⟨j, o', hl, ho', hd, hv⟩ | ⟨hno, hv⟩
  · have hjl := (List.getElem?_eq_some_iff.1 ho').1
    rcases hsure j o' ho' hd with rfl | ⟨h1, _⟩ | ⟨_, h2⟩
    · exact absurd hl (ready_not hi).2
    · have e : (es i).get t = (es (j + 1)).get t := T.envLe (by omega) (by omega) fun j' o'' h3 h4 e1 e2 => by
        have := once hC j j' o' o'' t ho' e1 hd e2
        omega
      rw [e]
      exact hv
    · exact absurd (hc j hl i h2) (ready_not hi).2
  · have e : (es i).get t = (es 0).get t := T.envLe (Nat.zero_le _) (by omega) fun j o' _ h2 e1 e2 => by
      rcases hsure j o' e1 e2 with rfl | ⟨_, h3⟩ | ⟨h3, _⟩
      · omega
      · exact hno j o' (ready_bfr hc hi j h3) e1 e2
      · omega
    rw [e]
    exact hv
theorem InvT.next (I : InvT G nt ops s p es hs base ι0 w0 listed ι a w) {i p' : Nat} (hsz : i < listed.size) {o : Oper} (ho : ops.toList[i]? = some o) (hdst : ∀ t, o.dst = some t → t < nt)
    {v vc : Value} (hes : es (i + 1) = putE (es i) o.dst v) {ι1 : Inj} {w1 : World} (hvr : vRel ι1 v vc) (R1 : Rel ι1 base (hs p') w1) (E1 : Ext (hs p).next w ι ι1) (K1 : Keep base ι w w1) (N1 : (hs p).next ≤ (hs p').next)
    (hip : i < p') (hpp : p ≤ p') (hpen : ∀ j, p ≤ j → j < p' → j = i) : InvT G nt ops s p' es hs base ι0 w0 (listed.setIfInBounds i true) ι1 (a.put o.dst vc) w1 := by
  have s1 : Sub ι ι1 := E1.sub fun β k e => (I.rel.dom β k e).1
  have lm : ∀ j, Lst listed j → Lst (listed.setIfInBounds i true) j := fun j h => (lst_set hsz).2 (.inl h)
  have li : Lst (listed.setIfInBounds i true) i := (lst_set hsz).2 (.inr rfl)
  refine ⟨R1, fun t => ?_, by rw [put_defers]; exact I.dfr, I.glb.mono s1, by rw [put_size]; exact I.siz, fun j hj => ?_, fun j o' hj ho' hnl => ?_, I.ext.trans E1 I.nxt I.kep.1, I.kep.trans I.ext K1, Nat.le_trans I.nxt N1⟩
  · by_cases hd : o.dst = some t
    · refine .inl ⟨i, o, li, ho, hd, ?_⟩
      rw [put_self hd (Nat.lt_of_lt_of_le (hdst t hd) I.siz), hes, hd]
      have : ((putE (es i) (some t) v).get t).getD undef = v := by
        show (((es i).set t v).get t).getD undef = v
        rw [Tr.get_set, if_pos rfl]
        rfl
      rw [this]
      exact hvr
    · rw [put_other hd]
      rcases I.tmp t with ⟨j, o', hl, ho', hd', hv⟩ | ⟨hno, hv⟩
      · exact .inl ⟨j, o', lm j hl, ho', hd', hv.mono s1⟩
      · refine .inr ⟨fun j o' hl ho' => ?_, hv.mono s1⟩
        rcases (lst_set hsz).1 hl with hl | rfl
        · exact hno j o' hl ho'
        · rw [ho] at ho'
          injection ho' with ho'
          exact ho' ▸ hd
  · rcases (lst_set hsz).1 hj with hl | rfl
    · exact Nat.lt_of_lt_of_le (I.low j hl) hpp
    · exact hip
  · have hnl' : ¬ Lst listed j := fun h => hnl (lm j h)
    rcases Nat.lt_or_ge j p with hl | hl
    · exact I.pen j o' hl ho' hnl'
    · exact absurd li (hpen j hl hj ▸ hnl)
theorem InvT.done (T : Tr2 P cf ops s es hs) (hC : drawC ops.toList = true) (I : InvT G nt ops s p es hs base ι0 w0 listed ι a w) (hp : p ≤ ops.toList.length) (hall : ∀ j, j < ops.size → Lst listed j) : Post P G nt ι0 base (hs 0) w0 (es ops.toList.length) (hs ops.toList.length) a w := by
  have hpe : p = ops.toList.length := by
    rcases Nat.lt_or_ge p ops.toList.length with hl | hl
    · have := I.low p (hall p (by rw [← Array.length_toList]; exact hl))
      omega
    · omega
  subst hpe
  refine ⟨ι, ⟨I.rel, fun t => ?_, I.dfr, I.glb, I.siz⟩, I.ext, I.kep, I.nxt⟩
  rcases I.tmp t with ⟨j, o', hl, ho', hd, hv⟩ | ⟨hno, hv⟩
  · have hjl := (List.getElem?_eq_some_iff.1 ho').1
    have e : (es ops.toList.length).get t = (es (j + 1)).get t := T.envLe (by omega) (Nat.le_refl _) fun j' o'' h3 h4 e1 e2 => by
      have := once hC j j' o' o'' t ho' e1 hd e2
      omega
    rw [e]
    exact hv
  · have e : (es ops.toList.length).get t = (es 0).get t := T.envLe (Nat.zero_le _) (Nat.le_refl _) fun j o' _ h2 e1 e2 => hno j o' (hall j (by rw [← Array.length_toList]; exact h2)) e1 e2
    rw [e]
    exact hv
end
theorem tail_any (hN : namesOK P = true) (hcf : CallsOK P G cf) (hfn : HasBody P cf) (hC : drawC ops.toList = true) (hok : ops.toList.all (operOK nt G) = true) {base : Nat} {ι0 : Inj} {w0 : World} {Q : Exit → Act → World → Prop} (T : Tr2 P cf ops s es hs) (ht : s = ops.toList.length ∨ tailOK ops.toList s = true)
    (hq : ∀ a' w', Post P G nt ι0 base (hs 0) w0 (es ops.toList.length) (hs ops.toList.length) a' w' → Q .normal a' w') :
    ∀ (fuel p : Nat) {listed : Array Bool} {ι : Inj} {w : World} {a : Act}, listed.size = ops.size → cnt listed.toList ≤ fuel → Clo ops listed → s ≤ p → p ≤ ops.toList.length → InvT G nt ops s p es hs base ι0 w0 listed ι a w → wpAny P .any ops Q fuel listed a w := by
  intro fuel
  induction fuel with
  | zero =>
    intro p listed ι w a hz hc hcl hsp hpl I
    have hall := cnt_all hz (by omega)
    exact ⟨ready_nil hall, hq a w (I.done T hC hpl hall)⟩
  | succ fuel ih =>
    intro p listed ι w a hz hc hcl hsp hpl I
    refine ⟨fun hr => hq a w (I.done T hC hpl (all_listed hz (lowE hC) hr)), fun i hi => ?_⟩
    obtain ⟨o, ho, ho'⟩ := ready_op hi
    obtain ⟨hsz, hnl⟩ := ready_not hi
    have hil := (List.getElem?_eq_some_iff.1 ho').1
    have hoo : operOK nt G o = true := List.all_eq_true.1 hok o (List.mem_of_getElem? ho')
    have hrd : ∀ t ∈ looks ops.toList o, vRel ι (((es i).get t).getD undef) (a.tmps.getD t undef) := fun t ht' => I.read T hC hcl hi ho' ht'
    have hz' : (listed.setIfInBounds i true).size = ops.size := by rw [Array.size_setIfInBounds]; exact hz
    have hops : ∀ x ∈ o.op.operands.toList, vRel ι (ev (es i) x) (a.eval x) := fun x hx => by
      have hxo := List.all_eq_true.1 (operOK_ops hoo) x hx
      cases x with
      | tmp t => exact hrd t (List.mem_append_left _ (opdTmps_mem hx))
      | const v => exact plainV_rel hxo
      | global g =>
        obtain ⟨k, h1, h2, h3⟩ := I.glb g (Nat.le_of_ble_eq_true hxo)
        exact (pRel.ptr _ _ ⟨rfl, rfl, k, h1, h2.symm, by rw [h3]; rfl⟩).v
      | func f => exact (cRel.func (.func f) #[] #[] #[] #[] trivial trivial).v
    -- the state behind the operation
    have cont : ∀ p', i < p' → p ≤ p' → p' ≤ ops.toList.length → (∀ j, p ≤ j → j < p' → j = i) → (hs p).next ≤ (hs p').next →
        (wantE ops o (es i) = false → es (i + 1) = putE (es i) o.dst undef ∧ hs p' = hs p) → (wantE ops o (es i) = true → ∃ v, opV P cf o.op (es i) (hs p) = some (v, hs p') ∧ es (i + 1) = putE (es i) o.dst v) →
        wpOp P ops Q i (fun a' w' => wpAny P .any ops Q fuel (listed.setIfInBounds i true) a' w') a w := fun p' hip hpp hpl' hpen hnx hw0 hw1 => by
      unfold wpOp
      rw [ho]
      simp only
      rw [want_same' hrd]
      cases hw : wantE ops o (es i) with
      | false =>
        obtain ⟨g1, g2⟩ := hw0 hw
        rw [if_neg (by decide)]
        exact ih p' hz' (cnt_step hi hc) (clo_step hcl hi) (by omega) hpl' (I.next hsz ho' (operOK_dst hoo) g1 (ι1 := ι) (w1 := w) vRel.undef (g2 ▸ I.rel) (Ext.refl _ _ _) (Keep.refl _ _ _) hnx hip hpp hpen)
      | true =>
        obtain ⟨v, g1, g2⟩ := hw1 hw
        rw [if_pos rfl]
        left
        refine opV_sound' hN hcf hfn I.rel I.glb hops g1 fun vc ι1 w1 hvr R1 E1 K1 N1 => ?_
        exact ih p' hz' (cnt_step hi hc) (clo_step hcl hi) (by omega) hpl' (I.next hsz ho' (operOK_dst hoo) g2 hvr R1 E1 K1 N1 hip hpp hpen)
    rcases Nat.lt_or_ge i p with hip | hip
    · obtain ⟨his, hfree⟩ := I.pen i o hip ho' hnl
      have hst := T.fst i o his ho'
      unfold stepV at hst
      refine cont p hip (Nat.le_refl _) hpl (fun j h1 h2 => absurd h2 (by omega)) (Nat.le_refl _) (fun hw => ?_) (fun hw => ?_)
      · rw [hw] at hst
        obtain ⟨h1, _⟩ := Prod.mk.inj (Option.some.inj hst)
        exact ⟨h1.symm, rfl⟩
      · rw [hw] at hst
        have key : ∃ v h1 h2, opV P cf o.op (es i) h1 = some (v, h2) ∧ es (i + 1) = putE (es i) o.dst v := by
          cases hqo : quiet o.op with
          | true =>
            rw [hqo] at hst
            obtain ⟨⟨v, h1⟩, hp, hst⟩ := Option.bind_eq_some_iff.1 hst
            obtain ⟨h2, _⟩ := Prod.mk.inj (Option.some.inj hst)
            exact ⟨v, _, h1, hp, h2.symm⟩
          | false =>
            rw [hqo] at hst
            obtain ⟨⟨v, h1⟩, hp, hst⟩ := Option.bind_eq_some_iff.1 hst
            obtain ⟨hb, hst⟩ := cond_some' hst
            obtain ⟨h2, _⟩ := Prod.mk.inj (Option.some.inj hst)
            exact ⟨v, _, h1, hp, h2.symm⟩
        obtain ⟨v, h1, h2, g1, g2⟩ := key
        exact ⟨v, heapless_any hfree g1 (hs p), g2⟩
    · have hie : i = p := by
        rcases ht with ht | ht
        · omega
        · rcases Nat.lt_or_ge p i with hl | hl
          · rcases tailOK_spec ht i hil (by omega) p hl with h1 | ⟨h1, _⟩
            · exact absurd (I.low p (ready_bfr hcl hi p h1)) (Nat.lt_irrefl _)
            · omega
          · omega
      subst hie
      have hst := T.lst i o hsp hil ho'
      unfold tstepV at hst
      have hnx : (hs i).next ≤ (hs (i + 1)).next ∨ True := .inr trivial
      have h0 : wantE ops o (es i) = false → es (i + 1) = putE (es i) o.dst undef ∧ hs (i + 1) = hs i := fun hw => by
        rw [hw] at hst
        obtain ⟨h1, h2⟩ := Prod.mk.inj (Option.some.inj hst)
        exact ⟨h1.symm, h2.symm⟩
      have h1 : wantE ops o (es i) = true → ∃ v, opV P cf o.op (es i) (hs i) = some (v, hs (i + 1)) ∧ es (i + 1) = putE (es i) o.dst v := fun hw => by
        rw [hw] at hst
        obtain ⟨⟨v, h1⟩, hp, hst⟩ := Option.bind_eq_some_iff.1 hst
        obtain ⟨h2, h3⟩ := Prod.mk.inj (Option.some.inj hst)
        refine ⟨v, ?_, h2.symm⟩
        rw [hp]
        exact congrArg (fun x => some (v, x)) h3
      have hnx : (hs i).next ≤ (hs (i + 1)).next := T.nx i o hsp hil ho'
      exact cont (i + 1) (by omega) (by omega) (by omega) (fun j h1 h2 => by omega) hnx h0 h1
/-- A region whose order is open does what the executor says. -/
def DrawOK (P : Program) (G nt : Nat) (cf : FuncId → List Value → AH → Option (Value × AH)) (ops : Array Oper) : Prop :=
  ∀ (id : Nat) (ι : Inj) (base : Nat) (h : AH) (w : World) (e e' : Tr Value) (h' : AH) (a : Act), St P G nt ι base h w e a → drawV P cf ops 0 ops.toList e h = some (e', h') →
    (Code.region id ops true).wp P (fun ex a' w' => ex = .normal ∧ Post P G nt ι base h w e' h' a' w') a w
theorem draw_any (hN : namesOK P = true) (hcf : CallsOK P G cf) (hfn : HasBody P cf) (hC : drawC ops.toList = true) (hok : ops.toList.all (operOK nt G) = true) {base : Nat} {Q : Exit → Act → World → Prop} (T : Trc P cf ops s es hs) (ht : s = ops.toList.length ∨ tailOK ops.toList s = true)
    {e' : Tr Value} {h' : AH} (hv : opsV P cf ops (ops.toList.drop s) (es s) (hs s) = some (e', h')) {ι0 : Inj} {w0 : World} (hq : ∀ a' w', Post P G nt ι0 base (hs 0) w0 e' h' a' w' → Q .normal a' w') :
    ∀ (fuel : Nat) {listed : Array Bool} {ι : Inj} {w : World} {a : Act}, listed.size = ops.size → cnt listed.toList ≤ fuel → Clo ops listed → Inv G nt ops s es hs base ι0 w0 listed ι a w → wpAny P .any ops Q fuel listed a w := by
  intro fuel
  obtain ⟨es2, hs2, g1, g2, g3, g4⟩ := opsV_trace _ hv
  let ES : Nat → Tr Value := fun j => if j ≤ s then es j else es2 (j - s)
  let HS : Nat → AH := fun j => if j ≤ s then hs j else hs2 (j - s)
  have hsl := T.len
  have eS : ∀ j, j ≤ s → ES j = es j ∧ HS j = hs j := fun j hj => ⟨if_pos hj, if_pos hj⟩
  have eT : ∀ d, ES (s + d) = es2 d ∧ HS (s + d) = hs2 d := fun d => by
    rcases Nat.eq_zero_or_pos d with rfl | hd
    · exact ⟨(eS s (Nat.le_refl _)).1.trans g1.symm, (eS s (Nat.le_refl _)).2.trans g2.symm⟩
    · refine ⟨(if_neg (by omega)).trans ?_, (if_neg (by omega)).trans ?_⟩ <;> rw [Nat.add_sub_cancel_left]
  have hdl : (ops.toList.drop s).length = ops.toList.length - s := List.length_drop
  have TT : Tr2 P cf ops s ES HS := ⟨fun k o hk ho => by
      rw [(eS k (by omega)).1, (eS k (by omega)).2, (eS (k + 1) (by omega)).1, (eS (k + 1) (by omega)).2]
      exact T.stp k o hk ho, fun k o hk hkl ho => by
      have := g3 (k - s) o (by rw [hdl]; omega) (by rw [List.getElem?_drop, show s + (k - s) = k by omega]; exact ho)
      rw [← (eT (k - s)).1, ← (eT (k - s)).2, ← (eT (k - s + 1)).1, ← (eT (k - s + 1)).2, show s + (k - s) = k by omega, show s + (k - s + 1) = k + 1 by omega] at this
      exact this, T.mld, fun k hk => by
      rw [(eS k hk).2]
      exact T.wf k hk⟩
  have hee : (e', h') = (ES ops.toList.length, HS ops.toList.length) := by
    rw [g4, hdl]
    have := eT (ops.toList.length - s)
    rw [show s + (ops.toList.length - s) = ops.toList.length by omega] at this
    rw [this.1, this.2]
  obtain ⟨he1, he2⟩ := Prod.mk.inj hee
  have full : ∀ (fuel : Nat) {listed : Array Bool} {ι : Inj} {w : World} {a : Act}, listed.size = ops.size → cnt listed.toList ≤ fuel → Clo ops listed → Inv G nt ops s es hs base ι0 w0 listed ι a w → (∀ j o, j < s → ops.toList[j]? = some o → Lst listed j ∨ heapless o.op = true) → wpAny P .any ops Q fuel listed a w := by
    intro fuel listed ι w a hz hc hcl I hall
    refine tail_any hN hcf hfn hC hok (ι0 := ι0) (w0 := w0) (base := base) TT ht (fun a' w' p => hq a' w' ?_) fuel s (ι := res (hs s).next ι) hz hc hcl (Nat.le_refl _) hsl ⟨?_, fun t => ?_, I.dfr, I.glb.mono (res_le (T.sameLe (Nat.zero_le _) (Nat.le_refl _)).nxt ι), I.siz, I.low, fun j o hj ho hnl => ⟨hj, (hall j o hj ho).resolve_left hnl⟩, ?_, I.kep, ?_⟩
    · rw [he1, he2, ← (eS 0 (Nat.zero_le _)).2]
      exact p
    · rw [(eS s (Nat.le_refl _)).2]
      exact I.rel s (Nat.le_refl _)
    · rcases I.tmp t with ⟨j, o', hj, hl, ho', hd, hv'⟩ | ⟨hno, hv'⟩
      · refine .inl ⟨j, o', hl, ho', hd, ?_⟩
        rw [(eS (j + 1) (by omega)).1]
        exact hv'.mono (res_le (T.sameLe (by omega) (Nat.le_refl _)).nxt ι)
      · refine .inr ⟨hno, ?_⟩
        rw [(eS 0 (by omega)).1]
        exact hv'.mono (res_le (T.sameLe (Nat.zero_le _) (Nat.le_refl _)).nxt ι)
    · rw [(eS 0 (by omega)).2]
      have n0 := (T.sameLe (Nat.zero_le s) (Nat.le_refl _)).nxt
      refine ⟨fun β hb => ?_, fun β k e => I.ext.img β k (res_some e).2⟩
      show (if β < (hs s).next then ι β else none) = _
      rw [if_pos (by omega)]
      exact I.ext.old β hb
    · rw [(eS 0 (by omega)).2, (eS s (Nat.le_refl _)).2]
      exact (T.sameLe (Nat.zero_le s) (Nat.le_refl _)).nxt
  rw [Array.length_toList] at hsl
  induction fuel with
  | zero =>
    intro listed ι w a hz hc hcl I
    exact full 0 hz hc hcl I fun j o hj _ => .inl (cnt_all hz (by omega) j (by omega))
  | succ fuel ih =>
    intro listed ι w a hz hc hcl I
    refine ⟨fun hr => (full (fuel + 1) hz hc hcl I fun j o hj _ => .inl (all_listed hz (lowE hC) hr j (by omega))).1 hr, fun i hi => ?_⟩
    rcases Nat.lt_or_ge i s with his | his
    · refine I.step hN hcf hfn T hC hok hcl hi his fun ι' a' w' I' => ih (by rw [Array.size_setIfInBounds]; exact hz) (cnt_step hi hc) (clo_step hcl hi) I'
    · refine (full (fuel + 1) hz hc hcl I fun j o hj ho => ?_).2 i hi
      obtain ⟨hsz, hnl⟩ := ready_not hi
      rcases ht with ht | ht
      · rw [Array.length_toList] at ht
        omega
      · rcases tailOK_spec ht i (by rw [Array.length_toList]; omega) his j (by omega) with h1 | ⟨_, o2, h1, h2⟩
        · exact .inl (ready_bfr hcl hi j h1)
        · refine .inr ?_
          rw [ho] at h1
          injection h1 with h1
          exact h1 ▸ h2
theorem draw_ok (hm : P.follows .mixedOrders = true) (hN : namesOK P = true) (hcf : CallsOK P G cf) (hfn : HasBody P cf) (hml : CallsMild cf) (hC : drawB ops = true) (hok : ops.toList.all (operOK nt G) = true) : DrawOK P G nt cf ops := by
  intro id ι base h w e e' h' a S hv
  obtain ⟨s, es, hs, g1, rfl, rfl, g4, g5, g6⟩ := (drawV_drawn _ hv).trace
  rw [Nat.zero_add] at g6
  have T : Trc P cf ops s es hs := ⟨hml, S.rel.wf, g1, g4⟩
  have hno : ∀ j, ¬ Lst (Array.replicate ops.size false) j := fun j hj => by
    unfold Lst at hj
    rw [Array.getD_eq_getD_getElem?, Array.getElem?_replicate] at hj
    split at hj <;> cases hj
  have hd := fun β k (e : ι β = some k) => (S.rel.dom β k e).1
  refine wp_region_any hm (draw_any hN hcf hfn hC hok (ι0 := ι) (w0 := w) (base := base) T g6 g5 (fun a' w' p => ⟨rfl, p⟩) ops.size (ι := ι) (by simp) ?_ (fun j hj => absurd hj (hno j)) ⟨?_, ?_, ?_, S.dfr, ?_, S.siz, fun j hj => absurd hj (hno j), Ext.refl _ _ _, ⟨Nat.le_refl _, fun _ _ _ => rfl, rfl, rfl⟩⟩)
  · rw [Array.toList_replicate]
    generalize ops.size = n
    induction n with
    | zero => exact Nat.le_refl _
    | succ n ih =>
      rw [List.replicate_succ]
      exact Nat.succ_le_succ ih
  · intro k hk
    have M := T.sameLe (Nat.zero_le k) hk
    have e : res (hs k).next ι = ι := funext fun β => by
      unfold res
      split
      · rfl
      · rename_i hn
        cases hb : ι β with
        | none => rfl
        | some q =>
          have := hd β q hb
          have := M.nxt
          omega
    rw [e]
    have R' := S.rel.up M
    exact ⟨R'.blk, R'.esz, R'.own, R'.gle, R'.dis, R'.dom, R'.new, R'.grp, R'.bas, R'.has⟩
  · exact fun β q hb => .inl (hd β q hb)
  · exact fun t => .inr ⟨fun j o hj => absurd hj (hno j), (S.env t).mono fun β q hb => res_of (hd β q hb) hb⟩
  · exact S.glb.mono fun β q hb => res_of (hd β q hb) hb
end Go.Proofs.YtiadfnedbbkojaaDoor.X
namespace Go.Proofs.YtiadfnedbbkojaaDoor.X
open Go
variable {P : Program} {G : Nat} {cf : FuncId → List Value → AH → Option (Value × AH)}
theorem three_inj {α β γ : Type} {a a' : α} {b b' : β} {c c' : γ} (h : some (a, b, c) = some (a', b', c')) : a = a' ∧ b = b' ∧ c = c' := by
  injection h with h
  injection h with h1 h2
  injection h2 with h2 h3
  exact ⟨h1, h2, h3⟩
theorem three_inj' {α β γ : Type} {a a' : α} {b b' : β} {c c' : γ} (h : (a, b, c) = (a', b', c')) : a = a' ∧ b = b' ∧ c = c' := by
  injection h with h1 h2
  injection h2 with h2 h3
  exact ⟨h1, h2, h3⟩
def Ex.to : Ex → Exit
  | .normal => .normal
  | .exit id => .exit id
  | .ret => .ret
def codeOK (nt G : Nat) (draw : Array Oper → Bool) : Code → Bool
  | .region _ ops d => ops.toList.all (operOK nt G) && (!d || draw ops)
  | .seq a b => codeOK nt G draw a && codeOK nt G draw b
  | .cond c x y => opdOK G c && (codeOK nt G draw x && codeOK nt G draw y)
  | .block _ c => codeOK nt G draw c
  | .loop c => codeOK nt G draw c
  | _ => true
theorem exec_sound (hN : namesOK P = true) (hcf : CallsOK P G cf) (hfn : HasBody P cf) {nt base : Nat} {draw : Array Oper → Bool} (hdr : ∀ ops, draw ops = true → ops.toList.all (operOK nt G) = true → DrawOK P G nt cf ops) (kf : Nat) :
    ∀ (c : Code) {ι : Inj} {h : AH} {w : World} {e e' : Tr Value} {h' : AH} {a : Act} {x : Ex}, codeOK nt G draw c = true → St P G nt ι base h w e a → exec P cf kf c e h = some (x, e', h') →
      c.wp P (fun ex a' w' => ex = x.to ∧ Post P G nt ι base h w e' h' a' w') a w := by
  intro c
  induction c with
  | skip =>
    intro ι h w e e' h' a x _ S hx
    obtain ⟨rfl, rfl, rfl⟩ := three_inj hx
    exact wp_skip ⟨rfl, Post.refl S⟩
  | ret =>
    intro ι h w e e' h' a x _ S hx
    obtain ⟨rfl, rfl, rfl⟩ := three_inj hx
    exact wp_ret ⟨rfl, Post.refl S⟩
  | exit id =>
    intro ι h w e e' h' a x _ S hx
    obtain ⟨rfl, rfl, rfl⟩ := three_inj hx
    exact wp_exit ⟨rfl, Post.refl S⟩
  | region id ops d =>
    intro ι h w e e' h' a x hok S hx
    obtain ⟨⟨e1, h1⟩, hv, hx⟩ := Option.map_eq_some_iff.1 hx
    obtain ⟨rfl, rfl, rfl⟩ := three_inj' hx
    have hok' : (ops.toList.all (operOK nt G) && (!d || draw ops)) = true := hok
    rw [Bool.and_eq_true] at hok'
    cases d with
    | false =>
      have hv : opsV P cf ops ops.toList e h = some (e1, h1) := hv
      exact wp_region_list (ops_step hN hcf hfn ops.toList S hok'.1 hv fun a' w' p => ⟨rfl, p⟩)
    | true =>
      have hv : drawV P cf ops 0 ops.toList e h = some (e1, h1) := hv
      exact hdr ops (by simpa using hok'.2) hok'.1 id ι base h w e e1 h1 a S hv
  | seq c1 c2 ih1 ih2 =>
    intro ι h w e e' h' a x hok S hx
    have hok' : (codeOK nt G draw c1 && codeOK nt G draw c2) = true := hok
    rw [Bool.and_eq_true] at hok'
    obtain ⟨⟨x1, e1, h1⟩, hx1, hx⟩ := Option.bind_eq_some_iff.1 hx
    refine wp_seq (wp_mono (ih1 hok'.1 S hx1) ?_)
    rintro ex a1 w1 ⟨rfl, ι1, S1, E1, K1, N1⟩
    cases x1 with
    | normal => exact wp_mono (ih2 hok'.2 S1 hx) fun ex a' w' ⟨q1, q2⟩ => ⟨q1, q2.trans E1 K1 N1⟩
    | exit id =>
      obtain ⟨rfl, rfl, rfl⟩ := three_inj hx
      exact ⟨rfl, ι1, S1, E1, K1, N1⟩
    | ret =>
      obtain ⟨rfl, rfl, rfl⟩ := three_inj hx
      exact ⟨rfl, ι1, S1, E1, K1, N1⟩
  | cond c x y ihx ihy =>
    intro ι h w e e' h' a xx hok S hx
    have hok' : (opdOK G c && (codeOK nt G draw x && codeOK nt G draw y)) = true := hok
    rw [Bool.and_eq_true, Bool.and_eq_true] at hok'
    have hc := ev_rel S.env S.glb hok'.1
    have hx' : (match ev e c with | .bool t => cond t (exec P cf kf x e h) (exec P cf kf y e h) | _ => none) = some (xx, e', h') := hx
    split at hx'
    · rename_i t ht
      rw [ht] at hc
      refine wp_cond hc.bool_inv ?_
      cases t with
      | true => exact ihx hok'.2.1 S hx'
      | false => exact ihy hok'.2.2 S hx'
    · cases hx'
  | block id c ih =>
    intro ι h w e e' h' a x hok S hx
    obtain ⟨⟨x1, e1, h1⟩, hx1, hx⟩ := Option.bind_eq_some_iff.1 hx
    refine wp_block (wp_mono (ih hok S hx1) ?_)
    rintro ex a1 w1 ⟨rfl, p⟩
    cases x1 with
    | normal =>
      obtain ⟨rfl, rfl, rfl⟩ := three_inj hx
      exact ⟨rfl, p⟩
    | exit j =>
      have hx' : cond (Nat.beq j id) (some (Ex.normal, e1, h1)) (some (Ex.exit j, e1, h1)) = some (x, e', h') := hx
      rw [cond_beq] at hx'
      show (if j = id then _ else _)
      split at hx'
      · rename_i hj
        obtain ⟨rfl, rfl, rfl⟩ := three_inj hx'
        rw [if_pos hj]
        exact ⟨rfl, p⟩
      · rename_i hj
        obtain ⟨rfl, rfl, rfl⟩ := three_inj hx'
        rw [if_neg hj]
        exact ⟨rfl, p⟩
    | ret =>
      obtain ⟨rfl, rfl, rfl⟩ := three_inj hx
      exact ⟨rfl, p⟩
  | loop c ih =>
    intro ι h w e e' h' a x hok S hx
    have key : ∀ (n : Nat) {ι : Inj} {h : AH} {w : World} {e : Tr Value} {a : Act}, St P G nt ι base h w e a → iter (exec P cf kf c) n e h = some (x, e', h') →
        Code.rounds P c (fun ex a' w' => ex = x.to ∧ Post P G nt ι base h w e' h' a' w') n a w := by
      intro n
      induction n with
      | zero =>
        intro ι h w e a S hx
        cases hx
      | succ n ihn =>
        intro ι h w e a S hx
        obtain ⟨⟨x1, e1, h1⟩, hx1, hx⟩ := Option.bind_eq_some_iff.1 hx
        rw [rounds_succ]
        refine wp_mono (ih hok S hx1) ?_
        rintro ex a1 w1 ⟨rfl, ι1, S1, E1, K1, N1⟩
        cases x1 with
        | normal =>
          have hr := ihn S1 hx
          have mono : ∀ (n : Nat) (Q Q' : Exit → Act → World → Prop), (∀ ex a w, Q ex a w → Q' ex a w) → ∀ a w, Code.rounds P c Q n a w → Code.rounds P c Q' n a w := by
            intro n Q Q' hqq
            induction n with
            | zero => exact fun _ _ h => h
            | succ n ihm =>
              intro a w hh
              rw [rounds_succ] at hh ⊢
              refine wp_mono hh ?_
              intro ex a' w' q
              cases ex with
              | normal => exact ihm a' w' q
              | exit _ => exact hqq _ _ _ q
              | goto _ => exact hqq _ _ _ q
              | ret => exact hqq _ _ _ q
              | panic _ => exact hqq _ _ _ q
              | outgrown => exact hqq _ _ _ q
          exact mono n _ _ (fun ex a' w' ⟨q1, q2⟩ => ⟨q1, q2.trans E1 K1 N1⟩) a1 w1 hr
        | exit id =>
          obtain ⟨rfl, rfl, rfl⟩ := three_inj hx
          exact ⟨rfl, ι1, S1, E1, K1, N1⟩
        | ret =>
          obtain ⟨rfl, rfl, rfl⟩ := three_inj hx
          exact ⟨rfl, ι1, S1, E1, K1, N1⟩
    exact wp_loop_rounds kf (key kf S hx)
  | rangeFunc f ps x y _ _ => exact fun _ _ hx => by cases hx
  | scope c _ => exact fun _ _ hx => by cases hx
  | label l => exact fun _ _ hx => by cases hx
  | goto l => exact fun _ _ hx => by cases hx
  | refuse s => exact fun _ _ hx => by cases hx
end Go.Proofs.YtiadfnedbbkojaaDoor.X
namespace Go.Proofs.YtiadfnedbbkojaaDoor.X
open Go
variable {P : Program} {G : Nat}
theorem envOf_get : ∀ (l : List Value) (i : Nat) (e : Tr Value) (j : Nat), (envOf l i e).get j = if i ≤ j ∧ j < i + l.length then l[j - i]? else e.get j
  | [], i, e, j => by
    unfold envOf
    rw [if_neg (fun hh => by simp only [List.length_nil] at hh; omega)]
  | v :: l, i, e, j => by
    unfold envOf
    rw [envOf_get l (i + 1) (e.set i v) j, Tr.get_set]
    simp only [List.length_cons]
    by_cases h1 : j = i
    · subst h1
      rw [if_neg (by omega), if_pos rfl, if_pos (by omega), Nat.sub_self]
      rfl
    · by_cases h2 : i + 1 ≤ j ∧ j < i + 1 + l.length
      · rw [if_pos h2, if_pos (by omega), show j - i = (j - (i + 1)) + 1 by omega]
        rfl
      · rw [if_neg h2, if_neg h1, if_neg (by omega)]
theorem env0_get (nt i : Nat) : (env0 nt).get i = none := by
  unfold env0
  generalize Nat.log2 (nt + 1) + 1 = d
  have key : ∀ (d a b i : Nat), (mkT ([] : List (Option Value)) d a b).get i = none := by
    intro d
    induction d with
    | zero => exact fun _ _ i => Tr.get_nil i
    | succ d ih =>
      intro a b i
      cases i with
      | zero => rfl
      | succ i =>
        show (Tr.node _ _ _).get (i + 1) = none
        rw [Tr.get_succ]
        split
        · exact ih _ _ _
        · exact ih _ _ _
  exact key d 1 0 i
theorem envOf_rel {ι : Inj} {args : List Value} {argsc : Array Value} (ha : AllR (vRel ι) args argsc.toList) (nt n : Nat) : relE ι (envOf args 0 (env0 nt)) (argsc ++ Array.replicate n undef) := by
  intro i
  rw [envOf_get]
  have hl : args.length = argsc.size := ha.length_eq.trans Array.length_toList
  by_cases hi : 0 ≤ i ∧ i < 0 + args.length
  · rw [if_pos hi, Nat.sub_zero]
    have hlt : i < args.length := by omega
    obtain ⟨y, hy, hr⟩ := ha.get (List.getElem?_eq_getElem hlt)
    rw [List.getElem?_eq_getElem hlt]
    rw [Array.getElem?_toList] at hy
    have : (argsc ++ Array.replicate n undef).getD i undef = y := by
      rw [Array.getD_eq_getD_getElem?, Array.getElem?_append_left (by omega), hy]
      rfl
    rw [this]
    exact hr
  · rw [if_neg hi, env0_get]
    have : (argsc ++ Array.replicate n undef).getD i undef = undef := by
      rw [Array.getD_eq_getD_getElem?, Array.getElem?_append_right (by omega), Array.getElem?_replicate]
      split <;> rfl
    rw [this]
    exact vRel.undef
def resF (t : Array Value) : ResultVar → Sem Value
  | .tmp t1 => pure (t.getD t1 undef)
  | .cell a t1 => do loadVar t1 (← asAddr (t.getD a undef))
theorem results_eq (fn : Func) (t : Array Value) : results fn t = (do
    let vs ← fn.results.mapM (resF t)
    pure (if h : vs.size = 1 then vs[0] else .tuple vs)) := rfl
theorem resV_sound {ι : Inj} {base : Nat} {h : AH} {w : World} {e : Tr Value} {t : Array Value} (R : Rel ι base h w) (E : relE ι e t) : ∀ (l : List ResultVar) (vs : List Value), resVs P e h l = some vs →
    ∃ vcs : List Value, (l.mapM (resF t)).run P w = .ok vcs w ∧ AllR (vRel ι) vs vcs
  | [], vs, hv => by
    injection hv with hv
    subst hv
    exact ⟨[], by simp, trivial⟩
  | r :: l, vs, hv => by
    unfold resVs at hv
    obtain ⟨v, hv1, hv⟩ := Option.bind_eq_some_iff.1 hv
    obtain ⟨vs', hv2, hv⟩ := Option.bind_eq_some_iff.1 hv
    injection hv with hv
    subst hv
    obtain ⟨vcs, g1, g2⟩ := resV_sound R E l vs' hv2
    cases r with
    | tmp t1 =>
      injection hv1 with hv1
      subst hv1
      refine ⟨t.getD t1 undef :: vcs, ?_, E t1, g2⟩
      rw [List.mapM_cons]
      simp only [resF, Sem.run_bind, Sem.run_pure, Result.andThen_ok, g1]
    | cell a t1 =>
      obtain ⟨vc, q1, q2⟩ := loadV_sound (P := P) R hv1 (E a)
      refine ⟨vc :: vcs, ?_, q2, g2⟩
      have q3 : (do loadVar t1 (← asAddr (t.getD a undef)) : Sem Value).run P w = .ok vc w := by
        have hv1' : loadV P t1 ((e.get a).getD undef) h = some v := hv1
        unfold loadV at hv1'
        split at hv1'
        · rename_i ad had
          have hE := E a
          rw [had] at hE
          obtain ⟨c, hc, _⟩ := hE.ptr_inv
          rw [hc] at q1 ⊢
          simpa [Instr.loadAt, Instr.sureAddr, asAddr] using q1
        · cases hv1'
      have q4 : (resF t (.cell a t1)).run P w = .ok vc w := q3
      rw [List.mapM_cons]
      simp only [Sem.run_bind, q4, Result.andThen_ok, g1, Sem.run_pure]
theorem noTup_rel {ι : Inj} : ∀ {vs vcs : List Value}, AllR (vRel ι) vs vcs → vs.all noTup = true → AllR (wRel ι) vs vcs
  | [], [], _, _ => trivial
  | v :: vs, c :: vcs, h, hn => by
    rw [List.all_cons, Bool.and_eq_true] at hn
    refine ⟨?_, noTup_rel h.2 hn.2⟩
    have h1 := h.1
    cases h1 with
    | one h1 => exact h1
    | tuple _ _ _ => cases hn.1
  | [], _ :: _, h, _ => h.elim
  | _ :: _, [], h, _ => h.elim
theorem packV_sound {ι : Inj} {vs vcs : List Value} {v : Value} (h : AllR (vRel ι) vs vcs) (hp : packV vs = some v) : vRel ι v (if h : vcs.toArray.size = 1 then vcs.toArray[0] else .tuple vcs.toArray) := by
  unfold packV at hp
  split at hp
  · injection hp with hp
    subst hp
    obtain ⟨y, l, rfl, h1, h2⟩ := h.cons_inv
    obtain rfl := h2.nil_inv
    simpa using h1
  · rename_i hne
    obtain ⟨hn, hp⟩ := cond_some' hp
    injection hp with hp
    subst hp
    have hl := h.length_eq
    have hs : ¬ (vcs.toArray.size = 1) := by
      intro e
      rw [List.size_toArray] at e
      rw [e] at hl
      match vs, hl, hne with
      | [x], _, hne => exact hne x rfl
    rw [dif_neg hs]
    exact .tuple _ _ (by rw [List.toList_toArray, List.toList_toArray]; exact noTup_rel h hn)
theorem wRel.through {ι' ι1 : Inj} (hs : Sub ι' ι1) {x y y' : Value} (h : wRel ι' x y) (h' : wRel ι1 x y') : wRel ι' x y' := by
  cases h with
  | cell h =>
    cases h' with
    | cell h' => exact .cell (h.through hs h')
    | agg cs ds h' => cases h with
      | atom h => cases h
  | agg cs ds h =>
    cases h' with
    | cell h' => cases h' with
      | atom h' => cases h'
    | agg _ ds' h' => exact .agg cs ds' (AllR.through (R := cRel ι') (S := cRel ι1) (fun _ _ _ a b => cRel.through hs a b) h h')
theorem vRel.through {ι' ι1 : Inj} (hs : Sub ι' ι1) {x y y' : Value} (h : vRel ι' x y) (h' : vRel ι1 x y') : vRel ι' x y' := by
  cases h with
  | one h =>
    cases h' with
    | one h' => exact .one (h.through hs h')
    | tuple cs ds h' => cases h with
      | cell h => cases h with
        | atom h => cases h
  | tuple cs ds h =>
    cases h' with
    | one h' => cases h' with
      | cell h' => cases h' with
        | atom h' => cases h'
    | tuple _ ds' h' => exact .tuple cs ds' (AllR.through (R := wRel ι') (S := wRel ι1) (fun _ _ _ a b => wRel.through hs a b) h h')
def fnOK (G : Nat) (draw : Array Oper → Bool) (fn : Func) : Bool := match fn.body with
  | some c => codeOK fn.ntmps G draw c
  | none => true
def progOK (P : Program) (G : Nat) (draw : Array Oper → Bool) : Bool := P.funcs.toList.all (fnOK G draw)
theorem run_succ {n : Nat} {f : FuncId} {args : List Value} {h : AH} {r : Value × AH} (hr : run P (n + 1) f args h = some r) :
    ∃ fn c, P.funcs[f]? = some fn ∧ fn.body = some c ∧ ((exec P (run P n) n c (envOf args 0 (env0 fn.ntmps)) { h with low := h.next }).bind fun r => match r.1 with
        | .exit _ => none
        | _ => (resVs P r.2.1 r.2.2 fn.results.toList).bind fun vs => (packV vs).map fun v => exitR h r.2.2 v) = some r := by
  unfold run at hr
  split at hr
  · rename_i fn hf
    split at hr
    · rename_i c hb
      exact ⟨fn, c, hf, hb, hr⟩
    · cases hr
  · cases hr
theorem run_body (n : Nat) : HasBody P (run P n) := by
  intro f args h r hr
  cases n with
  | zero => cases hr
  | succ n =>
    obtain ⟨fn, c, hf, hb, _⟩ := run_succ hr
    exact ⟨fn, hf, by rw [hb]; rfl⟩
theorem run_sound (hm : P.follows .mixedOrders = true) (hN : namesOK P = true) (hP : progOK P G drawB = true) : ∀ n, CallsOK P G (run P n) := by
  intro n
  induction n with
  | zero => exact fun _ _ _ _ _ hr => by cases hr
  | succ n ih =>
    intro f args h v h' hr ι base w argsc R hG ha
    obtain ⟨fn, c, hf, hb, hr⟩ := run_succ hr
    obtain ⟨⟨x, e1, h1⟩, hx, hr⟩ := Option.bind_eq_some_iff.1 hr
    have hok : codeOK fn.ntmps G drawB c = true := by
      have hm : fn ∈ P.funcs.toList := by
        rw [← Array.getElem?_toList] at hf
        exact List.mem_of_getElem? hf
      have := List.all_eq_true.1 hP fn hm
      unfold fnOK at this
      rw [hb] at this
      exact this
    refine calls_of_wp hf hb (wp_mono (exec_sound hN ih (run_body n) (fun ops hd ho => draw_ok hm hN ih (run_body n) (run_mild n) hd ho) n c hok (ι := ι) (h := { h with low := h.next }) (base := base) (a := ⟨argsc ++ Array.replicate (fn.ntmps - argsc.size) undef, []⟩) ⟨R.setLow _, envOf_rel ha _ _, rfl, hG, by simp; omega⟩ hx) ?_)
    rintro ex a' w' ⟨rfl, ι', S', E', K', N'⟩
    have M := exec_mild (run_mild n) n c (R.wf.setLow h.next) hx
    have fin : ∀ {v : Value} {h' : AH}, ((resVs P e1 h1 fn.results.toList).bind fun vs => (packV vs).map fun v => exitR h h1 v) = some (v, h') →
        a'.defers = [] ∧ ∃ vc, (results fn a'.tmps).run P w' = .ok vc w' ∧ ∃ vc' ι', Ending.returned vc = .returned vc' ∧ vRel ι' v vc' ∧ Rel ι' base h' w' ∧ Ext h.next w ι ι' ∧ Keep base ι w w' ∧ h.next ≤ h'.next := by
      intro v h' hr
      obtain ⟨vs, hvs, hr⟩ := Option.bind_eq_some_iff.1 hr
      obtain ⟨v1, hv1, e2⟩ := Option.map_eq_some_iff.1 hr
      obtain ⟨vcs, g1, g2⟩ := resV_sound (P := P) S'.rel S'.env _ _ hvs
      have hvr := packV_sound g2 hv1
      have hrun : (results fn a'.tmps).run P w' = .ok (if h : vcs.toArray.size = 1 then vcs.toArray[0] else .tuple vcs.toArray) w' := by
        rw [results_eq, Array.mapM_eq_mapM_toList]
        simp only [Sem.run_bind, Sem.run_map, g1, Result.andThen_ok, Sem.run_pure]
      have hs : Sub ι ι' := E'.sub fun β k hk => (R.dom β k hk).1
      unfold exitR at e2
      cases hg : (Nat.beq h1.low h.next && plainV v1) with
      | true =>
        rw [hg] at e2
        obtain ⟨rfl, rfl⟩ := Prod.mk.inj e2
        rw [Bool.and_eq_true] at hg
        have hS := same_of_mild R.wf M (Nat.eq_of_beq_eq_true hg.1)
        exact ⟨S'.dfr, _, hrun, _, ι, rfl, vRel.through hs (plainV_rel hg.2) hvr, R.below S'.rel hS hs K'.1, Ext.refl _ _ _, K', Nat.le_refl _⟩
      | false =>
        rw [hg] at e2
        obtain ⟨rfl, rfl⟩ := Prod.mk.inj e2
        exact ⟨S'.dfr, _, hrun, _, ι', rfl, hvr, S'.rel.setLow _, E', K', N'⟩
    cases x with
    | normal => exact fin hr
    | ret => exact fin hr
    | exit _ => cases hr
end Go.Proofs.YtiadfnedbbkojaaDoor.X
namespace Go.Proofs.YtiadfnedbbkojaaDoor.X
open Go
variable {H : Type}
def AH.newRo (h : AH) (cells : List Value) (esz : Nat) : AH := { blks := h.blks.set h.next ⟨cells, esz, h.next, true⟩, grps := h.grps, next := h.next + 1, low := h.low }
def layAll (f : TypeId → DataW H → AH → Option (List Value × AH)) : List (TypeId × DataW H) → AH → Option (List Value × AH)
  | [], h => some ([], h)
  | d :: l, h => (f d.1 d.2 h).bind fun p => (layAll f l p.2).bind fun q => some (p.1 ++ q.1, q.2)
def contig (P : Program) : Nat → List Field → Nat → Bool
  | o, [], e => Nat.beq o e
  | o, f :: r, e => Nat.beq f.offset o && contig P (o + P.cellsOf f.type) r e
/-- The cells of a datum: what it points to becomes blocks. -/
def layD (P : Program) : Nat → TypeId → DataW H → AH → Option (List Value × AH)
  | 0, _, _, _ => none
  | N + 1, t, d, h => match P.underlying t, d with
    | some .bool, .lit (.bool b) => some ([.bool b], h)
    | some (.int _), .lit (.int k n) => some ([.int k n], h)
    | some .string, .lit (.string s) => some ([.string ⟨s.toArray⟩], h)
    | some (.slice _), .nil => some ([.slice none 0 0], h)
    | some (.slice e), .slice xs ys => cond (Nat.beq (xs.length + ys.length) 0) (some ([.slice (some ⟨0, 0, none⟩) 0 0], h)) (cond (Nat.beq (P.cellsOf e) 0 || Nat.ble OPEN (xs.length + ys.length)) none
        ((layAll (layD P N) ((xs ++ ys).map fun d => (e, d)) h).bind fun p => some ([.slice (some ⟨p.2.next, 0, none⟩) xs.length (xs.length + ys.length)], p.2.newRo p.1 (P.cellsOf e))))
    | some (.pointer _), .nil => some ([.pointer none], h)
    | some (.pointer e), .ptr d => cond (Nat.beq (P.cellsOf e) 0) none ((layD P N e d h).bind fun p => some ([.pointer (some ⟨p.2.next, 0, none⟩)], p.2.newRo p.1 0))
    | some (.struct fs), .agg xs => cond (contig P 0 fs.toList (P.cellsOf t)) (layAll (layD P N) ((fs.toList.map fun f => f.type).zip xs) h) none
    | some (.array n e), .agg xs => cond (Nat.beq (n * P.cellsOf e) (P.cellsOf t)) (layAll (layD P N) (xs.map fun d => (e, d)) h) none
    | _, _ => none
/-- All blocks are only read. -/
def RoAll (h : AH) : Prop := ∀ β b, h.blks.get β = some b → b.ro = true
variable {enc : TypeId × Value → H} {P : Program} {w : World} {base : Nat} {spare : Nat → Bool} {held : Bool} {ι : Inj} {h : AH}
theorem Rel.newRo (R : Rel ι base h w) (hro : RoAll h) {cells : List Value} {z : Nat} {k : Img} {cs : Array Value} {el : TypeId} {fz : Nat × Nat} (h1 : w.heap[k.b]? = some (.cells cs el fz)) (h2 : cs.size = k.bsz) (hz : k.esz = z)
    (h3 : AllR (cRel ι) cells ((cs.toList.drop k.sh).take cells.length)) : ∃ ι' : Inj, ι' h.next = some k ∧ Rel ι' base (h.newRo cells z) w ∧ RoAll (h.newRo cells z) ∧ (∀ β, β < h.next → ι' β = ι β) := by
  obtain ⟨_, hn2⟩ := R.new h.next (Nat.le_refl _)
  let ι' : Inj := fun γ => if γ = h.next then some k else ι γ
  have hι1 : ι' h.next = some k := if_pos rfl
  have hι2 : ∀ γ, γ ≠ h.next → ι' γ = ι γ := fun γ e => if_neg e
  have hsub : Sub ι ι' := fun β k e => (hι2 β (Nat.ne_of_lt (R.dom β k e).1)).trans e
  have hblk : ∀ γ, (h.newRo cells z).blks.get γ = if γ = h.next then some ⟨cells, z, h.next, true⟩ else h.blks.get γ := fun γ => Tr.get_set _ _ _ _
  have hra : RoAll (h.newRo cells z) := fun β b hb => by
    rw [hblk] at hb
    split at hb
    · injection hb with hb
      subst hb
      rfl
    · exact hro β b hb
  have hrd : ∀ γ c, (h.newRo cells z).rd γ = some c → (γ = h.next ∧ c = ⟨cells, z, h.next, true⟩) ∨ (γ ≠ h.next ∧ h.rd γ = some c) := fun γ c hc => by
    obtain ⟨q1, q2⟩ := rd_get hc
    rw [hblk] at q1
    split at q1
    · rename_i e
      injection q1 with q1
      exact .inl ⟨e, q1.symm⟩
    · rename_i e
      exact .inr ⟨e, rd_of q1 q2⟩
  have hkb : k.b < w.heap.size := by
    rcases Nat.lt_or_ge k.b w.heap.size with g | g
    · exact g
    · rw [Array.getElem?_eq_none g] at h1
      cases h1
  refine ⟨ι', hι1, ⟨?_, ?_, ?_, ?_, ?_, ?_, ?_, ?_, R.bas, ?_⟩, hra, fun β hb => hι2 β (Nat.ne_of_lt hb)⟩
  · intro β b q hr hk
    rcases hrd β b hr with ⟨rfl, rfl⟩ | ⟨e, hr⟩
    · rw [hι1] at hk
      injection hk with hk
      subst hk
      exact ⟨cs, el, fz, h1, h2, fun e => (by cases e), _, rfl, h3.mono fun _ _ => cRel.mono hsub⟩
    · rw [hι2 β e] at hk
      obtain ⟨cs', el', fz', g1, g2, g3, l, g4, g5⟩ := R.blk β b q hr hk
      exact ⟨cs', el', fz', g1, g2, g3, l, g4, g5.mono fun _ _ => cRel.mono hsub⟩
  · intro β b q hb hk
    rw [hblk] at hb
    split at hb
    · rename_i e
      subst e
      injection hb with hb
      subst hb
      rw [hι1] at hk
      injection hk with hk
      subst hk
      exact hz
    · rename_i e
      rw [hι2 β e] at hk
      exact R.esz β b q hb hk
  · intro β b q hb _ hr
    rw [hra β b hb] at hr
    cases hr
  · intro β b hb
    rw [hblk] at hb
    split at hb
    · rename_i e
      injection hb with hb
      subst hb
      exact Nat.le_of_eq e.symm
    · exact R.gle β b hb
  · intro β β' b b' q q' hb hb' _ _ _ hr
    rw [hra β b hb, hra β' b' hb'] at hr
    rcases hr with hr | hr <;> cases hr
  · intro β q hk
    by_cases e : β = h.next
    · subst e
      rw [hι1] at hk
      injection hk with hk
      subst hk
      exact ⟨Nat.lt_succ_self _, hkb⟩
    · rw [hι2 β e] at hk
      exact ⟨Nat.lt_succ_of_lt (R.dom β q hk).1, (R.dom β q hk).2⟩
  · intro β hβ
    have hβ' : h.next + 1 ≤ β := hβ
    rw [hblk, if_neg (by omega)]
    exact R.new β (by omega)
  · intro β b hb
    rw [hblk] at hb
    split at hb
    · injection hb with hb
      subst hb
      exact Nat.lt_succ_self _
    · exact Nat.lt_succ_of_lt (R.grp β b hb)
  · intro β q hk
    rw [hblk]
    by_cases e : β = h.next
    · exact ⟨_, if_pos e⟩
    · rw [hι2 β e] at hk
      obtain ⟨b, hb⟩ := R.has β q hk
      exact ⟨b, by rw [if_neg e]; exact hb⟩
/-- Data, one after another, are what the cells read as. -/
def ReadsL (enc : TypeId × Value → H) (P : Program) (w : World) (base : Nat) (spare : Nat → Bool) (held : Bool) (m : Nat) : List (TypeId × DataW H) → List Value → Prop
  | [], l => l = []
  | td :: r, l => (∃ ps, DataW.trod enc P w base spare held m td.1 (l.take (P.cellsOf td.1)) = some (td.2, ps)) ∧ ReadsL enc P w base spare held m r (l.drop (P.cellsOf td.1))
/-- What laying does. -/
def Laid (ι : Inj) (base : Nat) (w : World) (h : AH) (xs cs : List Value) (h' : AH) : Prop :=
  ∃ ι' : Inj, Rel ι' base h' w ∧ RoAll h' ∧ (∀ β, β < h.next → ι' β = ι β) ∧ h.next ≤ h'.next ∧ AllR (cRel ι') xs cs
theorem layAll_sound {f : TypeId → DataW H → AH → Option (List Value × AH)} {m tb : Nat}
    (hf : ∀ t cs d ps ι h xs h', DataW.trod enc P w tb spare held m t cs = some (d, ps) → f t d h = some (xs, h') → Rel ι base h w → RoAll h → Laid ι base w h xs cs h') :
    ∀ (l : List (TypeId × DataW H)) {cs : List Value} {ι : Inj} {h h' : AH} {xs : List Value}, ReadsL enc P w tb spare held m l cs → layAll f l h = some (xs, h') → Rel ι base h w → RoAll h → Laid ι base w h xs cs h'
  | [], cs, ι, h, h', xs, hr, hl, R, hro => by
    obtain rfl : cs = [] := hr
    obtain ⟨rfl, rfl⟩ := Prod.mk.inj (Option.some.inj hl)
    exact ⟨ι, R, hro, fun _ _ => rfl, Nat.le_refl _, trivial⟩
  | td :: l, cs, ι, h, h', xs, hr, hl, R, hro => by
    obtain ⟨⟨ps, hp⟩, hr⟩ := hr
    obtain ⟨⟨x1, h1⟩, hx1, hl⟩ := Option.bind_eq_some_iff.1 hl
    obtain ⟨⟨x2, h2⟩, hx2, hl⟩ := Option.bind_eq_some_iff.1 hl
    obtain ⟨rfl, rfl⟩ := Prod.mk.inj (Option.some.inj hl)
    obtain ⟨ι1, R1, ro1, a1, n1, c1⟩ := hf _ _ _ _ _ _ _ _ hp hx1 R hro
    obtain ⟨ι2, R2, ro2, a2, n2, c2⟩ := layAll_sound hf l hr hx2 R1 ro1
    have hs : Sub ι1 ι2 := fun β k e => (a2 β (R1.dom β k e).1).trans e
    refine ⟨ι2, R2, ro2, fun β hb => (a2 β (Nat.lt_of_lt_of_le hb n1)).trans (a1 β hb), Nat.le_trans n1 n2, ?_⟩
    have := (c1.mono fun _ _ => cRel.mono hs).append c2
    rwa [List.take_append_drop] at this
/-- n data of one type. -/
theorem readsL_rep {m : Nat} {e : TypeId} : ∀ (ds : List (DataW H)) (cs : List Value), cs.length = ds.length * P.cellsOf e →
    (∀ i d, ds[i]? = some d → ∃ ps, DataW.trod enc P w base spare held m e ((cs.drop (i * P.cellsOf e)).take (P.cellsOf e)) = some (d, ps)) → ReadsL enc P w base spare held m (ds.map fun d => (e, d)) cs
  | [], cs, hl, _ => List.eq_nil_of_length_eq_zero (by rw [hl, List.length_nil, Nat.zero_mul])
  | d :: ds, cs, hl, hr => by
    refine ⟨?_, readsL_rep ds _ (by rw [List.length_drop, hl, List.length_cons, Nat.add_mul, Nat.one_mul, Nat.add_sub_cancel]) fun i d' hd => ?_⟩
    · have := hr 0 d rfl
      rwa [Nat.zero_mul, List.drop_zero] at this
    · have := hr (i + 1) d' hd
      rwa [List.drop_drop, Nat.add_comm (P.cellsOf e), ← Nat.succ_mul]
theorem readsL_fields {m : Nat} : ∀ (fs : List Field) (ds : List (DataW H)) (o e : Nat) (cs : List Value), contig P o fs e = true → ds.length = fs.length → cs.length = e - o → o ≤ e →
    (∀ (i : Nat) (f : Field) (d : DataW H), fs[i]? = some f → ds[i]? = some d → ∃ ps, DataW.trod enc P w base spare held m f.type ((cs.drop (f.offset - o)).take (P.cellsOf f.type)) = some (d, ps)) → ReadsL enc P w base spare held m ((fs.map fun f => f.type).zip ds) cs := by
  intro fs
  induction fs with
  | nil =>
    intro ds o e cs hc hd hl _ _
    cases ds with
    | nil =>
      have := Nat.eq_of_beq_eq_true hc
      exact List.eq_nil_of_length_eq_zero (by omega)
    | cons _ _ => cases hd
  | cons f fs ih =>
    intro ds o e cs hc hd hl hoe hr
    cases ds with
    | nil => cases hd
    | cons d ds =>
      unfold contig at hc
      rw [Bool.and_eq_true] at hc
      have ho := Nat.eq_of_beq_eq_true hc.1
      have mono : ∀ (fs : List Field) (o e : Nat), contig P o fs e = true → o ≤ e ∧ ∀ f ∈ fs, o ≤ f.offset := by
        intro fs
        induction fs with
        | nil => exact fun o e h => ⟨Nat.le_of_eq (Nat.eq_of_beq_eq_true h), fun f hf => by cases hf⟩
        | cons g fs ih =>
          intro o e h
          unfold contig at h
          rw [Bool.and_eq_true] at h
          have h1 := ih _ _ h.2
          refine ⟨by omega, fun f hf => ?_⟩
          rcases List.mem_cons.1 hf with rfl | hf
          · exact Nat.le_of_eq (Nat.eq_of_beq_eq_true h.1).symm
          · have := h1.2 f hf
            omega
      have hm := mono fs _ e hc.2
      refine ⟨?_, ih ds _ e _ hc.2 (Nat.succ.inj hd) (by rw [List.length_drop]; show cs.length - P.cellsOf f.type = _; omega) hm.1 fun i f' d' hf' hd' => ?_⟩
      · have := hr 0 f d rfl rfl
        rwa [ho, Nat.sub_self, List.drop_zero] at this
      · have := hr (i + 1) f' d' hf' hd'
        rw [List.drop_drop]
        have hle := hm.2 f' (List.mem_of_getElem? hf')
        rwa [show P.cellsOf f.type + (f'.offset - (o + P.cellsOf f.type)) = f'.offset - o by omega]
/-- A stretch of cells. -/
theorem cells_of {a : Addr} {n : Nat} {l : List Value} (hc : w.cells? base a n = some l) (hn : n ≠ 0) : a.spot = none ∧ ∃ cs el fz, w.heap[a.block]? = some (.cells cs el fz) ∧ a.off + n ≤ cs.size ∧ l = (cs.toList.drop a.off).take n := by
  unfold World.cells? at hc
  split at hc
  · have hlen := mapM_some_length hc
    rw [List.length_range] at hlen
    have hget := fun i (hi : i < n) => mapM_some_get hc i i (by simp [hi])
    have hcell : ∀ i (hi : i < n), w.cell? (a.add i) = some (l[i]'(by omega)) := fun i hi => by
      rw [hget i hi]
      exact List.getElem?_eq_getElem (by omega)
    have h0 := hcell 0 (by omega)
    have hsp : a.spot = none := by
      unfold World.cell? at h0
      split at h0
      · cases hs : a.spot with
        | none => rfl
        | some s =>
          have : ((a.add 0).spot).isSome = true := by
            show a.spot.isSome = true
            rw [hs]
            rfl
          rw [if_pos this] at h0
          cases h0
      · cases h0
    obtain ⟨ab, ao, as⟩ := a
    obtain rfl : as = none := hsp
    have hadd : ∀ i, (⟨ab, ao, none⟩ : Addr).add i = ⟨ab, ao + i, none⟩ := fun i => add_none rfl i
    have h0' := h0
    rw [hadd] at h0'
    unfold World.cell? at h0'
    split at h0'
    · rename_i cs el fz hh
      have hc' : ∀ i (hi : i < n), cs[ao + i]? = some (l[i]'(by omega)) := fun i hi => by
        have := hcell i hi
        rw [hadd] at this
        unfold World.cell? at this
        rw [hh] at this
        exact this
      have hsz : ao + n ≤ cs.size := by
        have := hc' (n - 1) (by omega)
        have := (Array.getElem?_eq_some_iff.1 this).1
        omega
      refine ⟨rfl, cs, el, fz, hh, hsz, ?_⟩
      apply List.ext_getElem?
      intro i
      rw [List.getElem?_take]
      split
      · rename_i hi
        rw [List.getElem?_drop]
        exact (List.getElem?_eq_getElem (by omega)).trans ((hc' i hi).symm.trans Array.getElem?_toList.symm)
      · exact List.getElem?_eq_none (by omega)
    · cases h0'
  · cases hc
end Go.Proofs.YtiadfnedbbkojaaDoor.X
namespace Go.Proofs.YtiadfnedbbkojaaDoor.X
open Go
variable {H : Type} {enc : TypeId × Value → H} {P : Program} {w : World} {base : Nat} {held : Bool}
/-- A row of elements at an address. -/
theorem readsL_row {m : Nat} {e : TypeId} {a : Addr} (hz : P.cellsOf e ≠ 0) : ∀ (ds : List (DataW H)), ds ≠ [] →
    (∀ i d, ds[i]? = some d → ∃ l ps, w.cells? 0 (a.add (i * P.cellsOf e)) (P.cellsOf e) = some l ∧ DataW.trod enc P w 0 (fun _ => true) held m e l = some (d, ps)) →
    a.spot = none ∧ ∃ cs el fz, w.heap[a.block]? = some (.cells cs el fz) ∧ a.off + ds.length * P.cellsOf e ≤ cs.size ∧
      ReadsL enc P w 0 (fun _ => true) held m (ds.map fun d => (e, d)) ((cs.toList.drop a.off).take (ds.length * P.cellsOf e)) := by
  intro ds hne hr
  have hpos : 0 < ds.length := List.length_pos_iff.2 hne
  obtain ⟨l0, ps0, h0, _⟩ := hr 0 _ (List.getElem?_eq_getElem hpos)
  rw [Nat.zero_mul] at h0
  obtain ⟨hsp, cs, el, fz, hh, _, _⟩ := cells_of h0 hz
  have hsp : a.spot = none := hsp
  obtain ⟨ab, ao, as⟩ := a
  obtain rfl : as = none := hsp
  have hb : (⟨ab, ao, none⟩ : Addr).add 0 = ⟨ab, ao + 0, none⟩ := add_none rfl 0
  rw [hb] at hh
  have hall : ∀ i d, ds[i]? = some d → ao + i * P.cellsOf e + P.cellsOf e ≤ cs.size ∧ ∃ ps, DataW.trod enc P w 0 (fun _ => true) held m e ((cs.toList.drop (ao + i * P.cellsOf e)).take (P.cellsOf e)) = some (d, ps) := by
    intro i d hd
    obtain ⟨l, ps, h1, h2⟩ := hr i d hd
    obtain ⟨_, cs', el', fz', hh', hsz, rfl⟩ := cells_of h1 hz
    have hb : (⟨ab, ao, none⟩ : Addr).add (i * P.cellsOf e) = ⟨ab, ao + i * P.cellsOf e, none⟩ := add_none rfl _
    rw [hb] at hh' hsz h2
    have hh' : w.heap[ab]? = some (.cells cs' el' fz') := hh'
    have hh : w.heap[ab]? = some (.cells cs el fz) := hh
    rw [hh] at hh'
    injection hh' with hh'
    injection hh' with h5 _ _
    subst h5
    exact ⟨hsz, ps, h2⟩
  have hfit : ao + ds.length * P.cellsOf e ≤ cs.size := by
    obtain ⟨h1, _⟩ := hall (ds.length - 1) _ (List.getElem?_eq_getElem (by omega))
    have : (ds.length - 1) * P.cellsOf e + P.cellsOf e = ds.length * P.cellsOf e := by
      rw [← Nat.succ_mul]
      congr 1
      omega
    omega
  refine ⟨rfl, cs, el, fz, hh, hfit, readsL_rep ds _ (by rw [List.length_take, List.length_drop]; have hq : cs.toList.length = cs.size := Array.length_toList; show min _ (cs.toList.length - ao) = _; omega) fun i d hd => ?_⟩
  obtain ⟨_, ps, h2⟩ := hall i d hd
  refine ⟨ps, ?_⟩
  have hi := (List.getElem?_eq_some_iff.1 hd).1
  have hle : i * P.cellsOf e + P.cellsOf e ≤ ds.length * P.cellsOf e := by
    rw [← Nat.succ_mul]
    exact Nat.mul_le_mul_right _ hi
  rw [List.drop_take, List.drop_drop, List.take_take, Nat.min_eq_left (by omega)]
  exact h2
theorem Laid.one {ι : Inj} {h : AH} (R : Rel ι base h w) (hro : RoAll h) {x y : Value} (hx : pRel ι x y) : Laid ι base w h [x] [y] h :=
  ⟨ι, R, hro, fun _ _ => rfl, Nat.le_refl _, .atom hx, trivial⟩
theorem layD_sound : ∀ (N : Nat) (m : Nat) (t : TypeId) (cs : List Value) (d : DataW H) (ps : List MemPlace) (ι : Inj) (h : AH) (xs : List Value) (h' : AH),
    DataW.trod enc P w 0 (fun _ => true) held m t cs = some (d, ps) → layD P N t d h = some (xs, h') → Rel ι base h w → RoAll h → Laid ι base w h xs cs h' := by
  intro N
  induction N with
  | zero => exact fun _ _ _ _ _ _ _ _ _ _ hl => by cases hl
  | succ N ih =>
    intro m t cs d ps ι h xs h' hp hl R hro
    unfold layD at hl
    split at hl
    · rename_i hu
      obtain ⟨b, rfl, e⟩ := DataW.trod_bool hu hp
      injection e with e1 e2
      cases e1
      obtain ⟨rfl, rfl⟩ := Prod.mk.inj (Option.some.inj hl)
      exact .one R hro (.bool _)
    · rename_i hu
      obtain ⟨n, rfl, e, _⟩ := DataW.trod_int hu hp
      injection e with e1 e2
      cases e1
      obtain ⟨rfl, rfl⟩ := Prod.mk.inj (Option.some.inj hl)
      exact .one R hro (.int _ _)
    · rename_i hu
      obtain ⟨s, rfl, e, _⟩ := DataW.trod_string hu hp
      injection e with e1 e2
      cases e1
      obtain ⟨rfl, rfl⟩ := Prod.mk.inj (Option.some.inj hl)
      exact .one R hro (.string _)
    · rename_i hu
      obtain ⟨rfl, rfl⟩ := Prod.mk.inj (Option.some.inj hl)
      rcases DataW.trod_slice hu hp with ⟨rfl, _⟩ | ⟨_, _, _, _, _, _, _, _, e, _⟩
      · exact .one R hro .snil
      · injection e with e1 _
        cases e1
    · rename_i e xs0 ys0 hu
      rcases DataW.trod_slice hu hp with ⟨rfl, e⟩ | ⟨a, len, cap, el, rs, n, rfl, rfl, e, _, hlc, hcm, hel, h1, h2, _⟩
      · injection e with e1 _
        cases e1
      · injection e with e1 _
        injection e1 with e1 e2
        subst e1
        subst e2
        obtain ⟨hrl, h2⟩ := h2 rfl
        rw [cond_beq] at hl
        have hlen : (el.map (·.1)).length + (rs.map (·.1)).length = cap := by
          rw [List.length_map, List.length_map]
          omega
        rw [hlen] at hl
        split at hl
        · rename_i h0
          obtain ⟨rfl, rfl⟩ := Prod.mk.inj (Option.some.inj hl)
          have : len = 0 := by omega
          subst h0
          subst this
          exact .one R hro (.slice _ _ _ _ _ (.inl ⟨rfl, rfl, rfl⟩))
        · rename_i h0
          cases hz : (Nat.beq (P.cellsOf e) 0 || Nat.ble OPEN cap) with
          | true =>
            rw [hz] at hl
            cases hl
          | false =>
            rw [hz] at hl
            rw [Bool.or_eq_false_iff] at hz
            have hz0 : P.cellsOf e ≠ 0 := Nat.ne_of_beq_eq_false hz.1
            have hopen : cap < OPEN := by
              rcases Nat.lt_or_ge cap OPEN with g | g
              · exact g
              · rw [Nat.ble_eq_true_of_le g] at hz
                cases hz.2
            obtain ⟨⟨cells, h1'⟩, hl1, hl⟩ := Option.bind_eq_some_iff.1 hl
            obtain ⟨rfl, rfl⟩ := Prod.mk.inj (Option.some.inj hl)
            have hdl : (el.map (·.1) ++ rs.map (·.1)).length = cap := by
              rw [List.length_append]
              exact hlen
            obtain ⟨hsp, bs, bt, fz, hh, hfit, hrd⟩ := readsL_row (enc := enc) (P := P) (w := w) (held := held) (m := n) (a := a) hz0 (el.map (·.1) ++ rs.map (·.1)) (fun e => by rw [e] at hdl; exact h0 hdl.symm) (fun i d hd => by
              rw [← List.map_append, List.getElem?_map] at hd
              obtain ⟨x, hx, rfl⟩ := Option.map_eq_some_iff.1 hd
              rcases Nat.lt_or_ge i len with hi | hi
              · rw [List.getElem?_append_left (by omega)] at hx
                obtain ⟨l, g1, g2⟩ := Option.bind_eq_some_iff.1 ((h1 i hi).trans hx)
                exact ⟨l, x.2, g1, g2⟩
              · rw [List.getElem?_append_right (by omega), hel] at hx
                have hi2 : i - len < cap - len := by
                  have := (List.getElem?_eq_some_iff.1 hx).1
                  omega
                obtain ⟨l, g1, g2⟩ := Option.bind_eq_some_iff.1 ((h2 (i - len) hi2).trans hx)
                rw [show len + (i - len) = i by omega] at g1
                exact ⟨l, x.2, g1, g2⟩)
            rw [hdl] at hfit hrd
            obtain ⟨ι1, R1, ro1, a1, n1, c1⟩ := layAll_sound (ih n) _ hrd hl1 R hro
            have hcl : cells.length = cap * P.cellsOf e := by
              rw [c1.length_eq, List.length_take, List.length_drop, Array.length_toList]
              omega
            obtain ⟨ι2, k2, R2, ro2, a2⟩ := R1.newRo ro1 (cells := cells) (z := P.cellsOf e) (k := ⟨a.block, a.off, P.cellsOf e, bs.size⟩) hh rfl rfl (by rw [hcl]; exact c1)
            refine ⟨ι2, R2, ro2, fun β hb => (a2 β (Nat.lt_of_lt_of_le hb n1)).trans (a1 β hb), Nat.le_succ_of_le n1, (by
              show cRel ι2 (.slice (some ⟨h1'.next, 0, none⟩) (el.map (·.1)).length cap) _
              rw [List.length_map, hel]
              exact .atom (.sl _ _ _ _ _ ⟨hlc, rfl, hsp, _, k2, rfl, .inr ⟨rfl, .inl ⟨hopen, rfl⟩⟩⟩)), trivial⟩
    · rename_i hu
      obtain ⟨rfl, rfl⟩ := Prod.mk.inj (Option.some.inj hl)
      rcases DataW.trod_pointer hu hp with ⟨rfl, _⟩ | ⟨_, _, _, _, _, _, e, _⟩
      · exact .one R hro .pnil
      · injection e with e1 _
        cases e1
    · rename_i e d0 hu
      rcases DataW.trod_pointer hu hp with ⟨_, e1⟩ | ⟨a, cs', y, n, rfl, rfl, e1, hc, hy⟩
      · injection e1 with e1 _
        cases e1
      · injection e1 with e1 _
        injection e1 with e1
        subst e1
        cases hz : Nat.beq (P.cellsOf e) 0 with
        | true =>
          rw [hz] at hl
          cases hl
        | false =>
          rw [hz] at hl
          have hz0 : P.cellsOf e ≠ 0 := Nat.ne_of_beq_eq_false hz
          obtain ⟨⟨cells, h1'⟩, hl1, hl⟩ := Option.bind_eq_some_iff.1 hl
          obtain ⟨rfl, rfl⟩ := Prod.mk.inj (Option.some.inj hl)
          obtain ⟨hsp, bs, bt, fz, hh, hfit, rfl⟩ := cells_of hc hz0
          obtain ⟨ι1, R1, ro1, a1, n1, c1⟩ := ih n _ _ _ _ _ _ _ _ hy hl1 R hro
          have hcl : cells.length = P.cellsOf e := by
            rw [c1.length_eq, List.length_take, List.length_drop, Array.length_toList]
            omega
          obtain ⟨ι2, k2, R2, ro2, a2⟩ := R1.newRo ro1 (cells := cells) (z := 0) (k := ⟨a.block, a.off, 0, bs.size⟩) hh rfl rfl (by rw [hcl]; exact c1)
          exact ⟨ι2, R2, ro2, fun β hb => (a2 β (Nat.lt_of_lt_of_le hb n1)).trans (a1 β hb), Nat.le_succ_of_le n1, .atom (.ptr _ _ ⟨rfl, hsp, _, k2, rfl, rfl⟩), trivial⟩
    · rename_i fs xs0 hu
      obtain ⟨ys, n, rfl, e, hlen, hys, hget⟩ := DataW.trod_struct hu hp
      injection e with e1 _
      injection e1 with e1
      subst e1
      obtain ⟨hc, hl⟩ := cond_some' hl
      refine layAll_sound (ih n) _ (readsL_fields fs.toList _ 0 _ cs hc (by rw [List.length_map, hys, Array.length_toList]) (by rw [hlen, Nat.sub_zero]) (Nat.zero_le _) fun i f d hf hd => ?_) hl R hro
      rw [Array.getElem?_toList] at hf
      rw [List.getElem?_map] at hd
      obtain ⟨y, hy, rfl⟩ := Option.map_eq_some_iff.1 hd
      refine ⟨y.2, ?_⟩
      rw [Nat.sub_zero, hget i f hf, hy]
    · rename_i k e xs0 hu
      obtain ⟨ys, n, rfl, e1, hlen, hys, hget⟩ := DataW.trod_array hu hp
      injection e1 with e1 _
      injection e1 with e1
      subst e1
      obtain ⟨hc, hl⟩ := cond_some' hl
      have hc := Nat.eq_of_beq_eq_true hc
      refine layAll_sound (ih n) _ (readsL_rep _ cs (by rw [List.length_map, hys, hlen, hc]) fun i d hd => ?_) hl R hro
      rw [List.getElem?_map] at hd
      obtain ⟨y, hy, rfl⟩ := Option.map_eq_some_iff.1 hd
      refine ⟨y.2, ?_⟩
      rw [hget i (by have := (List.getElem?_eq_some_iff.1 hy).1; omega), hy]
    · cases hl
end Go.Proofs.YtiadfnedbbkojaaDoor.X
namespace Go.Proofs.YtiadfnedbbkojaaDoor.X
open Go
variable {H : Type} {enc : TypeId × Value → H} {P : Program} {w : World} {base : Nat}
def valT (P : Program) (t : TypeId) (xs : List Value) : Option Value := (aggT P t).bind fun ag => cond ag (some (.agg xs.toArray)) (match xs with | [x] => some x | _ => none)
def layArgs (P : Program) (N : Nat) : List TypeId → List (DataW H) → AH → Option (List Value × AH)
  | [], [], h => some ([], h)
  | t :: ts, d :: ds, h => (layD P N t d h).bind fun p => (valT P t p.1).bind fun v => (layArgs P N ts ds p.2).bind fun q => some (v :: q.1, q.2)
  | _, _, _ => none
theorem cell_not_agg {r : Reach} {b : Nat} {t : TypeId} {d : TypeDesc} (hd : P.underlying t = some d) {cs : Array Value} (h : Cell.okWide P w r b t (.agg cs)) : False := by
  unfold Cell.okWide at h
  rw [hd] at h
  split at h
  all_goals first
    | (rename_i e; cases e; done)
    | (rename_i e _; cases e; done)
    | skip
  unfold Cell.ok at h
  rw [hd] at h
  split at h
  all_goals first
    | (rename_i e; cases e; done)
    | (rename_i e _; cases e; done)
    | exact h
theorem valT_sound {ι : Inj} {r : Reach} {b : Nat} {t : TypeId} {v x : Value} {xs : List Value} (hok : Value.okWide P w r b t v) (hc : AllR (cRel ι) xs v.cells.toList) (hx : valT P t xs = some x) : vRel ι x v := by
  unfold valT at hx
  obtain ⟨ag, hag, hx⟩ := Option.bind_eq_some_iff.1 hx
  unfold aggT at hag
  obtain ⟨d, hd, hag⟩ := Option.map_eq_some_iff.1 hag
  unfold Value.okWide at hok
  rw [hd] at hok
  cases ag with
  | true =>
    injection hx with hx
    subst hx
    have : ∃ cs, v = .agg cs := by
      cases d <;> first | (cases hag; done) | exact hok.imp fun _ h => h.1
    obtain ⟨cs, rfl⟩ := this
    exact .one (.agg _ _ hc)
  | false =>
    have hok' : Cell.okWide P w r b t v := by
      cases d <;> first | (cases hag; done) | exact hok
    have hv : v.cells = #[v] := by
      cases v with
      | agg cs => exact (cell_not_agg hd hok').elim
      | _ => rfl
    rw [hv] at hc
    match xs, hx, hc with
    | [y], hx, hc =>
      injection hx with hx
      subst hx
      exact hc.1.v
theorem layArgs_sound {N : Nat} {r : Reach} {b : Nat} : ∀ (ts : List TypeId) (vs : List Value) (ds : List (DataW H)) (ps : List MemPlace) {ι : Inj} {h h' : AH} {avs : List Value}, DataW.TrodAll enc P w 0 (fun _ => true) true ts vs ds ps →
    (∀ (j : Nat) t v, ts[j]? = some t → vs[j]? = some v → Value.okWide P w r b t v) → layArgs P N ts ds h = some (avs, h') → Rel ι base h w → RoAll h →
    ∃ ι' : Inj, Rel ι' base h' w ∧ RoAll h' ∧ (∀ β, β < h.next → ι' β = ι β) ∧ h.next ≤ h'.next ∧ AllR (vRel ι') avs vs
  | [], vs, ds, ps, ι, h, h', avs, hA, _, hl, R, hro => by
    cases vs with
    | cons _ _ => exact hA.elim
    | nil =>
      cases ds with
      | cons _ _ => exact hA.elim
      | nil =>
        obtain ⟨rfl, rfl⟩ := Prod.mk.inj (Option.some.inj hl)
        exact ⟨ι, R, hro, fun _ _ => rfl, Nat.le_refl _, trivial⟩
  | t :: ts, vs, ds, ps, ι, h, h', avs, hA, hok, hl, R, hro => by
    cases vs with
    | nil => exact hA.elim
    | cons v vs =>
      cases ds with
      | nil => exact hA.elim
      | cons d ds =>
        obtain ⟨p, q, ⟨m, hp⟩, hA, _⟩ := hA
        obtain ⟨⟨xs, h1⟩, hx, hl⟩ := Option.bind_eq_some_iff.1 hl
        obtain ⟨x, hv, hl⟩ := Option.bind_eq_some_iff.1 hl
        obtain ⟨⟨ys, h2⟩, hy, hl⟩ := Option.bind_eq_some_iff.1 hl
        obtain ⟨rfl, rfl⟩ := Prod.mk.inj (Option.some.inj hl)
        obtain ⟨ι1, R1, ro1, a1, n1, c1⟩ := layD_sound N m t _ d p ι h xs h1 hp hx R hro
        obtain ⟨ι2, R2, ro2, a2, n2, c2⟩ := layArgs_sound ts vs ds q hA (fun j t v ht hv => hok (j + 1) t v ht hv) hy R1 ro1
        have hs : Sub ι1 ι2 := fun β k e => (a2 β (R1.dom β k e).1).trans e
        exact ⟨ι2, R2, ro2, fun β hb => (a2 β (Nat.lt_of_lt_of_le hb n1)).trans (a1 β hb), Nat.le_trans n1 n2, (valT_sound (hok 0 t v rfl rfl) c1 hv).mono hs, c2⟩
def hNil : AH := { blks := .nil, grps := .nil, next := 0, low := 0 }
/-- Each variable in its own block, by its number. -/
def layVars (P : Program) (N : Nat) : List (String × DataW Unit) → AH → Option AH
  | [], h => some h
  | x :: r, h => cond (decide (P.globalNamed x.1 = some h.next)) (((P.globals[h.next]?).map (·.type)).bind fun t => (layD P N t x.2 h).bind fun p => cond (Nat.beq p.2.next h.next) (layVars P N r (p.2.newRo p.1 0)) none) none
theorem rel_nil (hb : base ≤ w.heap.size) : Rel (fun _ => none) base hNil w ∧ RoAll hNil := by
  have hg : ∀ β b, hNil.blks.get β ≠ some b := fun β b e => by
    have : hNil.blks.get β = none := Tr.get_nil β
    rw [this] at e
    cases e
  exact ⟨⟨fun _ _ _ _ hk => (by cases hk), fun _ _ _ _ hk => (by cases hk), fun _ _ _ _ hk => (by cases hk), fun β b hb => absurd hb (hg β b), fun _ _ _ _ _ _ _ _ hk => (by cases hk), fun _ _ hk => (by cases hk),
    fun β _ => ⟨Tr.get_nil β, Tr.get_nil β⟩, fun β b hb => absurd hb (hg β b), hb, fun _ _ hk => (by cases hk)⟩, fun β b hb => absurd hb (hg β b)⟩
theorem layVars_sound {N : Nat} : ∀ (l : List (String × DataW Unit)) (ps : List MemPlace) {ι : Inj} {h h' : AH}, DataW.LaidVars P w l ps → layVars P N l h = some h' → Rel ι base h w → RoAll h → GOK h.next ι →
    ∃ ι' : Inj, Rel ι' base h' w ∧ RoAll h' ∧ GOK h'.next ι' ∧ h'.next = h.next + l.length
  | [], ps, ι, h, h', _, hl, R, hro, hg => by
    injection hl with hl
    subst hl
    exact ⟨ι, R, hro, hg, rfl⟩
  | x :: l, ps, ι, h, h', hL, hl, R, hro, hg => by
    obtain ⟨g, t, cs, fuel, p, q, h1, h2, h3, h4, h5, _⟩ := hL
    obtain ⟨hc, hl⟩ := cond_some' hl
    have hc := of_decide_eq_true hc
    have h1 : P.globalNamed x.1 = some g := h1
    rw [h1] at hc
    injection hc with hc
    subst hc
    obtain ⟨t', ht', hl⟩ := Option.bind_eq_some_iff.1 hl
    rw [h2] at ht'
    injection ht' with ht'
    subst ht'
    obtain ⟨⟨xs, h1'⟩, hx, hl⟩ := Option.bind_eq_some_iff.1 hl
    obtain ⟨hn, hl⟩ := cond_some' hl
    have hn : h1'.next = h.next := Nat.eq_of_beq_eq_true hn
    obtain ⟨ι1, R1, ro1, a1, n1, c1⟩ := layD_sound (held := false) N fuel t _ x.2 p ι h xs h1' h4 hx R hro
    have hh : ∃ el fz, w.heap[h.next]? = some (.cells cs el fz) := by
      unfold World.var? at h3
      rw [h1] at h3
      simp only [Option.bind_some] at h3
      split at h3
      · rename_i cs' el fz hh
        injection h3 with h3
        subst h3
        exact ⟨el, fz, hh⟩
      · cases h3
    obtain ⟨el, fz, hh⟩ := hh
    have hcl : xs.length = cs.size := c1.length_eq.trans Array.length_toList
    obtain ⟨ι2, k2, R2, ro2, a2⟩ := R1.newRo ro1 (cells := xs) (z := 0) (k := ⟨h.next, 0, 0, cs.size⟩) hh rfl rfl (by
      show AllR _ xs (List.take xs.length (List.drop 0 cs.toList))
      rw [List.drop_zero, hcl, show cs.size = cs.toList.length from Array.length_toList.symm, List.take_length]
      exact c1)
    have hgok : GOK (h1'.newRo xs 0).next ι2 := fun g hgl => by
      have hgl : g < h1'.next + 1 := hgl
      by_cases e : g = h1'.next
      · subst e
        exact ⟨_, k2, hn.symm, rfl⟩
      · obtain ⟨k, g1, g2⟩ := hg g (by omega)
        exact ⟨k, (a2 g (by omega)).trans ((a1 g (by omega)).trans g1), g2⟩
    obtain ⟨ι3, R3, ro3, g3, n3⟩ := layVars_sound l q h5 hl R2 ro2 hgok
    refine ⟨ι3, R3, ro3, g3, ?_⟩
    rw [n3]
    show h1'.next + 1 + l.length = h.next + (l.length + 1)
    omega
/-- What is asked of a program once. -/
structure Static (P : Program) (G : Nat) : Prop where
  orders : P.follows .mixedOrders = true
  names : namesOK P = true
  prog : progOK P G drawB = true
  laid : laidOutB P = true
/-- What stays behind a call that turns nothing that was there. -/
structure Stays (w w' : World) : Prop where
  os : w'.os = w.os
  output : w'.output = w.output
  size : w.heap.size ≤ w'.heap.size
  block : ∀ k, k < w.heap.size → w'.heap[k]? = w.heap[k]?
theorem Stays.frame {w w' : World} (h : Stays w w') (may : MemPlace → Prop) : w.keptBut w' may := by
  refine ⟨h.os, h.output, fun i hi => ?_⟩
  rw [h.block i hi]
  split <;> simp_all
open Go.RowKit in
theorem Stays.trod {t : TypeId} (hl : laidOutB P = true) (hr : P.readableRec t = true) (hrow : t < P.types.size) {W W' : World} {v : Value} {d : DataW H} {ps : List MemPlace}
    (h : DataW.Trod enc P W 0 (fun _ => true) true t v d ps) (hb : Stays W W') : DataW.Trod enc P W' 0 (fun b => decide (b < W.heap.size)) true t v d ps := by
  have hlt : ∀ x ∈ ps, x.block < W.heap.size := by
    obtain ⟨n, hn⟩ := h
    exact DataW.trod_lt n t _ _ hn
  have hB : Below W.heap.size W { W' with tape := W.tape } := ⟨hb.os, rfl, hb.output, hb.size, hb.block⟩
  obtain ⟨n, hn⟩ := Below.trod hl hr hrow h hB hlt
  exact ⟨n, by rw [← hn]; exact DataW.trod_heap (w := W') (w' := { W' with tape := W.tape }) rfl n t _⟩
theorem Stays.trodAll (hl : laidOutB P = true) {W W' : World} (hb : Stays W W') : ∀ (ts : List TypeId) (vs : List Value) (ds : List (DataW H)) (ps : List MemPlace), (ts.all fun t => P.readableRec t && decide (t < P.types.size)) = true →
    DataW.TrodAll enc P W 0 (fun _ => true) true ts vs ds ps → DataW.TrodAll enc P W' 0 (fun b => decide (b < W.heap.size)) true ts vs ds ps
  | [], vs, ds, ps, _, h => by
    cases vs with
    | cons _ _ => exact h.elim
    | nil =>
      cases ds with
      | cons _ _ => exact h.elim
      | nil => exact h
  | t :: ts, vs, ds, ps, ht, h => by
    cases vs with
    | nil => exact h.elim
    | cons v vs =>
      cases ds with
      | nil => exact h.elim
      | cons d ds =>
        rw [List.all_cons, Bool.and_eq_true, Bool.and_eq_true] at ht
        obtain ⟨p, q, h1, h2, e⟩ := h
        exact ⟨p, q, h1.elim fun n hn => Stays.trod hl ht.1.1 (of_decide_eq_true ht.1.2) ⟨n, hn⟩ hb, Stays.trodAll hl hb ts vs ds q ht.2 h2, e⟩
theorem law_calls {G N n : Nat} (S : Static P G) {f : FuncId} {ts : List TypeId} {args : Array Value} {ds : List (DataW H)} {ps qs : List MemPlace} {vars : List (String × DataW Unit)} {b : Nat}
    (hL : DataW.LaidVars P w vars qs) (hA : DataW.TrodAll enc P w 0 (fun _ => true) true ts args.toList ds ps) (hok : ∀ (j : Nat) t v, ts[j]? = some t → args[j]? = some v → Value.okWide P w .any b t v)
    {h0 h1 h2 : AH} {avs : List Value} (hv : layVars P N vars hNil = some h0) (hG : G = vars.length) (ha : layArgs P N ts ds h0 = some (avs, h1)) {v : Value} (hr : run P n f avs h1 = some (v, h2)) :
    Calls P f args w fun e w' => ∃ vc ι', e = .returned vc ∧ vRel ι' v vc ∧ Stays w w' := by
  obtain ⟨R0, ro0⟩ := rel_nil (w := w) (base := w.heap.size) (Nat.le_refl _)
  obtain ⟨ι1, R1, ro1, g1, n1⟩ := layVars_sound vars qs hL hv R0 ro0 (fun g hg => absurd hg (Nat.not_lt_zero _))
  obtain ⟨ι2, R2, ro2, a2, n2, c2⟩ := layArgs_sound ts _ ds ps hA (fun j t v ht hv => hok j t v ht (by rw [← hv, Array.getElem?_toList])) ha R1 ro1
  have n1' : h0.next = G := by
    rw [n1, hG]
    exact Nat.zero_add _
  have g2 : GOK G ι2 := fun g hg => by
    obtain ⟨k, e1, e2⟩ := g1 g (by omega)
    exact ⟨k, (a2 g (by omega)).trans e1, e2⟩
  refine (run_sound S.orders S.names S.prog n f avs h1 v h2 hr ι2 w.heap.size w args R2 g2 c2).mono ?_
  rintro e w' ⟨vc, ι', rfl, g3, _, _, k, _⟩
  exact ⟨vc, ι', rfl, g3, k.2.2.1, k.2.2.2, k.1, fun b hb => k.2.1 b hb (.inl hb)⟩
end Go.Proofs.YtiadfnedbbkojaaDoor.X
namespace Go.Proofs.YtiadfnedbbkojaaDoor.X
open Go
variable {H : Type} {enc : TypeId × Value → H} {P : Program} {w : World} {base : Nat} {held : Bool}
def AllT (R : TypeId → DataW H → Prop) : List TypeId → List (DataW H) → Prop
  | [], ds => ds = []
  | t :: ts, ds => ∃ d r, ds = d :: r ∧ R t d ∧ AllT R ts r
def typD (P : Program) : Nat → TypeId → DataW H → Prop
  | 0, _, _ => True
  | N + 1, t, d => match P.underlying t with
    | some .bool => ∃ b, d = .lit (.bool b)
    | some (.int k) => ∃ n, d = .lit (.int k n) ∧ (Lit.int k n).wf = true
    | some .string => ∃ s, d = .lit (.string s) ∧ s.length ≤ maxLen
    | some (.slice e) => d = .nil ∨ ∃ xs ys, d = .slice xs ys ∧ xs.length + ys.length ≤ maxLen ∧ (∀ x ∈ xs, typD P N e x) ∧ ∀ y ∈ ys, typD P N e y
    | some (.pointer e) => d = .nil ∨ ∃ x, d = .ptr x ∧ typD P N e x
    | some (.struct fs) => ∃ xs, d = .agg xs ∧ AllT (typD P N) (fs.toList.map fun f => f.type) xs
    | some (.array n e) => ∃ xs, d = .agg xs ∧ xs.length = n ∧ ∀ x ∈ xs, typD P N e x
    | _ => True
theorem allT_of {R : TypeId → DataW H → Prop} : ∀ (ts : List TypeId) (ds : List (DataW H)), ds.length = ts.length → (∀ (i : Nat) (t : TypeId) (d : DataW H), ts[i]? = some t → ds[i]? = some d → R t d) → AllT R ts ds
  | [], ds, hl, _ => List.eq_nil_of_length_eq_zero hl
  | t :: ts, [], hl, _ => by cases hl
  | t :: ts, d :: ds, hl, hr => ⟨d, ds, rfl, hr 0 t d rfl rfl, allT_of ts ds (Nat.succ.inj hl) fun i t d ht hd => hr (i + 1) t d ht hd⟩
theorem typD_of : ∀ (N m : Nat) (t : TypeId) (cs : List Value) (d : DataW H) (ps : List MemPlace), DataW.trod enc P w 0 (fun _ => true) held m t cs = some (d, ps) → typD P N t d := by
  intro N
  induction N with
  | zero => exact fun _ _ _ _ _ _ => trivial
  | succ N ih =>
    intro m t cs d ps hp
    unfold typD
    split
    · rename_i hu
      obtain ⟨b, rfl, e⟩ := DataW.trod_bool hu hp
      injection e with e1 _
      exact ⟨b, e1⟩
    · rename_i k hu
      obtain ⟨n, rfl, e, hw⟩ := DataW.trod_int hu hp
      injection e with e1 _
      exact ⟨n, e1, hw⟩
    · rename_i hu
      obtain ⟨s, rfl, e, hs⟩ := DataW.trod_string hu hp
      injection e with e1 _
      exact ⟨_, e1, by rw [Array.length_toList]; exact hs⟩
    · rename_i e0 hu
      rcases DataW.trod_slice hu hp with ⟨rfl, e⟩ | ⟨a, len, cap, el, rs, n, rfl, rfl, e, _, hlc, hcm, hel, h1, h2, _⟩
      · injection e with e1 _
        exact .inl e1
      · injection e with e1 _
        obtain ⟨hrl, h2⟩ := h2 rfl
        refine .inr ⟨_, _, e1, by rw [List.length_map, List.length_map]; omega, fun x hx => ?_, fun y hy => ?_⟩
        · obtain ⟨i, hi⟩ := List.getElem?_of_mem hx
          rw [List.getElem?_map] at hi
          obtain ⟨z, hz, rfl⟩ := Option.map_eq_some_iff.1 hi
          obtain ⟨l, _, g2⟩ := Option.bind_eq_some_iff.1 ((h1 i (by have := (List.getElem?_eq_some_iff.1 hz).1; omega)).trans hz)
          exact ih n _ _ _ z.2 g2
        · obtain ⟨i, hi⟩ := List.getElem?_of_mem hy
          rw [List.getElem?_map] at hi
          obtain ⟨z, hz, rfl⟩ := Option.map_eq_some_iff.1 hi
          obtain ⟨l, _, g2⟩ := Option.bind_eq_some_iff.1 ((h2 i (by have := (List.getElem?_eq_some_iff.1 hz).1; omega)).trans hz)
          exact ih n _ _ _ z.2 g2
    · rename_i e0 hu
      rcases DataW.trod_pointer hu hp with ⟨_, e1⟩ | ⟨a, cs', y, n, rfl, rfl, e1, hc, hy⟩
      · injection e1 with e1 _
        exact .inl e1
      · injection e1 with e1 _
        exact .inr ⟨_, e1, ih n _ _ _ y.2 hy⟩
    · rename_i fs hu
      obtain ⟨ys, n, rfl, e, hlen, hys, hget⟩ := DataW.trod_struct hu hp
      injection e with e1 _
      refine ⟨_, e1, allT_of _ _ (by rw [List.length_map, List.length_map, hys]; exact Array.length_toList.symm) fun i t x ht hx => ?_⟩
      rw [List.getElem?_map] at ht hx
      obtain ⟨f, hf, rfl⟩ := Option.map_eq_some_iff.1 ht
      obtain ⟨z, hz, rfl⟩ := Option.map_eq_some_iff.1 hx
      rw [Array.getElem?_toList] at hf
      exact ih n _ _ _ z.2 ((hget i f hf).trans hz)
    · rename_i k e0 hu
      obtain ⟨ys, n, rfl, e1, hlen, hys, hget⟩ := DataW.trod_array hu hp
      injection e1 with e1 _
      refine ⟨_, e1, by rw [List.length_map]; exact hys, fun x hx => ?_⟩
      obtain ⟨i, hi⟩ := List.getElem?_of_mem hx
      rw [List.getElem?_map] at hi
      obtain ⟨z, hz, rfl⟩ := Option.map_eq_some_iff.1 hi
      exact ih n _ _ _ z.2 ((hget i (by have := (List.getElem?_eq_some_iff.1 hz).1; omega)).trans hz)
    · trivial
theorem typArgs {N : Nat} : ∀ (ts : List TypeId) (vs : List Value) (ds : List (DataW H)) (ps : List MemPlace), DataW.TrodAll enc P w 0 (fun _ => true) true ts vs ds ps → AllT (typD P N) ts ds
  | [], vs, ds, ps, h => by
    cases vs with
    | cons _ _ => exact h.elim
    | nil =>
      cases ds with
      | cons _ _ => exact h.elim
      | nil => rfl
  | t :: ts, vs, ds, ps, h => by
    cases vs with
    | nil => exact h.elim
    | cons v vs =>
      cases ds with
      | nil => exact h.elim
      | cons d ds =>
        obtain ⟨p, q, ⟨m, h1⟩, h2, _⟩ := h
        exact ⟨d, ds, rfl, typD_of N m t _ d p h1, typArgs ts vs ds q h2⟩
/-- THE ROW OF A LAW: whatever the arguments, it says true; so the executor. -/
theorem contract_true {C : Checked} {f : FuncId} {fn : Func} {s : ChangeSpec} {apart fresh handsOn : Bool} {G N n : Nat} (S : Static C.prog G) {vars : List (String × DataW Unit)} (hG : G = vars.length)
    {h0 : AH} (hv : layVars C.prog N vars hNil = some h0) {tb : TypeId} (hrt : fn.resultTypes = #[tb]) (htb : C.prog.underlying tb = some .bool) (hts : (fn.params.toList.all fun t => C.prog.readableRec t && decide (t < C.prog.types.size)) = true)
    (hsv : s.vars = []) (hfn : ∀ ds : List (DataW H), ds.length = fn.params.size → s.fn H ds = { results := [.lit (.bool true)], args := ds })
    (pure : ∀ ds : List (DataW H), AllT (typD C.prog N) fn.params.toList ds → ∃ avs h1 h2, layArgs C.prog N fn.params.toList ds h0 = some (avs, h1) ∧ run C.prog n f avs h1 = some (.bool true, h2)) 
    (W : World) (b : Nat) (args : Array Value) (ds gs : List (DataW H)) (before : List MemPlace) (hval : ∀ (j : Nat) t v, fn.params[j]? = some t → args[j]? = some v → Value.okWide C.prog W .any b t v)
    (hW : DataW.Whole enc C.prog fn.params.toList s.vars apart W args.toList ds gs before) {qs : List MemPlace} (hL : DataW.LaidVars C.prog W vars qs) :
    Calls C.prog f args W fun e W' => ∃ v, e = .returned v ∧ s.post enc C.prog fn apart fresh handsOn false W args v W' := by
  have hW' := hW
  obtain ⟨p, q, hA, hV, rfl, hfz, hnd⟩ := hW
  rw [hsv] at hV
  have hgq : gs = [] ∧ q = [] := by
    cases gs with
    | nil => exact ⟨rfl, hV⟩
    | cons g r => exact absurd hV (by intro h; cases h)
  obtain ⟨rfl, rfl⟩ := hgq
  obtain ⟨avs, h1, h2, ha, hr⟩ := pure ds (typArgs _ _ _ _ hA)
  have hlen : ds.length = fn.params.size := by
    have key : ∀ (ts : List TypeId) (vs : List Value) (ds : List (DataW H)) (ps : List MemPlace), DataW.TrodAll enc C.prog W 0 (fun _ => true) true ts vs ds ps → ds.length = ts.length := by
      intro ts
      induction ts with
      | nil =>
        intro vs ds ps h
        cases vs with
        | cons _ _ => exact h.elim
        | nil =>
          cases ds with
          | cons _ _ => exact h.elim
          | nil => rfl
      | cons t ts ih =>
        intro vs ds ps h
        cases vs with
        | nil => exact h.elim
        | cons v vs =>
          cases ds with
          | nil => exact h.elim
          | cons d ds =>
            obtain ⟨p, q, _, h2, _⟩ := h
            exact congrArg Nat.succ (ih vs ds q h2)
    exact (key _ _ _ _ hA).trans Array.length_toList
  refine (law_calls S hL hA (fun j t v ht hv => hval j t v (by rw [← Array.getElem?_toList]; exact ht) hv) hv hG ha hr).mono ?_
  rintro e W' ⟨vc, ι', rfl, hvr, hst⟩
  obtain rfl := hvr.bool_inv
  have hf := hfn ds hlen
  refine ⟨_, rfl, ds, [], p ++ [], [], p, [], hW', ?_, ?_, ?_, hst.frame _, fun h => by cases h⟩
  · rw [List.append_nil, hf, hrt]
    exact ⟨[], [], ⟨1, by unfold DataW.trod; rw [htb]; rfl⟩, rfl, rfl⟩
  · rw [List.append_nil, hf]
    exact Stays.trodAll S.laid hst _ _ _ _ hts hA
  · rw [List.append_nil, hf, hsv]
    rfl
end Go.Proofs.YtiadfnedbbkojaaDoor.X
namespace Go.Proofs.YtiadfnedbbkojaaDoor.X
open Go
def iAdd (k : IntKind) (x y : Int) : Int := k.wrap (x + y)
def iSub (k : IntKind) (x y : Int) : Int := k.wrap (x - y)
def iMul (k : IntKind) (x y : Int) : Int := k.wrap (x * y)
def iQuo (k : IntKind) (x y : Int) : Int := k.wrap (x.tdiv y)
def iRem (_ : IntKind) (x y : Int) : Int := x.tmod y
def iAnd (k : IntKind) (x y : Int) : Int := k.wrap (BitVec.ofInt k.bits x &&& BitVec.ofInt k.bits y).toNat
def iOr (k : IntKind) (x y : Int) : Int := k.wrap (BitVec.ofInt k.bits x ||| BitVec.ofInt k.bits y).toNat
def iXor (k : IntKind) (x y : Int) : Int := k.wrap (BitVec.ofInt k.bits x ^^^ BitVec.ofInt k.bits y).toNat
def iAndNot (k : IntKind) (x y : Int) : Int := k.wrap (BitVec.ofInt k.bits x &&& ~~~ BitVec.ofInt k.bits y).toNat
def iShl (k : IntKind) (x y : Int) : Int := k.wrap (x * 2 ^ min y.toNat k.bits)
def iShr (k : IntKind) (x y : Int) : Int := x.fdiv (2 ^ min y.toNat k.bits)
def iNeg (k : IntKind) (n : Int) : Int := k.wrap (0 - n)
def iNot (k : IntKind) (n : Int) : Int := k.wrap (BitVec.ofInt k.bits (if k.signed then -1 else k.max) ^^^ BitVec.ofInt k.bits n).toNat
def iConv (k : IntKind) (n : Int) : Int := k.wrap n
def iEq (x y : Int) : Bool := x == y
def iNe (x y : Int) : Bool := x != y
def iLt (x y : Int) : Bool := decide (x < y)
def iLe (x y : Int) : Bool := decide (x ≤ y)
def iMax (x y : Int) : Int := cond (decide (y > x)) y x
def iMin (x y : Int) : Int := cond (decide (y < x)) y x
/-- An index within a row. -/
def inB (i : Int) (n : Nat) : Bool := decide (0 ≤ i) && decide (i < (n : Int))
def vInt (k : IntKind) : Value → Option Int
  | .int k' n => cond (decide (k' = k)) (some n) none
  | _ => none
def vBool : Value → Option Bool
  | .bool b => some b
  | _ => none
def vStr : Value → Option ByteArray
  | .string s => some s
  | _ => none
def vSl : Value → Option (Option Addr × Nat × Nat)
  | .slice a n c => some (a, n, c)
  | _ => none
def vPtr : Value → Option (Option Addr)
  | .pointer a => some a
  | _ => none
def aggIs (n : Nat) : Value → Bool
  | .agg cs => Nat.beq cs.toList.length n
  | _ => false
def aggC (i : Nat) : Value → Option Value
  | .agg cs => cs.toList[i]?
  | _ => none
def tupIs (n : Nat) : Value → Bool
  | .tuple cs => Nat.beq cs.toList.length n
  | _ => false
def tupC (i : Nat) : Value → Option Value
  | .tuple cs => cs.toList[i]?
  | _ => none
/-- Cell i behind an address. -/
def rdC (h : AH) (a : Addr) (i : Nat) : Option Value :=
  match a.spot with
  | none => (h.rd a.block).bind fun b => b.cells[a.off + i]?
  | some _ => none
section
variable (P : Program) {ρ : Type}
/-- A value of one cell, by its type. -/
def viewA (t : TypeId) (v : Value) (K : Value → Option ρ) : Option ρ :=
  match P.underlying t with
  | some (.int k) => (vInt k v).bind fun n => K (.int k n)
  | some .bool => (vBool v).bind fun b => K (.bool b)
  | some .string => (vStr v).bind fun s => K (.string s)
  | some (.slice _) => (vSl v).bind fun s => K (.slice s.1 s.2.1 s.2.2)
  | some (.pointer _) => (vPtr v).bind fun a => K (.pointer a)
  | _ => K v
def viewL (rd : Nat → Option Value) : List TypeId → Nat → (List Value → Option ρ) → Option ρ
  | [], _, K => K []
  | t :: ts, i, K => (rd i).bind fun v => viewA P t v fun v' => viewL rd ts (i + 1) fun l => K (v' :: l)
def viewT (t : TypeId) (v : Value) (K : Value → Option ρ) : Option ρ :=
  (aggT P t).bind fun ag => cond ag
    ((P.cellTypes P.depth t).bind fun ts => cond (aggIs ts.length v) (viewL P (fun i => aggC i v) ts 0 fun l => K (.agg l.toArray)) none)
    (viewA P t v K)
def viewTs (v : Value) : List TypeId → Nat → (List Value → Option ρ) → Option ρ
  | [], _, K => K []
  | t :: ts, i, K => (tupC i v).bind fun x => viewT P t x fun x' => viewTs v ts (i + 1) fun l => K (x' :: l)
/-- What a call gives. -/
def viewR (ts : List TypeId) (v : Value) (K : Value → Option ρ) : Option ρ :=
  match ts with
  | [] => K v
  | [t] => viewT P t v K
  | ts => cond (tupIs ts.length v) (viewTs P v ts 0 fun l => K (.tuple l.toArray)) none
def kload (t : TypeId) (x : Value) (h : AH) (K : Value → Option ρ) : Option ρ :=
  match x with
  | .pointer a => a.bind fun ad => (aggT P t).bind fun ag => cond ag
      ((P.cellTypes P.depth t).bind fun ts => cond (decide (sizeT P t = some ts.length) && !(Nat.beq ts.length 0)) (viewL P (rdC h ad) ts 0 fun l => K (.agg l.toArray)) none)
      ((rdC h ad 0).bind fun v => viewA P t v K)
  | _ => none
def kcmp (op : BinOp) (x y : Int) (K : Value → Option ρ) : Option ρ :=
  match op with
  | .eql => K (.bool (iEq x y))
  | .neq => K (.bool (iNe x y))
  | .lss => K (.bool (iLt x y))
  | .leq => K (.bool (iLe x y))
  | .gtr => K (.bool (iLt y x))
  | .geq => K (.bool (iLe y x))
  | _ => none
def kint (op : BinOp) (k : IntKind) (x y : Int) (K : Value → Option ρ) : Option ρ :=
  match op with
  | .add => K (.int k (iAdd k x y))
  | .sub => K (.int k (iSub k x y))
  | .mul => K (.int k (iMul k x y))
  | .quo => cond (iEq y 0) none (K (.int k (iQuo k x y)))
  | .rem => cond (iEq y 0) none (K (.int k (iRem k x y)))
  | .and => K (.int k (iAnd k x y))
  | .or => K (.int k (iOr k x y))
  | .xor => K (.int k (iXor k x y))
  | .andNot => K (.int k (iAndNot k x y))
  | op => kcmp op x y K
def kshift (op : BinOp) (k : IntKind) (x y : Int) (K : Value → Option ρ) : Option ρ :=
  cond (iLt y 0) none (match op with
    | .shl => K (.int k (iShl k x y))
    | .shr => K (.int k (iShr k x y))
    | _ => none)
/-- Fields, one by one. -/
def keqF (xs ys : List Value) : List Field → (Bool → Option ρ) → Option ρ
  | [], K => K true
  | f :: fs, K => match P.underlying f.type, xs[f.offset]?, ys[f.offset]? with
    | some (.int k), some (.int k1 a), some (.int k2 b) => cond (decide (k1 = k) && (decide (k2 = k) && f.name != "_")) (cond (iEq a b) (keqF xs ys fs K) (K false)) none
    | _, _, _ => none
def kbin (op : BinOp) (t : TypeId) (x y : Value) (K : Value → Option ρ) : Option ρ :=
  match op, x, y with
  | .shl, .int k a, .int _ b => kshift .shl k a b K
  | .shr, .int k a, .int _ b => kshift .shr k a b K
  | .eql, .agg xs, .agg ys => match P.underlying t with
    | some (.struct fs) => cond (P.stoodInHeld t || P.eqGuardType P.depth t) none (keqF P xs.toList ys.toList fs.toList fun b => K (.bool b))
    | _ => none
  | .neq, .agg xs, .agg ys => match P.underlying t with
    | some (.struct fs) => cond (P.stoodInHeld t || P.eqGuardType P.depth t) none (keqF P xs.toList ys.toList fs.toList fun b => K (.bool !b))
    | _ => none
  | op, .int k a, .int k' b => cond (decide (k = k')) (kint op k a b K) none
  | op, x, y => (binV P op t x y).bind K
def kun (op : UnOp) (x : Value) (K : Value → Option ρ) : Option ρ :=
  match op, x with
  | .neg, .int k n => K (.int k (iNeg k n))
  | .xor, .int k n => K (.int k (iNot k n))
  | .not, .bool b => K (.bool !b)
  | _, _ => none
def kconv (src dst : TypeId) (x : Value) (K : Value → Option ρ) : Option ρ :=
  (P.underlying src).bind fun _ => match P.underlying dst, x with
  | some (.int k), .int _ n => K (.int k (iConv k n))
  | some .string, .string s => K (.string s)
  | _, _ => none
def kindexAddr (t : TypeId) (x i : Value) (K : Value → Option ρ) : Option ρ :=
  match P.underlying t, x, i with
  | some (.array n el), .pointer a, .int _ i => a.bind fun ad => cond (inB i n) ((sizeT P el).bind fun s => K (.pointer (some (ad.add (i.toNat * s))))) none
  | some (.slice el), .slice a n _, .int _ i => a.bind fun ad => cond (inB i n) ((sizeT P el).bind fun s => K (.pointer (some (ad.add (i.toNat * s))))) none
  | _, _, _ => none
/-- A byte of a string. -/
def sIx (s : ByteArray) (i : Int) : Option Int := cond (decide (0 ≤ i)) ((s.data.toList[i.toNat]?).map fun b => (b.toNat : Int)) none
def kindex (t : TypeId) (x i : Value) (K : Value → Option ρ) : Option ρ :=
  match P.underlying t, x, i with
  | some .string, .string s, .int _ i => (sIx s i).bind fun n => K (.int .u8 n)
  | _, _, _ => (indexV P t x i).bind K
def kfieldAddr (s : TypeId) (x : Value) (f : Nat) (K : Value → Option ρ) : Option ρ :=
  match P.underlying s, x with
  | some (.struct fs), .pointer a => a.bind fun ad => (fs[f]?).bind fun fd => (sizeT P fd.type).bind fun z => cond (Nat.beq z 0) none (K (.pointer (some (ad.add fd.offset))))
  | _, _ => none
variable (cf : FuncId → List Value → AH → Option (Value × AH))
def kbuiltin (b : Builtin) (ts : List TypeId) (ty : TypeId) (args : List Value) (h : AH) (K : Value → AH → Option ρ) : Option ρ :=
  match b, args with
  | .append, args => (builtinV P .append ts args h).bind fun p => viewT P ty p.1 fun v => K v p.2
  | .copy, args => (builtinV P .copy ts args h).bind fun p => viewT P ty p.1 fun v => K v p.2
  | .max, [.int k x, .int _ y] => K (.int k (iMax x y)) h
  | .min, [.int k x, .int _ y] => K (.int k (iMin x y)) h
  | b, args => (builtinV P b ts args h).bind fun p => K p.1 p.2
def kcallF (f : Value) (args : List Value) (h : AH) (K : Value → AH → Option ρ) : Option ρ :=
  match f with
  | .func (.func g) first captured => (cf g (first.toList ++ (args ++ captured.toList)) h).bind fun p =>
      (P.funcs[g]?).bind fun fn => viewR P fn.resultTypes.toList p.1 fun v => K v p.2
  | _ => none
def kpick (c a b : Value) (K : Value → Option ρ) : Option ρ :=
  match c with
  | .bool t => cond t (K a) (K b)
  | _ => none
def kop (o : Op) (ty : TypeId) (e : Tr Value) (h : AH) (K : Value → AH → Option ρ) : Option ρ :=
  match o with
  | .move x | .assign x => K (ev e x) h
  | .pick c a b => kpick (ev e c) (ev e a) (ev e b) fun v => K v h
  | .load t x => kload P t (ev e x) h fun v => K v h
  | .store t x v => (storeV P t (ev e x) (ev e v) h).bind fun h' => K undef h'
  | .binOp op t x y _ => kbin P op t (ev e x) (ev e y) fun v => K v h
  | .unOp op _ x => kun op (ev e x) fun v => K v h
  | .convert s d x => kconv P s d (ev e x) fun v => K v h
  | .indexAddr t x i => kindexAddr P t (ev e x) (ev e i) fun v => K v h
  | .fieldAddr s x f => kfieldAddr P s (ev e x) f fun v => K v h
  | .index t x i => kindex P t (ev e x) (ev e i) fun v => K v h
  | .slice t x lo hi mx => (sliceV P t (ev e x) (lo.map (ev e)) (hi.map (ev e)) (mx.map (ev e)) h).bind fun v => viewT P ty v fun v => K v h
  | .call c => match c.callee with
    | .builtin b => kbuiltin P b c.argTypes.toList ty (c.args.toList.map (ev e)) h K
    | .value f => kcallF P cf (ev e f) (c.args.toList.map (ev e)) h K
    | .invoke _ _ => none
  | o => (opV P cf o e h).bind fun p => K p.1 p.2
/-- The guard's answer, asked. -/
def kwant (ops : Array Oper) (o : Oper) (e : Tr Value) (A B : Tr Value → Option ρ) : Option ρ :=
  match o.guard with
  | none => A e
  | some (j, w) => match (ops.toList[j]?).bind (·.dst) with
    | none => B e
    | some t => match e.get t with
      | some (.bool b) => cond w (cond b (A (e.set t (.bool true))) (B (e.set t (.bool false)))) (cond b (B (e.set t (.bool true))) (A (e.set t (.bool false))))
      | _ => B e
/-- A branch: the answer is known in each arm. -/
def kcond (c : Operand) (e : Tr Value) (A B : Tr Value → Option ρ) : Option ρ :=
  match c with
  | .tmp t => match e.get t with
    | some (.bool b) => cond b (A (e.set t (.bool true))) (B (e.set t (.bool false)))
    | _ => none
  | c => match ev e c with
    | .bool b => cond b (A e) (B e)
    | _ => none
/-- The mark at the end. -/
def AH.mark (h : AH) : AH := { h with low := h.next }
inductive Fr where
  | seq (b : Code)
  | block (id : Nat)
/-- What is done next: a piece of code, or an ending goes outwards. -/
inductive Nx where
  | code (c : Code)
  | ends (x : Ex)
end
/-- A piece of a function's code, by its path. -/
def subC : Code → List Nat → Code
  | c, [] => c
  | .seq a b, i :: r => subC (cond (Nat.beq i 0) a b) r
  | .cond _ a b, i :: r => subC (cond (Nat.beq i 0) a b) r
  | .block _ c, _ :: r => subC c r
  | .loop c, _ :: r => subC c r
  | c, _ => c
def bodyC (fn : Func) : Code := fn.body.getD .skip
end Go.Proofs.YtiadfnedbbkojaaDoor.X
namespace Go.Proofs.YtiadfnedbbkojaaDoor.X
open Go
variable {P : Program} {ρ : Type} {r : ρ}
theorem vInt_ok {k : IntKind} {v : Value} {n : Int} (h : vInt k v = some n) : v = .int k n := by
  cases v <;> first | (cases h; done) | skip
  obtain ⟨hc, h2⟩ := cond_some' h
  have := of_decide_eq_true hc
  injection h2 with h2
  rw [this, h2]
theorem vBool_ok {v : Value} {n : Bool} (h : vBool v = some n) : v = .bool n := by
  cases v <;> first | (cases h; done) | skip
  injection h with h
  rw [h]
theorem vStr_ok {v : Value} {n : ByteArray} (h : vStr v = some n) : v = .string n := by
  cases v <;> first | (cases h; done) | skip
  injection h with h
  rw [h]
theorem vSl_ok {v : Value} {n : Option Addr × Nat × Nat} (h : vSl v = some n) : v = .slice n.1 n.2.1 n.2.2 := by
  cases v <;> first | (cases h; done) | skip
  injection h with h
  rw [← h]
theorem vPtr_ok {v : Value} {n : Option Addr} (h : vPtr v = some n) : v = .pointer n := by
  cases v <;> first | (cases h; done) | skip
  injection h with h
  rw [h]
theorem aggIs_ok {n : Nat} {v : Value} (h : aggIs n v = true) : ∃ cs, v = .agg cs ∧ cs.toList.length = n := by
  cases v <;> first | (cases h; done) | skip
  exact ⟨_, rfl, Nat.eq_of_beq_eq_true h⟩
theorem tupIs_ok {n : Nat} {v : Value} (h : tupIs n v = true) : ∃ cs, v = .tuple cs ∧ cs.toList.length = n := by
  cases v <;> first | (cases h; done) | skip
  exact ⟨_, rfl, Nat.eq_of_beq_eq_true h⟩
theorem viewA_ok {t : TypeId} {v : Value} {K : Value → Option ρ} (hv : viewA P t v K = some r) : K v = some r := by
  unfold viewA at hv
  split at hv
  · obtain ⟨n, hn, hk⟩ := Option.bind_eq_some_iff.1 hv
    rw [vInt_ok hn]
    exact hk
  · obtain ⟨n, hn, hk⟩ := Option.bind_eq_some_iff.1 hv
    rw [vBool_ok hn]
    exact hk
  · obtain ⟨n, hn, hk⟩ := Option.bind_eq_some_iff.1 hv
    rw [vStr_ok hn]
    exact hk
  · obtain ⟨n, hn, hk⟩ := Option.bind_eq_some_iff.1 hv
    rw [vSl_ok hn]
    exact hk
  · obtain ⟨n, hn, hk⟩ := Option.bind_eq_some_iff.1 hv
    rw [vPtr_ok hn]
    exact hk
  · exact hv
theorem viewL_ok {rd : Nat → Option Value} : ∀ (ts : List TypeId) (i : Nat) {K : List Value → Option ρ}, viewL P rd ts i K = some r → ∃ l : List Value, l.length = ts.length ∧ (∀ j x, l[j]? = some x → rd (i + j) = some x) ∧ K l = some r
  | [], i, K, hv => ⟨[], rfl, fun _ _ h => (by cases h), hv⟩
  | t :: ts, i, K, hv => by
    obtain ⟨v, h1, hv⟩ := Option.bind_eq_some_iff.1 hv
    obtain ⟨l, h2, h3, h4⟩ := viewL_ok ts (i + 1) (viewA_ok hv)
    refine ⟨v :: l, congrArg Nat.succ h2, fun j x hx => ?_, h4⟩
    cases j with
    | zero =>
      injection hx with hx
      subst hx
      exact h1
    | succ j =>
      rw [show i + (j + 1) = i + 1 + j by omega]
      exact h3 j x hx
theorem viewT_ok {t : TypeId} {v : Value} {K : Value → Option ρ} (hv : viewT P t v K = some r) : K v = some r := by
  unfold viewT at hv
  obtain ⟨ag, _, hv⟩ := Option.bind_eq_some_iff.1 hv
  cases ag with
  | false => exact viewA_ok hv
  | true =>
    obtain ⟨ts, _, hv⟩ := Option.bind_eq_some_iff.1 hv
    obtain ⟨hc, hv⟩ := cond_some' hv
    obtain ⟨l, h2, h3, h4⟩ := viewL_ok ts 0 hv
    obtain ⟨cs, rfl, hc⟩ := aggIs_ok hc
    have e : l = cs.toList := by
      apply List.ext_getElem?
      intro i
      cases hi : l[i]? with
      | some x =>
        have := h3 i x hi
        rw [Nat.zero_add] at this
        exact this.symm
      | none =>
        have := List.getElem?_eq_none_iff.1 hi
        exact (List.getElem?_eq_none (by omega)).symm
    rw [e] at h4
    exact h4
theorem viewTs_ok {v : Value} : ∀ (ts : List TypeId) (i : Nat) {K : List Value → Option ρ}, viewTs P v ts i K = some r → ∃ l : List Value, l.length = ts.length ∧ (∀ j x, l[j]? = some x → tupC (i + j) v = some x) ∧ K l = some r
  | [], i, K, hv => ⟨[], rfl, fun _ _ h => (by cases h), hv⟩
  | t :: ts, i, K, hv => by
    obtain ⟨x, h1, hv⟩ := Option.bind_eq_some_iff.1 hv
    obtain ⟨l, h2, h3, h4⟩ := viewTs_ok ts (i + 1) (viewT_ok hv)
    refine ⟨x :: l, congrArg Nat.succ h2, fun j y hy => ?_, h4⟩
    cases j with
    | zero =>
      injection hy with hy
      subst hy
      exact h1
    | succ j =>
      rw [show i + (j + 1) = i + 1 + j by omega]
      exact h3 j y hy
theorem viewR_ok {ts : List TypeId} {v : Value} {K : Value → Option ρ} (hv : viewR P ts v K = some r) : K v = some r := by
  unfold viewR at hv
  split at hv
  · exact hv
  · exact viewT_ok hv
  · obtain ⟨hc, hv⟩ := cond_some' hv
    obtain ⟨l, h2, h3, h4⟩ := viewTs_ok _ 0 hv
    obtain ⟨cs, rfl, hc⟩ := tupIs_ok hc
    have e : l = cs.toList := by
      apply List.ext_getElem?
      intro i
      cases hi : l[i]? with
      | some x =>
        have := h3 i x hi
        rw [Nat.zero_add] at this
        exact this.symm
      | none =>
        have := List.getElem?_eq_none_iff.1 hi
        exact (List.getElem?_eq_none (by omega)).symm
    rw [e] at h4
    exact h4
theorem rdC_ok {h : AH} {a : Addr} {i : Nat} {x : Value} (hx : rdC h a i = some x) : a.spot = none ∧ ∃ b, h.rd a.block = some b ∧ b.cells[a.off + i]? = some x := by
  unfold rdC at hx
  split at hx
  · rename_i hs
    obtain ⟨b, h1, h2⟩ := Option.bind_eq_some_iff.1 hx
    exact ⟨hs, b, h1, h2⟩
  · cases hx
theorem kload_ok {t : TypeId} {x : Value} {h : AH} {K : Value → Option ρ} (hv : kload P t x h K = some r) : ∃ v, loadV P t x h = some v ∧ K v = some r := by
  have hp : ∃ a, x = .pointer a := by
    cases x <;> first | (cases hv; done) | exact ⟨_, rfl⟩
  obtain ⟨a, rfl⟩ := hp
  unfold kload at hv
  simp only at hv
  · obtain ⟨ad, had, hv1⟩ := Option.bind_eq_some_iff.1 hv
    clear hv
    obtain ⟨ag, hag, hv⟩ := Option.bind_eq_some_iff.1 hv1
    clear hv1
    subst had
    cases ag with
    | false =>
      obtain ⟨v, hv1, hv⟩ := Option.bind_eq_some_iff.1 hv
      obtain ⟨hs, b, h1, h2⟩ := rdC_ok hv1
      refine ⟨v, ?_, viewA_ok hv⟩
      unfold loadV
      simp only [h1, Option.bind_some, hs]
      unfold partT
      rw [hag]
      exact h2
    | true =>
      obtain ⟨ts, _, hv⟩ := Option.bind_eq_some_iff.1 hv
      obtain ⟨hc, hv⟩ := cond_some' hv
      rw [Bool.and_eq_true] at hc
      have hsz := of_decide_eq_true hc.1
      obtain ⟨l, h2, h3, h4⟩ := viewL_ok ts 0 hv
      have hne : ts.length ≠ 0 := fun e => by
        rw [e] at hc
        cases hc.2
      have hl0 : 0 < l.length := by omega
      obtain ⟨hs, b, h1, _⟩ := rdC_ok (h3 0 _ (List.getElem?_eq_getElem hl0))
      have hall : ∀ j x, l[j]? = some x → b.cells[ad.off + j]? = some x := fun j x hx => by
        obtain ⟨_, b', h1', h5⟩ := rdC_ok (h3 j x hx)
        rw [h1] at h1'
        injection h1' with h1'
        subst h1'
        rwa [Nat.zero_add] at h5
      refine ⟨.agg l.toArray, ?_, h4⟩
      unfold loadV
      simp only [h1, Option.bind_some, hs]
      unfold partT
      rw [hag]
      simp only [Option.bind_some, cond_true, hsz]
      have hfit : ad.off + l.length ≤ b.cells.length := by
        have := (List.getElem?_eq_some_iff.1 (hall (l.length - 1) _ (List.getElem?_eq_getElem (by omega)))).1
        omega
      have e : takeAt b.cells ad.off ts.length = some l := by
        unfold takeAt
        rw [← h2, Nat.ble_eq_true_of_le hfit]
        refine congrArg some ?_
        apply List.ext_getElem?
        intro i
        rw [List.getElem?_take]
        split
        · rename_i hi
          rw [List.getElem?_drop, hall i _ (List.getElem?_eq_getElem hi)]
          exact (List.getElem?_eq_getElem hi).symm
        · exact (List.getElem?_eq_none (by omega)).symm
      rw [e]
      rfl
theorem kcmp_ok {op : BinOp} {k : IntKind} {x y : Int} {K : Value → Option ρ} (hv : kcmp op x y K = some r) : ∃ v, intOp op k x y = some v ∧ K v = some r := by
  unfold kcmp at hv
  split at hv <;> first | exact ⟨_, rfl, hv⟩ | cases hv
theorem kint_ok {op : BinOp} {k : IntKind} {x y : Int} {K : Value → Option ρ} (hv : kint op k x y K = some r) : ∃ v, intOp op k x y = some v ∧ K v = some r := by
  unfold kint at hv
  split at hv
  · exact ⟨_, rfl, hv⟩
  · exact ⟨_, rfl, hv⟩
  · exact ⟨_, rfl, hv⟩
  · cases h0 : iEq y 0 with
    | true =>
      rw [h0] at hv
      cases hv
    | false =>
      rw [h0] at hv
      refine ⟨_, ?_, hv⟩
      have : ¬ y = 0 := fun e => by
        rw [e] at h0
        cases h0
      unfold intOp
      rw [decide_eq_false this]
      rfl
  · cases h0 : iEq y 0 with
    | true =>
      rw [h0] at hv
      cases hv
    | false =>
      rw [h0] at hv
      refine ⟨_, ?_, hv⟩
      have : ¬ y = 0 := fun e => by
        rw [e] at h0
        cases h0
      unfold intOp
      rw [decide_eq_false this]
      rfl
  · exact ⟨_, rfl, hv⟩
  · exact ⟨_, rfl, hv⟩
  · exact ⟨_, rfl, hv⟩
  · exact ⟨_, rfl, hv⟩
  · exact kcmp_ok hv
theorem kshift_ok {op : BinOp} {k : IntKind} {x y : Int} {K : Value → Option ρ} (hv : kshift op k x y K = some r) : ∃ v, shiftOp op k x y = some v ∧ K v = some r := by
  unfold kshift at hv
  cases h0 : iLt y 0 with
  | true =>
    rw [h0] at hv
    cases hv
  | false =>
    rw [h0] at hv
    have h0' : decide (y < 0) = false := h0
    simp only [cond_false] at hv
    unfold shiftOp
    rw [h0']
    split at hv
    · exact ⟨_, rfl, hv⟩
    · exact ⟨_, rfl, hv⟩
    · cases hv
theorem keqF_ok {xs ys : List Value} : ∀ (fs : List Field) {K : Bool → Option ρ}, keqF P xs ys fs K = some r → ∃ b, fieldsEq P xs ys fs = some b ∧ K b = some r
  | [], K, hv => ⟨true, rfl, hv⟩
  | f :: fs, K, hv => by
    unfold keqF at hv
    split at hv
    · rename_i k k1 a k2 b hu hx hy
      obtain ⟨hc, hv2⟩ := cond_some' hv
      clear hv
      rw [Bool.and_eq_true, Bool.and_eq_true] at hc
      obtain ⟨h1, h2, h3⟩ := hc
      have h1 := of_decide_eq_true h1
      have h2 := of_decide_eq_true h2
      rw [h1] at hx
      rw [h2] at hy
      have key : ∀ z : Bool → Option Bool, (cellEq (.int k a) (.int k b)).bind z = z (iEq a b) := fun z => by
        show (cond (decide (k = k)) (some (a == b)) none).bind z = _
        rw [decide_eq_true rfl]
        rfl
      unfold fieldsEq
      simp only [hu, hx, hy, Option.bind_some, kindIs, Bool.true_and, h3, cond_true, key]
      cases he : iEq a b with
      | true =>
        rw [he] at hv2
        exact keqF_ok fs hv2
      | false =>
        rw [he] at hv2
        exact ⟨false, rfl, hv2⟩
    · cases hv
theorem kbin_ok {op : BinOp} {t : TypeId} {x y : Value} {K : Value → Option ρ} (hv : kbin P op t x y K = some r) : ∃ v, binV P op t x y = some v ∧ K v = some r := by
  unfold kbin at hv
  split at hv
  · exact kshift_ok hv
  · exact kshift_ok hv
  · split at hv
    · rename_i fs hu
      cases hc : (P.stoodInHeld t || P.eqGuardType P.depth t) with
      | true =>
        rw [hc] at hv
        cases hv
      | false =>
        rw [hc] at hv
        obtain ⟨b, h1, h2⟩ := keqF_ok _ hv
        refine ⟨.bool b, ?_, h2⟩
        unfold binV
        simp only [hu, Option.bind_some, hc, cond_false, h1, Option.map_some]
    · cases hv
  · split at hv
    · rename_i fs hu
      cases hc : (P.stoodInHeld t || P.eqGuardType P.depth t) with
      | true =>
        rw [hc] at hv
        cases hv
      | false =>
        rw [hc] at hv
        obtain ⟨b, h1, h2⟩ := keqF_ok _ hv
        refine ⟨.bool !b, ?_, h2⟩
        unfold binV
        simp only [hu, Option.bind_some, hc, cond_false, h1, Option.map_some]
    · cases hv
  · rename_i k a k' b n1 n2
    obtain ⟨hc, hv⟩ := cond_some' hv
    obtain ⟨v, h1, h2⟩ := kint_ok hv
    refine ⟨v, ?_, h2⟩
    have hk := of_decide_eq_true hc
    subst hk
    have key : cond (decide (k = k)) (intOp op k a b) none = some v := by
      rw [decide_eq_true rfl]
      exact h1
    cases op <;> first | (exact absurd rfl n1) | (exact absurd rfl n2) | exact key
  · obtain ⟨v, h1, h2⟩ := Option.bind_eq_some_iff.1 hv
    exact ⟨v, h1, h2⟩
theorem kun_ok {op : UnOp} {x : Value} {K : Value → Option ρ} (hv : kun op x K = some r) : ∃ v, unV op x = some v ∧ K v = some r := by
  unfold kun at hv
  split at hv <;> first | exact ⟨_, rfl, hv⟩ | cases hv
theorem kconv_ok {s d : TypeId} {x : Value} {K : Value → Option ρ} (hv : kconv P s d x K = some r) : ∃ v, convV P s d x = some v ∧ K v = some r := by
  unfold kconv at hv
  obtain ⟨u, hu, hv1⟩ := Option.bind_eq_some_iff.1 hv
  clear hv
  have hv := hv1
  clear hv1
  unfold convV
  rw [hu]
  split at hv
  · rename_i hd
    rw [hd]
    exact ⟨_, rfl, hv⟩
  · rename_i hd
    rw [hd]
    exact ⟨_, rfl, hv⟩
  · cases hv
theorem kindexAddr_ok {t : TypeId} {x i : Value} {K : Value → Option ρ} (hv : kindexAddr P t x i K = some r) : ∃ v, indexAddrV P t x i = some v ∧ K v = some r := by
  unfold kindexAddr at hv
  split at hv
  · rename_i hd
    obtain ⟨ad, had, hv1⟩ := Option.bind_eq_some_iff.1 hv
    obtain ⟨hc, hv2⟩ := cond_some' hv1
    obtain ⟨s, hs, hv3⟩ := Option.bind_eq_some_iff.1 hv2
    subst had
    refine ⟨_, ?_, hv3⟩
    unfold indexAddrV
    simp only [hd, Option.bind_some, hs]
    unfold inB at hc
    rw [hc]
    rfl
  · rename_i hd
    obtain ⟨ad, had, hv1⟩ := Option.bind_eq_some_iff.1 hv
    obtain ⟨hc, hv2⟩ := cond_some' hv1
    obtain ⟨s, hs, hv3⟩ := Option.bind_eq_some_iff.1 hv2
    subst had
    refine ⟨_, ?_, hv3⟩
    unfold indexAddrV
    simp only [hd, Option.bind_some, hs]
    unfold inB at hc
    rw [hc]
    rfl
  · cases hv
theorem kindex_ok {t : TypeId} {x i : Value} {K : Value → Option ρ} (hv : kindex P t x i K = some r) : ∃ v, indexV P t x i = some v ∧ K v = some r := by
  unfold kindex at hv
  split at hv
  · rename_i s k i hd
    obtain ⟨n, hn, hv1⟩ := Option.bind_eq_some_iff.1 hv
    refine ⟨_, ?_, hv1⟩
    unfold sIx at hn
    obtain ⟨hc, hn⟩ := cond_some' hn
    obtain ⟨b, hb, e⟩ := Option.map_eq_some_iff.1 hn
    unfold indexV
    simp only [hd, Option.bind_some, hc, cond_true, hb, Option.map_some, e]
  · obtain ⟨v, h1, h2⟩ := Option.bind_eq_some_iff.1 hv
    exact ⟨v, h1, h2⟩
theorem kfieldAddr_ok {s : TypeId} {x : Value} {f : Nat} {K : Value → Option ρ} (hv : kfieldAddr P s x f K = some r) : ∃ v, fieldAddrV P s x f = some v ∧ K v = some r := by
  unfold kfieldAddr at hv
  split at hv
  · rename_i hd
    obtain ⟨ad, had, hv1⟩ := Option.bind_eq_some_iff.1 hv
    obtain ⟨fd, hf, hv2⟩ := Option.bind_eq_some_iff.1 hv1
    obtain ⟨z, hz, hv3⟩ := Option.bind_eq_some_iff.1 hv2
    subst had
    cases hb : Nat.beq z 0 with
    | true =>
      rw [hb] at hv3
      cases hv3
    | false =>
      rw [hb] at hv3
      refine ⟨_, ?_, hv3⟩
      unfold fieldAddrV
      simp only [hd, Option.bind_some, hf, hz, hb]
      rfl
  · cases hv
end Go.Proofs.YtiadfnedbbkojaaDoor.X
namespace Go.Proofs.YtiadfnedbbkojaaDoor.X
open Go
variable {P : Program} {ρ : Type} {r : ρ} {cf : FuncId → List Value → AH → Option (Value × AH)}
theorem kop_ok {o : Op} {ty : TypeId} {e : Tr Value} {h : AH} {K : Value → AH → Option ρ} (hv : kop P cf o ty e h K = some r) : ∃ v h', opV P cf o e h = some (v, h') ∧ K v h' = some r := by
  have dflt : ((opV P cf o e h).bind fun p => K p.1 p.2) = some r → ∃ v h', opV P cf o e h = some (v, h') ∧ K v h' = some r := fun hv => by
    obtain ⟨p, h1, h2⟩ := Option.bind_eq_some_iff.1 hv
    exact ⟨p.1, p.2, h1, h2⟩
  cases o with
  | move x => exact ⟨_, _, rfl, hv⟩
  | assign x => exact ⟨_, _, rfl, hv⟩
  | pick c a b =>
    clear dflt
    have hv' : kpick (ev e c) (ev e a) (ev e b) (fun v => K v h) = some r := hv
    unfold kpick at hv'
    unfold opV
    split at hv'
    · rename_i t ht
      simp only [ht]
      cases t with
      | true => exact ⟨_, _, rfl, hv'⟩
      | false => exact ⟨_, _, rfl, hv'⟩
    · cases hv'
  | load t x =>
    have hv' : kload P t (ev e x) h (fun v => K v h) = some r := hv
    obtain ⟨v, h1, h2⟩ := kload_ok hv'
    exact ⟨v, h, congrArg (fun o => o.map fun v => (v, h)) h1, h2⟩
  | store t x v =>
    obtain ⟨h', h1, h2⟩ := Option.bind_eq_some_iff.1 hv
    exact ⟨undef, h', congrArg (fun o => o.map fun h' => (undef, h')) h1, h2⟩
  | binOp op t x y yt =>
    have hv' : kbin P op t (ev e x) (ev e y) (fun v => K v h) = some r := hv
    obtain ⟨v, h1, h2⟩ := kbin_ok hv'
    exact ⟨v, h, congrArg (fun o => o.map fun v => (v, h)) h1, h2⟩
  | unOp op t x =>
    have hv' : kun op (ev e x) (fun v => K v h) = some r := hv
    obtain ⟨v, h1, h2⟩ := kun_ok hv'
    exact ⟨v, h, congrArg (fun o => o.map fun v => (v, h)) h1, h2⟩
  | convert s d x =>
    have hv' : kconv P s d (ev e x) (fun v => K v h) = some r := hv
    obtain ⟨v, h1, h2⟩ := kconv_ok hv'
    exact ⟨v, h, congrArg (fun o => o.map fun v => (v, h)) h1, h2⟩
  | indexAddr t x i =>
    have hv' : kindexAddr P t (ev e x) (ev e i) (fun v => K v h) = some r := hv
    obtain ⟨v, h1, h2⟩ := kindexAddr_ok hv'
    exact ⟨v, h, congrArg (fun o => o.map fun v => (v, h)) h1, h2⟩
  | index t x i =>
    have hv' : kindex P t (ev e x) (ev e i) (fun v => K v h) = some r := hv
    obtain ⟨v, h1, h2⟩ := kindex_ok hv'
    exact ⟨v, h, congrArg (fun o => o.map fun v => (v, h)) h1, h2⟩
  | fieldAddr s x f =>
    have hv' : kfieldAddr P s (ev e x) f (fun v => K v h) = some r := hv
    obtain ⟨v, h1, h2⟩ := kfieldAddr_ok hv'
    exact ⟨v, h, congrArg (fun o => o.map fun v => (v, h)) h1, h2⟩
  | slice t x lo hi mx =>
    obtain ⟨v, h1, h2⟩ := Option.bind_eq_some_iff.1 hv
    exact ⟨v, h, congrArg (fun o => o.map fun v => (v, h)) h1, viewT_ok h2⟩
  | call c =>
    clear dflt
    obtain ⟨callee, cargs, cts⟩ := c
    cases callee with
    | builtin b =>
      have hv' : kbuiltin P b cts.toList ty (cargs.toList.map (ev e)) h K = some r := hv
      show ∃ v h', builtinV P b cts.toList (cargs.toList.map (ev e)) h = some (v, h') ∧ _
      clear hv
      generalize cargs.toList.map (ev e) = args at hv'
      unfold kbuiltin at hv'
      split at hv'
      · obtain ⟨p, h1, h2⟩ := Option.bind_eq_some_iff.1 hv'
        exact ⟨_, _, h1, viewT_ok h2⟩
      · obtain ⟨p, h1, h2⟩ := Option.bind_eq_some_iff.1 hv'
        exact ⟨_, _, h1, viewT_ok h2⟩
      · exact ⟨_, _, rfl, hv'⟩
      · exact ⟨_, _, rfl, hv'⟩
      · obtain ⟨p, h1, h2⟩ := Option.bind_eq_some_iff.1 hv'
        exact ⟨_, _, h1, h2⟩
    | value f =>
      have hv' : kcallF P cf (ev e f) (cargs.toList.map (ev e)) h K = some r := hv
      clear hv
      unfold opV
      simp only
      generalize ev e f = fv at hv'
      unfold kcallF at hv'
      split at hv'
      · obtain ⟨p, h1, h2⟩ := Option.bind_eq_some_iff.1 hv'
        obtain ⟨fn, _, h3⟩ := Option.bind_eq_some_iff.1 h2
        exact ⟨_, _, h1, viewR_ok h3⟩
      · cases hv'
    | invoke r m => cases hv
  | _ => exact dflt hv
theorem Tr.setF_same {α : Type} : ∀ (f : Nat) (t : Tr α) (n : Nat) (a : α), t.get n = some a → Tr.setF f t n a = t
  | 0, _, _, _, _ => rfl
  | f + 1, .nil, n, a, h => by
    rw [Tr.get_nil] at h
    cases h
  | f + 1, .node v l r, 0, a, h => by
    have h : v = some a := h
    subst h
    rfl
  | f + 1, .node v l r, m + 1, a, h => by
    rw [Tr.get_succ] at h
    show cond (Nat.beq (m % 2) 0) (Tr.node v (Tr.setF f l (m / 2) a) r) (Tr.node v l (Tr.setF f r (m / 2) a)) = _
    rw [cond_beq]
    split at h
    · rename_i hm
      rw [if_pos hm, Tr.setF_same f l _ a h]
    · rename_i hm
      rw [if_neg hm, Tr.setF_same f r _ a h]
theorem Tr.set_same {α : Type} {t : Tr α} {n : Nat} {a : α} (h : t.get n = some a) : t.set n a = t := Tr.setF_same _ _ _ _ h
theorem kwant_ok {ops : Array Oper} {o : Oper} {e : Tr Value} {A B : Tr Value → Option ρ} (hv : kwant ops o e A B = some r) : (wantE ops o e = true ∧ A e = some r) ∨ (wantE ops o e = false ∧ B e = some r) := by
  unfold kwant at hv
  unfold wantE
  cases hg : o.guard with
  | none =>
    rw [hg] at hv
    exact .inl ⟨rfl, hv⟩
  | some p =>
    obtain ⟨j, w⟩ := p
    rw [hg] at hv
    simp only at hv ⊢
    generalize (ops.toList[j]?).bind (·.dst) = x at hv
    cases x with
    | none => exact .inr ⟨rfl, hv⟩
    | some t =>
      simp only [Option.map_some] at hv ⊢
      cases he : e.get t with
      | none =>
        rw [he] at hv
        exact .inr ⟨rfl, hv⟩
      | some x =>
        rw [he] at hv
        cases x with
        | bool b =>
          have hs := Tr.set_same he
          cases w <;> cases b <;> (simp only [cond_true, cond_false, hs] at hv; first | exact .inl ⟨rfl, hv⟩ | exact .inr ⟨rfl, hv⟩)
        | _ => exact .inr ⟨rfl, hv⟩
theorem kcond_ok {c : Operand} {e : Tr Value} {A B : Tr Value → Option ρ} (hv : kcond c e A B = some r) : ∃ b, ev e c = .bool b ∧ (cond b (A e) (B e)) = some r := by
  cases c with
  | tmp t =>
    have hv' : (match e.get t with | some (.bool b) => cond b (A (e.set t (.bool true))) (B (e.set t (.bool false))) | _ => none) = some r := hv
    clear hv
    show ∃ b, (e.get t).getD undef = .bool b ∧ _
    cases he : e.get t with
    | none =>
      rw [he] at hv'
      cases hv'
    | some x =>
      rw [he] at hv'
      cases x with
      | bool b =>
        have hs := Tr.set_same he
        refine ⟨b, rfl, ?_⟩
        cases b <;> (simp only [cond_true, cond_false, hs] at hv' ⊢; exact hv')
      | _ => cases hv'
  | _ =>
    unfold kcond at hv
    simp only at hv
    split at hv
    · rename_i b hb
      exact ⟨b, hb, hv⟩
    · cases hv
theorem iter_succ {step : Tr Value → AH → Option (Ex × Tr Value × AH)} {k : Nat} {e : Tr Value} {h : AH} : iter step (k + 1) e h = (step e h).bind fun r => match r.1 with
    | .normal => iter step k r.2.1 r.2.2
    | _ => some r := rfl
end Go.Proofs.YtiadfnedbbkojaaDoor.X
namespace Go.Proofs.YtiadfnedbbkojaaDoor.X
open Go
section
variable {α : Type}
theorem setF_nil (f n : Nat) (a : α) : Tr.setF (f + 1) .nil n a = Tr.setF (f + 1) (.node none .nil .nil) n a := by
  cases n with
  | zero => rfl
  | succ m => rfl
theorem setF_succ (f : Nat) (v : Option α) (l r : Tr α) (m : Nat) (a : α) : Tr.setF (f + 1) (.node v l r) (m + 1) a = if m % 2 = 0 then .node v (Tr.setF f l (m / 2) a) r else .node v l (Tr.setF f r (m / 2) a) := by
  rw [← cond_beq]
  rfl
theorem setF_fuel : ∀ (f g : Nat) (t : Tr α) (n : Nat) (a : α), n < f → n < g → Tr.setF f t n a = Tr.setF g t n a := by
  intro f
  induction f with
  | zero => exact fun _ _ _ _ h => absurd h (Nat.not_lt_zero _)
  | succ f ih =>
    intro g t n a hf hg
    cases g with
    | zero => exact absurd hg (Nat.not_lt_zero _)
    | succ g =>
      have key : ∀ v l r, Tr.setF (f + 1) (.node v l r) n a = Tr.setF (g + 1) (.node v l r) n a := fun v l r => by
        cases n with
        | zero => rfl
        | succ m => rw [setF_succ, setF_succ, ih g l (m / 2) a (by omega) (by omega), ih g r (m / 2) a (by omega) (by omega)]
      cases t with
      | nil => rw [setF_nil, setF_nil, key]
      | node v l r => exact key v l r
theorem setF_over : ∀ (f : Nat) (t : Tr α) (n : Nat) (a b : α), n < f → Tr.setF f (Tr.setF f t n a) n b = Tr.setF f t n b := by
  intro f
  induction f with
  | zero => exact fun _ _ _ _ h => absurd h (Nat.not_lt_zero _)
  | succ f ih =>
    intro t n a b hf
    have key : ∀ v l r, Tr.setF (f + 1) (Tr.setF (f + 1) (.node v l r) n a) n b = Tr.setF (f + 1) (.node v l r) n b := fun v l r => by
      cases n with
      | zero => rfl
      | succ m =>
        rw [setF_succ, setF_succ]
        split
        · rename_i h
          rw [setF_succ, if_pos h, ih l (m / 2) a b (by omega)]
        · rename_i h
          rw [setF_succ, if_neg h, ih r (m / 2) a b (by omega)]
    cases t with
    | nil => rw [setF_nil, key, setF_nil]
    | node v l r => exact key v l r
theorem setF_comm : ∀ (f : Nat) (t : Tr α) (n m : Nat) (a b : α), n < f → m < f → n ≠ m → Tr.setF f (Tr.setF f t n a) m b = Tr.setF f (Tr.setF f t m b) n a := by
  intro f
  induction f with
  | zero => exact fun _ _ _ _ _ h => absurd h (Nat.not_lt_zero _)
  | succ f ih =>
    intro t n m a b hn hm hne
    have key : ∀ v l r, Tr.setF (f + 1) (Tr.setF (f + 1) (.node v l r) n a) m b = Tr.setF (f + 1) (Tr.setF (f + 1) (.node v l r) m b) n a := fun v l r => by
      cases n with
      | zero =>
        cases m with
        | zero => exact absurd rfl hne
        | succ m =>
          show Tr.setF (f + 1) (.node (some a) l r) (m + 1) b = _
          rw [setF_succ, setF_succ]
          split <;> rfl
      | succ n =>
        cases m with
        | zero =>
          show _ = Tr.setF (f + 1) (.node (some b) l r) (n + 1) a
          rw [setF_succ, setF_succ]
          split <;> rfl
        | succ m =>
          rw [setF_succ, setF_succ]
          by_cases h1 : n % 2 = 0
          · by_cases h2 : m % 2 = 0
            · rw [if_pos h1, if_pos h2, setF_succ, setF_succ, if_pos h1, if_pos h2, ih l (n / 2) (m / 2) a b (by omega) (by omega) (by omega)]
            · rw [if_pos h1, if_neg h2, setF_succ, setF_succ, if_pos h1, if_neg h2]
          · by_cases h2 : m % 2 = 0
            · rw [if_neg h1, if_pos h2, setF_succ, setF_succ, if_neg h1, if_pos h2]
            · rw [if_neg h1, if_neg h2, setF_succ, setF_succ, if_neg h1, if_neg h2, ih r (n / 2) (m / 2) a b (by omega) (by omega) (by omega)]
    cases t with
    | nil => rw [setF_nil, setF_nil f m, key]
    | node v l r => exact key v l r
theorem Tr.set_over (t : Tr α) (n : Nat) (a b : α) : (t.set n a).set n b = t.set n b := setF_over _ _ _ _ _ (Nat.lt_succ_self n)
theorem Tr.set_comm (t : Tr α) {n m : Nat} (a b : α) (h : n ≠ m) : (t.set n a).set m b = (t.set m b).set n a := by
  unfold Tr.set
  rw [setF_fuel (n + 1) (n + m + 1) _ n a (by omega) (by omega), setF_fuel (m + 1) (n + m + 1) _ m b (by omega) (by omega), setF_fuel (m + 1) (n + m + 1) t m b (by omega) (by omega), setF_fuel (n + 1) (n + m + 1) _ n a (by omega) (by omega)]
  exact setF_comm _ _ _ _ _ _ (by omega) (by omega) h
end
def locB : Tr ABlk → Nat → List (List Value) → Tr ABlk
  | t, _, [] => t
  | t, i, cs :: r => locB (t.set i ⟨cs, 0, i, false⟩) (i + 1) r
/-- The heap of a function: own blocks behind what was there. -/
def loc (h : AH) (bs : List (List Value)) : AH := { blks := locB h.blks h.next bs, grps := h.grps, next := h.next + bs.length, low := h.next }
theorem locB_app : ∀ (bs : List (List Value)) (t : Tr ABlk) (i : Nat) (cs : List Value), locB t i (bs ++ [cs]) = (locB t i bs).set (i + bs.length) ⟨cs, 0, i + bs.length, false⟩
  | [], t, i, cs => rfl
  | b :: bs, t, i, cs => by
    show locB _ (i + 1) (bs ++ [cs]) = (locB _ (i + 1) bs).set _ _
    rw [locB_app bs, List.length_cons, show i + 1 + bs.length = i + (bs.length + 1) by omega]
theorem new_loc (h : AH) (bs : List (List Value)) (cs : List Value) : (AH.new (loc h bs) cs 0).2 = loc h (bs ++ [cs]) := by
  unfold AH.new loc
  rw [locB_app, List.length_append]
  rfl
theorem loc_next (h : AH) (bs : List (List Value)) : (loc h bs).next = h.next + bs.length := rfl
theorem loc_low (h : AH) (bs : List (List Value)) : (loc h bs).low = h.next := rfl
theorem locB_old : ∀ (bs : List (List Value)) (t : Tr ABlk) (i β : Nat), β < i → (locB t i bs).get β = t.get β
  | [], _, _, _, _ => rfl
  | b :: bs, t, i, β, h => by
    show (locB _ (i + 1) bs).get β = _
    rw [locB_old bs _ _ _ (by omega), Tr.get_set, if_neg (by omega)]
theorem locB_get : ∀ (bs : List (List Value)) (t : Tr ABlk) (i j : Nat) (cs : List Value), bs[j]? = some cs → (locB t i bs).get (i + j) = some ⟨cs, 0, i + j, false⟩
  | b :: bs, t, i, 0, cs, h => by
    injection h with h
    subst h
    show (locB _ (i + 1) bs).get i = _
    rw [locB_old bs _ _ _ (by omega), Tr.get_set, if_pos rfl]
    rfl
  | b :: bs, t, i, j + 1, cs, h => by
    show (locB _ (i + 1) bs).get _ = _
    rw [show i + (j + 1) = i + 1 + j by omega]
    exact locB_get bs _ (i + 1) j cs h
theorem locB_set : ∀ (bs : List (List Value)) (t : Tr ABlk) (i j : Nat) (cs : List Value), j < bs.length → (locB t i bs).set (i + j) ⟨cs, 0, i + j, false⟩ = locB t i (bs.set j cs)
  | b :: bs, t, i, 0, cs, _ => by
    show (locB _ (i + 1) bs).set i ⟨cs, 0, i, false⟩ = locB (t.set i ⟨cs, 0, i, false⟩) (i + 1) bs
    have key : ∀ (bs : List (List Value)) (t : Tr ABlk) (k : Nat) (x : ABlk), i < k → (locB t k bs).set i x = locB (t.set i x) k bs := by
      intro bs
      induction bs with
      | nil => exact fun _ _ _ _ => rfl
      | cons b bs ih =>
        intro t k x hk
        show (locB _ (k + 1) bs).set i x = locB _ (k + 1) bs
        rw [ih _ _ _ (by omega), Tr.set_comm t _ _ (by omega)]
    rw [key _ _ _ _ (by omega), Tr.set_over]
  | b :: bs, t, i, j + 1, cs, h => by
    show (locB _ (i + 1) bs).set _ _ = locB _ (i + 1) (bs.set j cs)
    rw [show i + (j + 1) = i + 1 + j by omega]
    exact locB_set bs _ (i + 1) j cs (Nat.lt_of_succ_lt_succ h)
variable {h : AH}
theorem loc_rd (H : WF h) {bs : List (List Value)} {j : Nat} {cs : List Value} (hj : bs[j]? = some cs) : (loc h bs).rd (h.next + j) = some ⟨cs, 0, h.next + j, false⟩ := by
  refine rd_of (locB_get bs _ _ _ _ hj) ?_
  show h.next + j ∈ (h.grps.get (h.next + j)).getD [h.next + j]
  rw [(H.new _ (by omega)).2]
  exact List.mem_singleton.2 rfl
theorem loc_rdC (H : WF h) {bs : List (List Value)} {j o i : Nat} {cs : List Value} (hj : bs[j]? = some cs) : rdC (loc h bs) ⟨h.next + j, o, none⟩ i = cs[o + i]? := by
  unfold rdC
  simp only [loc_rd H hj, Option.bind_some]
theorem exitR_loc {bs : List (List Value)} {v : Value} (hv : plainV v = true) : exitR h (loc h bs) v = (v, h) := by
  unfold exitR
  rw [loc_low, Nat.beq_refl, hv]
  rfl
theorem loc_wf (H : WF h) (bs : List (List Value)) : WF (loc h bs) := by
  have key : ∀ (bs : List (List Value)) (t : Tr ABlk) (i : Nat), (∀ β b, t.get β = some b → b.grp ≤ β) → (∀ β, i ≤ β → t.get β = none) →
      (∀ β b, (locB t i bs).get β = some b → b.grp ≤ β) ∧ ∀ β, i + bs.length ≤ β → (locB t i bs).get β = none := by
    intro bs
    induction bs with
    | nil => exact fun t i h1 h2 => ⟨h1, h2⟩
    | cons b bs ih =>
      intro t i h1 h2
      have := ih (t.set i ⟨b, 0, i, false⟩) (i + 1) (fun β c hc => by
        rw [Tr.get_set] at hc
        split at hc
        · rename_i e
          injection hc with hc
          subst hc
          exact Nat.le_of_eq e.symm
        · exact h1 β c hc) (fun β hβ => by rw [Tr.get_set, if_neg (by omega)]; exact h2 β (by omega))
      exact ⟨this.1, fun β hβ => this.2 β (by rw [List.length_cons] at hβ; omega)⟩
  have := key bs h.blks h.next H.gle fun β hβ => (H.new β hβ).1
  exact ⟨this.1, fun β hβ => ⟨this.2 β hβ, (H.new β (by have : h.next + bs.length ≤ β := hβ; omega)).2⟩⟩
end Go.Proofs.YtiadfnedbbkojaaDoor.X
namespace Go.Proofs.YtiadfnedbbkojaaDoor.X
open Go
theorem vInt_int (k : IntKind) (n : Int) : vInt k (.int k n) = some n := by
  show cond (decide (k = k)) (some n) none = some n
  rw [decide_eq_true rfl]
  rfl
theorem vSl_sl (a : Option Addr) (n c : Nat) : vSl (.slice a n c) = some (a, n, c) := rfl
theorem add_lit (b o k : Nat) : Addr.add ⟨b, o, none⟩ k = ⟨b, o + k, none⟩ := add_none rfl k
theorem aggIs2 (a b : Value) : aggIs 2 (.agg #[a, b]) = true := rfl
theorem aggC20 (a b : Value) : aggC 0 (.agg #[a, b]) = some a := rfl
theorem aggC21 (a b : Value) : aggC 1 (.agg #[a, b]) = some b := rfl
theorem tupIs2 (a b : Value) : tupIs 2 (.tuple #[a, b]) = true := rfl
theorem tupC20 (a b : Value) : tupC 0 (.tuple #[a, b]) = some a := rfl
theorem tupC21 (a b : Value) : tupC 1 (.tuple #[a, b]) = some b := rfl
section
variable {h : AH} {bs : List (List Value)}
theorem exitR_bool (b : Bool) : exitR h (loc h bs) (.bool b) = (.bool b, h) := exitR_loc rfl
theorem exitR_int (k : IntKind) (n : Int) : exitR h (loc h bs) (.int k n) = (.int k n, h) := exitR_loc rfl
theorem exitR_ints (k k' : IntKind) (m n : Int) : exitR h (loc h bs) (.agg #[.int k m, .int k' n]) = (.agg #[.int k m, .int k' n], h) := exitR_loc rfl
theorem exitR_ii (k k' : IntKind) (m n : Int) : exitR h (loc h bs) (.tuple #[.int k m, .int k' n]) = (.tuple #[.int k m, .int k' n], h) := exitR_loc rfl
theorem exitR_ib (k : IntKind) (m : Int) (b : Bool) : exitR h (loc h bs) (.tuple #[.int k m, .bool b]) = (.tuple #[.int k m, .bool b], h) := exitR_loc rfl
variable {P : Program} {t : TypeId} {o s : Nat} {vs : List Value} {v : Value}
end
theorem WF.mark {h : AH} (H : WF h) : WF (AH.mark h) := H.setLow _
end Go.Proofs.YtiadfnedbbkojaaDoor.X
