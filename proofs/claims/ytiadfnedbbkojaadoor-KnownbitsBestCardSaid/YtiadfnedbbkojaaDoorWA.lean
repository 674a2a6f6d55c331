/- Joined texts: WA. -/
import Derived.Test.YtiadfnedbbkojaaDoorVA
namespace Go.Proofs.YtiadfnedbbkojaaDoor.Kb
open Go Go.Proofs Go.Proofs.YtiadfnedbbkojaaDoor.X Go.Proofs.YtiadfnedbbkojaaDoor.Bv
set_option linter.unusedSimpArgs false
set_option linter.unusedVariables false
/-- For each bit: if it is not known to be 0, a word has it; if it is not known to be 1, a word lacks it. -/
def Dif (w : Nat) (p q : BitVec 64) (S : BitVec 64 → Prop) : Prop :=
  ∀ i, i < w → (p.getLsbD i = false → ∃ x, S x ∧ x.getLsbD i = true) ∧ (q.getLsbD i = false → ∃ x, S x ∧ x.getLsbD i = false)
/-- The greatest word of an element. -/
def mst (w : Nat) (z : BitVec 64) : BitVec 64 := M w &&& ~~~ z
theorem mst_bit {w : Nat} (hw : w ≤ 64) (z : BitVec 64) (i : Nat) (hi : i < w) : (mst w z).getLsbD i = !z.getLsbD i := by
  unfold mst
  rw [BitVec.getLsbD_and, BitVec.getLsbD_not, M_bit w hw, decide_eq_true hi, decide_eq_true (show i < 64 by omega)]
  rfl
theorem mst_in {w : Nat} (hw : w ≤ 64) {z o : BitVec 64} (V : Vd2 w z o) : In w z o (mst w z) := by
  refine ⟨fun i h => ?_, fun i h => ?_, fun i hi => ?_⟩
  · rcases Nat.lt_or_ge i w with hl | hl
    · rw [mst_bit hw z i hl, h]
      rfl
    · rw [(V.inM i hl).1] at h
      cases h
  · rcases Nat.lt_or_ge i w with hl | hl
    · have := and_zero_bit V.dis i
      rw [h, Bool.and_true] at this
      rw [mst_bit hw z i hl, this]
      rfl
    · rw [(V.inM i hl).2] at h
      cases h
  · unfold mst
    rw [BitVec.getLsbD_and, M_bit w hw, decide_eq_false (by omega), Bool.false_and]
/-- A word with this bit, if it may have it. -/
theorem pick_bit {w : Nat} (hw : w ≤ 64) {z o : BitVec 64} (V : Vd2 w z o) (i : Nat) (hi : i < w) (v : Bool) (h : OrBit (kn z o i) v) : ∃ x, In w z o x ∧ x.getLsbD i = v := by
  cases v with
  | true =>
    refine ⟨mst w z, mst_in hw V, ?_⟩
    rw [mst_bit hw z i hi]
    have hd := and_zero_bit V.dis i
    unfold OrBit kn at h
    revert h hd
    cases z.getLsbD i <;> cases o.getLsbD i <;> decide
  | false =>
    refine ⟨o, in_self V, ?_⟩
    have hd := and_zero_bit V.dis i
    unfold OrBit kn at h
    revert h hd
    cases z.getLsbD i <;> cases o.getLsbD i <;> decide
theorem orb_z {z o : BitVec 64} {i : Nat} (hd : (z.getLsbD i && o.getLsbD i) = false) (h : z.getLsbD i = false) : OrBit (kn z o i) true := by
  unfold OrBit kn
  revert hd h
  cases z.getLsbD i <;> cases o.getLsbD i <;> decide
theorem orb_o {z o : BitVec 64} {i : Nat} (hd : (z.getLsbD i && o.getLsbD i) = false) (h : o.getLsbD i = false) : OrBit (kn z o i) false := by
  unfold OrBit kn
  revert hd h
  cases z.getLsbD i <;> cases o.getLsbD i <;> decide
/-- One bit changed. -/
def setb (x : BitVec 64) (i : Nat) (v : Bool) : BitVec 64 := (x &&& ~~~ (1#64 <<< i)) ||| cond v (1#64 <<< i) 0#64
theorem setb_bit (x : BitVec 64) (i : Nat) (hi : i < 64) (v : Bool) (j : Nat) : (setb x i v).getLsbD j = if j = i then v else x.getLsbD j := by
  have hs : ∀ j, (1#64 <<< i).getLsbD j = decide (j = i) := fun j => by
    have := sgn_bit (i + 1) (by omega) (by omega) j
    exact this
  by_cases hj : j < 64
  · unfold setb
    rw [BitVec.getLsbD_or, BitVec.getLsbD_and, BitVec.getLsbD_not, hs, decide_eq_true hj]
    by_cases h : j = i
    · rw [if_pos h, decide_eq_true h]
      cases v with
      | true => rw [cond_true, hs, decide_eq_true h, Bool.or_true]
      | false => rw [cond_false, BitVec.getLsbD_zero]; simp
    · rw [if_neg h, decide_eq_false h]
      cases v with
      | true => rw [cond_true, hs, decide_eq_false h]; simp
      | false => rw [cond_false, BitVec.getLsbD_zero]; simp
  · rw [out64 _ hj, if_neg (by omega), out64 _ hj]
theorem setb_in {w : Nat} (hw : w ≤ 64) {z o x : BitVec 64} (h : In w z o x) (i : Nat) (hi : i < w) (v : Bool) (hv : OrBit (kn z o i) v) : In w z o (setb x i v) := by
  refine ⟨fun j hj => ?_, fun j hj => ?_, fun j hj => ?_⟩
  · rw [setb_bit x i (by omega)]
    split
    · rename_i e
      subst e
      have h1 := h.zer j
      have h2 := h.one j
      unfold OrBit kn at hv
      revert hv hj h1 h2
      cases z.getLsbD j <;> cases o.getLsbD j <;> cases x.getLsbD j <;> cases v <;> decide
    · exact h.zer j hj
  · rw [setb_bit x i (by omega)]
    split
    · rename_i e
      subst e
      have h1 := h.zer j
      have h2 := h.one j
      unfold OrBit kn at hv
      revert hv hj h1 h2
      cases z.getLsbD j <;> cases o.getLsbD j <;> cases x.getLsbD j <;> cases v <;> decide
    · exact h.one j hj
  · rw [setb_bit x i (by omega), if_neg (by omega)]
    exact h.out j hj
theorem low_eq {x y : BitVec 64} {i : Nat} (h : ∀ j, j < i → x.getLsbD j = y.getLsbD j) : x.toNat % 2 ^ i = y.toNat % 2 ^ i := by
  apply Nat.eq_of_testBit_eq
  intro j
  rw [Nat.testBit_mod_two_pow, Nat.testBit_mod_two_pow]
  by_cases hj : j < i
  · have := h j hj
    rw [BitVec.getLsbD, BitVec.getLsbD] at this
    rw [this]
  · rw [decide_eq_false hj, Bool.false_and, Bool.false_and]
theorem carry_congr {x y x' y' : BitVec 64} {i : Nat} {c : Bool} (hx : ∀ j, j < i → x.getLsbD j = x'.getLsbD j) (hy : ∀ j, j < i → y.getLsbD j = y'.getLsbD j) : BitVec.carry i x y c = BitVec.carry i x' y' c := by
  unfold BitVec.carry
  rw [low_eq hx, low_eq hy]
theorem nxt_all {x y c : Int} (hx : tri x) (hy : tri y) (hc : tri c) (v : Bool) (h : OrBit (nxt x y c) v) : ∃ p q r, OrBit x p ∧ OrBit y q ∧ OrBit c r ∧ Bool.atLeastTwo p q r = v := by
  unfold OrBit tri at *
  rcases hx with rfl | rfl | rfl <;> rcases hy with rfl | rfl | rfl <;> rcases hc with rfl | rfl | rfl <;> revert h <;> cases v <;> decide
theorem ob_all {x y c : Int} (hx : tri x) (hy : tri y) (hc : tri c) (v : Bool) (h : ob x y c ≠ boolI (!v)) : ∃ p q r, OrBit x p ∧ OrBit y q ∧ OrBit c r ∧ (p ^^ (q ^^ r)) = v := by
  unfold OrBit tri at *
  rcases hx with rfl | rfl | rfl <;> rcases hy with rfl | rfl | rfl <;> rcases hc with rfl | rfl | rfl <;> revert h <;> cases v <;> decide
section
variable {w : Nat} (hw : w ≤ 64) {az ao bz bo : BitVec 64} (A : Vd2 w az ao) (B : Vd2 w bz bo) {c0 : Int} {c : Bool} (hc : c0 = boolI c)
 include hw A B hc
theorem car_all : ∀ i, i ≤ w → ∀ v, OrBit (car az ao bz bo c0 i) v → ∃ a b, In w az ao a ∧ In w bz bo b ∧ BitVec.carry i a b c = v
  | 0, _, v, h => by
    have h : OrBit c0 v := h
    refine ⟨ao, bo, in_self A, in_self B, ?_⟩
    rw [BitVec.carry_zero]
    subst hc
    unfold OrBit at h
    revert h
    cases c <;> cases v <;> decide
  | i + 1, hi, v, h => by
    have tc : tri c0 := by
      subst hc
      cases c
      · exact .inr (.inl rfl)
      · exact .inr (.inr rfl)
    obtain ⟨p, q, r, h1, h2, h3, h4⟩ := nxt_all (kn_tri az ao i) (kn_tri bz bo i) (car_tri az ao bz bo c0 tc i) v h
    obtain ⟨a, b, ha, hb, hr⟩ := car_all i (by omega) r h3
    refine ⟨setb a i p, setb b i q, setb_in hw ha i (by omega) p h1, setb_in hw hb i (by omega) q h2, ?_⟩
    rw [BitVec.carry_succ, setb_bit a i (by omega), if_pos rfl, setb_bit b i (by omega), if_pos rfl, carry_congr (x' := a) (y' := b) (fun j hj => by rw [setb_bit a i (by omega), if_neg (by omega)]) (fun j hj => by rw [setb_bit b i (by omega), if_neg (by omega)]), hr]
    exact h4
theorem sum_all (i : Nat) (hi : i < w) (v : Bool) (h : adB az ao bz bo c0 i ≠ boolI (!v)) : ∃ a b, In w az ao a ∧ In w bz bo b ∧ (a + b + (BitVec.ofBool c).setWidth 64).getLsbD i = v := by
  have tc : tri c0 := by
    subst hc
    cases c
    · exact .inr (.inl rfl)
    · exact .inr (.inr rfl)
  obtain ⟨p, q, r, h1, h2, h3, h4⟩ := ob_all (kn_tri az ao i) (kn_tri bz bo i) (car_tri az ao bz bo c0 tc i) v h
  obtain ⟨a, b, ha, hb, hr⟩ := car_all hw A B hc i (by omega) r h3
  refine ⟨setb a i p, setb b i q, setb_in hw ha i (by omega) p h1, setb_in hw hb i (by omega) q h2, ?_⟩
  rw [BitVec.getLsbD_add_add_bool (by omega), setb_bit a i (by omega), if_pos rfl, setb_bit b i (by omega), if_pos rfl, carry_congr (x' := a) (y' := b) (fun j hj => by rw [setb_bit a i (by omega), if_neg (by omega)]) (fun j hj => by rw [setb_bit b i (by omega), if_neg (by omega)]), hr]
  exact h4
end
theorem dif_add {w : Nat} (hw : w ≤ 64) {az ao bz bo : BitVec 64} (A : Vd2 w az ao) (B : Vd2 w bz bo) :
    Dif w (adZ az ao bz bo 0 w) (adO az ao bz bo 0 w) fun x => ∃ a b, In w az ao a ∧ In w bz bo b ∧ x = (a + b) &&& M w := fun i hi => by
  have go : ∀ v : Bool, adB az ao bz bo 0 i ≠ boolI (!v) → ∃ x, (∃ a b, In w az ao a ∧ In w bz bo b ∧ x = (a + b) &&& M w) ∧ x.getLsbD i = v := fun v h => by
    obtain ⟨a, b, ha, hb, hv⟩ := sum_all (c := false) hw A B rfl i hi v h
    rw [show (BitVec.ofBool false).setWidth 64 = 0#64 from rfl, BitVec.add_zero] at hv
    exact ⟨(a + b) &&& M w, ⟨a, b, ha, hb, rfl⟩, by rw [BitVec.getLsbD_and, M_bit w hw, decide_eq_true hi, Bool.and_true, hv]⟩
  unfold adZ adO
  rw [bvN_bit _ w hw, bvN_bit _ w hw, decide_eq_true hi, Bool.true_and, Bool.true_and]
  exact ⟨fun h => go true fun e => by rw [e] at h; exact absurd h (by decide), fun h => go false fun e => by rw [e] at h; exact absurd h (by decide)⟩
theorem dif_sub {w : Nat} (hw : w ≤ 64) {az ao bz bo : BitVec 64} (A : Vd2 w az ao) (B : Vd2 w bz bo) :
    Dif w (adZ az ao bo bz 1 w) (adO az ao bo bz 1 w) fun x => ∃ a b, In w az ao a ∧ In w bz bo b ∧ x = (a - b) &&& M w := fun i hi => by
  have B' : Vd2 w bo bz := ⟨(BitVec.and_comm ..).trans B.dis, fun i hi => ⟨(B.inM i hi).2, (B.inM i hi).1⟩⟩
  have go : ∀ v : Bool, adB az ao bo bz 1 i ≠ boolI (!v) → ∃ x, (∃ a b, In w az ao a ∧ In w bz bo b ∧ x = (a - b) &&& M w) ∧ x.getLsbD i = v := fun v h => by
    obtain ⟨a, y, ha, hy, hv⟩ := sum_all (c := true) hw A B' rfl i hi v h
    have hbit : ∀ j, j < w → (~~~ (M w &&& ~~~ y)).getLsbD j = y.getLsbD j := fun j hj => by
      rw [BitVec.getLsbD_not, BitVec.getLsbD_and, BitVec.getLsbD_not, M_bit w hw, decide_eq_true hj, decide_eq_true (show j < 64 by omega)]
      simp
    refine ⟨(a - (M w &&& ~~~ y)) &&& M w, ⟨a, M w &&& ~~~ y, ha, ⟨fun j hj => ?_, fun j hj => ?_, fun j hj => ?_⟩, rfl⟩, ?_⟩
    · rcases Nat.lt_or_ge j w with hl | hl
      · rw [BitVec.getLsbD_and, BitVec.getLsbD_not, hy.one j hj]
        simp
      · rw [(B.inM j hl).1] at hj
        cases hj
    · rcases Nat.lt_or_ge j w with hl | hl
      · rw [BitVec.getLsbD_and, BitVec.getLsbD_not, hy.zer j hj, M_bit w hw, decide_eq_true hl, decide_eq_true (show j < 64 by omega)]
        rfl
      · rw [(B.inM j hl).2] at hj
        cases hj
    · rw [BitVec.getLsbD_and, M_bit w hw, decide_eq_false (by omega), Bool.false_and]
    · rw [BitVec.getLsbD_and, M_bit w hw, decide_eq_true hi, Bool.and_true, show a - (M w &&& ~~~ y) = a + ~~~ (M w &&& ~~~ y) + 1#64 by rw [BitVec.add_assoc, ← BitVec.neg_eq_not_add, BitVec.sub_eq_add_neg], show (1#64 : BitVec 64) = (BitVec.ofBool true).setWidth 64 from rfl]
      rw [BitVec.getLsbD_add_add_bool (by omega)] at hv ⊢
      rw [hbit i hi, carry_congr (x' := a) (y' := y) (fun _ _ => rfl) fun j hj => hbit j (by omega)]
      exact hv
  unfold adZ adO
  rw [bvN_bit _ w hw, bvN_bit _ w hw, decide_eq_true hi, Bool.true_and, Bool.true_and]
  exact ⟨fun h => go true fun e => by rw [e] at h; exact absurd h (by decide), fun h => go false fun e => by rw [e] at h; exact absurd h (by decide)⟩
end Go.Proofs.YtiadfnedbbkojaaDoor.Kb
namespace Go.Proofs.YtiadfnedbbkojaaDoor.Kb
open Go Go.Proofs Go.Proofs.YtiadfnedbbkojaaDoor.X Go.Proofs.YtiadfnedbbkojaaDoor.Bv
set_option linter.unusedSimpArgs false
set_option linter.unusedVariables false
/-- An operator that works bit by bit. -/
theorem dif_bit {w : Nat} (hw : w ≤ 64) {az ao bz bo p q : BitVec 64} (A : Vd2 w az ao) (B : Vd2 w bz bo) (f : BitVec 64 → BitVec 64 → BitVec 64) (g : Bool → Bool → Bool) (hf : ∀ a b i, (f a b).getLsbD i = g (a.getLsbD i) (b.getLsbD i))
    (hp : ∀ i, i < w → p.getLsbD i = false → ∃ u v, OrBit (kn az ao i) u ∧ OrBit (kn bz bo i) v ∧ g u v = true) (hq : ∀ i, i < w → q.getLsbD i = false → ∃ u v, OrBit (kn az ao i) u ∧ OrBit (kn bz bo i) v ∧ g u v = false) :
    Dif w p q fun x => ∃ a b, In w az ao a ∧ In w bz bo b ∧ x = f a b := fun i hi => by
  have go : ∀ t u v, OrBit (kn az ao i) u → OrBit (kn bz bo i) v → g u v = t → ∃ x, (∃ a b, In w az ao a ∧ In w bz bo b ∧ x = f a b) ∧ x.getLsbD i = t := fun t u v hu hv h => by
    obtain ⟨a, ha, ea⟩ := pick_bit hw A i hi u hu
    obtain ⟨b, hb, eb⟩ := pick_bit hw B i hi v hv
    exact ⟨f a b, ⟨a, b, ha, hb, rfl⟩, by rw [hf, ea, eb, h]⟩
  exact ⟨fun h => by
    obtain ⟨u, v, h1, h2, h3⟩ := hp i hi h
    exact go true u v h1 h2 h3, fun h => by
    obtain ⟨u, v, h1, h2, h3⟩ := hq i hi h
    exact go false u v h1 h2 h3⟩
theorem dif_bits {w : Nat} (hw : w ≤ 64) {az ao bz bo : BitVec 64} (A : Vd2 w az ao) (B : Vd2 w bz bo) :
    Dif w (az ||| bz) (ao &&& bo) (fun x => ∃ a b, In w az ao a ∧ In w bz bo b ∧ x = a &&& b) ∧ Dif w (az &&& bz) (ao ||| bo) (fun x => ∃ a b, In w az ao a ∧ In w bz bo b ∧ x = a ||| b) ∧
    Dif w ((az &&& bz) ||| (ao &&& bo)) ((az &&& bo) ||| (ao &&& bz)) (fun x => ∃ a b, In w az ao a ∧ In w bz bo b ∧ x = a ^^^ b) := by
  refine ⟨dif_bit hw A B _ (fun u v => u && v) (fun a b i => BitVec.getLsbD_and) (fun i _ h => ?_) (fun i _ h => ?_), dif_bit hw A B _ (fun u v => u || v) (fun a b i => BitVec.getLsbD_or) (fun i _ h => ?_) (fun i _ h => ?_), dif_bit hw A B _ (fun u v => u ^^ v) (fun a b i => BitVec.getLsbD_xor) (fun i _ h => ?_) (fun i _ h => ?_)⟩ <;>
  · have h1 := and_zero_bit A.dis i
    have h2 := and_zero_bit B.dis i
    simp only [BitVec.getLsbD_or, BitVec.getLsbD_and] at h
    unfold OrBit kn
    revert h1 h2 h
    cases az.getLsbD i <;> cases ao.getLsbD i <;> cases bz.getLsbD i <;> cases bo.getLsbD i <;> decide
section
variable {w : Nat} (hw1 : 1 ≤ w) (hw : w ≤ 64) {az ao bz bo : BitVec 64} (A : Vd2 w az ao) (B : Vd2 w bz bo)
 include hw1 hw A B
theorem bt_pick (v : Bool) (j : Nat) (hj : j < w) (h : (if v then az.getLsbD j else ao.getLsbD j) = false) : ∃ a, In w az ao a ∧ a.getLsbD j = v := by
  have _ := B
  have _ := hw1
  have hd := and_zero_bit A.dis j
  cases v with
  | true => exact pick_bit hw A j hj true (orb_z hd h)
  | false => exact pick_bit hw A j hj false (orb_o hd h)
theorem dif_shift (op : Int) (ho : op = 12 ∨ op = 13 ∨ op = 14) (he : exB w bz bo = true) :
    Dif w (rgV op w az ao bz bo 0) (rgV op w az ao bz bo 1) fun x => ∃ a b, In w az ao a ∧ In w bz bo b ∧ x = shW op w a b := fun i hi => by
  have ha := amt_le w bo
  have go : ∀ (v : Bool), (rgV op w az ao bz bo (if v then 0 else 1)).getLsbD i = false → ∃ x, (∃ a b, In w az ao a ∧ In w bz bo b ∧ x = shW op w a b) ∧ x.getLsbD i = v := fun v h => by
    rw [rgV_bit op ho w hw1 hw az ao bz bo A he _ (by cases v <;> decide) i hi] at h
    have fin : ∀ a, In w az ao a → shx op w a bo i = v → ∃ x, (∃ a b, In w az ao a ∧ In w bz bo b ∧ x = shW op w a b) ∧ x.getLsbD i = v := fun a ha h =>
      ⟨shW op w a bo, ⟨a, bo, ha, in_self B, rfl⟩, by rw [shW_bit op ho w hw a bo i hi, h]⟩
    have cst : iEq 0 (if v then 0 else 1) = false → v = false := fun h => by
      cases v with
      | false => rfl
      | true => exact absurd h (by decide)
    have btv : ∀ j, bt (if v then 0 else 1) az ao j = (if v then az.getLsbD j else ao.getLsbD j) := fun j => by cases v <;> rfl
    have ham : amt w bo = if bo.toNat < w then bo.toNat else w := rfl
    unfold shk at h
    by_cases h12 : op = 12
    · rw [if_pos h12] at h
      by_cases hs : i < amt w bo
      · rw [if_pos hs] at h
        refine fin ao (in_self A) ?_
        unfold shx
        rw [if_pos h12, if_pos (by rw [ham] at hs; split at hs <;> omega), cst h]
      · rw [if_neg hs, btv] at h
        obtain ⟨a, h1, h2⟩ := bt_pick hw1 hw A B v _ (by omega) h
        refine fin a h1 ?_
        have hb : bo.toNat < w := by rw [ham] at hs; split at hs <;> omega
        unfold shx
        rw [ham, if_pos hb] at h2 hs
        rw [if_pos h12, if_neg hs]
        exact h2
    · rw [if_neg h12] at h
      by_cases hs : i + amt w bo < w
      · rw [if_pos hs, btv] at h
        obtain ⟨a, h1, h2⟩ := bt_pick hw1 hw A B v _ hs h
        refine fin a h1 ?_
        have hb : bo.toNat < w := by rw [ham] at hs; split at hs <;> omega
        unfold shx
        rw [ham, if_pos hb] at h2 hs
        rw [if_neg h12, if_pos hs]
        exact h2
      · rw [if_neg hs] at h
        have hn : ¬ i + bo.toNat < w := by rw [ham] at hs; split at hs <;> omega
        by_cases h13 : op = 13
        · rw [if_pos h13] at h
          refine fin ao (in_self A) ?_
          unfold shx
          rw [if_neg h12, if_neg hn, if_pos h13, cst h]
        · rw [if_neg h13, btv] at h
          obtain ⟨a, h1, h2⟩ := bt_pick hw1 hw A B v (w - 1) (by omega) h
          refine fin a h1 ?_
          unfold shx
          rw [if_neg h12, if_neg hn, if_neg h13]
          exact h2
  exact ⟨fun h => go true h, fun h => go false h⟩
 omit B
theorem slo_self : In w az ao (slo w az ao) := by
  have hk := knlt w hw1 hw az ao A
  unfold slo
  cases h : iLt (kn az ao (w - 1)) 0 with
  | false => exact in_self A
  | true =>
    rw [h] at hk
    have hk := hk.symm
    rw [Bool.and_eq_true] at hk
    have hu : OrBit (kn az ao (w - 1)) true := by
      unfold OrBit kn
      revert hk
      cases az.getLsbD (w - 1) <;> cases ao.getLsbD (w - 1) <;> decide
    have e : ao ||| sgn w = setb ao (w - 1) true := by
      apply BitVec.eq_of_getLsbD_eq
      intro i hi
      rw [setb_bit ao (w - 1) (by omega), BitVec.getLsbD_or, sgn_bit w hw1 hw]
      by_cases h : i = w - 1
      · rw [if_pos h, decide_eq_true h, Bool.or_true]
      · rw [if_neg h, decide_eq_false h, Bool.or_false]
    rw [cond_true, e]
    exact setb_in hw (in_self A) (w - 1) (by omega) true hu
theorem shi_self : In w az ao (shi' w az ao) := by
  have hk := knlt w hw1 hw az ao A
  unfold shi'
  cases h : iLt (kn az ao (w - 1)) 0 with
  | false => exact mst_in hw A
  | true =>
    rw [h] at hk
    have hk := hk.symm
    rw [Bool.and_eq_true] at hk
    have hu : OrBit (kn az ao (w - 1)) false := by
      unfold OrBit kn
      revert hk
      cases az.getLsbD (w - 1) <;> cases ao.getLsbD (w - 1) <;> decide
    have e : (M w &&& ~~~ az) &&& ~~~ sgn w = setb (mst w az) (w - 1) false := by
      apply BitVec.eq_of_getLsbD_eq
      intro i hi
      rw [setb_bit _ (w - 1) (by omega), BitVec.getLsbD_and, BitVec.getLsbD_not, sgn_bit w hw1 hw, decide_eq_true hi]
      by_cases h : i = w - 1
      · rw [if_pos h, decide_eq_true h, Bool.not_true, Bool.and_false, Bool.and_false]
      · rw [if_neg h, decide_eq_false h, Bool.not_false, Bool.and_true, Bool.and_true]
        rfl
    rw [cond_true, e]
    exact setb_in hw (mst_in hw A) (w - 1) (by omega) false hu
 include B
/-- What a comparison leaves open may come out either way. -/
theorem cmp_all (op : Int) (ho : 15 ≤ op ∧ op ≤ 20) (hx : ¬ (exB w az ao = true ∧ exB w bz bo = true)) : (cY op w az ao bz bo = false → ∃ a b, In w az ao a ∧ In w bz bo b ∧ cmB op w a b = false) ∧ (cN op w az ao bz bo = false → ∃ a b, In w az ao a ∧ In w bz bo b ∧ cmB op w a b = true) := by
  -- two equal words, where the elements do not differ
  have same : (!(ao &&& bz == 0#64) || !(az &&& bo == 0#64)) = false → ∃ a, In w az ao a ∧ In w bz bo a := fun h => by
    rw [Bool.or_eq_false_iff, Bool.not_eq_false', Bool.not_eq_false', beq_iff_eq, beq_iff_eq] at h
    have z1 := and_zero_bit h.1
    have z2 := and_zero_bit h.2
    have d1 := and_zero_bit A.dis
    have d2 := and_zero_bit B.dis
    refine ⟨ao ||| bo, ⟨fun i hi => ?_, fun i hi => ?_, fun i hi => ?_⟩, ⟨fun i hi => ?_, fun i hi => ?_, fun i hi => ?_⟩⟩
    · have h1 := z2 i
      have h2 := d1 i
      rw [BitVec.getLsbD_or]
      rw [hi] at h1 h2
      rw [Bool.true_and] at h1 h2
      rw [h1, h2]
      rfl
    · rw [BitVec.getLsbD_or, hi]
      rfl
    · rw [BitVec.getLsbD_or, (A.inM i hi).2, (B.inM i hi).2]
      rfl
    · have h1 := z1 i
      have h2 := d2 i
      rw [BitVec.getLsbD_or]
      rw [hi, Bool.and_true] at h1
      rw [hi, Bool.true_and] at h2
      rw [h1, h2]
      rfl
    · rw [BitVec.getLsbD_or, hi, Bool.or_true]
    · rw [BitVec.getLsbD_or, (A.inM i hi).2, (B.inM i hi).2]
      rfl
  -- two words that differ
  have two : ∀ {z o : BitVec 64}, Vd2 w z o → exB w z o = false → mst w z ≠ o := fun {z o} V h e => by
    have : exB w z o = true := by
      unfold exB
      rw [val_of hw1 hw V, Bool.true_and, beq_iff_eq]
      apply BitVec.eq_of_getLsbD_eq
      intro i hi
      rw [BitVec.getLsbD_or, M_bit w hw]
      by_cases hiw : i < w
      · rw [decide_eq_true hiw, ← e, mst_bit hw z i hiw]
        cases z.getLsbD i <;> rfl
      · rw [decide_eq_false hiw, (V.inM i (by omega)).1, (V.inM i (by omega)).2]
        rfl
    rw [this] at h
    cases h
  have diff : ∃ a b, In w az ao a ∧ In w bz bo b ∧ a ≠ b := by
    cases e1 : exB w az ao with
    | false =>
      by_cases h : ao = bo
      · exact ⟨mst w az, bo, mst_in hw A, in_self B, fun e => two A e1 (e.trans h.symm)⟩
      · exact ⟨ao, bo, in_self A, in_self B, h⟩
    | true =>
      cases e2 : exB w bz bo with
      | false =>
        by_cases h : ao = bo
        · exact ⟨ao, mst w bz, in_self A, mst_in hw B, fun e => two B e2 (e.symm.trans h)⟩
        · exact ⟨ao, bo, in_self A, in_self B, h⟩
      | true => exact absurd ⟨e1, e2⟩ hx
  have sa := slo_self hw1 hw A
  have sb := slo_self hw1 hw B
  have ha := shi_self hw1 hw A
  have hb := shi_self hw1 hw B
  have sle_slt : ∀ x y : BitVec 64, x.sle y = !y.slt x := fun x y => by
    rw [BitVec.sle, BitVec.slt, ← decide_not]
    exact decide_eq_decide.2 (by omega)
  have cases6 : op = 15 ∨ op = 16 ∨ op = 17 ∨ op = 18 ∨ op = 19 ∨ op = 20 := by omega
  rcases cases6 with rfl | rfl | rfl | rfl | rfl | rfl
  · refine ⟨fun _ => ?_, fun h => ?_⟩
    · obtain ⟨a, b, h1, h2, h3⟩ := diff
      exact ⟨a, b, h1, h2, show (a == b) = false from beq_eq_false_iff_ne.2 h3⟩
    · obtain ⟨a, h1, h2⟩ := same h
      exact ⟨a, a, h1, h2, show (a == a) = true from beq_iff_eq.2 rfl⟩
  · refine ⟨fun h => ?_, fun _ => ?_⟩
    · obtain ⟨a, h1, h2⟩ := same h
      exact ⟨a, a, h1, h2, show (!(a == a)) = false by rw [beq_iff_eq.2 rfl]; rfl⟩
    · obtain ⟨a, b, h1, h2, h3⟩ := diff
      exact ⟨a, b, h1, h2, show (!(a == b)) = true by rw [beq_eq_false_iff_ne.2 h3]; rfl⟩
  · refine ⟨fun h => ⟨mst w az, bo, mst_in hw A, in_self B, by have h : decide (M w &&& ~~~ az < bo) = false := h; exact h⟩, fun h => ⟨ao, mst w bz, in_self A, mst_in hw B, ?_⟩⟩
    have h : ¬ (M w &&& ~~~bz ≤ ao) := of_decide_eq_false h
    refine decide_eq_true (show ao < mst w bz from ?_)
    unfold mst
    rw [BitVec.lt_def] at *
    rw [BitVec.le_def] at h
    omega
  · refine ⟨fun h => ⟨mst w az, bo, mst_in hw A, in_self B, by have h : decide (M w &&& ~~~ az ≤ bo) = false := h; exact h⟩, fun h => ⟨ao, mst w bz, in_self A, mst_in hw B, ?_⟩⟩
    have h : ¬ (M w &&& ~~~bz < ao) := of_decide_eq_false h
    refine decide_eq_true (show ao ≤ mst w bz from ?_)
    unfold mst
    rw [BitVec.le_def] at *
    rw [BitVec.lt_def] at h
    omega
  · refine ⟨fun h => ⟨shi' w az ao, slo w bz bo, ha, sb, by have h : (rsg w (shi' w az ao)).slt (rsg w (slo w bz bo)) = false := h; exact h⟩, fun h => ⟨slo w az ao, shi' w bz bo, sa, hb, ?_⟩⟩
    have h : (rsg w (shi' w bz bo)).sle (rsg w (slo w az ao)) = false := h
    show (rsg w (slo w az ao)).slt (rsg w (shi' w bz bo)) = true
    rw [sle_slt] at h
    cases e : (rsg w (slo w az ao)).slt (rsg w (shi' w bz bo)) with
    | true => rfl
    | false => rw [e] at h; cases h
  · refine ⟨fun h => ⟨shi' w az ao, slo w bz bo, ha, sb, by have h : (rsg w (shi' w az ao)).sle (rsg w (slo w bz bo)) = false := h; exact h⟩, fun h => ⟨slo w az ao, shi' w bz bo, sa, hb, ?_⟩⟩
    have h : (rsg w (shi' w bz bo)).slt (rsg w (slo w az ao)) = false := h
    show (rsg w (slo w az ao)).sle (rsg w (shi' w bz bo)) = true
    rw [sle_slt, h]
    rfl
theorem dif_cmp (op : Int) (ho : 15 ≤ op ∧ op ≤ 20) (hx : ¬ (exB w az ao = true ∧ exB w bz bo = true)) :
    Dif 1 (dZ (cY op w az ao bz bo) (cN op w az ao bz bo)) (dO (cY op w az ao bz bo)) fun x => ∃ a b, In w az ao a ∧ In w bz bo b ∧ x = cond (cmB op w a b) 1#64 0#64 := fun i hi => by
  obtain rfl : i = 0 := by omega
  obtain ⟨c1, c2⟩ := cmp_all hw1 hw A B op ho hx
  have go : ∀ v, (∃ a b, In w az ao a ∧ In w bz bo b ∧ cmB op w a b = v) → ∃ x, (∃ a b, In w az ao a ∧ In w bz bo b ∧ x = cond (cmB op w a b) 1#64 0#64) ∧ x.getLsbD 0 = v := fun v ⟨a, b, h1, h2, h3⟩ =>
    ⟨_, ⟨a, b, h1, h2, rfl⟩, by rw [h3]; cases v <;> decide⟩
  have dd := cmp_dec hw1 hw A B (in_self A) (in_self B) op ho
  refine ⟨fun h => ?_, fun h => ?_⟩
  · cases ey : cY op w az ao bz bo with
    | true => exact go true ⟨ao, bo, in_self A, in_self B, dd.1 ey⟩
    | false =>
      refine go true (c2 ?_)
      cases en : cN op w az ao bz bo with
      | false => rfl
      | true =>
        rw [ey, en] at h
        exact absurd h (by decide)
  · refine go false (c1 ?_)
    cases ey : cY op w az ao bz bo with
    | false => rfl
    | true =>
      rw [ey] at h
      exact absurd h (by decide)
end
theorem dif_ext {w w0 : Nat} (hw : w ≤ 64) (h01 : 1 ≤ w0) (hw0 : w0 ≤ 64) {az ao : BitVec 64} (A : Vd2 w0 az ao) :
    (w0 ≤ w → Dif w (az ||| bvN (zrf w 0 (w - w0)) w) (ao ||| 0#64) fun x => ∃ a, In w0 az ao a ∧ x = a &&& M w) ∧
    (w0 ≤ w → Dif w (az ||| bvN (hiF w0 (kn az ao (w0 - 1)) 0) w) (ao ||| bvN (hiF w0 (kn az ao (w0 - 1)) 1) w) fun x => ∃ a, In w0 az ao a ∧ x = rsg w0 a &&& M w) ∧
    (w ≤ w0 → Dif w (az &&& M w) (ao &&& M w) fun x => ∃ a, In w0 az ao a ∧ x = a &&& M w) := by
  have pk : ∀ (v : Bool) j, j < w0 → (if v then az.getLsbD j else ao.getLsbD j) = false → ∃ a, In w0 az ao a ∧ a.getLsbD j = v := fun v j hj h => bt_pick h01 hw0 A A v j hj h
  refine ⟨fun hle i hi => ?_, fun hle i hi => ?_, fun hle i hi => ?_⟩
  · rw [BitVec.or_zero, BitVec.getLsbD_or, bvN_bit _ w hw, decide_eq_true hi, Bool.true_and]
    have mk : ∀ a v, a.getLsbD i = v → (a &&& M w).getLsbD i = v := fun a v h => by rw [BitVec.getLsbD_and, M_bit w hw, decide_eq_true hi, Bool.and_true, h]
    refine ⟨fun h => ?_, fun h => ?_⟩
    · rw [Bool.or_eq_false_iff] at h
      have hi0 : i < w0 := by
        have := h.2
        unfold zrf at this
        rw [Bool.or_eq_false_iff, decide_eq_false_iff_not, decide_eq_false_iff_not] at this
        omega
      obtain ⟨a, h1, h2⟩ := pk true i hi0 h.1
      exact ⟨_, ⟨a, h1, rfl⟩, mk a true h2⟩
    · by_cases hi0 : i < w0
      · obtain ⟨a, h1, h2⟩ := pk false i hi0 h
        exact ⟨_, ⟨a, h1, rfl⟩, mk a false h2⟩
      · exact ⟨_, ⟨ao, in_self A, rfl⟩, mk ao false h⟩
  · have bit : ∀ a, In w0 az ao a → (rsg w0 a &&& M w).getLsbD i = if i < w0 then a.getLsbD i else a.getLsbD (w0 - 1) := fun a ha => by
      rw [BitVec.getLsbD_and, M_bit w hw, decide_eq_true hi, Bool.and_true, rsg_bit h01 (by omega) (Vd.of (by omega) ha.out) (by omega)]
    rw [BitVec.getLsbD_or, BitVec.getLsbD_or, bvN_bit _ w hw, bvN_bit _ w hw, decide_eq_true hi, Bool.true_and, Bool.true_and]
    unfold hiF
    rw [kn0 A.dis, kn1]
    by_cases hi0 : i < w0
    · rw [decide_eq_false (show ¬ w0 ≤ i by omega), Bool.false_and, Bool.false_and, Bool.or_false, Bool.or_false]
      refine ⟨fun h => ?_, fun h => ?_⟩
      · obtain ⟨a, h1, h2⟩ := pk true i hi0 h
        exact ⟨_, ⟨a, h1, rfl⟩, by rw [bit a h1, if_pos hi0, h2]⟩
      · obtain ⟨a, h1, h2⟩ := pk false i hi0 h
        exact ⟨_, ⟨a, h1, rfl⟩, by rw [bit a h1, if_pos hi0, h2]⟩
    · rw [decide_eq_true (show w0 ≤ i by omega), Bool.true_and, Bool.true_and]
      refine ⟨fun h => ?_, fun h => ?_⟩
      · rw [Bool.or_eq_false_iff] at h
        obtain ⟨a, h1, h2⟩ := pk true (w0 - 1) (by omega) h.2
        exact ⟨_, ⟨a, h1, rfl⟩, by rw [bit a h1, if_neg hi0, h2]⟩
      · rw [Bool.or_eq_false_iff] at h
        obtain ⟨a, h1, h2⟩ := pk false (w0 - 1) (by omega) h.2
        exact ⟨_, ⟨a, h1, rfl⟩, by rw [bit a h1, if_neg hi0, h2]⟩
  · rw [BitVec.getLsbD_and, BitVec.getLsbD_and, M_bit w hw, decide_eq_true hi, Bool.and_true, Bool.and_true]
    have mk : ∀ a v, a.getLsbD i = v → (a &&& M w).getLsbD i = v := fun a v h => by rw [BitVec.getLsbD_and, M_bit w hw, decide_eq_true hi, Bool.and_true, h]
    refine ⟨fun h => ?_, fun h => ?_⟩
    · obtain ⟨a, h1, h2⟩ := pk true i (by omega) h
      exact ⟨_, ⟨a, h1, rfl⟩, mk a true h2⟩
    · obtain ⟨a, h1, h2⟩ := pk false i (by omega) h
      exact ⟨_, ⟨a, h1, rfl⟩, mk a false h2⟩
theorem dif_sel {w : Nat} (hw : w ≤ 64) {az ao bz bo cz co : BitVec 64} (A : Vd2 1 az ao) (B : Vd2 w bz bo) (C : Vd2 w cz co) :
    Dif w (if exB 1 az ao then (if ao = 1#64 then (bz, bo) else (cz, co)) else (bz &&& cz, bo &&& co)).1 (if exB 1 az ao then (if ao = 1#64 then (bz, bo) else (cz, co)) else (bz &&& cz, bo &&& co)).2
      fun x => ∃ a b c, In 1 az ao a ∧ In w bz bo b ∧ In w cz co c ∧ x = if a = 1#64 then b else c := fun i hi => by
  have pB : ∀ (v : Bool), (if v then bz.getLsbD i else bo.getLsbD i) = false → ∃ b, In w bz bo b ∧ b.getLsbD i = v := fun v h => bt_pick (by omega) hw B B v i hi h
  have pC : ∀ (v : Bool), (if v then cz.getLsbD i else co.getLsbD i) = false → ∃ b, In w cz co b ∧ b.getLsbD i = v := fun v h => bt_pick (by omega) hw C C v i hi h
  have useB : ∀ (v : Bool) a, In 1 az ao a → a = 1#64 → (if v then bz.getLsbD i else bo.getLsbD i) = false → ∃ x, (∃ a b c, In 1 az ao a ∧ In w bz bo b ∧ In w cz co c ∧ x = if a = 1#64 then b else c) ∧ x.getLsbD i = v := fun v a ha e h => by
    obtain ⟨b, h1, h2⟩ := pB v h
    exact ⟨_, ⟨a, b, co, ha, h1, in_self C, rfl⟩, by rw [if_pos e, h2]⟩
  have useC : ∀ (v : Bool) a, In 1 az ao a → a ≠ 1#64 → (if v then cz.getLsbD i else co.getLsbD i) = false → ∃ x, (∃ a b c, In 1 az ao a ∧ In w bz bo b ∧ In w cz co c ∧ x = if a = 1#64 then b else c) ∧ x.getLsbD i = v := fun v a ha e h => by
    obtain ⟨c, h1, h2⟩ := pC v h
    exact ⟨_, ⟨a, bo, c, ha, in_self B, h1, rfl⟩, by rw [if_neg e, h2]⟩
  cases he : exB 1 az ao with
  | true =>
    simp only [if_true]
    by_cases h1 : ao = 1#64
    · rw [if_pos h1]
      exact ⟨fun h => useB true ao (in_self A) h1 h, fun h => useB false ao (in_self A) h1 h⟩
    · rw [if_neg h1]
      exact ⟨fun h => useC true ao (in_self A) h1 h, fun h => useC false ao (in_self A) h1 h⟩
  | false =>
    have free : az.getLsbD 0 = false ∧ ao.getLsbD 0 = false := by
      have : (az ||| ao).getLsbD 0 = false := by
        cases e : (az ||| ao).getLsbD 0 with
        | false => rfl
        | true =>
          have : exB 1 az ao = true := by
            unfold exB
            have hv : valB 1 az ao = true := val_of (w := 1) (by omega) (by omega) A
            rw [hv, Bool.true_and, beq_iff_eq]
            apply BitVec.eq_of_getLsbD_eq
            intro j hj
            rw [show M 1 = M ((1 : Nat) : Int) from rfl, M_bit 1 (by omega)]
            by_cases hj0 : j < 1
            · obtain rfl : j = 0 := by omega
              rw [e]
              rfl
            · rw [decide_eq_false hj0, BitVec.getLsbD_or, (A.inM j (by omega)).1, (A.inM j (by omega)).2]
              rfl
          rw [this] at he
          cases he
      rw [BitVec.getLsbD_or, Bool.or_eq_false_iff] at this
      exact this
    have w1 : In 1 az ao 1#64 ∧ In 1 az ao 0#64 := by
      have z : ∀ j, az.getLsbD j = false := fun j => by
        rcases Nat.eq_zero_or_pos j with rfl | h
        · exact free.1
        · exact (A.inM j h).1
      have o : ∀ j, ao.getLsbD j = false := fun j => by
        rcases Nat.eq_zero_or_pos j with rfl | h
        · exact free.2
        · exact (A.inM j h).2
      refine ⟨⟨fun j h => by rw [z j] at h; exact absurd h Bool.false_ne_true, fun j h => by rw [o j] at h; exact absurd h Bool.false_ne_true, fun j hj => ?_⟩, ⟨fun j h => by rw [z j] at h; exact absurd h Bool.false_ne_true, fun j h => by rw [o j] at h; exact absurd h Bool.false_ne_true, fun j _ => BitVec.getLsbD_zero⟩⟩
      rw [BitVec.getLsbD_one]
      simp
      omega
    simp only [Bool.false_eq_true, if_false]
    rw [BitVec.getLsbD_and, BitVec.getLsbD_and]
    refine ⟨fun h => ?_, fun h => ?_⟩
    · cases hb : bz.getLsbD i with
      | false => exact useB true 1#64 w1.1 rfl hb
      | true =>
        rw [hb, Bool.true_and] at h
        exact useC true 0#64 w1.2 (by decide) h
    · cases hb : bo.getLsbD i with
      | false => exact useB false 1#64 w1.1 rfl hb
      | true =>
        rw [hb, Bool.true_and] at h
        exact useC false 0#64 w1.2 (by decide) h
/-- The operators that the law speaks of. -/
structure Bst (op w : Int) (L : List Int) (E : List El) : Prop where
  ops : op ≠ 1 ∧ op ≠ 4 ∧ ¬ (5 ≤ op ∧ op ≤ 8)
  sh : 12 ≤ op → op ≤ 14 → exB (L.getD (L.length - 1) 0) (E.getD (E.length - 1) (0#64, 0#64)).1 (E.getD (E.length - 1) (0#64, 0#64)).2 = true
theorem Dif.imp {w : Nat} {p q : BitVec 64} {S T : BitVec 64 → Prop} (h : Dif w p q S) (i : ∀ x, S x → T x) : Dif w p q T := fun j hj =>
  ⟨fun hp => ((h j hj).1 hp).imp fun x hx => ⟨i x hx.1, hx.2⟩, fun hq => ((h j hj).2 hq).imp fun x hx => ⟨i x hx.1, hx.2⟩⟩
theorem dif_apx {op w : Int} {L : List Int} {E : List El} (F : Fit op w L E) (Bs : Bst op w L E) (hx : (L.zip E).all Opd.e = false) (num : BitVec 64) :
    Dif w.toNat (apO apR op w L E).1 (apO apR op w L E).2 fun x => ∃ X, AllIn L E X ∧ x = evO op w L X num := by
  obtain ⟨⟨hw1, hw64⟩, hc⟩ := F.cases
  obtain ⟨w, rfl⟩ : ∃ v : Nat, w = v := ⟨w.toNat, by omega⟩
  obtain ⟨b1, b2, b3⟩ := Bs.ops
  unfold apO
  rw [show ((w : Int)).toNat = w from Int.toNat_natCast w]
  rcases hc with ⟨rfl, rfl, rfl⟩ | ⟨ho, rfl, ea, eb, rfl, va, vb⟩ | ⟨ho, ew, x, ea, eb, rfl, hx1, rfl, va, vb⟩ | ⟨rfl, rfl, ea, eb, ec, rfl, va, vb, vc⟩ | ⟨ho, x, ea, hxw, hx1, rfl, rfl, va⟩ | ⟨rfl, x, ea, hxw, hx1, rfl, rfl, va⟩
  · cases hx
  · have A := vd2_of va
    have B := vd2_of vb
    rw [Int.toNat_natCast] at A B
    have hw : w ≤ 64 := by omega
    have wo : w0O [(w : Int), w] = w := Int.toNat_natCast w
    have up : ∀ {p q : BitVec 64} {f : BitVec 64 → BitVec 64 → BitVec 64}, (∀ a b, ev2 op w w a b = f a b) → Dif w p q (fun x => ∃ a b, In w ea.1 ea.2 a ∧ In w eb.1 eb.2 b ∧ x = f a b) → Dif w p q fun x => ∃ X, AllIn [(w : Int), w] [ea, eb] X ∧ x = evO op w [(w : Int), w] X num := fun {p q f} hf h => h.imp fun x ⟨a, b, ha, hb, e⟩ => by
      refine ⟨[a, b], ⟨by rw [Int.toNat_natCast]; exact ha, by rw [Int.toNat_natCast]; exact hb, trivial⟩, ?_⟩
      unfold evO
      rw [if_neg (by omega), if_neg (by omega), if_neg (by omega), Int.toNat_natCast, wo, e]
      exact (hf a b).symm
    have bits := dif_bits hw A B
    have c8 : op = 2 ∨ op = 3 ∨ op = 9 ∨ op = 10 ∨ op = 11 ∨ (op = 12 ∨ op = 13 ∨ op = 14) := by omega
    rw [wo]
    rcases c8 with rfl | rfl | rfl | rfl | rfl | c
    · exact up (fun a b => rfl) (dif_add hw A B)
    · exact up (fun a b => rfl) (dif_sub hw A B)
    · exact up (fun a b => rfl) bits.1
    · exact up (fun a b => rfl) bits.2.1
    · exact up (fun a b => rfl) bits.2.2
    · have he : exB w eb.1 eb.2 = true := Bs.sh (by omega) (by omega)
      have := dif_shift (by omega) hw A B op c he
      rcases c with rfl | rfl | rfl
      · exact up (fun a b => rfl) this
      · exact up (fun a b => rfl) this
      · exact up (fun a b => rfl) this
  · have A := vd2_of va
    have B := vd2_of vb
    have hne : ¬ (exB x.toNat ea.1 ea.2 = true ∧ exB x.toNat eb.1 eb.2 = true) := fun ⟨e1, e2⟩ => by
      rw [show ((x.toNat : Nat) : Int) = x by omega] at e1 e2
      have hx : (exB x ea.1 ea.2 && (exB x eb.1 eb.2 && true)) = false := hx
      rw [e1, e2] at hx
      cases hx
    have := dif_cmp (w := x.toNat) (by omega) (by omega) A B op (by omega) hne
    obtain rfl : w = 1 := by omega
    have up : ∀ {p q : BitVec 64}, (∀ a b, ev2 op 1 x.toNat a b = cond (cmB op x.toNat a b) 1#64 0#64) → Dif 1 p q (fun y => ∃ a b, In x.toNat ea.1 ea.2 a ∧ In x.toNat eb.1 eb.2 b ∧ y = cond (cmB op x.toNat a b) 1#64 0#64) → Dif 1 p q fun y => ∃ X, AllIn [x, x] [ea, eb] X ∧ y = evO op ((1 : Nat) : Int) [x, x] X num := fun {p q} hf h => h.imp fun y ⟨a, b, ha, hb, e⟩ => by
      refine ⟨[a, b], ⟨ha, hb, trivial⟩, ?_⟩
      unfold evO
      rw [if_neg (by omega), if_neg (by omega), if_neg (by omega), e]
      exact (hf a b).symm
    have c6 : op = 15 ∨ op = 16 ∨ op = 17 ∨ op = 18 ∨ op = 19 ∨ op = 20 := by omega
    rcases c6 with rfl | rfl | rfl | rfl | rfl | rfl
    · exact up (fun a b => rfl) this
    · exact up (fun a b => rfl) this
    · exact up (fun a b => rfl) this
    · exact up (fun a b => rfl) this
    · exact up (fun a b => rfl) this
    · exact up (fun a b => rfl) this
  · have A := vd2_of va
    have B := vd2_of vb
    have C := vd2_of vc
    rw [Int.toNat_natCast] at B C
    refine (dif_sel (w := w) (by omega) A B C).imp fun y ⟨a, b, c, h1, h2, h3, e⟩ => ⟨[a, b, c], ⟨h1, by rw [Int.toNat_natCast]; exact h2, by rw [Int.toNat_natCast]; exact h3, trivial⟩, ?_⟩
    unfold evO
    rw [if_neg (by decide), if_pos rfl, e]
    rfl
  · have A := vd2_of va
    have d := dif_ext (w := w) (w0 := x.toNat) (by omega) (by omega) (by omega) A
    rcases ho with rfl | rfl
    · refine (d.1 (by omega)).imp fun y ⟨a, h1, e⟩ => ⟨[a], ⟨h1, trivial⟩, ?_⟩
      unfold evO
      rw [if_neg (by decide), if_neg (by decide), if_pos (by decide), if_neg (by decide), e]
      rfl
    · refine (d.2.1 (by omega)).imp fun y ⟨a, h1, e⟩ => ⟨[a], ⟨h1, trivial⟩, ?_⟩
      unfold evO
      rw [if_neg (by decide), if_neg (by decide), if_pos (by decide), if_pos rfl, e]
      rfl
  · have A := vd2_of va
    have d := dif_ext (w := w) (w0 := x.toNat) (by omega) (by omega) (by omega) A
    refine (d.2.2 (by omega)).imp fun y ⟨a, h1, e⟩ => ⟨[a], ⟨h1, trivial⟩, ?_⟩
    unfold evO
    rw [if_neg (by decide), if_neg (by decide), if_pos (by decide), if_neg (by decide), e]
    rfl
end Go.Proofs.YtiadfnedbbkojaaDoor.Kb
namespace Go.Proofs.YtiadfnedbbkojaaDoor.Kb
open Go Go.Proofs Go.Proofs.YtiadfnedbbkojaaDoor.X Go.Proofs.YtiadfnedbbkojaaDoor.Bv
set_option linter.unusedSimpArgs false
set_option linter.unusedVariables false
theorem best_run (N : Nat) (hN : 151 ≤ N) (op w : Int) (num : BitVec 64) (L : List Int) (E : List El) (hL : L.length ≤ 20) (F : Fit op w L E) (Bs : Bst op w L E) : ∃ e : El,
    (∀ (h : AH) (wa ea : Option Addr) (wn wc en ec : Nat), CaseAt h wa wn ea en L E → runS Tryd.prog N 10 [.int .i64 op, .int .i64 w, .slice wa wn wc, .slice ea en ec, .int .u64 (U num)] h = some (.agg #[.int .u64 (U e.1), .int .u64 (U e.2)], h)) ∧
    (∀ X, AllIn L E X → Snd w.toNat e.1 e.2 (evO op w L X num)) ∧ Dif w.toNat e.1 e.2 fun x => ∃ X, AllIn L E X ∧ x = evO op w L X num := by
  have hE : E.length ≤ 20 := by rw [← F.len]; exact hL
  obtain ⟨e, eA, eX⟩ := sound_run N hN op w num L E hL F
  have hS : ∀ X, AllIn L E X → Snd w.toNat e.1 e.2 (evO op w L X num) := fun X hX => by
    obtain ⟨x, S, eV⟩ := eX X hX
    obtain ⟨g, wa, na, G, SW, SA⟩ := two_rows L X
    have r1 := eV g wa na L.length L.length X.length X.length G SW SA rfl rfl
    have r2 := eval_run F hX num N (by omega) g wa na L.length L.length X.length X.length G SW SA rfl rfl
    rw [r1] at r2
    have hx : x = evO op w L X num := by
      injection r2 with r2
      injection r2 with r2 _
      injection r2 with _ r2
      exact U_inj.1 r2
    rw [← hx]
    exact S
  refine ⟨e, eA, hS, ?_⟩
  have own : ∃ X, AllIn L E X := ⟨_, words_in F []⟩
  obtain ⟨N, rfl, hN'⟩ : ∃ m, N = m + 1 ∧ 150 ≤ m := ⟨N - 1, by omega, by omega⟩
  -- what the code answers is one
  have uniq : ∀ e2 : El, (∀ (h : AH) (wa ea : Option Addr) (wn wc en ec : Nat), CaseAt h wa wn ea en L E → runS Tryd.prog (N + 1) 10 [.int .i64 op, .int .i64 w, .slice wa wn wc, .slice ea en ec, .int .u64 (U num)] h = some (.agg #[.int .u64 (U e2.1), .int .u64 (U e2.2)], h)) → e = e2 := fun e2 h2 => by
    obtain ⟨K, S⟩ := newRo_kp hTab_wf (L.map fun n => .int .i64 n) 1
    obtain ⟨K2, S2⟩ := newRo_kp K.wf (prs (pU E)) 2
    have C : CaseAt _ _ L.length _ E.length L E := ⟨K2.wf, (hTab_tab.kp hTab_wf K).kp K.wf K2, S.kp K.wf K2, rfl, S2, rfl⟩
    have r1 := eA _ _ _ _ L.length _ E.length C
    have r2 := h2 _ _ _ _ L.length _ E.length C
    rw [r1] at r2
    injection r2 with r2
    injection r2 with r2 _
    injection r2 with r2
    injection r2 with r2
    injection r2 with a1 a2
    injection a2 with a2 _
    injection a1 with _ a1
    injection a2 with _ a2
    exact Prod.ext (U_inj.1 a1) (U_inj.1 a2)
  cases hx : (L.zip E).all Opd.e with
  | false =>
    have := uniq _ fun h wa ea wn wc en ec C => code_apx N (by omega) h C.wf C.tab op w num L E hL hE wa ea wn wc en ec C.sw C.hwn C.se C.hen F hx
    rw [this, apO_eq F hx]
    exact dif_apx F Bs hx num
  | true =>
    have hlen := F.len
    obtain ⟨V, v1, v2⟩ := ops F.shp ((L.zip E).map Opd.o) (by rw [List.length_map, List.length_zip]; omega) (zip_vd F.val) num
    have hev := uniq (~~~ V &&& M w, V &&& M w) fun h wa ea wn wc en ec C => code_exact N hN' h C.wf op w num L E hL hE wa ea wn wc en ec C.sw C.hwn C.se C.hen F hx V v1
    obtain ⟨X, hX⟩ := own
    have S := hS X hX
    obtain ⟨⟨hw1, hw64⟩, _⟩ := F.cases
    obtain ⟨w, rfl⟩ : ∃ v : Nat, w = v := ⟨w.toNat, by omega⟩
    rw [Int.toNat_natCast] at S ⊢
    rw [hev] at S ⊢
    refine fun i hi => ⟨fun h => ⟨_, ⟨X, hX, rfl⟩, S.mem.one i ?_⟩, fun h => ⟨_, ⟨X, hX, rfl⟩, S.mem.zer i ?_⟩⟩
    · have h : (~~~ V &&& M (w : Int)).getLsbD i = false := h
      show (V &&& M (w : Int)).getLsbD i = true
      rw [BitVec.getLsbD_and, BitVec.getLsbD_not, M_bit w (by omega), decide_eq_true hi, decide_eq_true (show i < 64 by omega)] at h
      rw [BitVec.getLsbD_and, M_bit w (by omega), decide_eq_true hi]
      revert h
      cases V.getLsbD i <;> decide
    · have h : (V &&& M (w : Int)).getLsbD i = false := h
      show (~~~ V &&& M (w : Int)).getLsbD i = true
      rw [BitVec.getLsbD_and, M_bit w (by omega), decide_eq_true hi] at h
      rw [BitVec.getLsbD_and, BitVec.getLsbD_not, M_bit w (by omega), decide_eq_true hi, decide_eq_true (show i < 64 by omega)]
      revert h
      cases V.getLsbD i <;> decide
def ctB (z o x : BitVec 64) : Bool := (x &&& z) == 0#64 && (x &&& o) == o
def allU (z o : BitVec 64) : Nat → List (BitVec 64)
  | 0 => []
  | i + 1 => allU z o i ++ cond (ctB z o (BitVec.ofNat 64 i)) [BitVec.ofNat 64 i] []
def allO (w : Nat) (z o : BitVec 64) : List (BitVec 64) := allU z o (2 ^ w)
theorem allU_len (z o : BitVec 64) : ∀ i, (allU z o i).length ≤ i
  | 0 => Nat.le_refl _
  | i + 1 => by
    have := allU_len z o i
    show (allU z o i ++ cond (ctB z o (BitVec.ofNat 64 i)) [BitVec.ofNat 64 i] []).length ≤ i + 1
    rw [List.length_append]
    cases ctB z o (BitVec.ofNat 64 i)
    · show _ + 0 ≤ _
      omega
    · show _ + 1 ≤ _
      omega
theorem allU_mem (z o x : BitVec 64) : ∀ i, i ≤ 2 ^ 64 → (x ∈ allU z o i ↔ x.toNat < i ∧ ctB z o x = true)
  | 0, _ => ⟨fun h => absurd h (List.not_mem_nil), fun h => absurd h.1 (Nat.not_lt_zero _)⟩
  | i + 1, hi => by
    have ih := allU_mem z o x i (by omega)
    show x ∈ allU z o i ++ cond (ctB z o (BitVec.ofNat 64 i)) [BitVec.ofNat 64 i] [] ↔ _
    rw [List.mem_append, ih]
    have hn : (BitVec.ofNat 64 i).toNat = i := by rw [BitVec.toNat_ofNat, Nat.mod_eq_of_lt (by omega)]
    constructor
    · rintro (h | h)
      · exact ⟨by omega, h.2⟩
      · cases hc : ctB z o (BitVec.ofNat 64 i) with
        | false => rw [hc] at h; cases h
        | true =>
          rw [hc, cond_true, List.mem_singleton] at h
          rw [h, hn]
          exact ⟨by omega, hc⟩
    · rintro ⟨h1, h2⟩
      by_cases he : x.toNat = i
      · have hx : x = BitVec.ofNat 64 i := BitVec.eq_of_toNat_eq (by rw [hn, he])
        refine .inr ?_
        rw [← hx, h2, cond_true]
        exact List.mem_singleton.2 rfl
      · exact .inl ⟨by omega, h2⟩
theorem ctB_in {w : Nat} (hw : w ≤ 64) {z o x : BitVec 64} : (x.toNat < 2 ^ w ∧ ctB z o x = true) ↔ In w z o x := by
  unfold ctB
  rw [Bool.and_eq_true, beq_iff_eq, beq_iff_eq]
  constructor
  · rintro ⟨h1, h2, h3⟩
    refine ⟨fun i hi => ?_, fun i hi => ?_, fun i hi => Nat.testBit_lt_two_pow (Nat.lt_of_lt_of_le h1 (Nat.pow_le_pow_right (by omega) hi))⟩
    · have := and_zero_bit h2 i
      rw [hi, Bool.and_true] at this
      exact this
    · have : (x &&& o).getLsbD i = o.getLsbD i := by rw [h3]
      rw [BitVec.getLsbD_and, hi, Bool.and_true] at this
      exact this
  · intro h
    have hc := in_contains h
    rw [Bool.and_eq_true, beq_iff_eq, beq_iff_eq] at hc
    exact ⟨bits_lt w hw x h.out, hc⟩
theorem allO_mem {w : Nat} (hw : w ≤ 4) (z o x : BitVec 64) : x ∈ allO w z o ↔ In w z o x := by
  have : 2 ^ w ≤ 2 ^ 4 := Nat.pow_le_pow_right (by omega) hw
  unfold allO
  rw [allU_mem z o x _ (by omega), ctB_in (by omega)]
theorem allO_len {w : Nat} (hw : w ≤ 4) (z o : BitVec 64) : (allO w z o).length ≤ 16 := by
  have : 2 ^ w ≤ 2 ^ 4 := Nat.pow_le_pow_right (by omega) hw
  have := allU_len z o (2 ^ w)
  unfold allO
  omega
theorem allL (N : Nat) (hN : 3 ≤ N) (h b : AH) (B : WF b) (hbl : b.low = h.next) (hbn : h.next < b.next) (w : Nat) (hw : w ≤ 4) (z o : BitVec 64) (O : Own b h.next [.int .u64 (U z), .int .u64 (U o)]) :
    ∀ (k i m0 : Nat) (g : AH) (a : Option Addr) (n ac G : Nat), k < m0 → i + k = 2 ^ w → Kp b g → n = (allU z o i).length → Row g a n ac 1 G (row1 (allU z o i)) → b.next ≤ G → G ≤ g.next →
    ∃ (a' : Option Addr) (c' G' : Nat) (g' : AH), Kp b g' ∧ Row g' a' (allO w z o).length c' 1 G' (row1 (allO w z o)) ∧ b.next ≤ G' ∧ c15_0 N m0 h w ⟨h.next, 0, none⟩ a n ac i g = some (exitR h g' (.slice a' (allO w z o).length c')) := by
  have p16 : 2 ^ w ≤ 2 ^ 4 := Nat.pow_le_pow_right (by omega) hw
  have hsh : iShl .u64 1 (w : Int) = ((2 ^ w : Nat) : Int) := by
    rw [shl_one w, U_nat, BitVec.toNat_shiftLeft, Nat.shiftLeft_eq, show (1#64).toNat = 1 from rfl, Nat.one_mul, Nat.mod_eq_of_lt (by omega)]
  intro k
  induction k with
  | zero =>
    intro i m0 g a n ac G hm hi K hn R hG1 hG2
    obtain ⟨m0, rfl⟩ : ∃ g, m0 = g + 1 := ⟨m0 - 1, by omega⟩
    obtain rfl : i = 2 ^ w := by omega
    subst hn
    refine ⟨a, ac, G, g, K, R, hG1, ?_⟩
    refine c15_0_ok ?_
    rw [c15_0_eq, iLt_false (show (0 : Int) ≤ w by omega), hsh, iLt_false (Int.le_refl _), cond_false, cond_false]
    rfl
  | succ k ih =>
    intro i m0 g a n ac G hm hi K hn R hG1 hG2
    obtain ⟨m0, rfl⟩ : ∃ g, m0 = g + 1 := ⟨m0 - 1, by omega⟩
    have Og := O.kp B K
    have hlow : b.low ≤ b.next := by omega
    have hUi : U (BitVec.ofNat 64 i) = (i : Int) := U_ofNat i (by omega)
    have hct : runS Tryd.prog N 51 [.agg #[.int .u64 (U z), .int .u64 (U o)], .int .u64 i] g = some (.bool (ctB z o (BitVec.ofNat 64 i)), g) := by
      obtain ⟨n, rfl⟩ : ∃ n, N = n + 1 := ⟨N - 1, by omega⟩
      have := rcontains n g K.wf z o (BitVec.ofNat 64 i)
      rw [hUi] at this
      exact this
    have hadd : iAdd .u64 (i : Int) 1 = ((i + 1 : Nat) : Int) := by
      unfold iAdd
      rw [wrap_u64]
      omega
    have hlen := allU_len z o i
    cases hc : ctB z o (BitVec.ofNat 64 i) with
    | false =>
      have e : allU z o (i + 1) = allU z o i := by
        show allU z o i ++ cond (ctB z o (BitVec.ofNat 64 i)) [BitVec.ofNat 64 i] [] = _
        rw [hc, cond_false, List.append_nil]
      obtain ⟨a', c', G', g', t1, t2, t3, t4⟩ := ih (i + 1) m0 g a n ac G (by omega) (by omega) K (by rw [e]; exact hn) (by rw [e]; exact R) hG1 hG2
      refine ⟨a', c', G', g', t1, t2, t3, ?_⟩
      refine c15_0_ok ?_
      rw [c15_0_eq, iLt_false (show (0 : Int) ≤ w by omega), hsh, iLt_true (by omega), cond_false, cond_true]
      simp only [Og.rd, Nat.zero_add, Nat.add_zero, List.getElem?_cons_zero, List.getElem?_cons_succ, gI_int, gB_bool, bindS, cond_true, cond_false, hct, hc]
      rw [hadd]
      exact t4
    | true =>
      have e : allU z o (i + 1) = allU z o i ++ [BitVec.ofNat 64 i] := by
        show allU z o i ++ cond (ctB z o (BitVec.ofNat 64 i)) [BitVec.ofNat 64 i] [] = _
        rw [hc, cond_true]
      obtain ⟨g3, g4, a2, G2, e3, e4, R4, K4, hG', hG4, _, _, _⟩ := K.app (by_ := 8) hlow R hG1 hG2 (vs := [.int .u64 (i : Int)]) rfl (by decide) (by omega)
      have e3 : hNew g [.int .u64 (i : Int)] 1 = some (g.next, g3) := e3
      rw [← hUi, ← row1_snoc, ← e] at R4
      obtain ⟨a', c', G', g', t1, t2, t3, t4⟩ := ih (i + 1) m0 g4 a2 (n + 1) OPEN G2 (by omega) (by omega) K4 (by rw [e, List.length_append, hn]; rfl) R4 hG' hG4
      refine ⟨a', c', G', g', t1, t2, t3, ?_⟩
      refine c15_0_ok ?_
      rw [c15_0_eq, iLt_false (show (0 : Int) ≤ w by omega), hsh, iLt_true (by omega), cond_false, cond_true]
      simp only [Og.rd, Nat.zero_add, Nat.add_zero, List.getElem?_cons_zero, List.getElem?_cons_succ, gI_int, gB_bool, bindS, cond_true, cond_false, hct, hc, e3, e4]
      rw [hadd]
      exact t4
theorem all_run (N : Nat) (hN : 20 ≤ N) (h : AH) (H : WF h) (w : Nat) (hw : w ≤ 4) (z o : BitVec 64) : ∃ (a : Option Addr) (c : Nat) (g : AH),
    runS Tryd.prog N 15 [.int .i64 w, .agg #[.int .u64 (U z), .int .u64 (U o)]] h = some (.slice a (allO w z o).length c, g) ∧ Kp h g ∧ Sl g a (row1 (allO w z o)) ∧ ∀ ad, a = some ad → h.next ≤ ad.block := by
  obtain ⟨m, rfl, hm⟩ : ∃ m, N = m + 1 ∧ 19 ≤ m := ⟨N - 1, by omega, by omega⟩
  have p16 : 2 ^ w ≤ 2 ^ 4 := Nat.pow_le_pow_right (by omega) hw
  obtain ⟨a', c', G', g', K, R, hG, e⟩ := allL m (by omega) h (loc h [[.int .u64 (U z), .int .u64 (U o)]]) (loc_wf H _) rfl (Nat.lt_succ_self _) w hw z o (own_loc H _) (2 ^ w) 0 m _ none 0 0 (h.next + 1) (by omega) (by omega) (Kp.refl (loc_wf H _)) rfl (Row.nil _ _ _) (Nat.le_refl _) (Nat.le_refl _)
  have hG : h.next + 1 ≤ G' := hG
  have K0 : Kp h (setLow g' h.low) := ⟨K.wf.setLow _, rfl, Nat.le_trans (Nat.le_succ _) K.nxt, fun β hβ => by
    have := K.old β (Nat.lt_succ_of_lt hβ)
    have e2 := (loc_wk H [[.int .u64 (U z), .int .u64 (U o)]]).old β hβ
    exact ⟨this.1.trans e2.1, this.2.trans e2.2⟩⟩
  have hx := exit_sl (h := h) (g := g') (K.low.trans rfl) a' (allO w z o).length c' (fun ha => by
    rcases R with R | ⟨β, e, _⟩
    · exact ⟨R.2.1, R.2.2.1⟩
    · rw [ha] at e
      cases e)
  cases a' with
  | none =>
    refine ⟨none, c', h, ?_, Kp.refl H, ?_, fun ad h => by cases h⟩
    · refine t15_ok ?_
      rw [t15]
      simp only [lrd H, lrd0 H, lst H, lst0 H, List.getElem?_cons_zero, List.getElem?_cons_succ, putAt0, putAt1, List.drop_succ_cons, List.drop_zero, List.drop_nil, List.set_cons_zero, List.set_cons_succ, List.append_nil, ble_self, ble12, gI_int, gB_bool, gS_str, gL_sl, gP_ptr, bindS, cond_true, cond_false, low_loc h, setLow_low, setLow_next, setLow_set, setLow_loc, setLow_self, hNew_loc, loc_next, loc_low, Nat.beq_refl, add_lit, List.nil_append, List.cons_append, List.length_cons, List.length_nil, Nat.zero_add, Nat.add_zero, Nat.reduceAdd]
      rw [← hx]
      exact e
    · rcases R with R | ⟨β, e, _⟩
      · rw [R.2.2.2]
        exact Sl.nil _ _
      · cases e
  | some a' =>
    refine ⟨some a', c', setLow g' h.low, ?_, K0, R.sl, fun ad had => ?_⟩
    · refine t15_ok ?_
      rw [t15]
      simp only [lrd H, lrd0 H, lst H, lst0 H, List.getElem?_cons_zero, List.getElem?_cons_succ, putAt0, putAt1, List.drop_succ_cons, List.drop_zero, List.drop_nil, List.set_cons_zero, List.set_cons_succ, List.append_nil, ble_self, ble12, gI_int, gB_bool, gS_str, gL_sl, gP_ptr, bindS, cond_true, cond_false, low_loc h, setLow_low, setLow_next, setLow_set, setLow_loc, setLow_self, hNew_loc, loc_next, loc_low, Nat.beq_refl, add_lit, List.nil_append, List.cons_append, List.length_cons, List.length_nil, Nat.zero_add, Nat.add_zero, Nat.reduceAdd]
      rw [← hx]
      exact e
    · rcases R with R | ⟨β, e, _, _, r3, _⟩
      · cases R.1
      · rw [e] at had
        injection had with had
        rw [← had]
        show h.next ≤ β
        omega
end Go.Proofs.YtiadfnedbbkojaaDoor.Kb
namespace Go.Proofs.YtiadfnedbbkojaaDoor.Kb
open Go Go.Proofs Go.Proofs.YtiadfnedbbkojaaDoor.X Go.Proofs.YtiadfnedbbkojaaDoor.Bv
set_option linter.unusedSimpArgs false
set_option linter.unusedVariables false
/-- All but one block are as they were. -/
structure Kq (B g : AH) (β : Nat) (cs : List Value) : Prop where
  wf : WF g
  low : g.low = B.low
  nxt : B.next ≤ g.next
  old : ∀ γ, γ < B.next → γ ≠ β → g.blks.get γ = B.blks.get γ ∧ g.grps.get γ = B.grps.get γ
  own : Own g β cs
section
variable {B g : AH} {β : Nat} {cs cs0 : List Value} (HB : WF B) (OB : Own B β cs0) (hβ : β < B.next) (hlo : B.low ≤ β) (K : Kq B g β cs)
 include HB OB K
theorem Kq.rd {n : Nat} (hn : n < B.next) (hne : n ≠ β) : g.rd n = B.rd n := by
  unfold AH.rd AH.members
  rw [(K.old n hn hne).1]
  cases hb : B.blks.get n with
  | none => rfl
  | some b =>
    have hg := HB.gle n b hb
    have : g.grps.get b.grp = B.grps.get b.grp := by
      by_cases e : b.grp = β
      · obtain ⟨_, _, h1⟩ := OB
        obtain ⟨_, _, h2⟩ := K.own
        rw [e, h1, h2]
      · exact (K.old b.grp (by omega) e).2
    simp only [Option.bind_some, this]
theorem Kq.rdC {a : Addr} {i : Nat} {x : Value} (hx : rdC B a i = some x) (hne : a.block ≠ β) : rdC g a i = some x := by
  obtain ⟨hs, c, h1, h2⟩ := rdC_ok hx
  have hb := HB.lt (rd_get h1).1
  unfold X.rdC at hx ⊢
  rw [K.rd HB OB hb hne]
  exact hx
 omit HB OB
theorem Kq.ownOf {γ : Nat} {ds : List Value} (H : WF B) (O : Own B γ ds) (hne : γ ≠ β) : Own g γ ds := by
  have hb := O.lt H
  obtain ⟨z, h1, h2⟩ := O
  exact ⟨z, (K.old γ hb hne).1.trans h1, (K.old γ hb hne).2.trans h2⟩
 include hβ
theorem Kq.new (ds : List Value) (z : Nat) : ∃ g', hNew g ds z = some (g.next, g') ∧ Kq B g' β cs ∧ Own g' g.next ds := by
  obtain ⟨g', h1, F, O, hl, hn⟩ := new_ok K.wf ds z
  have hlt := K.nxt
  refine ⟨g', h1, ⟨F.wf, hl.trans K.low, Nat.le_trans K.nxt F.nxt, fun γ h hne => ?_, K.own.fr F (fun hx => by rw [List.mem_singleton] at hx; omega)⟩, O⟩
  have : γ ∉ [g.next] := fun hx => by rw [List.mem_singleton] at hx; omega
  exact ⟨(F.same γ this).1.trans (K.old γ h hne).1, (F.same γ this).2.trans (K.old γ h hne).2⟩
 omit hβ
 include hlo
theorem Kq.st {o : Nat} {vs : List Value} (hf : o + vs.length ≤ cs.length) : ∃ g', stL g ⟨β, o, none⟩ vs = some g' ∧ Kq B g' β (putAt cs o vs) := by
  obtain ⟨g', h1, F, O, hl, hn⟩ := st_ok K.wf K.own (by rw [K.low]; exact hlo) hf
  refine ⟨g', h1, ⟨F.wf, hl.trans K.low, Nat.le_trans K.nxt F.nxt, fun γ h hne => ?_, O⟩⟩
  have : γ ∉ [β] := fun hx => hne (List.mem_singleton.1 hx)
  exact ⟨(F.same γ this).1.trans (K.old γ h hne).1, (F.same γ this).2.trans (K.old γ h hne).2⟩
end
/-- A row that does not lie in one block. -/
def SlN (B : AH) (a : Option Addr) (cs : List Value) (β : Nat) : Prop := Sl B a cs ∧ ∀ ad, a = some ad → ad.block ≠ β
theorem SlN.kq {B g : AH} {β : Nat} {cs cs0 : List Value} {a : Option Addr} {ds : List Value} (S : SlN B a ds β) (HB : WF B) (OB : Own B β cs0) (K : Kq B g β cs) : Sl g a ds := fun i x hx => by
  obtain ⟨ad, h1, h2⟩ := S.1 i x hx
  exact ⟨ad, h1, K.rdC HB OB h2 (S.2 ad h1)⟩
def bzF (w : Nat) (Vs : List (BitVec 64)) : BitVec 64 := Vs.foldl (fun a v => a &&& ~~~ v) (M w)
def boF (w : Nat) (Vs : List (BitVec 64)) : BitVec 64 := Vs.foldl (fun a v => a &&& v) (M w)
theorem bzF_snoc (w : Nat) (Vs : List (BitVec 64)) (v : BitVec 64) : bzF w (Vs ++ [v]) = bzF w Vs &&& ~~~ v := by
  unfold bzF
  rw [List.foldl_append]
  rfl
theorem boF_snoc (w : Nat) (Vs : List (BitVec 64)) (v : BitVec 64) : boF w (Vs ++ [v]) = boF w Vs &&& v := by
  unfold boF
  rw [List.foldl_append]
  rfl
theorem fold_bit (f : BitVec 64 → Bool) (g : BitVec 64 → BitVec 64 → BitVec 64) (i : Nat) (hg : ∀ a v, (g a v).getLsbD i = (a.getLsbD i && f v)) : ∀ (Vs : List (BitVec 64)) (a : BitVec 64), (Vs.foldl g a).getLsbD i = (a.getLsbD i && Vs.all f)
  | [], a => by rw [List.all_nil, Bool.and_true]; rfl
  | v :: Vs, a => by
    show (Vs.foldl g (g a v)).getLsbD i = _
    rw [fold_bit f g i hg Vs, hg, List.all_cons, Bool.and_assoc]
theorem bzF_bit (w : Nat) (hw : w ≤ 64) (Vs : List (BitVec 64)) (i : Nat) (hi : i < 64) : (bzF w Vs).getLsbD i = (decide (i < w) && Vs.all fun v => !v.getLsbD i) := by
  unfold bzF
  rw [fold_bit (fun v => !v.getLsbD i) _ i (fun a v => by rw [BitVec.getLsbD_and, BitVec.getLsbD_not, decide_eq_true hi, Bool.true_and]), M_bit w hw]
theorem boF_bit (w : Nat) (hw : w ≤ 64) (Vs : List (BitVec 64)) (i : Nat) : (boF w Vs).getLsbD i = (decide (i < w) && Vs.all fun v => v.getLsbD i) := by
  unfold boF
  rw [fold_bit (fun v => v.getLsbD i) _ i (fun a v => BitVec.getLsbD_and), M_bit w hw]
theorem slice3 (β k : Nat) (hk : k = 1 ∨ k = 2 ∨ k = 3) (g : AH) : sliceV Tryd.prog 35 (.slice (some ⟨β, 0, none⟩) 3 3) none (some (.int .i64 (Int.ofNat k))) none g = some (.slice (some ⟨β, 0, none⟩) k 3) := by
  unfold sliceV
  rw [usU]
  rcases hk with rfl | rfl | rfl
  · rfl
  · rfl
  · rfl
theorem vSl_sl (a : Option Addr) (n c : Nat) : vSl (.slice a n c) = some (a, n, c) := rfl
section
variable (N : Nat) (hN : 151 ≤ N) (h B : AH) (HB : WF B) (hlB : B.low = h.next) (hβ : h.next + 1 < B.next) (op : Int) (w : Nat) (hw : w ≤ 64) (num : BitVec 64) (wa ea : Option Addr) (wn wc en ec : Nat) (L : List Int) (E : List El) (F : Fit op w L E)
  (Tb : SlN B (some ⟨0, 0, none⟩) tabC (h.next + 1)) (Sw : SlN B wa (L.map fun n => .int .i64 n) (h.next + 1)) (hwn : wn = L.length) (Se : SlN B ea (prs (pU E)) (h.next + 1)) (hen : en = E.length) (hE3 : E.length = 1 ∨ E.length = 2 ∨ E.length = 3)
  (Oc : Own B h.next (caseC op w (U num) wa ea wn wc en ec)) (cs0 : List Value) (Ob : Own B (h.next + 1) cs0)
  (lam : Nat) (hlam : lam ≠ h.next + 1) (a0 a1 a2 : Option Addr) (n0 n1 n2 c0 c1 c2 : Nat) (Ol : Own B lam [.slice a0 n0 c0, .slice a1 n1 c1, .slice a2 n2 c2])
  (X0 X1 X2 : List (BitVec 64)) (S0 : SlN B a0 (row1 X0) (h.next + 1)) (S1 : SlN B a1 (row1 X1) (h.next + 1)) (S2 : SlN B a2 (row1 X2) (h.next + 1)) (hn0 : n0 = X0.length) (hn1 : n1 = X1.length) (hn2 : n2 = X2.length) (l0 : X0.length ≤ 16) (l1 : X1.length ≤ 16) (l2 : X2.length ≤ 16)
  (hAll : ∀ x ∈ X0, ∀ y ∈ X1, ∀ z ∈ X2, AllIn L E ([x, y, z].take E.length)) (r : Value × AH)
/-- The value for three words. -/
def valB3 (op w : Int) (L : List Int) (E : List El) (num x y z : BitVec 64) : BitVec 64 := evO op w L ([x, y, z].take E.length) num
 include hN HB hlB hβ hw F Sw hwn hen hE3 Oc Ob hlam Ol hAll
 include S2 hn2 l2 in
theorem best7 (x y : BitVec 64) (hx : x ∈ X0) (hy : y ∈ X1) (m1 m2 : Nat) (t1 t2 t3 t4 : Int) (tn0 tc0 tn1 tc1 : Nat) (ta0 ta1 : Option Addr) : ∀ (k i m0 : Nat) (g : AH) (Vs : List (BitVec 64)), k < m0 → i + k = X2.length → Kq B g (h.next + 1) [.int .u64 (U (bzF w Vs)), .int .u64 (U (boF w Vs))] →
    (∀ g', Kq B g' (h.next + 1) [.int .u64 (U (bzF w (Vs ++ (X2.drop i).map (valB3 op w L E num x y)))), .int .u64 (U (boF w (Vs ++ (X2.drop i).map (valB3 op w L E num x y))))] → c4_6 N m1 m2 h ⟨h.next, 0, none⟩ ⟨h.next + 1, 0, none⟩ ⟨lam, 0, none⟩ (U x) ta0 tn0 tc0 t1 t2 ta1 tn1 tc1 t3 (iAdd .i64 t4 1) g' = some r) →
    c4_7 N m0 m1 m2 h ⟨h.next, 0, none⟩ ⟨h.next + 1, 0, none⟩ ⟨lam, 0, none⟩ (U x) (U y) ta0 tn0 tc0 t1 t2 ta1 tn1 tc1 t3 t4 a2 n2 c2 (Int.ofNat n2) i g = some r := by
  have _ := hw
  have _ := hlam
  have _ := Ol
  intro k
  induction k with
  | zero =>
    intro i m0 g Vs hm hi K hr
    obtain ⟨m0, rfl⟩ : ∃ g, m0 = g + 1 := ⟨m0 - 1, by omega⟩
    have hr := hr g (by rw [List.drop_eq_nil_of_le (by omega), List.map_nil, List.append_nil]; exact K)
    refine c4_7_ok ?_
    rw [c4_7_eq, show iLt (i : Int) (Int.ofNat n2) = false from iLt_false (by show ((n2 : Nat) : Int) ≤ i; omega), cond_false]
    exact hr
  | succ k ih =>
    intro i m0 g Vs hm hi K hr
    obtain ⟨m0, rfl⟩ : ∃ g, m0 = g + 1 := ⟨m0 - 1, by omega⟩
    have hil : i < X2.length := by omega
    have hz : X2[i]? = some X2[i] := List.getElem?_eq_getElem hil
    generalize hze : X2[i] = z at hz
    have hzm : z ∈ X2 := List.mem_of_getElem? hz
    have hdrop : X2.drop i = z :: X2.drop (i + 1) := by rw [List.drop_eq_getElem_cons hil, hze]
    have Sz : Sl g a2 ((wds X2).map fun n => .int .u64 n) := S2.kq HB Ob K
    have hzi : (wds X2)[i]? = some (U z) := by
      unfold wds
      rw [List.getElem?_map, hz]
      rfl
    have Ocg := K.ownOf HB Oc (by omega)
    obtain ⟨g1, e1, K1, O1⟩ := K.new hβ [.int .u64 (U x), .int .u64 (U y), .int .u64 (U z)] 1
    have Oc1 := K1.ownOf HB Oc (by omega)
    have hv := eval_run F (hAll x hx y hy z hzm) num N (by omega) g1 wa (some ⟨g.next, 0, none⟩) wn wc E.length 3 K1.wf (Sw.kq HB Ob K1) (by
      have hrow : row1 [x, y, z] = row1 ([x, y, z].take E.length) ++ row1 ([x, y, z].drop E.length) := by
        conv => lhs; rw [← List.take_append_drop E.length [x, y, z]]
        unfold row1 wds
        rw [List.map_append, List.map_append]
      exact slPre (es := row1 [x, y, z]) O1.sl hrow) hwn (by
      rw [List.length_take]
      rcases hE3 with e | e | e <;> rw [e] <;> rfl)
    obtain ⟨g2, e2, K2⟩ := K1.st (by omega) (o := 0) (vs := [.int .u64 (U (bzF w Vs &&& ~~~ valB3 op w L E num x y z))]) (by show 0 + 1 ≤ 2; omega)
    obtain ⟨g3, e3, K3⟩ := K2.st (by omega) (o := 1) (vs := [.int .u64 (U (boF w Vs &&& valB3 op w L E num x y z))]) (by show 1 + 1 ≤ 2; omega)
    have K3' : Kq B g3 (h.next + 1) [.int .u64 (U (bzF w (Vs ++ [valB3 op w L E num x y z]))), .int .u64 (U (boF w (Vs ++ [valB3 op w L E num x y z])))] := by
      rw [bzF_snoc, boF_snoc]
      exact K3
    have K2' : Own g2 (h.next + 1) [.int .u64 (U (bzF w Vs &&& ~~~ valB3 op w L E num x y z)), .int .u64 (U (boF w Vs))] := K2.own
    have ih := ih (i + 1) m0 g3 (Vs ++ [valB3 op w L E num x y z]) (by omega) (by omega) K3' (by
      rw [hdrop, List.map_cons] at hr
      rw [List.append_assoc]
      exact hr)
    rw [show ((i + 1 : Nat) : Int) = (i : Int) + 1 by omega] at ih
    refine c4_7_ok ?_
    rw [c4_7_eq, show iLt (i : Int) (Int.ofNat n2) = true from iLt_true (by show (i : Int) < ((n2 : Nat) : Int); omega), cond_true]
    simp only [Int.toNat_natCast]
    rw [row_at' Sz (by rw [hn2, wds_len]) i _ hzi]
    simp only [add_lit, Ocg.rd, Nat.zero_add, Nat.add_zero, List.getElem?_cons_zero, List.getElem?_cons_succ, gI_int, gB_bool, bindS, cond_true, cond_false, gL_sl, e1, Oc1.rd, slice3 g.next en (by rw [hen]; exact hE3), vSl_sl]
    rw [hen]
    simp only [hv, Nat.zero_add, Nat.add_zero, List.getElem?_cons_zero, List.getElem?_cons_succ, gI_int, gB_bool, bindS, cond_true, cond_false, add_lit, K1.own.rd, i_andNot]
    rw [show evO op w L ([x, y, z].take E.length) num = valB3 op w L E num x y z from rfl]
    simp only [e2, Nat.zero_add, Nat.add_zero, List.getElem?_cons_zero, List.getElem?_cons_succ, gI_int, gB_bool, bindS, cond_true, cond_false, K2'.rd, i_and, e3]
    rw [iAdd_i64 (by omega) (by omega)]
    exact ih
 include S1 hn1 l1 S2 hn2 l2 in
theorem best6 (x : BitVec 64) (hx : x ∈ X0) (m2 : Nat) (t1 t2 : Int) (tn0 tc0 : Nat) (ta0 : Option Addr) : ∀ (k j m1 : Nat) (g : AH) (Vs : List (BitVec 64)), k < m1 → j + k = X1.length → Kq B g (h.next + 1) [.int .u64 (U (bzF w Vs)), .int .u64 (U (boF w Vs))] →
    (∀ g', Kq B g' (h.next + 1) [.int .u64 (U (bzF w (Vs ++ (X1.drop j).flatMap fun y => X2.map (valB3 op w L E num x y)))), .int .u64 (U (boF w (Vs ++ (X1.drop j).flatMap fun y => X2.map (valB3 op w L E num x y))))] → c4_5 N m2 h ⟨h.next, 0, none⟩ ⟨h.next + 1, 0, none⟩ ⟨lam, 0, none⟩ ta0 tn0 tc0 t1 (iAdd .i64 t2 1) g' = some r) →
    c4_6 N m1 m2 h ⟨h.next, 0, none⟩ ⟨h.next + 1, 0, none⟩ ⟨lam, 0, none⟩ (U x) ta0 tn0 tc0 t1 t2 a1 n1 c1 (Int.ofNat n1) j g = some r := by
  intro k
  induction k with
  | zero =>
    intro j m1 g Vs hm hi K hr
    obtain ⟨m1, rfl⟩ : ∃ g, m1 = g + 1 := ⟨m1 - 1, by omega⟩
    have hr := hr g (by rw [List.drop_eq_nil_of_le (by omega), List.flatMap_nil, List.append_nil]; exact K)
    refine c4_6_ok ?_
    rw [c4_6_eq, show iLt (j : Int) (Int.ofNat n1) = false from iLt_false (by show ((n1 : Nat) : Int) ≤ j; omega), cond_false]
    exact hr
  | succ k ih =>
    intro j m1 g Vs hm hi K hr
    obtain ⟨m1, rfl⟩ : ∃ g, m1 = g + 1 := ⟨m1 - 1, by omega⟩
    have hil : j < X1.length := by omega
    have hy : X1[j]? = some X1[j] := List.getElem?_eq_getElem hil
    generalize hye : X1[j] = y at hy
    have hym : y ∈ X1 := List.mem_of_getElem? hy
    have hdrop : X1.drop j = y :: X1.drop (j + 1) := by rw [List.drop_eq_getElem_cons hil, hye]
    have Sy : Sl g a1 ((wds X1).map fun n => .int .u64 n) := S1.kq HB Ob K
    have hyi : (wds X1)[j]? = some (U y) := by
      unfold wds
      rw [List.getElem?_map, hy]
      rfl
    have Olg := K.ownOf HB Ol hlam
    refine c4_6_ok ?_
    rw [c4_6_eq, show iLt (j : Int) (Int.ofNat n1) = true from iLt_true (by show (j : Int) < ((n1 : Nat) : Int); omega), cond_true]
    simp only [Int.toNat_natCast]
    rw [row_at' Sy (by rw [hn1, wds_len]) j _ hyi]
    simp only [add_lit, Olg.rd, Nat.zero_add, Nat.add_zero, List.getElem?_cons_zero, List.getElem?_cons_succ, gI_int, gB_bool, bindS, cond_true, cond_false, gL_sl]
    refine best7 N hN h B HB hlB hβ op w hw num wa ea wn wc en ec L E F Sw hwn hen hE3 Oc cs0 Ob lam hlam a0 a1 a2 n0 n1 n2 c0 c1 c2 Ol X0 X1 X2 S2 hn2 l2 hAll r x y hx hym m1 m2 t1 t2 _ _ tn0 tc0 n1 c1 ta0 a1 X2.length 0 N g Vs (by omega) (by omega) K fun g' K' => ?_
    rw [List.drop_zero] at K'
    rw [iAdd_i64 (by omega) (by omega), show (j : Int) + 1 = ((j + 1 : Nat) : Int) by omega]
    refine ih (j + 1) m1 g' _ (by omega) (by omega) K' ?_
    rw [hdrop, List.flatMap_cons] at hr
    rw [List.append_assoc]
    exact hr
/-- All values. -/
def allV (op w : Int) (L : List Int) (E : List El) (num : BitVec 64) (X0 X1 X2 : List (BitVec 64)) : List (BitVec 64) := X0.flatMap fun x => X1.flatMap fun y => X2.map (valB3 op w L E num x y)
 include S0 hn0 l0 S1 hn1 l1 S2 hn2 l2 in
theorem best5 : ∀ (k i m2 : Nat) (g : AH) (Vs : List (BitVec 64)), k < m2 → i + k = X0.length → Kq B g (h.next + 1) [.int .u64 (U (bzF w Vs)), .int .u64 (U (boF w Vs))] →
    (∀ g' m2, Kq B g' (h.next + 1) [.int .u64 (U (bzF w (Vs ++ allV op w L E num (X0.drop i) X1 X2))), .int .u64 (U (boF w (Vs ++ allV op w L E num (X0.drop i) X1 X2)))] → c4_5 N (m2 + 1) h ⟨h.next, 0, none⟩ ⟨h.next + 1, 0, none⟩ ⟨lam, 0, none⟩ a0 n0 c0 (Int.ofNat n0) X0.length g' = some r) →
    c4_5 N m2 h ⟨h.next, 0, none⟩ ⟨h.next + 1, 0, none⟩ ⟨lam, 0, none⟩ a0 n0 c0 (Int.ofNat n0) i g = some r := by
  intro k
  induction k with
  | zero =>
    intro i m2 g Vs hm hi K hr
    obtain ⟨m2, rfl⟩ : ∃ g, m2 = g + 1 := ⟨m2 - 1, by omega⟩
    obtain rfl : i = X0.length := by omega
    exact hr g m2 (by rw [List.drop_eq_nil_of_le (Nat.le_refl _)]; unfold allV; rw [List.flatMap_nil, List.append_nil]; exact K)
  | succ k ih =>
    intro i m2 g Vs hm hi K hr
    obtain ⟨m2, rfl⟩ : ∃ g, m2 = g + 1 := ⟨m2 - 1, by omega⟩
    have hil : i < X0.length := by omega
    have hx : X0[i]? = some X0[i] := List.getElem?_eq_getElem hil
    generalize hxe : X0[i] = x at hx
    have hxm : x ∈ X0 := List.mem_of_getElem? hx
    have hdrop : X0.drop i = x :: X0.drop (i + 1) := by rw [List.drop_eq_getElem_cons hil, hxe]
    have Sx : Sl g a0 ((wds X0).map fun n => .int .u64 n) := S0.kq HB Ob K
    have hxi : (wds X0)[i]? = some (U x) := by
      unfold wds
      rw [List.getElem?_map, hx]
      rfl
    have Olg := K.ownOf HB Ol hlam
    refine c4_5_ok ?_
    rw [c4_5_eq, show iLt (i : Int) (Int.ofNat n0) = true from iLt_true (by show (i : Int) < ((n0 : Nat) : Int); omega), cond_true]
    simp only [Int.toNat_natCast]
    rw [row_at' Sx (by rw [hn0, wds_len]) i _ hxi]
    simp only [add_lit, Olg.rd, Nat.zero_add, Nat.add_zero, List.getElem?_cons_zero, List.getElem?_cons_succ, gI_int, gB_bool, bindS, cond_true, cond_false, gL_sl]
    refine best6 N hN h B HB hlB hβ op w hw num wa ea wn wc en ec L E F Sw hwn hen hE3 Oc cs0 Ob lam hlam a0 a1 a2 n0 n1 n2 c0 c1 c2 Ol X0 X1 X2 S1 S2 hn1 hn2 l1 l2 hAll r x hxm m2 _ _ n0 c0 a0 X1.length 0 N g Vs (by omega) (by omega) K fun g' K' => ?_
    rw [List.drop_zero] at K'
    rw [iAdd_i64 (by omega) (by omega), show (i : Int) + 1 = ((i + 1 : Nat) : Int) by omega]
    refine ih (i + 1) m2 g' _ (by omega) (by omega) K' ?_
    rw [hdrop] at hr
    unfold allV at hr ⊢
    rw [List.flatMap_cons] at hr
    rw [List.append_assoc]
    exact hr
end
end Go.Proofs.YtiadfnedbbkojaaDoor.Kb
namespace Go.Proofs.YtiadfnedbbkojaaDoor.Kb
open Go Go.Proofs Go.Proofs.YtiadfnedbbkojaaDoor.X Go.Proofs.YtiadfnedbbkojaaDoor.Bv
set_option linter.unusedSimpArgs false
set_option linter.unusedVariables false
theorem mem_allV {op w : Int} {L : List Int} {E : List El} {num v : BitVec 64} {X0 X1 X2 : List (BitVec 64)} : v ∈ allV op w L E num X0 X1 X2 ↔ ∃ x ∈ X0, ∃ y ∈ X1, ∃ z ∈ X2, valB3 op w L E num x y z = v := by
  unfold allV
  simp only [List.mem_flatMap, List.mem_map]
/-- The best element of a set of words, by folds. -/
theorem best_eq {w : Nat} (hw : w ≤ 64) {p q : BitVec 64} {S : BitVec 64 → Prop} (Vs : List (BitVec 64)) (hV : ∀ v, v ∈ Vs ↔ S v) (hS : ∀ v, S v → Snd w p q v) (hne : ∃ v, S v) (hD : Dif w p q S) : p = bzF w Vs ∧ q = boF w Vs := by
  obtain ⟨v0, h0⟩ := hne
  have V := (hS v0 h0).vd
  constructor
  · apply BitVec.eq_of_getLsbD_eq
    intro i hi
    rw [bzF_bit w hw Vs i hi]
    by_cases hiw : i < w
    · rw [decide_eq_true hiw, Bool.true_and]
      cases hp : p.getLsbD i with
      | true =>
        symm
        rw [List.all_eq_true]
        intro v hv
        rw [(hS v ((hV v).1 hv)).mem.zer i hp]
        rfl
      | false =>
        obtain ⟨x, hx, hb⟩ := (hD i hiw).1 hp
        symm
        rw [List.all_eq_false]
        exact ⟨x, (hV x).2 hx, by rw [hb]; decide⟩
    · rw [decide_eq_false hiw, Bool.false_and, (V.inM i (by omega)).1]
  · apply BitVec.eq_of_getLsbD_eq
    intro i hi
    rw [boF_bit w hw Vs i]
    by_cases hiw : i < w
    · rw [decide_eq_true hiw, Bool.true_and]
      cases hp : q.getLsbD i with
      | true =>
        symm
        rw [List.all_eq_true]
        intro v hv
        exact (hS v ((hV v).1 hv)).mem.one i hp
      | false =>
        obtain ⟨x, hx, hb⟩ := (hD i hiw).2 hp
        symm
        rw [List.all_eq_false]
        exact ⟨x, (hV x).2 hx, by rw [hb]; decide⟩
    · rw [decide_eq_false hiw, Bool.false_and, (V.inM i (by omega)).2]
/-- The words of operand j; of none, the word 0. -/
def lstX (L : List Int) (E : List El) (j : Nat) : List (BitVec 64) :=
  match (L.zip E)[j]? with
  | some q => allO q.1.toNat q.2.1 q.2.2
  | none => [0#64]
theorem lstX_some {L : List Int} {E : List El} {j : Nat} {q : Opd} (h : (L.zip E)[j]? = some q) : lstX L E j = allO q.1.toNat q.2.1 q.2.2 := by
  unfold lstX
  rw [h]
theorem lstX_none {L : List Int} {E : List El} {j : Nat} (h : (L.zip E)[j]? = none) : lstX L E j = [0#64] := by
  unfold lstX
  rw [h]
theorem lstX_len {L : List Int} {E : List El} (h4 : ∀ x ∈ L, x.toNat ≤ 4) (j : Nat) : (lstX L E j).length ≤ 16 := by
  cases h : (L.zip E)[j]? with
  | none => rw [lstX_none h]; exact Nat.le_of_ble_eq_true rfl
  | some q => rw [lstX_some h]; exact allO_len (h4 _ (List.mem_of_getElem? (List.getElem?_zip_eq_some.1 h).1)) _ _
theorem lst_in {L : List Int} {E : List El} (hl : L.length = E.length) (h3 : E.length = 1 ∨ E.length = 2 ∨ E.length = 3) (h4 : ∀ x ∈ L, x.toNat ≤ 4) :
    (∀ x ∈ lstX L E 0, ∀ y ∈ lstX L E 1, ∀ z ∈ lstX L E 2, AllIn L E ([x, y, z].take E.length)) ∧
    ∀ X, AllIn L E X → ∃ x ∈ lstX L E 0, ∃ y ∈ lstX L E 1, ∃ z ∈ lstX L E 2, X = [x, y, z].take E.length := by
  have one : (0#64 : BitVec 64) ∈ [0#64] := List.mem_singleton.2 rfl
  match L, E, hl, h3 with
  | [x1], [e1], _, _ =>
    have k1 : x1.toNat ≤ 4 := h4 x1 (List.mem_cons_self ..)
    refine ⟨fun x hx y _ z _ => ⟨(allO_mem k1 _ _ _).1 hx, trivial⟩, fun X hX => ?_⟩
    match X, hX with
    | [a], ⟨ha, _⟩ => exact ⟨a, (allO_mem k1 _ _ _).2 ha, 0#64, one, 0#64, one, rfl⟩
  | [x1, x2], [e1, e2], _, _ =>
    have k1 : x1.toNat ≤ 4 := h4 x1 (List.mem_cons_self ..)
    have k2 : x2.toNat ≤ 4 := h4 x2 (List.mem_cons_of_mem _ (List.mem_cons_self ..))
    refine ⟨fun x hx y hy z _ => ⟨(allO_mem k1 _ _ _).1 hx, (allO_mem k2 _ _ _).1 hy, trivial⟩, fun X hX => ?_⟩
    match X, hX with
    | [a, b], ⟨ha, hb, _⟩ => exact ⟨a, (allO_mem k1 _ _ _).2 ha, b, (allO_mem k2 _ _ _).2 hb, 0#64, one, rfl⟩
  | [x1, x2, x3], [e1, e2, e3], _, _ =>
    have k1 : x1.toNat ≤ 4 := h4 x1 (List.mem_cons_self ..)
    have k2 : x2.toNat ≤ 4 := h4 x2 (List.mem_cons_of_mem _ (List.mem_cons_self ..))
    have k3 : x3.toNat ≤ 4 := h4 x3 (List.mem_cons_of_mem _ (List.mem_cons_of_mem _ (List.mem_cons_self ..)))
    refine ⟨fun x hx y hy z hz => ⟨(allO_mem k1 _ _ _).1 hx, (allO_mem k2 _ _ _).1 hy, (allO_mem k3 _ _ _).1 hz, trivial⟩, fun X hX => ?_⟩
    match X, hX with
    | [a, b, c], ⟨ha, hb, hc, _⟩ => exact ⟨a, (allO_mem k1 _ _ _).2 ha, b, (allO_mem k2 _ _ _).2 hb, c, (allO_mem k3 _ _ _).2 hc, rfl⟩
  | _ :: _ :: _ :: _ :: _, e, hl, h3 => simp only [List.length_cons] at hl; omega
  | [], e, hl, h3 => simp only [List.length_nil] at hl; omega
theorem Kq.toKp {b B g : AH} {β : Nat} {cs : List Value} (K : Kp b B) (Q : Kq B g β cs) (h : b.next ≤ β) : Kp b g :=
  ⟨Q.wf, Q.low.trans K.low, Nat.le_trans K.nxt Q.nxt, fun γ hγ => by
    have hn := K.nxt
    have := Q.old γ (by omega) (by omega)
    exact ⟨this.1.trans (K.old γ hγ).1, this.2.trans (K.old γ hγ).2⟩⟩
theorem Kq.start {g : AH} (H : WF g) {β : Nat} {cs : List Value} (O : Own g β cs) : Kq g g β cs := ⟨H, rfl, Nat.le_refl _, fun _ _ _ => ⟨rfl, rfl⟩, O⟩
/-- Three lists, in a block of three rows. -/
structure Ls (b g : AH) (lam : Nat) (cs : List Value) (A : Nat → Option Addr) (Cp : Nat → Nat) (X : Nat → List (BitVec 64)) : Prop where
  kp : Kp b g
  best : Own g b.next cs
  lis : Own g lam [.slice (A 0) (X 0).length (Cp 0), .slice (A 1) (X 1).length (Cp 1), .slice (A 2) (X 2).length (Cp 2)]
  rows : ∀ j, j < 3 → Sl g (A j) (row1 (X j)) ∧ ∀ ad, A j = some ad → b.next < ad.block ∧ ad.block ≠ lam
  lam : b.next < lam
def upA {α : Type} (f : Nat → α) (i : Nat) (v : α) : Nat → α := fun j => if j = i then v else f j
theorem Ls.step {b g g1 : AH} {lam : Nat} {cs : List Value} {A : Nat → Option Addr} {Cp : Nat → Nat} {X : Nat → List (BitVec 64)} (S : Ls b g lam cs A Cp X) (hb : b.low ≤ b.next) (K : Kp (setLow g g.next) g1) {a : Option Addr} {c : Nat} {V : List (BitVec 64)}
    (SV : Sl g1 a (row1 V)) (hab : ∀ ad, a = some ad → g.next ≤ ad.block) (i : Nat) (hi : i < 3) :
    ∃ g2, stL (setLow g1 g.low) ⟨lam, i, none⟩ [.slice a V.length c] = some g2 ∧ Ls b g2 lam cs (upA A i a) (upA Cp i c) (upA X i V) := by
  have Kg : Kp g (setLow g1 g.low) := ⟨K.wf.setLow _, rfl, K.nxt, K.old⟩
  have Kb := S.kp.trans Kg
  have Gw := S.kp.wf
  have O1 := S.lis.kp Gw Kg
  have hl : (setLow g1 g.low).low ≤ lam := by
    have := Kb.low
    have := S.lam
    omega
  obtain ⟨g2, e2, Q⟩ := (Kq.start Kb.wf O1).st hl (o := i) (vs := [.slice a V.length c]) (by show i + 1 ≤ 3; omega)
  have hlt := S.lis.lt Gw
  have hlam := S.lam
  refine ⟨g2, e2, Q.toKp Kb (by omega), Q.ownOf Kb.wf (S.best.kp Gw Kg) (by omega), ?_, fun j hj => ?_, S.lam⟩
  · have := Q.own
    have c3 : i = 0 ∨ i = 1 ∨ i = 2 := by omega
    rcases c3 with rfl | rfl | rfl
    · exact this
    · exact this
    · exact this
  · unfold upA
    by_cases h : j = i
    · rw [if_pos h, if_pos h]
      refine ⟨SlN.kq (cs0 := _) (⟨SV, fun ad e => ?_⟩ : SlN (setLow g1 g.low) a (row1 V) lam) Kb.wf O1 Q, fun ad e => ?_⟩
      · have := hab ad e
        omega
      · have := hab ad e
        omega
    · rw [if_neg h, if_neg h]
      refine ⟨SlN.kq (cs0 := _) (⟨(S.rows j hj).1.kp Gw Kg, fun ad e => ((S.rows j hj).2 ad e).2⟩ : SlN (setLow g1 g.low) (A j) (row1 (X j)) lam) Kb.wf O1 Q, (S.rows j hj).2⟩
def xi (L : List Int) (E : List El) (i : Nat) : Nat → List (BitVec 64) := fun j => if j < i then lstX L E j else [0#64]
theorem xi_step (L : List Int) (E : List El) (i : Nat) : upA (xi L E i) i (lstX L E i) = xi L E (i + 1) := funext fun j => by
  unfold upA xi
  by_cases h : j = i
  · rw [if_pos h, if_pos (by omega), h]
  · rw [if_neg h]
    by_cases h2 : j < i
    · rw [if_pos h2, if_pos (by omega)]
    · rw [if_neg h2, if_neg (by omega)]
theorem xi_end {L : List Int} {E : List El} (hl : L.length = E.length) : xi L E E.length = lstX L E := funext fun j => by
  unfold xi
  by_cases h : j < E.length
  · rw [if_pos h]
  · rw [if_neg h, lstX_none (List.getElem?_eq_none (by rw [List.length_zip]; omega))]
section
variable (N : Nat) (hN : 151 ≤ N) (h b : AH) (hbl : b.low = h.next) (hbn : b.next = h.next + 1) (op w num : Int) (wa ea : Option Addr) (wn wc en ec : Nat) (L : List Int) (E : List El) (C : CaseAt b wa wn ea en L E) (hlen : L.length = E.length) (hE3 : E.length ≤ 3) (h4 : ∀ x ∈ L, 1 ≤ x ∧ x ≤ 4)
  (O : Own b h.next (caseC op w num wa ea wn wc en ec)) (lam : Nat) (cs : List Value) (r : Value × AH)
 include hN hbl hbn C hlen hE3 h4 O
theorem bestL (hr : ∀ g A Cp, Ls b g lam cs A Cp (lstX L E) → c4_5 N N h ⟨h.next, 0, none⟩ ⟨h.next + 1, 0, none⟩ ⟨lam, 0, none⟩ (A 0) (lstX L E 0).length (Cp 0) (Int.ofNat (lstX L E 0).length) 0 g = some r) :
    ∀ (k i m0 : Nat) (g : AH) (A : Nat → Option Addr) (Cp : Nat → Nat), k < m0 → i + k = E.length → Ls b g lam cs A Cp (xi L E i) → c4_4 N m0 h ⟨h.next, 0, none⟩ ⟨h.next + 1, 0, none⟩ ⟨lam, 0, none⟩ (Int.ofNat en) i g = some r := by
  have B := C.wf
  have hen := C.hen
  have hz : (L.zip E).length = E.length := by rw [List.length_zip]; omega
  intro k
  induction k with
  | zero =>
    intro i m0 g A Cp hm hi S
    obtain ⟨m0, rfl⟩ : ∃ g, m0 = g + 1 := ⟨m0 - 1, by omega⟩
    obtain rfl : i = E.length := by omega
    rw [xi_end hlen] at S
    refine c4_4_ok ?_
    rw [c4_4_eq, show iLt (E.length : Int) (Int.ofNat en) = false from iLt_false (by show ((en : Nat) : Int) ≤ E.length; omega), cond_false]
    simp only [add_lit, S.lis.rd, Nat.zero_add, Nat.add_zero, List.getElem?_cons_zero, List.getElem?_cons_succ, gI_int, gB_bool, bindS, cond_true, cond_false, gL_sl]
    exact hr g A Cp S
  | succ k ih =>
    intro i m0 g A Cp hm hi S
    obtain ⟨m0, rfl⟩ : ∃ g, m0 = g + 1 := ⟨m0 - 1, by omega⟩
    have hil : i < (L.zip E).length := by omega
    have hq : (L.zip E)[i]? = some (L.zip E)[i] := List.getElem?_eq_getElem hil
    generalize hqe : (L.zip E)[i] = q at hq
    have hE : (pU E)[i]? = some (U q.2.1, U q.2.2) := by
      rw [← zip_els hlen]
      unfold els
      rw [List.getElem?_map, hq]
      rfl
    have hW : L[i]? = some q.1 := (List.getElem?_zip_eq_some.1 hq).1
    have hel : en = (pU E).length := by
      unfold pU
      rw [List.length_map, hen]
    have hq4 := h4 q.1 (List.mem_of_getElem? hW)
    have Oc := O.kp B S.kp
    have Sw := C.sw.kp B S.kp
    have Se := C.se.kp B S.kp
    obtain ⟨a, c, g1, e1, K1, SV, hab⟩ := all_run N (by omega) (setLow g g.next) (S.kp.wf.setLow _) q.1.toNat (by omega) q.2.1 q.2.2
    rw [show ((q.1.toNat : Nat) : Int) = q.1 by omega] at e1
    obtain ⟨g2, e2, S2⟩ := S.step (by omega) K1 (c := c) SV hab i (by omega)
    rw [← lstX_some hq, xi_step] at S2
    rw [← lstX_some hq] at e1 e2
    have ih := ih (i + 1) m0 g2 _ _ (by omega) (by omega) S2
    rw [show ((i + 1 : Nat) : Int) = (i : Int) + 1 by omega] at ih
    have hlw : g1.low = g.next := K1.low
    refine c4_4_ok ?_
    rw [c4_4_eq, show iLt (i : Int) (Int.ofNat en) = true from iLt_true (by show (i : Int) < ((en : Nat) : Int); omega), cond_true]
    simp only [add_lit, Oc.rd, Nat.zero_add, Nat.add_zero, List.getElem?_cons_zero, List.getElem?_cons_succ, gI_int, gB_bool, bindS, cond_true, cond_false, gL_sl, Int.toNat_natCast]
    rw [row_at' Sw C.hwn i q.1 hW]
    rw [rowp Se hel i _ hE]
    simp only [e1, Nat.zero_add, Nat.add_zero, List.getElem?_cons_zero, List.getElem?_cons_succ, gI_int, gB_bool, bindS, cond_true, cond_false, gL_sl, hlw, Nat.beq_refl, inB_true (show i < 3 by omega), Nat.mul_one, e2]
    rw [iAdd_i64 (by omega) (by omega)]
    exact ih
end
end Go.Proofs.YtiadfnedbbkojaaDoor.Kb
namespace Go.Proofs.YtiadfnedbbkojaaDoor.Kb
open Go Go.Proofs Go.Proofs.YtiadfnedbbkojaaDoor.X Go.Proofs.YtiadfnedbbkojaaDoor.Bv
set_option linter.unusedSimpArgs false
set_option linter.unusedVariables false
theorem iEq_self (x : Int) : iEq x x = true := beq_iff_eq.2 rfl
section
variable (N : Nat) (hN : 151 ≤ N) (h b : AH) (hbl : b.low = h.next) (hbn : b.next = h.next + 1) (op : Int) (w : Nat) (hw : w ≤ 64) (num : BitVec 64) (wa ea : Option Addr) (wn wc en ec : Nat) (L : List Int) (E : List El) (C : CaseAt b wa wn ea en L E) (F : Fit op w L E)
  (O : Own b h.next (caseC op w (U num) wa ea wn wc en ec))
 include hN hbl hbn hw C F O
section
variable (h4 : ∀ x ∈ L, 1 ≤ x ∧ x ≤ 4) (hE3 : E.length = 1 ∨ E.length = 2 ∨ E.length = 3) (Bs : Bst op w L E)
 include h4 hE3 Bs
theorem best_end (lam : Nat) (B : AH) (A : Nat → Option Addr) (Cp : Nat → Nat) (S : Ls b B lam [.int .u64 (U (M w)), .int .u64 (U (M w))] A Cp (lstX L E)) :
    c4_5 N N h ⟨h.next, 0, none⟩ ⟨h.next + 1, 0, none⟩ ⟨lam, 0, none⟩ (A 0) (lstX L E 0).length (Cp 0) (Int.ofNat (lstX L E 0).length) 0 B = some (.bool true, h) := by
  have hlen := F.len
  have k4 : ∀ x ∈ L, x.toNat ≤ 4 := fun x hx => by
    have := h4 x hx
    omega
  have Oc := O.kp C.wf S.kp
  have CB := C.kp S.kp
  obtain ⟨e, eA, eS, eD⟩ := best_run N hN op w num L E (by omega) F Bs
  rw [Int.toNat_natCast] at eS eD
  obtain ⟨hin, hex⟩ := lst_in hlen hE3 k4
  have hlam := S.lam
  have hbl' : B.low = h.next := S.kp.low.trans hbl
  have Ob : Own B (h.next + 1) [.int .u64 (U (M w)), .int .u64 (U (M w))] := hbn ▸ S.best
  have SwN : SlN B wa (L.map fun n => .int .i64 n) (h.next + 1) := ⟨CB.sw, fun ad e => by
    obtain ⟨x, hx⟩ : ∃ x, (L.map fun n => Value.int .i64 n)[0]? = some x := ⟨_, List.getElem?_eq_getElem (by rw [List.length_map]; omega)⟩
    obtain ⟨ad', e', hr⟩ := C.sw 0 x hx
    rw [e] at e'
    injection e' with e'
    subst e'
    obtain ⟨_, c, h1, _⟩ := rdC_ok hr
    have := C.wf.lt (rd_get h1).1
    omega⟩
  have hs : ∀ j, j < 3 → SlN B (A j) (row1 (lstX L E j)) (h.next + 1) := fun j hj => ⟨(S.rows j hj).1, fun ad e => by
    have := ((S.rows j hj).2 ad e).1
    omega⟩
  have hl0 := lstX_len (E := E) k4 0
  refine best5 N hN h B S.kp.wf hbl' (by have := S.lis.lt S.kp.wf; omega) op w hw num wa ea wn wc en ec L E F SwN C.hwn C.hen hE3 Oc _ Ob lam (by omega) (A 0) (A 1) (A 2) _ _ _ (Cp 0) (Cp 1) (Cp 2) S.lis (lstX L E 0) (lstX L E 1) (lstX L E 2) (hs 0 (by omega)) (hs 1 (by omega)) (hs 2 (by omega)) rfl rfl rfl
    hl0 (lstX_len k4 1) (lstX_len k4 2) hin _ (lstX L E 0).length 0 N B [] (by omega) (by omega) (Kq.start S.kp.wf Ob) fun g' m2 K' => ?_
  rw [List.drop_zero, List.nil_append] at K'
  obtain ⟨q1, q2⟩ := best_eq hw (allV op w L E num (lstX L E 0) (lstX L E 1) (lstX L E 2)) (S := fun x => ∃ X, AllIn L E X ∧ x = evO op w L X num)
    (fun v => mem_allV.trans ⟨fun ⟨x, hx, y, hy, z, hz, e⟩ => ⟨_, hin x hx y hy z hz, e.symm⟩, fun ⟨X, hX, e⟩ => by
      obtain ⟨x, hx, y, hy, z, hz, rfl⟩ := hex X hX
      exact ⟨x, hx, y, hy, z, hz, e.symm⟩⟩) (fun v ⟨X, hX, e⟩ => e ▸ eS X hX) ⟨_, _, words_in F [], rfl⟩ eD
  rw [← q1, ← q2] at K'
  have Kb := Kq.toKp S.kp K' (by omega)
  have Og := O.kp C.wf Kb
  have eA := eA (setLow g' g'.next) wa ea wn wc en ec ((C.kp Kb).low _)
  refine c4_5_ok ?_
  rw [c4_5_eq, show iLt ((lstX L E 0).length : Int) (Int.ofNat (lstX L E 0).length) = false from iLt_false (Int.le_refl _), cond_false]
  simp only [add_lit, Og.rd, Nat.zero_add, Nat.add_zero, List.getElem?_cons_zero, List.getElem?_cons_succ, gI_int, gB_bool, bindS, cond_true, cond_false, gL_sl, eA, aggIs2, aggC20, aggC21, setLow_low, setLow_next, Nat.beq_refl, setLow_set, setLow_self, K'.own.rd, iEq_self]
  rw [exit_low (Kb.low.trans hbl) rfl]
theorem best3 : c4_3 N h ⟨h.next, 0, none⟩ b = some (.bool true, h) := by
  have B := C.wf
  have hlow : b.low ≤ b.next := by omega
  have hx0 : ∀ j, xi L E 0 j = [0#64] := fun j => if_neg (Nat.not_lt_zero j)
  obtain ⟨g1, e1, K1, F1, O1, n1⟩ := (Kp.refl B).new [.int .u64 0, .int .u64 0] 0
  obtain ⟨g2, e2, K2, F2, O2, n2⟩ := K1.st hlow (o := 0) (vs := [.int .u64 (U (M w)), .int .u64 (U (M w))]) O1 (Nat.le_refl _) (Nat.le_refl _)
  have O2 : Own g2 b.next [.int .u64 (U (M w)), .int .u64 (U (M w))] := O2
  obtain ⟨g3, e3, K3, F3, O3, n3⟩ := K2.new [.int .u64 0] 1
  obtain ⟨g4, e4, K4, F4, O4, n4⟩ := K3.new [.int .u64 0] 1
  obtain ⟨g5, e5, K5, F5, O5, n5⟩ := K4.new [.int .u64 0] 1
  obtain ⟨g6, e6, K6, F6, O6, n6⟩ := K5.new [.slice none 0 0, .slice none 0 0, .slice none 0 0] 0
  obtain ⟨g7, e7, K7, F7, O7, n7⟩ := K6.st hlow (o := 0) (vs := [.slice (some ⟨g2.next, 0, none⟩) 1 1, .slice (some ⟨g3.next, 0, none⟩) 1 1, .slice (some ⟨g4.next, 0, none⟩) 1 1]) O6 (by omega) (Nat.le_refl _)
  have nm : ∀ {x y : Nat}, x ≠ y → x ∉ [y] := fun hne hx => hne (List.mem_singleton.1 hx)
  have P2 := ((((O2.fr F3 (nm (by omega))).fr F4 (nm (by omega))).fr F5 (nm (by omega))).fr F6 (nm (by omega))).fr F7 (nm (by omega))
  have P3 := (((O3.fr F4 (nm (by omega))).fr F5 (nm (by omega))).fr F6 (nm (by omega))).fr F7 (nm (by omega))
  have P4 := ((O4.fr F5 (nm (by omega))).fr F6 (nm (by omega))).fr F7 (nm (by omega))
  have P5 := (O5.fr F6 (nm (by omega))).fr F7 (nm (by omega))
  have S : Ls b g7 g5.next [.int .u64 (U (M w)), .int .u64 (U (M w))] (fun j => some ⟨g2.next + j, 0, none⟩) (fun _ => 1) (xi L E 0) := by
    refine ⟨K7, P2, ?_, fun j hj => ?_, by omega⟩
    · rw [hx0, hx0, hx0]
      rw [n3] at O7
      rw [n4, n3] at O7
      exact O7
    · rw [hx0]
      refine ⟨?_, fun ad e => ?_⟩
      · have c3 : j = 0 ∨ j = 1 ∨ j = 2 := by omega
        rcases c3 with rfl | rfl | rfl
        · exact P3.sl
        · rw [n3] at P4
          exact P4.sl
        · rw [n4, n3] at P5
          exact P5.sl
      · injection e with e
        rw [← e]
        show b.next < g2.next + j ∧ g2.next + j ≠ g5.next
        omega
  have K7c := O.kp B K7
  have hL := bestL N hN h b hbl hbn op w (U num) wa ea wn wc en ec L E C F.len (by omega) h4 O g5.next _ (.bool true, h) (fun g A Cp S => best_end N hN h b hbl hbn op w hw num wa ea wn wc en ec L E C F O h4 hE3 Bs g5.next g A Cp S) E.length 0 N g7 _ _ (by omega) (by omega) S
  have m1 := mkN (show 67 ≤ N by omega) (setLow b b.next) w hw
  refine c4_3_ok ?_
  rw [c4_3_eq]
  simp only [add_lit, O.rd, Nat.zero_add, Nat.add_zero, List.getElem?_cons_zero, List.getElem?_cons_succ, gI_int, gB_bool, bindS, cond_true, cond_false, gL_sl, m1, setLow_low, setLow_next, Nat.beq_refl, setLow_set, setLow_self, e1, e2, e3, e4, e5, e6, e7, K7c.rd]
  rw [hbn]
  exact hL
end
theorem best2 (h4 : ∀ x ∈ L, 1 ≤ x ∧ x ≤ 4) (hE3 : E.length = 1 ∨ E.length = 2 ∨ E.length = 3) (ho : op ≠ 1 ∧ op ≠ 4 ∧ ¬ (5 ≤ op ∧ op ≤ 8)) : c4_2 N h ⟨h.next, 0, none⟩ b = some (.bool true, h) := by
  have B := C.wf
  have hlen := F.len
  have hwn := C.hwn
  have hen := C.hen
  have hz : (L.zip E).length = E.length := by rw [List.length_zip]; omega
  obtain ⟨i, hi⟩ : ∃ i, i + 1 = E.length := ⟨E.length - 1, by omega⟩
  have hil : i < (L.zip E).length := by omega
  have hq : (L.zip E)[i]? = some (L.zip E)[i] := List.getElem?_eq_getElem hil
  generalize hqe : (L.zip E)[i] = q at hq
  have hE : (pU E)[i]? = some (U q.2.1, U q.2.2) := by
    rw [← zip_els hlen]
    unfold els
    rw [List.getElem?_map, hq]
    rfl
  have hW : L[i]? = some q.1 := (List.getElem?_zip_eq_some.1 hq).1
  have hE2 : E[i]? = some q.2 := (List.getElem?_zip_eq_some.1 hq).2
  have hel : en = (pU E).length := by
    unfold pU
    rw [List.length_map, hen]
  have x1 : iSub .i64 (Int.ofNat wn) 1 = (i : Int) := by
    rw [show (Int.ofNat wn : Int) = ((wn : Nat) : Int) from rfl, iSub_i64 (by omega) (by omega)]
    omega
  have x2 : iSub .i64 (Int.ofNat en) 1 = (i : Int) := by
    rw [show (Int.ofNat en : Int) = ((en : Nat) : Int) from rfl, iSub_i64 (by omega) (by omega)]
    omega
  have xa := xaN (show 70 ≤ N by omega) (setLow b b.next) (B.setLow b.next) q.1 q.2.1 q.2.2
  have l1 : L.getD (L.length - 1) 0 = q.1 := by
    rw [List.getD_eq_getElem?_getD, show L.length - 1 = i by omega, hW]
    rfl
  have l2 : E.getD (E.length - 1) (0#64, 0#64) = q.2 := by
    rw [List.getD_eq_getElem?_getD, show E.length - 1 = i by omega, hE2]
    rfl
  have go : (12 ≤ op → op ≤ 14 → exB q.1 q.2.1 q.2.2 = true) → c4_3 N h ⟨h.next, 0, none⟩ b = some (.bool true, h) := fun hs =>
    best3 N hN h b hbl hbn op w hw num wa ea wn wc en ec L E C F O h4 hE3 ⟨ho, fun a1 a2 => by rw [l1, l2]; exact hs a1 a2⟩
  have xa : runS Tryd.prog N 13 [.int .i64 q.1, .agg #[.int .u64 (U q.2.1), .int .u64 (U q.2.2)]] (setLow b b.next) = _ := xa
  refine c4_2_ok ?_
  rw [c4_2_eq]
  simp only [add_lit, O.rd, Nat.zero_add, Nat.add_zero, List.getElem?_cons_zero, List.getElem?_cons_succ, gI_int, gB_bool, bindS, cond_true, cond_false, gL_sl, x1, x2, Int.toNat_natCast]
  rw [row_at' C.sw C.hwn i q.1 hW]
  rw [rowp C.se hel i _ hE]
  simp only [xa, tupIs2, tupC20, tupC21, Nat.zero_add, Nat.add_zero, List.getElem?_cons_zero, List.getElem?_cons_succ, gI_int, gB_bool, bindS, cond_true, cond_false, setLow_low, setLow_next, Nat.beq_refl, setLow_set, setLow_self, O.rd]
  cases hx : exB q.1 q.2.1 q.2.2 with
  | true => exact go fun _ _ => hx
  | false =>
    simp only [Bool.not_false, cond_true]
    by_cases c1 : 12 ≤ op
    · rw [iLe_true c1, cond_true]
      by_cases c2 : op ≤ 14
      · rw [iLe_true c2, cond_true, exit_low hbl rfl]
      · rw [iLe_false (by omega), cond_false]
        exact go fun _ a => absurd a c2
    · rw [iLe_false (by omega), cond_false]
      exact go fun a _ => absurd a c1
theorem best1 (ho : op ≠ 1) : ∀ (k i m0 : Nat), k < m0 → i + k = L.length → (∀ j, j < i → ∀ x, L[j]? = some x → x ≤ 4) → c4_1 N m0 h ⟨h.next, 0, none⟩ wa wn wc (Int.ofNat wn) i b = some (.bool true, h) := by
  have B := C.wf
  have hlen := F.len
  have hwn := C.hwn
  have hE3 : E.length = 1 ∨ E.length = 2 ∨ E.length = 3 := by
    obtain ⟨_, hc⟩ := F.cases
    rcases hc with ⟨e, _⟩ | ⟨_, _, a, b, rfl, _⟩ | ⟨_, _, x, a, b, _, _, rfl, _⟩ | ⟨_, _, a, b, c, rfl, _⟩ | ⟨_, x, a, _, _, _, rfl, _⟩ | ⟨_, x, a, _, _, _, rfl, _⟩
    · exact absurd e ho
    · exact .inr (.inl rfl)
    · exact .inr (.inl rfl)
    · exact .inr (.inr rfl)
    · exact .inl rfl
    · exact .inl rfl
  intro k
  induction k with
  | zero =>
    intro i m0 hm hi h4
    obtain ⟨m0, rfl⟩ : ∃ g, m0 = g + 1 := ⟨m0 - 1, by omega⟩
    have h4' : ∀ x ∈ L, 1 ≤ x ∧ x ≤ 4 := fun x hx => by
      obtain ⟨j, hj⟩ := List.mem_iff_getElem?.1 hx
      have hjl : j < L.length := (List.getElem?_eq_some_iff.1 hj).1
      have hje : j < E.length := by omega
      have := zip_good F (x, E[j]) (List.mem_of_getElem? (i := j) (List.getElem?_zip_eq_some.2 ⟨hj, List.getElem?_eq_getElem hje⟩))
      exact ⟨this.1, h4 j (by omega) x hj⟩
    refine c4_1_ok ?_
    rw [c4_1_eq, show iLt (i : Int) (Int.ofNat wn) = false from iLt_false (by show ((wn : Nat) : Int) ≤ i; omega), cond_false]
    simp only [add_lit, O.rd, Nat.zero_add, Nat.add_zero, List.getElem?_cons_zero, List.getElem?_cons_succ, gI_int, gB_bool, bindS, cond_true, cond_false, gL_sl]
    by_cases c4 : op = 4
    · rw [c4, iEq_self, cond_true, exit_low hbl rfl]
    · rw [iEq_ne c4, cond_false]
      by_cases c5 : 5 ≤ op
      · rw [iLe_true c5, cond_true]
        by_cases c8 : op ≤ 8
        · rw [iLe_true c8, cond_true, exit_low hbl rfl]
        · rw [iLe_false (by omega), cond_false]
          exact best2 N hN h b hbl hbn op w hw num wa ea wn wc en ec L E C F O h4' hE3 ⟨ho, c4, fun a => c8 a.2⟩
      · rw [iLe_false (by omega), cond_false]
        exact best2 N hN h b hbl hbn op w hw num wa ea wn wc en ec L E C F O h4' hE3 ⟨ho, c4, fun a => c5 a.1⟩
  | succ k ih =>
    intro i m0 hm hi h4
    obtain ⟨m0, rfl⟩ : ∃ g, m0 = g + 1 := ⟨m0 - 1, by omega⟩
    have hil : i < L.length := by omega
    have hx : L[i]? = some L[i] := List.getElem?_eq_getElem hil
    generalize L[i] = x at hx
    refine c4_1_ok ?_
    rw [c4_1_eq, show iLt (i : Int) (Int.ofNat wn) = true from iLt_true (by show (i : Int) < ((wn : Nat) : Int); omega), cond_true]
    simp only [Int.toNat_natCast]
    rw [row_at' C.sw C.hwn i x hx]
    by_cases c : 4 < x
    · rw [iLt_true c, cond_true, exit_low hbl rfl]
    · rw [iLt_false (by omega), cond_false, iAdd_i64 (by omega) (by omega)]
      exact ih (i + 1) m0 (by omega) (by omega) fun j hj y hy => by
        by_cases e : j = i
        · subst e
          rw [hx] at hy
          injection hy with hy
          omega
        · exact h4 j (by omega) y hy
end
theorem law_best (N : Nat) (hN : 160 ≤ N) (h : AH) (op w : Int) (num : BitVec 64) (wa ea : Option Addr) (wn wc en ec : Nat) (L : List Int) (E : List El) (C : CaseAt h wa wn ea en L E) :
    runS Tryd.prog N 4 [caseV op w (U num) wa ea wn wc en ec] h = some (.bool true, h) := by
  have H := C.wf
  obtain ⟨m, rfl, hm⟩ : ∃ m, N = m + 1 ∧ 159 ≤ m := ⟨N - 1, by omega, by omega⟩
  have haw : ∀ g, WF g → runS Tryd.prog m 8 [] g = some (.bool true, g) := fun g G => by
    obtain ⟨n, rfl⟩ : ∃ n, m = n + 3 := ⟨m - 3, by omega⟩
    exact awake n g G
  have C1 := C.loc' [caseC op w (U num) wa ea wn wc en ec]
  have hrt := right m (by omega) (loc h [caseC op w (U num) wa ea wn wc en ec]) op w (U num) wa ea wn wc en ec L E C1
  refine t4_ok ?_
  rw [t4]
  simp only [lrd H, lrd0 H, lst H, lst0 H, List.getElem?_cons_zero, List.getElem?_cons_succ, putAt0, putAt1, List.drop_succ_cons, List.drop_zero, List.drop_nil, List.set_cons_zero, List.set_cons_succ, List.append_nil, ble_self, ble12, gI_int, gB_bool, gS_str, gL_sl, gP_ptr, bindS, cond_true, cond_false, low_loc h, setLow_low, setLow_next, setLow_set, setLow_loc, setLow_self, hNew_loc, loc_next, loc_low, Nat.beq_refl, add_lit, List.nil_append, List.cons_append, List.length_cons, List.length_nil, Nat.zero_add, Nat.add_zero, Nat.reduceAdd, haw _ (loc_wf H _), Bool.not_true]
  simp only [lrd H, lrd0 H, lst H, lst0 H, List.getElem?_cons_zero, List.getElem?_cons_succ, putAt0, putAt1, List.drop_succ_cons, List.drop_zero, List.drop_nil, List.set_cons_zero, List.set_cons_succ, List.append_nil, ble_self, ble12, gI_int, gB_bool, gS_str, gL_sl, gP_ptr, bindS, cond_true, cond_false, low_loc h, setLow_low, setLow_next, setLow_set, setLow_loc, setLow_self, hNew_loc, loc_next, loc_low, Nat.beq_refl, add_lit, List.nil_append, List.cons_append, List.length_cons, List.length_nil, Nat.zero_add, Nat.add_zero, Nat.reduceAdd, hrt, add_lit]
  cases hr : rightB op w L E with
  | false => simp only [Bool.not_false, gI_int, gB_bool, gS_str, gL_sl, gP_ptr, bindS, cond_true, cond_false, exitR_bool, exitR_int, exitR_ints, exitR_ii, exitR_ib]
  | true =>
    obtain ⟨F, hL8, hE8⟩ := right_fit hr
    obtain ⟨hw1, hw64⟩ := F.cases.1
    simp only [Bool.not_true, lrd H, lrd0 H, lst H, lst0 H, List.getElem?_cons_zero, List.getElem?_cons_succ, putAt0, putAt1, List.drop_succ_cons, List.drop_zero, List.drop_nil, List.set_cons_zero, List.set_cons_succ, List.append_nil, ble_self, ble12, gI_int, gB_bool, gS_str, gL_sl, gP_ptr, bindS, cond_true, cond_false, low_loc h, setLow_low, setLow_next, setLow_set, setLow_loc, setLow_self, hNew_loc, loc_next, loc_low, Nat.beq_refl, add_lit, List.nil_append, List.cons_append, List.length_cons, List.length_nil, Nat.zero_add, Nat.add_zero, Nat.reduceAdd, add_lit]
    by_cases c6 : 6 < w
    · rw [iLt_true c6]
      simp only [gI_int, gB_bool, gS_str, gL_sl, gP_ptr, bindS, cond_true, cond_false, exitR_bool, exitR_int, exitR_ints, exitR_ii, exitR_ib]
    · rw [iLt_false (by omega), cond_false]
      by_cases c1 : op = 1
      · rw [c1, iEq_self]
        simp only [gI_int, gB_bool, gS_str, gL_sl, gP_ptr, bindS, cond_true, cond_false, exitR_bool, exitR_int, exitR_ints, exitR_ii, exitR_ib]
      · rw [iEq_ne c1, cond_false]
        obtain ⟨w, rfl⟩ : ∃ v : Nat, w = v := ⟨w.toNat, by omega⟩
        have O := own_loc H (caseC op w (U num) wa ea wn wc en ec)
        have := best1 m (by omega) h (loc h [caseC op w (U num) wa ea wn wc en ec]) rfl rfl op w (by omega) num wa ea wn wc en ec L E C1 F O c1 L.length 0 m (by omega) (by omega) fun j hj => absurd hj (Nat.not_lt_zero j)
        refine c4_0_ok ?_
        rw [c4_0_eq]
        simp only [add_lit, O.rd, Nat.zero_add, Nat.add_zero, List.getElem?_cons_zero, List.getElem?_cons_succ, gI_int, gB_bool, bindS, cond_true, cond_false, gL_sl]
        exact this
theorem pure_best {H : Type} (ds : List (DataW H)) (hd : AllT (typD Tryd.prog 4) Tryd.f4.params.toList ds) : ∃ avs h1 h2, layArgs Tryd.prog 4 Tryd.f4.params.toList ds hTab = some (avs, h1) ∧ run Tryd.prog 200 4 avs h1 = some (.bool true, h2) := by
  have hd : AllT (typD Tryd.prog 4) [26] ds := hd
  obtain ⟨d1, r1, rfl, t1, hr⟩ := hd
  have hr : r1 = [] := hr
  subst hr
  obtain ⟨op, w, wa, ea, wn, wc, en, ec, num, L, E, h1, e1, C⟩ := layCase d1 t1
  refine ⟨_, h1, h1, ?_, by rw [← runS_eq]; exact law_best 200 (by decide) h1 op w num wa ea wn wc en ec L E C⟩
  show layArgs Tryd.prog 4 [26] [d1] hTab = _
  unfold layArgs
  rw [e1, Option.bind_some]
  rfl
end Go.Proofs.YtiadfnedbbkojaaDoor.Kb
