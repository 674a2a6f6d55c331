/- Joined texts: VA. -/
import Derived.Test.YtiadfnedbbkojaaDoorUA
namespace Go.Proofs.YtiadfnedbbkojaaDoor.Kb
open Go Go.Proofs Go.Proofs.YtiadfnedbbkojaaDoor.X Go.Proofs.YtiadfnedbbkojaaDoor.Bv
set_option linter.unusedSimpArgs false
set_option linter.unusedVariables false
/-- The second element knows what the first one knows. -/
structure Rf (z o z' o' : BitVec 64) : Prop where
  zer : ∀ i, z.getLsbD i = true → z'.getLsbD i = true
  one : ∀ i, o.getLsbD i = true → o'.getLsbD i = true
theorem Rf.of {z o z' o' : BitVec 64} (h : ∀ i, i < 64 → (z.getLsbD i = true → z'.getLsbD i = true) ∧ (o.getLsbD i = true → o'.getLsbD i = true)) : Rf z o z' o' :=
  ⟨fun i hz => by
    by_cases hi : i < 64
    · exact (h i hi).1 hz
    · rw [out64 _ hi] at hz
      exact absurd hz Bool.false_ne_true, fun i ho => by
    by_cases hi : i < 64
    · exact (h i hi).2 ho
    · rw [out64 _ hi] at ho
      cases ho⟩
theorem Rf.of_w {w : Nat} {z o z' o' : BitVec 64} (hout : ∀ i, w ≤ i → z.getLsbD i = false ∧ o.getLsbD i = false) (h : ∀ i, i < w → (z.getLsbD i = true → z'.getLsbD i = true) ∧ (o.getLsbD i = true → o'.getLsbD i = true)) : Rf z o z' o' :=
  ⟨fun i hz => by
    rcases Nat.lt_or_ge i w with hi | hi
    · exact (h i hi).1 hz
    · rw [(hout i hi).1] at hz
      exact absurd hz Bool.false_ne_true, fun i ho => by
    rcases Nat.lt_or_ge i w with hi | hi
    · exact (h i hi).2 ho
    · rw [(hout i hi).2] at ho
      cases ho⟩
theorem Rf.zero (z' o' : BitVec 64) : Rf 0#64 0#64 z' o' := ⟨fun i h => by rw [BitVec.getLsbD_zero] at h; exact absurd h Bool.false_ne_true, fun i h => by rw [BitVec.getLsbD_zero] at h; cases h⟩
theorem tz_mono {x y : BitVec 64} (h : ∀ i, x.getLsbD i = true → y.getLsbD i = true) : tz (~~~ x) ≤ tz (~~~ y) := by
  obtain ⟨h1, h2⟩ := tz_not x
  obtain ⟨g1, g2⟩ := tz_not y
  have l1 := tz_le (~~~ x)
  have l2 := tz_le (~~~ y)
  apply Decidable.byContradiction
  intro hc
  have := h _ (h1 (tz (~~~ y)) (by omega))
  rw [g2 (by omega)] at this
  cases this
theorem ld_mono {w : Nat} (hw : w ≤ 64) {x y : BitVec 64} (h : ∀ i, x.getLsbD i = true → y.getLsbD i = true) : ld w x ≤ ld w y := by
  obtain ⟨h1, h2⟩ := ld_spec w hw x
  obtain ⟨g1, g2⟩ := ld_spec w hw y
  have l1 := ld_le w hw x
  have l2 := ld_le w hw y
  apply Decidable.byContradiction
  intro hc
  have := h _ (h1 (ld w y) (by omega))
  rw [g2 (by omega)] at this
  cases this
theorem hi_mono {w : Nat} (hw : w ≤ 64) {m n : Nat} (h : m ≤ n) (i : Nat) (hi' : (hi w m).getLsbD i = true) : (hi w n).getLsbD i = true := by
  rw [hi_bit w _ hw, Bool.and_eq_true, decide_eq_true_iff, decide_eq_true_iff] at *
  omega
theorem exact_ref {w : Nat} (hw : w ≤ 64) {z o z' o' : BitVec 64} (he : exB w z o = true) (V : Vd2 w z' o') (R : Rf z o z' o') : z' = z ∧ o' = o := by
  unfold exB at he
  rw [Bool.and_eq_true, beq_iff_eq] at he
  obtain ⟨_, A⟩ := valB_iff hw he.1
  have key : ∀ i, z'.getLsbD i = z.getLsbD i ∧ o'.getLsbD i = o.getLsbD i := fun i => by
    rcases Nat.lt_or_ge i w with hl | hl
    · have hb : (z ||| o).getLsbD i = true := by rw [he.2, M_bit w hw, decide_eq_true hl]
      have h1 := R.zer i
      have h2 := R.one i
      have h3 := and_zero_bit V.dis i
      rw [BitVec.getLsbD_or] at hb
      revert hb h1 h2 h3
      cases z.getLsbD i <;> cases o.getLsbD i <;> cases z'.getLsbD i <;> cases o'.getLsbD i <;> decide
    · rw [(A.inM i hl).1, (A.inM i hl).2, (V.inM i hl).1, (V.inM i hl).2]
      exact ⟨rfl, rfl⟩
  exact ⟨BitVec.eq_of_getLsbD_eq fun i _ => (key i).1, BitVec.eq_of_getLsbD_eq fun i _ => (key i).2⟩
/-- Nothing, or the same. -/
def RefI (x y : Int) : Prop := tri y ∧ (x = -1 ∨ x = y)
theorem nxt_mono {x y c x' y' c' : Int} (hx : RefI x x') (hy : RefI y y') (hc : RefI c c') : RefI (nxt x y c) (nxt x' y' c') := by
  obtain ⟨tx, hx⟩ := hx
  obtain ⟨ty, hy⟩ := hy
  obtain ⟨tc, hc⟩ := hc
  unfold RefI tri at *
  rcases tx with rfl | rfl | rfl <;> rcases ty with rfl | rfl | rfl <;> rcases tc with rfl | rfl | rfl <;> rcases hx with rfl | rfl <;> rcases hy with rfl | rfl <;> rcases hc with rfl | rfl <;> decide
theorem ob_mono {x y c x' y' c' : Int} (hx : RefI x x') (hy : RefI y y') (hc : RefI c c') : ob x y c = -1 ∨ ob x y c = ob x' y' c' := by
  obtain ⟨tx, hx⟩ := hx
  obtain ⟨ty, hy⟩ := hy
  obtain ⟨tc, hc⟩ := hc
  unfold tri at *
  rcases tx with rfl | rfl | rfl <;> rcases ty with rfl | rfl | rfl <;> rcases tc with rfl | rfl | rfl <;> rcases hx with rfl | rfl <;> rcases hy with rfl | rfl <;> rcases hc with rfl | rfl <;> decide
theorem kn_mono {z o z' o' : BitVec 64} (R : Rf z o z' o') (hd : z' &&& o' = 0#64) (i : Nat) : RefI (kn z o i) (kn z' o' i) := by
  have h1 := R.zer i
  have h2 := R.one i
  have h3 := and_zero_bit hd i
  unfold RefI tri kn
  revert h1 h2 h3
  cases z.getLsbD i <;> cases o.getLsbD i <;> cases z'.getLsbD i <;> cases o'.getLsbD i <;> decide
theorem car_mono {az ao bz bo az' ao' bz' bo' : BitVec 64} {c0 : Int} (hc : RefI c0 c0) (h : ∀ i, RefI (kn az ao i) (kn az' ao' i) ∧ RefI (kn bz bo i) (kn bz' bo' i)) : ∀ i, RefI (car az ao bz bo c0 i) (car az' ao' bz' bo' c0 i)
  | 0 => hc
  | i + 1 => nxt_mono (h i).1 (h i).2 (car_mono hc h i)
theorem mono_add {w : Nat} (hw : w ≤ 64) {az ao bz bo az' ao' bz' bo' : BitVec 64} {c0 : Int} (hc : RefI c0 c0) (h : ∀ i, RefI (kn az ao i) (kn az' ao' i) ∧ RefI (kn bz bo i) (kn bz' bo' i)) :
    Rf (adZ az ao bz bo c0 w) (adO az ao bz bo c0 w) (adZ az' ao' bz' bo' c0 w) (adO az' ao' bz' bo' c0 w) := by
  have key : ∀ i, adB az ao bz bo c0 i = -1 ∨ adB az ao bz bo c0 i = adB az' ao' bz' bo' c0 i := fun i => ob_mono (h i).1 (h i).2 (car_mono hc h i)
  refine ⟨fun i hz => ?_, fun i ho => ?_⟩
  · unfold adZ at *
    rw [bvN_bit _ w hw, Bool.and_eq_true] at *
    refine ⟨hz.1, ?_⟩
    rcases key i with e | e
    · rw [e] at hz
      exact absurd hz.2 (by decide)
    · rw [← e]
      exact hz.2
  · unfold adO at *
    rw [bvN_bit _ w hw, Bool.and_eq_true] at *
    refine ⟨ho.1, ?_⟩
    rcases key i with e | e
    · rw [e] at ho
      exact absurd ho.2 (by decide)
    · rw [← e]
      exact ho.2
section
variable {w : Nat} (hw1 : 1 ≤ w) (hw : w ≤ 64) {az ao bz bo az' ao' bz' bo' : BitVec 64} (A : Vd2 w az ao) (B : Vd2 w bz bo) (A' : Vd2 w az' ao') (B' : Vd2 w bz' bo') (RA : Rf az ao az' ao') (RB : Rf bz bo bz' bo')
theorem low_ref {z o z' o' : BitVec 64} (V : z' &&& o' = 0#64) (R : Rf z o z' o') (k : Nat) (hk : k ≤ tz (~~~ (z ||| o))) (hk64 : k ≤ 64) : o' &&& M k = o &&& M k := by
  apply BitVec.eq_of_getLsbD_eq
  intro i hi
  rw [BitVec.getLsbD_and, BitVec.getLsbD_and, M_bit k hk64]
  by_cases hik : i < k
  · have hb := (tz_not (z ||| o)).1 i (by omega)
    have h1 := R.zer i
    have h2 := R.one i
    have h3 := and_zero_bit V i
    rw [BitVec.getLsbD_or] at hb
    rw [decide_eq_true hik]
    revert hb h1 h2 h3
    cases z.getLsbD i <;> cases o.getLsbD i <;> cases z'.getLsbD i <;> cases o'.getLsbD i <;> decide
  · rw [decide_eq_false hik, Bool.and_false, Bool.and_false]
theorem or_ref {z o z' o' : BitVec 64} (R : Rf z o z' o') (i : Nat) (h : (z ||| o).getLsbD i = true) : (z' ||| o').getLsbD i = true := by
  have h1 := R.zer i
  have h2 := R.one i
  rw [BitVec.getLsbD_or] at *
  revert h h1 h2
  cases z.getLsbD i <;> cases o.getLsbD i <;> cases z'.getLsbD i <;> cases o'.getLsbD i <;> decide
 include hw A' B' RA RB
theorem mono_mul : Rf (prZ w az ao bz bo) (prO w az ao bz bo) (prZ w az' ao' bz' bo') (prO w az' ao' bz' bo') := by
  have ta := tz_mono (or_ref RA)
  have tb := tz_mono (or_ref RB)
  have za := tz_mono RA.zer
  have zb := tz_mono RB.zer
  have hk : pk w az ao bz bo ≤ pk w az' ao' bz' bo' := by unfold pk; omega
  have hkw : pk w az' ao' bz' bo' ≤ w := by unfold pk; omega
  have hka : pk w az ao bz bo ≤ tz (~~~ (az ||| ao)) := by unfold pk; omega
  have hkb : pk w az ao bz bo ≤ tz (~~~ (bz ||| bo)) := by unfold pk; omega
  have hn : ∀ i, i < pk w az ao bz bo → (pn w az' ao' bz' bo').getLsbD i = (pn w az ao bz bo).getLsbD i := fun i hi => by
    unfold pn
    rw [mul_mask ao' bo' _ (by omega) i (by omega), ← mul_mask ao' bo' (pk w az ao bz bo) (by omega) i hi, low_ref A'.dis RA _ hka (by omega), low_ref B'.dis RB _ hkb (by omega)]
  have hlow : ∀ i, i < pk w az' ao' bz' bo' → i < min (tz (~~~ az') + tz (~~~ bz')) w → (pn w az' ao' bz' bo').getLsbD i = false := fun i hi ht => by
    unfold pn
    refine mul_low _ _ (tz (~~~ az')) (tz (~~~ bz')) (fun j hj => ?_) (fun j hj => ?_) i (by omega)
    · have h1 := (tz_not az').1 j hj
      have h2 := and_zero_bit A'.dis j
      rw [h1, Bool.true_and] at h2
      rw [BitVec.getLsbD_and, h2, Bool.false_and]
    · have h1 := (tz_not bz').1 j hj
      have h2 := and_zero_bit B'.dis j
      rw [h1, Bool.true_and] at h2
      rw [BitVec.getLsbD_and, h2, Bool.false_and]
  have pzb : ∀ (x y : BitVec 64) i, (pz w x y).getLsbD i = decide (i < min (tz (~~~ x) + tz (~~~ y)) w) := fun x y i => M_bit _ (by omega) i
  have hZ : ∀ (a b c d : BitVec 64) i, i < 64 → pk w a b c d ≤ 64 → (prZ w a b c d).getLsbD i = ((!(pn w a b c d).getLsbD i && decide (i < pk w a b c d)) || decide (i < min (tz (~~~ a) + tz (~~~ c)) w)) := fun a b c d i hi hk => by
    unfold prZ
    rw [BitVec.getLsbD_or, BitVec.getLsbD_and, BitVec.getLsbD_not, M_bit _ hk, pzb, decide_eq_true hi, Bool.true_and]
  have hO : ∀ (a b c d : BitVec 64) i, i < 64 → pk w a b c d ≤ 64 → (prO w a b c d).getLsbD i = (((pn w a b c d).getLsbD i && decide (i < pk w a b c d)) && !decide (i < min (tz (~~~ a) + tz (~~~ c)) w)) := fun a b c d i hi hk => by
    unfold prO
    rw [BitVec.getLsbD_and, BitVec.getLsbD_and, BitVec.getLsbD_not, M_bit _ hk, pzb, decide_eq_true hi, Bool.true_and]
  refine Rf.of fun i hi => ⟨fun h => ?_, fun h => ?_⟩
  · rw [hZ _ _ _ _ i hi (by omega), Bool.or_eq_true, Bool.and_eq_true, decide_eq_true_iff, decide_eq_true_iff] at h
    rw [hZ _ _ _ _ i hi (by omega), Bool.or_eq_true, Bool.and_eq_true, decide_eq_true_iff, decide_eq_true_iff]
    rcases h with ⟨h1, h2⟩ | h
    · exact .inl ⟨by rw [hn i h2]; exact h1, by omega⟩
    · exact .inr (by omega)
  · rw [hO _ _ _ _ i hi (by omega), Bool.and_eq_true, Bool.and_eq_true, decide_eq_true_iff] at h
    obtain ⟨⟨h1, h2⟩, h3⟩ := h
    have h4 := hn i h2
    rw [h1] at h4
    rw [hO _ _ _ _ i hi (by omega), h4, decide_eq_true (show i < pk w az' ao' bz' bo' by omega)]
    have h5 : ¬ i < min (tz (~~~ az') + tz (~~~ bz')) w := fun hh => by
      rw [hlow i (by omega) hh] at h4
      cases h4
    rw [decide_eq_false h5]
    rfl
 omit A' RB
theorem mono_rem (R : Rf bz bo bz' bo') : Rf (rmZ pcI w az bz bo) (rmO pcI w ao bz bo) (rmZ pcI w az' bz' bo') (rmO pcI w ao' bz' bo') := by
  have hl := ld_mono hw RA.zer
  have hh : ∀ i, (hi w (ld w az)).getLsbD i = true → (hi w (ld w az')).getLsbD i = true := fun i => hi_mono hw hl i
  have sup : ∀ i, (hi w (ld w az')).getLsbD i = true → (rmZ pcI w az' bz' bo').getLsbD i = true := fun i h => by
    unfold rmZ
    cases (exB w bz' bo' && decide (pcI bo' = 1)) with
    | true => rw [cond_true, BitVec.getLsbD_or, h]; rfl
    | false => exact h
  by_cases hc : exB w bz bo = true ∧ pcI bo = 1
  · obtain ⟨he, hp⟩ := hc
    obtain ⟨e1, e2⟩ := exact_ref hw he B' R
    subst e1 e2
    unfold rmZ rmO
    rw [he, decide_eq_true hp, Bool.and_true, cond_true, cond_true, cond_true, cond_true]
    refine Rf.of fun i hi' => ⟨fun h => ?_, fun h => ?_⟩
    · have h1 := hh i
      have h2 := RA.zer i
      rw [BitVec.getLsbD_or, BitVec.getLsbD_or, BitVec.getLsbD_and, BitVec.getLsbD_and] at *
      revert h h1 h2
      cases (hi w (ld w az)).getLsbD i <;> cases (hi w (ld w az')).getLsbD i <;> cases az.getLsbD i <;> cases az'.getLsbD i <;> cases (M (w : Int)).getLsbD i <;> cases (~~~(bo' - 1#64)).getLsbD i <;> cases (bo' - 1#64).getLsbD i <;> decide
    · have h2 := RA.one i
      rw [BitVec.getLsbD_and] at *
      revert h h2
      cases ao.getLsbD i <;> cases ao'.getLsbD i <;> cases (bo' - 1#64).getLsbD i <;> decide
  · have hf : (exB w bz bo && decide (pcI bo = 1)) = false := by
      cases h1 : exB w bz bo with
      | false => rfl
      | true => rw [decide_eq_false fun h2 => hc ⟨h1, h2⟩]; rfl
    have ez : rmZ pcI w az bz bo = hi w (ld w az) := by unfold rmZ; rw [hf]; rfl
    have eo : rmO pcI w ao bz bo = 0#64 := by unfold rmO; rw [hf]; rfl
    rw [ez, eo]
    exact ⟨fun i h => sup i (hh i h), fun i h => by rw [BitVec.getLsbD_zero] at h; cases h⟩
end
end Go.Proofs.YtiadfnedbbkojaaDoor.Kb
namespace Go.Proofs.YtiadfnedbbkojaaDoor.Kb
open Go Go.Proofs Go.Proofs.YtiadfnedbbkojaaDoor.X Go.Proofs.YtiadfnedbbkojaaDoor.Bv
set_option linter.unusedSimpArgs false
set_option linter.unusedVariables false
theorem bt_mono {z o z' o' : BitVec 64} (R : Rf z o z' o') (v : Int) (i : Nat) (h : bt v z o i = true) : bt v z' o' i = true := by
  unfold bt at *
  split at h
  · rename_i hv
    rw [if_pos hv]
    exact R.zer i h
  · rename_i hv
    rw [if_neg hv]
    exact R.one i h
theorem hi_top {w : Nat} (hw : w ≤ 64) (x : BitVec 64) (i j : Nat) (h : (hi w (ld w x)).getLsbD i = true) (hij : i ≤ j) (hj : j < w) : x.getLsbD j = true := by
  rw [hi_bit w _ hw, Bool.and_eq_true, decide_eq_true_iff, decide_eq_true_iff] at h
  have := (ld_spec w hw x).1 (w - 1 - j) (by omega)
  rwa [show w - 1 - (w - 1 - j) = j by omega] at this
section
variable {w : Nat} (hw1 : 1 ≤ w) (hw : w ≤ 64) {az ao bz bo az' ao' bz' bo' : BitVec 64} (A : Vd2 w az ao) (B : Vd2 w bz bo) (A' : Vd2 w az' ao') (B' : Vd2 w bz' bo') (RA : Rf az ao az' ao') (RB : Rf bz bo bz' bo')
 include hw1 hw A A' B' RA RB
theorem mono_shift (op : Int) (ho : op = 12 ∨ op = 13 ∨ op = 14) : Rf (rgV op w az ao bz bo 0) (rgV op w az ao bz bo 1) (rgV op w az' ao' bz' bo' 0) (rgV op w az' ao' bz' bo' 1) := by
  have key : ∀ v, v = 0 ∨ v = 1 → ∀ i, i < w → (rgV op w az ao bz bo v).getLsbD i = true → (rgV op w az' ao' bz' bo' v).getLsbD i = true := fun v hv i hi h => by
    cases he : exB w bz bo with
    | true =>
      obtain ⟨e1, e2⟩ := exact_ref hw he B' RB
      subst e1 e2
      rw [rgV_bit op ho w hw1 hw az ao _ _ A he v hv i hi] at h
      rw [rgV_bit op ho w hw1 hw az' ao' _ _ A' he v hv i hi]
      unfold shk at *
      split at h
      · rename_i h12
        rw [if_pos h12]
        split at h
        · rename_i h2
          rw [if_pos h2]
          exact h
        · rename_i h2
          rw [if_neg h2]
          exact bt_mono RA v _ h
      · rename_i h12
        rw [if_neg h12]
        split at h
        · rename_i h2
          rw [if_pos h2]
          exact bt_mono RA v _ h
        · rename_i h2
          rw [if_neg h2]
          split at h
          · rename_i h3
            rw [if_pos h3]
            exact h
          · rename_i h3
            rw [if_neg h3]
            exact bt_mono RA v _ h
    | false =>
      have c1 := vg_eq w hw1 hw az ao bz bo A op ho he
      cases he' : exB w bz' bo' with
      | true =>
        rw [rgV_bit op ho w hw1 hw az' ao' bz' bo' A' he' v hv i hi]
        unfold shk
        rcases hv with rfl | rfl
        · rw [← c1.1] at h
          rcases ho with rfl | rfl | rfl
          · rw [if_pos rfl, M_bit _ (by omega), decide_eq_true_iff] at h
            rw [if_pos rfl]
            split
            · rfl
            · show (if (0 : Int) = 0 then az'.getLsbD (i - amt w bo') else _) = true
              rw [if_pos rfl]
              exact RA.zer _ ((tz_not az).1 _ (by omega))
          · rw [if_neg (by decide)] at h
            rw [if_neg (by decide)]
            split
            · show (if (0 : Int) = 0 then az'.getLsbD (i + amt w bo') else _) = true
              rw [if_pos rfl]
              exact RA.zer _ (hi_top hw az i _ h (by omega) (by omega))
            · rfl
          · rw [if_neg (by decide)] at h
            rw [if_neg (by decide)]
            split
            · show (if (0 : Int) = 0 then az'.getLsbD (i + amt w bo') else _) = true
              rw [if_pos rfl]
              exact RA.zer _ (hi_top hw az i _ h (by omega) (by omega))
            · rw [if_neg (by decide)]
              show (if (0 : Int) = 0 then az'.getLsbD (w - 1) else _) = true
              rw [if_pos rfl]
              exact RA.zer _ (hi_top hw az i _ h (by omega) (by omega))
        · rw [← c1.2] at h
          rcases ho with rfl | rfl | rfl
          · rw [if_pos rfl, BitVec.getLsbD_zero] at h
            cases h
          · rw [if_neg (by decide), if_pos rfl, BitVec.getLsbD_zero] at h
            cases h
          · rw [if_neg (by decide), if_neg (by decide)] at h
            rw [if_neg (by decide)]
            split
            · show (if (1 : Int) = 0 then _ else ao'.getLsbD (i + amt w bo')) = true
              rw [if_neg (by decide)]
              exact RA.one _ (hi_top hw ao i _ h (by omega) (by omega))
            · rw [if_neg (by decide)]
              show (if (1 : Int) = 0 then _ else ao'.getLsbD (w - 1)) = true
              rw [if_neg (by decide)]
              exact RA.one _ (hi_top hw ao i _ h (by omega) (by omega))
      | false =>
        have c2 := vg_eq w hw1 hw az' ao' bz' bo' A' op ho he'
        rcases hv with rfl | rfl
        · rw [← c1.1] at h
          rw [← c2.1]
          split at h
          · rename_i h12
            rw [if_pos h12, M_bit _ (by omega), decide_eq_true_iff]
            rw [M_bit _ (by omega), decide_eq_true_iff] at h
            have := tz_mono RA.zer
            omega
          · rename_i h12
            rw [if_neg h12]
            exact hi_mono hw (ld_mono hw RA.zer) i h
        · rw [← c1.2] at h
          rw [← c2.2]
          split at h
          · rw [BitVec.getLsbD_zero] at h
            cases h
          · split at h
            · rw [BitVec.getLsbD_zero] at h
              cases h
            · rename_i h12 h13
              rw [if_neg h12, if_neg h13]
              exact hi_mono hw (ld_mono hw RA.one) i h
  exact Rf.of_w (w := w) (fun i hi => ⟨rgV_out op w hw az ao bz bo 0 i hi, rgV_out op w hw az ao bz bo 1 i hi⟩) fun i hi => ⟨key 0 (.inl rfl) i hi, key 1 (.inr rfl) i hi⟩
end
theorem Rf.refl (z o : BitVec 64) : Rf z o z o := ⟨fun _ h => h, fun _ h => h⟩
theorem mono_dec {yes no yes' no' : Bool} (h1 : yes = true → yes' = true) (h2 : no = true → no' = true) (h3 : yes' = true → no' = true → False) : Rf (dZ yes no) (dO yes) (dZ yes' no') (dO yes') := by
  cases yes with
  | true =>
    rw [h1 rfl]
    exact Rf.refl _ _
  | false =>
    cases no with
    | true =>
      have e2 := h2 rfl
      cases e1 : yes' with
      | true => exact (h3 e1 e2).elim
      | false =>
        rw [e2]
        exact Rf.refl _ _
    | false => exact Rf.zero _ _
theorem most_mono {w : Nat} (hw : w ≤ 64) {z o z' o' : BitVec 64} (R : Rf z o z' o') : (M w &&& ~~~ z').toNat ≤ (M w &&& ~~~ z).toNat := BitVec.le_def.1 (sub_le (by
  apply BitVec.eq_of_getLsbD_eq
  intro i hi
  have h := R.zer i
  rw [BitVec.getLsbD_and, BitVec.getLsbD_and, BitVec.getLsbD_and, BitVec.getLsbD_not, BitVec.getLsbD_not, decide_eq_true hi]
  revert h
  cases z.getLsbD i <;> cases z'.getLsbD i <;> cases (M (w : Int)).getLsbD i <;> decide))
theorem least_mono {z o z' o' : BitVec 64} (R : Rf z o z' o') : o.toNat ≤ o'.toNat := BitVec.le_def.1 (sub_le (by
  apply BitVec.eq_of_getLsbD_eq
  intro i hi
  have h := R.one i
  rw [BitVec.getLsbD_and]
  revert h
  cases o.getLsbD i <;> cases o'.getLsbD i <;> decide))
theorem flz_mono {w : Nat} {z o z' o' : BitVec 64} (R : Rf z o z' o') : Rf (flz w z o) (flz w o z) (flz w z' o') (flz w o' z') := Rf.of fun i hi => by
  have h1 := R.zer i
  have h2 := R.one i
  unfold flz
  rw [BitVec.getLsbD_or, BitVec.getLsbD_or, BitVec.getLsbD_or, BitVec.getLsbD_or, BitVec.getLsbD_and, BitVec.getLsbD_and, BitVec.getLsbD_and, BitVec.getLsbD_and, BitVec.getLsbD_and, BitVec.getLsbD_and, BitVec.getLsbD_and, BitVec.getLsbD_and, BitVec.getLsbD_not, decide_eq_true hi]
  revert h1 h2
  cases z.getLsbD i <;> cases o.getLsbD i <;> cases z'.getLsbD i <;> cases o'.getLsbD i <;> cases (sgn w).getLsbD i <;> decide
theorem in_self {w : Nat} {z o : BitVec 64} (V : Vd2 w z o) : In w z o o := ⟨fun i h => by
  have := and_zero_bit V.dis i
  rw [h, Bool.true_and] at this
  exact this, fun _ h => h, fun i hi => (V.inM i hi).2⟩
theorem and_mono0 {x y x' y' : BitVec 64} (hx : ∀ i, x.getLsbD i = true → x'.getLsbD i = true) (hy : ∀ i, y.getLsbD i = true → y'.getLsbD i = true) (h : (!(x &&& y == 0#64)) = true) : (!(x' &&& y' == 0#64)) = true := by
  cases e : (x' &&& y' == 0#64) with
  | false => rfl
  | true =>
    have e := beq_iff_eq.1 e
    have : x &&& y = 0#64 := BitVec.eq_of_getLsbD_eq fun i hi => by
      have h1 := hx i
      have h2 := hy i
      have h3 := and_zero_bit e i
      rw [BitVec.getLsbD_and, BitVec.getLsbD_zero]
      revert h1 h2 h3
      cases x.getLsbD i <;> cases y.getLsbD i <;> cases x'.getLsbD i <;> cases y'.getLsbD i <;> decide
    rw [this] at h
    exact absurd h (by decide)
section
variable {w : Nat} (hw1 : 1 ≤ w) (hw : w ≤ 64) {az ao bz bo az' ao' bz' bo' : BitVec 64} (A : Vd2 w az ao) (B : Vd2 w bz bo) (A' : Vd2 w az' ao') (B' : Vd2 w bz' bo') (RA : Rf az ao az' ao') (RB : Rf bz bo bz' bo')
 include RA RB
theorem differ_mono (h : (!(ao &&& bz == 0#64) || !(az &&& bo == 0#64)) = true) : (!(ao' &&& bz' == 0#64) || !(az' &&& bo' == 0#64)) = true := by
  rw [Bool.or_eq_true] at h ⊢
  exact h.imp (and_mono0 RA.one RB.zer) (and_mono0 RA.zer RB.one)
 include hw1 hw A B A' B'
theorem mono_cmp (op : Int) (ho : 15 ≤ op ∧ op ≤ 20) : Rf (dZ (cY op w az ao bz bo) (cN op w az ao bz bo)) (dO (cY op w az ao bz bo)) (dZ (cY op w az' ao' bz' bo') (cN op w az' ao' bz' bo')) (dO (cY op w az' ao' bz' bo')) := by
  have dd := cmp_dec hw1 hw A' B' (in_self A') (in_self B') op ho
  have h3 : cY op w az' ao' bz' bo' = true → cN op w az' ao' bz' bo' = true → False := fun h1 h2 => by
    have := dd.1 h1
    rw [dd.2 h2] at this
    cases this
  have u1 := most_mono hw RA
  have u2 := most_mono hw RB
  have l1 := least_mono RA
  have l2 := least_mono RB
  have v1 := most_mono hw (flz_mono (w := w) RA)
  have v2 := most_mono hw (flz_mono (w := w) RB)
  have m1 := least_mono (flz_mono (w := w) RA)
  have m2 := least_mono (flz_mono (w := w) RB)
  obtain ⟨c1, c2⟩ := rsg_cmp w hw1 hw (shi' w az ao) (slo w bz bo) (shi_in w hw1 hw az ao A) (slo_in w hw1 hw bz bo B)
  obtain ⟨d1, d2⟩ := rsg_cmp w hw1 hw (shi' w bz bo) (slo w az ao) (shi_in w hw1 hw bz bo B) (slo_in w hw1 hw az ao A)
  rw [shi_flip w hw1 hw az ao A, slo_flip w hw1 hw bz bo B] at c1 c2
  rw [shi_flip w hw1 hw bz bo B, slo_flip w hw1 hw az ao A] at d1 d2
  obtain ⟨c1', c2'⟩ := rsg_cmp w hw1 hw (shi' w az' ao') (slo w bz' bo') (shi_in w hw1 hw az' ao' A') (slo_in w hw1 hw bz' bo' B')
  obtain ⟨d1', d2'⟩ := rsg_cmp w hw1 hw (shi' w bz' bo') (slo w az' ao') (shi_in w hw1 hw bz' bo' B') (slo_in w hw1 hw az' ao' A')
  rw [shi_flip w hw1 hw az' ao' A', slo_flip w hw1 hw bz' bo' B'] at c1' c2'
  rw [shi_flip w hw1 hw bz' bo' B', slo_flip w hw1 hw az' ao' A'] at d1' d2'
  have cases6 : op = 15 ∨ op = 16 ∨ op = 17 ∨ op = 18 ∨ op = 19 ∨ op = 20 := by omega
  rcases cases6 with rfl | rfl | rfl | rfl | rfl | rfl
  · exact mono_dec (fun h => absurd (show false = true from h) Bool.false_ne_true) (fun h => differ_mono RA RB h) h3
  · exact mono_dec (fun h => differ_mono RA RB h) (fun h => absurd (show false = true from h) Bool.false_ne_true) h3
  · refine mono_dec (fun h => ?_) (fun h => ?_) h3
    · have h : M w &&& ~~~az < bo := of_decide_eq_true h
      exact decide_eq_true (show M w &&& ~~~az' < bo' by rw [BitVec.lt_def] at *; omega)
    · have h : M w &&& ~~~bz ≤ ao := of_decide_eq_true h
      exact decide_eq_true (show M w &&& ~~~bz' ≤ ao' by rw [BitVec.le_def] at *; omega)
  · refine mono_dec (fun h => ?_) (fun h => ?_) h3
    · have h : M w &&& ~~~az ≤ bo := of_decide_eq_true h
      exact decide_eq_true (show M w &&& ~~~az' ≤ bo' by rw [BitVec.le_def] at *; omega)
    · have h : M w &&& ~~~bz < ao := of_decide_eq_true h
      exact decide_eq_true (show M w &&& ~~~bz' < ao' by rw [BitVec.lt_def] at *; omega)
  · refine mono_dec (fun h => ?_) (fun h => ?_) h3
    · have h : (rsg w (shi' w az ao)).slt (rsg w (slo w bz bo)) = true := h
      show (rsg w (shi' w az' ao')).slt (rsg w (slo w bz' bo')) = true
      rw [c1, decide_eq_true_iff, BitVec.lt_def] at h
      rw [c1', decide_eq_true_iff, BitVec.lt_def]
      omega
    · have h : (rsg w (shi' w bz bo)).sle (rsg w (slo w az ao)) = true := h
      show (rsg w (shi' w bz' bo')).sle (rsg w (slo w az' ao')) = true
      rw [d2, decide_eq_true_iff, BitVec.le_def] at h
      rw [d2', decide_eq_true_iff, BitVec.le_def]
      omega
  · refine mono_dec (fun h => ?_) (fun h => ?_) h3
    · have h : (rsg w (shi' w az ao)).sle (rsg w (slo w bz bo)) = true := h
      show (rsg w (shi' w az' ao')).sle (rsg w (slo w bz' bo')) = true
      rw [c2, decide_eq_true_iff, BitVec.le_def] at h
      rw [c2', decide_eq_true_iff, BitVec.le_def]
      omega
    · have h : (rsg w (shi' w bz bo)).slt (rsg w (slo w az ao)) = true := h
      show (rsg w (shi' w bz' bo')).slt (rsg w (slo w az' ao')) = true
      rw [d1, decide_eq_true_iff, BitVec.lt_def] at h
      rw [d1', decide_eq_true_iff, BitVec.lt_def]
      omega
end
theorem mono_bits {w : Nat} {az ao bz bo az' ao' bz' bo' : BitVec 64} (RA : Rf az ao az' ao') (RB : Rf bz bo bz' bo') :
    Rf (az ||| bz) (ao &&& bo) (az' ||| bz') (ao' &&& bo') ∧ Rf (az &&& bz) (ao ||| bo) (az' &&& bz') (ao' ||| bo') ∧ Rf ((az &&& bz) ||| (ao &&& bo)) ((az &&& bo) ||| (ao &&& bz)) ((az' &&& bz') ||| (ao' &&& bo')) ((az' &&& bo') ||| (ao' &&& bz')) := by
  refine ⟨Rf.of fun i hi => ?_, Rf.of fun i hi => ?_, Rf.of fun i hi => ?_⟩ <;>
  · have h1 := RA.zer i
    have h2 := RA.one i
    have h3 := RB.zer i
    have h4 := RB.one i
    simp only [BitVec.getLsbD_or, BitVec.getLsbD_and]
    revert h1 h2 h3 h4
    cases az.getLsbD i <;> cases ao.getLsbD i <;> cases bz.getLsbD i <;> cases bo.getLsbD i <;> cases az'.getLsbD i <;> cases ao'.getLsbD i <;> cases bz'.getLsbD i <;> cases bo'.getLsbD i <;> decide
theorem mono_sel {w : Nat} {az ao bz bo cz co az' ao' bz' bo' cz' co' : BitVec 64} (A' : Vd2 1 az' ao') (RA : Rf az ao az' ao') (RB : Rf bz bo bz' bo') (RC : Rf cz co cz' co') :
    Rf (if exB 1 az ao then (if ao = 1#64 then (bz, bo) else (cz, co)) else (bz &&& cz, bo &&& co)).1 (if exB 1 az ao then (if ao = 1#64 then (bz, bo) else (cz, co)) else (bz &&& cz, bo &&& co)).2
      (if exB 1 az' ao' then (if ao' = 1#64 then (bz', bo') else (cz', co')) else (bz' &&& cz', bo' &&& co')).1 (if exB 1 az' ao' then (if ao' = 1#64 then (bz', bo') else (cz', co')) else (bz' &&& cz', bo' &&& co')).2 := by
  cases he : exB 1 az ao with
  | true =>
    obtain ⟨e1, e2⟩ := exact_ref (w := 1) (by omega) he A' RA
    rw [e1, e2, he]
    simp only [if_true]
    split
    · exact RB
    · exact RC
  | false =>
    simp only [Bool.false_eq_true, if_false]
    have l : ∀ {x y : BitVec 64} {i : Nat}, (x &&& y).getLsbD i = true → x.getLsbD i = true ∧ y.getLsbD i = true := fun {x y i} h => by
      rw [BitVec.getLsbD_and, Bool.and_eq_true] at h
      exact h
    split
    · split
      · exact ⟨fun i h => RB.zer i (l h).1, fun i h => RB.one i (l h).1⟩
      · exact ⟨fun i h => RC.zer i (l h).2, fun i h => RC.one i (l h).2⟩
    · refine ⟨fun i h => ?_, fun i h => ?_⟩
      · show (bz' &&& cz').getLsbD i = true
        rw [BitVec.getLsbD_and, RB.zer i (l h).1, RC.zer i (l h).2]
        rfl
      · show (bo' &&& co').getLsbD i = true
        rw [BitVec.getLsbD_and, RB.one i (l h).1, RC.one i (l h).2]
        rfl
theorem mono_ext {w w0 : Nat} (hw : w ≤ 64) (hw0 : 1 ≤ w0) {az ao az' ao' : BitVec 64} (A : Vd2 w0 az ao) (A' : Vd2 w0 az' ao') (RA : Rf az ao az' ao') :
    (∀ x, Rf (az ||| x) (ao ||| 0#64) (az' ||| x) (ao' ||| 0#64)) ∧ Rf (az ||| bvN (hiF w0 (kn az ao (w0 - 1)) 0) w) (ao ||| bvN (hiF w0 (kn az ao (w0 - 1)) 1) w) (az' ||| bvN (hiF w0 (kn az' ao' (w0 - 1)) 0) w) (ao' ||| bvN (hiF w0 (kn az' ao' (w0 - 1)) 1) w) ∧
    ∀ x, Rf (az &&& x) (ao &&& x) (az' &&& x) (ao' &&& x) := by
  have or1 : ∀ {x y x' y' : BitVec 64}, (∀ i, x.getLsbD i = true → x'.getLsbD i = true) → (∀ i, y.getLsbD i = true → y'.getLsbD i = true) → ∀ i, (x ||| y).getLsbD i = true → (x' ||| y').getLsbD i = true := fun {x y x' y'} h1 h2 i h => by
    rw [BitVec.getLsbD_or, Bool.or_eq_true] at *
    exact h.imp (h1 i) (h2 i)
  have and1 : ∀ {x y x' : BitVec 64}, (∀ i, x.getLsbD i = true → x'.getLsbD i = true) → ∀ i, (x &&& y).getLsbD i = true → (x' &&& y).getLsbD i = true := fun {x y x'} h1 i h => by
    rw [BitVec.getLsbD_and, Bool.and_eq_true] at *
    exact ⟨h1 i h.1, h.2⟩
  have hf : ∀ v, v = 0 ∨ v = 1 → ∀ i, (bvN (hiF w0 (kn az ao (w0 - 1)) v) w).getLsbD i = true → (bvN (hiF w0 (kn az' ao' (w0 - 1)) v) w).getLsbD i = true := fun v hv i h => by
    rw [bvN_bit _ w hw] at *
    unfold hiF at *
    rw [knv A.dis hv] at h
    rw [knv A'.dis hv]
    rw [Bool.and_eq_true, Bool.and_eq_true] at *
    exact ⟨h.1, h.2.1, bt_mono RA v _ h.2.2⟩
  exact ⟨fun x => ⟨or1 RA.zer fun _ h => h, or1 RA.one fun _ h => h⟩, ⟨or1 RA.zer (hf 0 (.inl rfl)), or1 RA.one (hf 1 (.inr rfl))⟩, fun x => ⟨and1 RA.zer, and1 RA.one⟩⟩
theorem mono_two (op : Int) (ho : 2 ≤ op ∧ op ≤ 20) {w w0 : Nat} (h1 : 1 ≤ w) (hw : w ≤ 64) (h01 : 1 ≤ w0) (hw0 : w0 ≤ 64) (hs : op ≤ 14 → w0 = w) {az ao bz bo az' ao' bz' bo' : BitVec 64} (cz co cz' co' : BitVec 64) (A : Vd2 w0 az ao) (B : Vd2 w0 bz bo) (A' : Vd2 w0 az' ao') (B' : Vd2 w0 bz' bo')
    (RA : Rf az ao az' ao') (RB : Rf bz bo bz' bo') : Rf (apR op w w0 az ao bz bo cz co).1 (apR op w w0 az ao bz bo cz co).2 (apR op w w0 az' ao' bz' bo' cz' co').1 (apR op w w0 az' ao' bz' bo' cz' co').2 := by
  by_cases h14 : op ≤ 14
  · obtain rfl := hs h14
    have bits := mono_bits (w := w0) RA RB
    have c13 : op = 2 ∨ op = 3 ∨ op = 4 ∨ op = 5 ∨ op = 6 ∨ (op = 7 ∨ op = 8) ∨ op = 9 ∨ op = 10 ∨ op = 11 ∨ (op = 12 ∨ op = 13 ∨ op = 14) := by omega
    rcases c13 with rfl | rfl | rfl | rfl | rfl | c | rfl | rfl | rfl | c
    · exact mono_add hw ⟨.inr (.inl rfl), .inr rfl⟩ fun i => ⟨kn_mono RA A'.dis i, kn_mono RB B'.dis i⟩
    · exact mono_add hw ⟨.inr (.inr rfl), .inr rfl⟩ fun i => ⟨kn_mono RA A'.dis i, kn_mono ⟨RB.one, RB.zer⟩ ((BitVec.and_comm ..).trans B'.dis) i⟩
    · have := mono_mul hw A' B' RA RB
      rw [(pr_eq w0 hw az ao bz bo A.dis B.dis).1, (pr_eq w0 hw az ao bz bo A.dis B.dis).2, (pr_eq w0 hw az' ao' bz' bo' A'.dis B'.dis).1, (pr_eq w0 hw az' ao' bz' bo' A'.dis B'.dis).2] at this
      exact this
    · show Rf (if bo = 0#64 then 0#64 else bvN (zrf w0 0 (rld w0 az ao 0)) w0) 0#64 (if bo' = 0#64 then 0#64 else bvN (zrf w0 0 (rld w0 az' ao' 0)) w0) 0#64
      rw [rld_0 A.dis w0 hw, rld_0 A'.dis w0 hw, ← hi_zrf w0 _ hw (ld_le w0 hw az), ← hi_zrf w0 _ hw (ld_le w0 hw az')]
      by_cases hb : bo = 0#64
      · rw [if_pos hb]
        exact Rf.zero _ _
      · have hb' : bo' ≠ 0#64 := fun e => hb (BitVec.eq_of_getLsbD_eq fun i hi => by
          rw [BitVec.getLsbD_zero]
          cases h : bo.getLsbD i with
          | false => rfl
          | true =>
            have := RB.one i h
            rw [e, BitVec.getLsbD_zero] at this
            cases this)
        rw [if_neg hb, if_neg hb']
        exact ⟨fun i h => hi_mono hw (ld_mono hw RA.zer) i h, fun _ h => h⟩
    · have := mono_rem hw B' RA RB
      rw [(rm_eq w0 h1 hw az ao bz bo A.dis).1, (rm_eq w0 h1 hw az ao bz bo A.dis).2, (rm_eq w0 h1 hw az' ao' bz' bo' A'.dis).1, (rm_eq w0 h1 hw az' ao' bz' bo' A'.dis).2] at this
      exact this
    · rcases c with rfl | rfl
      · exact Rf.zero _ _
      · exact Rf.zero _ _
    · exact bits.1
    · exact bits.2.1
    · exact bits.2.2
    · have := mono_shift h1 hw A A' B' RA RB op c
      rcases c with rfl | rfl | rfl
      · exact this
      · exact this
      · exact this
  · have := mono_cmp h01 hw0 A B A' B' RA RB op (by omega)
    have c6 : op = 15 ∨ op = 16 ∨ op = 17 ∨ op = 18 ∨ op = 19 ∨ op = 20 := by omega
    rcases c6 with rfl | rfl | rfl | rfl | rfl | rfl
    · exact this
    · exact this
    · exact this
    · exact this
    · exact this
    · exact this
end Go.Proofs.YtiadfnedbbkojaaDoor.Kb
namespace Go.Proofs.YtiadfnedbbkojaaDoor.Kb
open Go Go.Proofs Go.Proofs.YtiadfnedbbkojaaDoor.X Go.Proofs.YtiadfnedbbkojaaDoor.Bv
set_option linter.unusedSimpArgs false
set_option linter.unusedVariables false
/-- The operands know more, one by one. -/
def AllRf : List Int → List El → List El → Prop
  | x :: L, e :: E, e' :: E' => (valB x e'.1 e'.2 = true ∧ Rf e.1 e.2 e'.1 e'.2) ∧ AllRf L E E'
  | [], [], [] => True
  | _, _, _ => False
theorem AllRf.len : ∀ {L : List Int} {E E' : List El}, AllRf L E E' → L.length = E'.length
  | [], [], [], _ => rfl
  | x :: L, e :: E, e' :: E', ⟨_, h⟩ => congrArg Nat.succ h.len
  | [], _ :: _, _, h => by cases h
  | _ :: _, [], _, h => by cases h
  | [], [], _ :: _, h => by cases h
  | _ :: _, _ :: _, [], h => by cases h
theorem AllRf.val : ∀ {L : List Int} {E E' : List El}, AllRf L E E' → (L.zip E').all Opd.v = true
  | [], [], [], _ => rfl
  | x :: L, e :: E, e' :: E', ⟨h1, h⟩ => by
    show (valB x e'.1 e'.2 && (L.zip E').all Opd.v) = true
    rw [h1.1, h.val]
    rfl
  | [], _ :: _, _, h => by cases h
  | _ :: _, [], _, h => by cases h
  | [], [], _ :: _, h => by cases h
  | _ :: _, _ :: _, [], h => by cases h
theorem valB_nat {x : Int} {z o : BitVec 64} (h : valB x z o = true) : ∃ v : Nat, x = v ∧ 1 ≤ v ∧ v ≤ 64 := by
  have hg : goodB x = true := by
    unfold valB at h
    rw [Bool.and_eq_true] at h
    exact h.1
  have := goodB_iff.1 hg
  exact ⟨x.toNat, by omega, by omega, by omega⟩
theorem AllRf.exact : ∀ {L : List Int} {E E' : List El}, AllRf L E E' → (L.zip E).all Opd.e = true → (L.zip E').all Opd.e = true
  | [], [], [], _, _ => rfl
  | x :: L, e :: E, e' :: E', ⟨h1, h⟩, he => by
    have he : (exB x e.1 e.2 && (L.zip E).all Opd.e) = true := he
    rw [Bool.and_eq_true] at he
    show (exB x e'.1 e'.2 && (L.zip E').all Opd.e) = true
    obtain ⟨v, rfl, _, hv⟩ := valB_nat h1.1
    have V := vd2_of h1.1
    rw [Int.toNat_natCast] at V
    obtain ⟨e1, e2⟩ := exact_ref hv he.1 V h1.2
    rw [e1, e2, he.1, h.exact he.2]
    rfl
  | [], _ :: _, _, h, _ => by cases h
  | _ :: _, [], _, h, _ => by cases h
  | [], [], _ :: _, h, _ => by cases h
  | _ :: _, _ :: _, [], h, _ => by cases h
/-- The ones of the second operands lie in the first. -/
theorem AllRf.ones : ∀ {L : List Int} {E E' : List El}, AllRf L E E' → AllIn L E ((L.zip E').map Opd.o)
  | [], [], [], _ => trivial
  | x :: L, e :: E, e' :: E', ⟨h1, h⟩ => by
    refine ⟨?_, h.ones⟩
    have V := vd2_of h1.1
    have I := in_self V
    exact ⟨fun i hi => I.zer i (h1.2.zer i hi), fun i hi => I.one i (h1.2.one i hi), I.out⟩
  | [], _ :: _, _, h => by cases h
  | _ :: _, [], _, h => by cases h
  | [], [], _ :: _, h => by cases h
  | _ :: _, _ :: _, [], h => by cases h
theorem apO_mono {op w : Int} {L : List Int} {E E' : List El} (F : Fit op w L E) (hx : (L.zip E).all Opd.e = false) (R : AllRf L E E') : Rf (apO apR op w L E).1 (apO apR op w L E).2 (apO apR op w L E').1 (apO apR op w L E').2 := by
  obtain ⟨⟨hw1, hw64⟩, hc⟩ := F.cases
  unfold apO
  rcases hc with ⟨rfl, rfl, rfl⟩ | ⟨ho, rfl, ea, eb, rfl, va, vb⟩ | ⟨ho, ew, x, ea, eb, rfl, hx1, rfl, va, vb⟩ | ⟨rfl, rfl, ea, eb, ec, rfl, va, vb, vc⟩ | ⟨ho, x, ea, hxw, hx1, rfl, rfl, va⟩ | ⟨rfl, x, ea, hxw, hx1, rfl, rfl, va⟩
  · cases hx
  · match E', R with
    | [a', b'], ⟨⟨v1, r1⟩, ⟨v2, r2⟩, _⟩ => exact mono_two op (by omega) (by omega) (by omega) (by show 1 ≤ w.toNat; omega) (by show w.toNat ≤ 64; omega) (fun _ => rfl) _ _ _ _ (vd2_of va) (vd2_of vb) (vd2_of v1) (vd2_of v2) r1 r2
  · match E', R with
    | [a', b'], ⟨⟨v1, r1⟩, ⟨v2, r2⟩, _⟩ => exact mono_two op (by omega) (by omega) (by omega) (by show 1 ≤ x.toNat; omega) (by show x.toNat ≤ 64; omega) (fun h => by omega) _ _ _ _ (vd2_of va) (vd2_of vb) (vd2_of v1) (vd2_of v2) r1 r2
  · match E', R with
    | [a', b', c'], ⟨⟨v1, r1⟩, ⟨v2, r2⟩, ⟨v3, r3⟩, _⟩ => exact mono_sel (w := w.toNat) (vd2_of v1) r1 r2 r3
  · match E', R with
    | [a'], ⟨⟨v1, r1⟩, _⟩ =>
      have m := mono_ext (w := w.toNat) (w0 := x.toNat) (by omega) (by omega) (vd2_of va) (vd2_of v1) r1
      rcases ho with rfl | rfl
      · exact m.1 _
      · exact m.2.1
  · match E', R with
    | [a'], ⟨⟨v1, r1⟩, _⟩ =>
      have m := mono_ext (w := w.toNat) (w0 := x.toNat) (by omega) (by omega) (vd2_of va) (vd2_of v1) r1
      exact m.2.2 _
/-- There is a heap in which two rows lie. -/
theorem two_rows (L : List Int) (X : List (BitVec 64)) : ∃ (g : AH) (wa na : Option Addr), WF g ∧ Sl g wa (L.map fun n => .int .i64 n) ∧ Sl g na (row1 X) := by
  obtain ⟨K, S⟩ := newRo_kp hTab_wf (L.map fun n => .int .i64 n) 1
  obtain ⟨K2, S2⟩ := newRo_kp K.wf (row1 X) 1
  exact ⟨_, _, _, K2.wf, S.kp K.wf K2, S2⟩
theorem mono_run (N : Nat) (hN : 151 ≤ N) (op w : Int) (num : BitVec 64) (L : List Int) (E E' : List El) (hL : L.length ≤ 20) (F : Fit op w L E) (R : AllRf L E E') : ∃ e e' : El,
    (∀ (h : AH) (wa ea : Option Addr) (wn wc en ec : Nat), CaseAt h wa wn ea en L E → runS Tryd.prog N 10 [.int .i64 op, .int .i64 w, .slice wa wn wc, .slice ea en ec, .int .u64 (U num)] h = some (.agg #[.int .u64 (U e.1), .int .u64 (U e.2)], h)) ∧
    (∀ (h : AH) (wa ea : Option Addr) (wn wc en ec : Nat), CaseAt h wa wn ea en L E' → runS Tryd.prog N 10 [.int .i64 op, .int .i64 w, .slice wa wn wc, .slice ea en ec, .int .u64 (U num)] h = some (.agg #[.int .u64 (U e'.1), .int .u64 (U e'.2)], h)) ∧ Rf e.1 e.2 e'.1 e'.2 := by
  have F' : Fit op w L E' := ⟨F.shp, R.len, R.val⟩
  have hE : E.length ≤ 20 := by rw [← F.len]; exact hL
  have hE' : E'.length ≤ 20 := by rw [← F'.len]; exact hL
  obtain ⟨hw1, hw64⟩ := F.cases.1
  cases hx' : (L.zip E').all Opd.e with
  | true =>
    obtain ⟨e, eA, eX⟩ := sound_run N hN op w num L E hL F
    obtain ⟨x, S, eV⟩ := eX _ R.ones
    obtain ⟨N, rfl, hN'⟩ : ∃ m, N = m + 1 ∧ 150 ≤ m := ⟨N - 1, by omega, by omega⟩
    have hlen := F'.len
    obtain ⟨V, v1, v2⟩ := ops F'.shp ((L.zip E').map Opd.o) (by rw [List.length_map, List.length_zip]; omega) (zip_vd F'.val) num
    refine ⟨e, (~~~ V &&& M w, V &&& M w), eA, fun h wa ea wn wc en ec C => code_exact N hN' h C.wf op w num L E' hL hE' wa ea wn wc en ec C.sw C.hwn C.se C.hen F' hx' V v1, ?_⟩
    obtain ⟨g, wa, na, G, SW, SA⟩ := two_rows L ((L.zip E').map Opd.o)
    have r1 := eV g wa na L.length L.length ((L.zip E').map Opd.o).length ((L.zip E').map Opd.o).length G SW SA rfl rfl
    obtain ⟨n, hn⟩ : ∃ n, N + 1 = n + 70 := ⟨N + 1 - 70, by omega⟩
    have r2 := v2 n g wa na L.length L.length ((L.zip E').map Opd.o).length ((L.zip E').map Opd.o).length G SW SA rfl rfl
    rw [← hn, r1] at r2
    have hxV : x = V &&& M w := by
      injection r2 with r2
      injection r2 with r2 _
      injection r2 with _ r2
      exact U_inj.1 r2
    obtain ⟨w, rfl⟩ : ∃ v : Nat, w = v := ⟨w.toNat, by omega⟩
    rw [Int.toNat_natCast] at S
    refine Rf.of_w S.vd.inM fun i hi => ⟨fun h => ?_, fun h => ?_⟩
    · have := S.mem.zer i h
      rw [hxV, BitVec.getLsbD_and, M_bit w (by omega), decide_eq_true hi, Bool.and_true] at this
      show (~~~ V &&& M (w : Int)).getLsbD i = true
      rw [BitVec.getLsbD_and, BitVec.getLsbD_not, this, M_bit w (by omega), decide_eq_true hi, decide_eq_true (show i < 64 by omega)]
      rfl
    · have := S.mem.one i h
      rw [hxV] at this
      exact this
  | false =>
    have hx : (L.zip E).all Opd.e = false := by
      cases e : (L.zip E).all Opd.e with
      | false => rfl
      | true =>
        rw [R.exact e] at hx'
        cases hx'
    obtain ⟨N, rfl, hN'⟩ : ∃ m, N = m + 1 ∧ 150 ≤ m := ⟨N - 1, by omega, by omega⟩
    refine ⟨apO apI op w L E, apO apI op w L E', fun h wa ea wn wc en ec C => code_apx N (by omega) h C.wf C.tab op w num L E hL hE wa ea wn wc en ec C.sw C.hwn C.se C.hen F hx,
      fun h wa ea wn wc en ec C => code_apx N (by omega) h C.wf C.tab op w num L E' hL hE' wa ea wn wc en ec C.sw C.hwn C.se C.hen F' hx', ?_⟩
    rw [apO_eq F hx, apO_eq F' hx']
    exact apO_mono F hx R
/-- What the law makes of an operand. -/
def mkO (q : Opd) (p : BitVec 64) : BitVec 64 := (p &&& M q.1) &&& ~~~ (q.2.1 ||| q.2.2)
def rfO (q : Opd) (p : BitVec 64) : El := (q.2.1 ||| (mkO q p &&& 6148914691236517205#64), q.2.2 ||| (mkO q p &&& ~~~ (mkO q p &&& 6148914691236517205#64)))
theorem rfO_ok (q : Opd) (p : BitVec 64) (h : valB q.1 q.2.1 q.2.2 = true) : valB q.1 (rfO q p).1 (rfO q p).2 = true ∧ Rf q.2.1 q.2.2 (rfO q p).1 (rfO q p).2 := by
  have V := vd2_of h
  obtain ⟨x, z, o⟩ := q
  obtain ⟨x, rfl, hx1, hx⟩ := valB_nat h
  rw [Int.toNat_natCast] at V
  have V : Vd2 x z o := V
  have hd := and_zero_bit V.dis
  have bz : ∀ i, i < 64 → (rfO ((x : Int), z, o) p).1.getLsbD i = (z.getLsbD i || ((p.getLsbD i && decide (i < x) && !(z.getLsbD i || o.getLsbD i)) && (6148914691236517205#64).getLsbD i)) := fun i hi => by
    unfold rfO mkO
    rw [BitVec.getLsbD_or, BitVec.getLsbD_and, BitVec.getLsbD_and, BitVec.getLsbD_and, BitVec.getLsbD_not, BitVec.getLsbD_or, M_bit x hx, decide_eq_true hi, Bool.true_and]
  have bo : ∀ i, i < 64 → (rfO ((x : Int), z, o) p).2.getLsbD i = (o.getLsbD i || ((p.getLsbD i && decide (i < x) && !(z.getLsbD i || o.getLsbD i)) && !((p.getLsbD i && decide (i < x) && !(z.getLsbD i || o.getLsbD i)) && (6148914691236517205#64).getLsbD i))) := fun i hi => by
    unfold rfO mkO
    rw [BitVec.getLsbD_or, BitVec.getLsbD_and, BitVec.getLsbD_and, BitVec.getLsbD_and, BitVec.getLsbD_not, BitVec.getLsbD_not, BitVec.getLsbD_or, BitVec.getLsbD_and, BitVec.getLsbD_and, BitVec.getLsbD_and, BitVec.getLsbD_not, BitVec.getLsbD_or, M_bit x hx, decide_eq_true hi, Bool.true_and, Bool.true_and]
  refine ⟨val_of hx1 hx (Vd2.of (fun i hi => ?_) fun i hi => ?_), Rf.of fun i hi => ⟨fun h => ?_, fun h => ?_⟩⟩
  · have hd := hd i
    rw [bz i hi, bo i hi]
    revert hd
    cases z.getLsbD i <;> cases o.getLsbD i <;> cases p.getLsbD i <;> cases decide (i < x) <;> cases (6148914691236517205#64).getLsbD i <;> decide
  · by_cases h64 : i < 64
    · rw [bz i h64, bo i h64, (V.inM i hi).1, (V.inM i hi).2, decide_eq_false (by omega)]
      simp
    · exact ⟨out64 _ h64, out64 _ h64⟩
  · have h : z.getLsbD i = true := h
    rw [bz i hi, h]
    rfl
  · have h : o.getLsbD i = true := h
    rw [bo i hi, h]
    rfl
def rfsO (Z : List Opd) (P : List (BitVec 64)) (i : Nat) : El := rfO (Z.getD i (0, 0#64, 0#64)) (P.getD i 0#64)
theorem rfs_gen (P : List (BitVec 64)) : ∀ (L : List Int) (E : List El) (k : Nat), L.length = E.length → (L.zip E).all Opd.v = true → ∀ f : Nat → El, (∀ i q, (L.zip E)[i]? = some q → f (k + i) = rfO q (P.getD (k + i) 0#64)) → AllRf L E ((List.range E.length).map fun i => f (k + i))
  | [], [], _, _, _, _, _ => trivial
  | x :: L, e :: E, k, hl, hv, f, hf => by
    have hv : (valB x e.1 e.2 && (L.zip E).all Opd.v) = true := hv
    rw [Bool.and_eq_true] at hv
    rw [List.length_cons, List.range_succ_eq_map, List.map_cons, List.map_map]
    refine ⟨?_, ?_⟩
    · rw [hf 0 (x, e) rfl]
      exact rfO_ok (x, e) _ hv.1
    · have := rfs_gen P L E (k + 1) (Nat.succ.inj hl) hv.2 f fun i q hq => by
        have := hf (i + 1) q hq
        rwa [show k + (i + 1) = k + 1 + i by omega] at this
      have e2 : ((fun i => f (k + i)) ∘ Nat.succ) = fun i => f (k + 1 + i) := funext fun i => by
        show f (k + (i + 1)) = f (k + 1 + i)
        rw [show k + (i + 1) = k + 1 + i by omega]
      rw [e2]
      exact this
  | [], _ :: _, _, h, _, _, _ => by cases h
  | _ :: _, [], _, h, _, _, _ => by cases h
def moreO (L : List Int) (E : List El) (P : List (BitVec 64)) : List El := (List.range E.length).map (rfsO (L.zip E) P)
theorem more_rf {op w : Int} {L : List Int} {E : List El} (F : Fit op w L E) (P : List (BitVec 64)) : AllRf L E (moreO L E P) := by
  have := rfs_gen P L E 0 F.len F.val (rfsO (L.zip E) P) fun i q hq => by
    rw [Nat.zero_add]
    unfold rfsO
    rw [List.getD_eq_getElem?_getD, hq]
    rfl
  simp only [Nat.zero_add] at this
  exact this
end Go.Proofs.YtiadfnedbbkojaaDoor.Kb
namespace Go.Proofs.YtiadfnedbbkojaaDoor.Kb
open Go Go.Proofs Go.Proofs.YtiadfnedbbkojaaDoor.X Go.Proofs.YtiadfnedbbkojaaDoor.Bv
set_option linter.unusedSimpArgs false
set_option linter.unusedVariables false
theorem own_loc2 {h : AH} (H : WF h) (cs ds : List Value) : Own (loc h [cs, ds]) (h.next + 1) ds ∧ Kp (loc h [cs]) (loc h [cs, ds]) := by
  obtain ⟨g1, e1, K1, F1, O1, n1⟩ := (Kp.refl (loc_wf H [cs])).new ds 0
  have : loc h [cs, ds] = g1 := by
    have e := hNew_loc h [cs] ds
    rw [e1] at e
    exact (congrArg Prod.snd (Option.some.inj e)).symm
  rw [this]
  exact ⟨O1, K1⟩
theorem putAt3 (a b c : Value) (cs vs : List Value) : putAt (a :: b :: c :: cs) 3 vs = a :: b :: c :: putAt cs 0 vs := rfl
theorem ble45 : Nat.ble 4 5 = true := rfl
theorem mk0 (q : Opd) : mkO q 0#64 = 0#64 := by
  unfold mkO
  rw [BitVec.zero_and, BitVec.zero_and]
section
variable (N : Nat) (hN : 151 ≤ N) (h : AH) (op w : Int) (num : BitVec 64) (wa ea pa : Option Addr) (wn wc en ec pn pc : Nat) (L : List Int) (E : List El) (P : List (BitVec 64))
  (C : CaseAt (loc h [caseC op w (U num) wa ea wn wc en ec]) wa wn ea en L E) (F : Fit op w L E) (hL : L.length ≤ 20) (SP : Sl (loc h [caseC op w (U num) wa ea wn wc en ec]) pa (row1 P)) (hpn : pn = P.length)
  (O : Own (loc h [caseC op w (U num) wa ea wn wc en ec]) h.next (caseC op w (U num) wa ea wn wc en ec))
 include hN C F hL SP hpn O
theorem monoL : ∀ (k i m0 : Nat) (g : AH) (a : Option Addr) (ac G : Nat), k < m0 → i + k = E.length → Kp (loc h [caseC op w (U num) wa ea wn wc en ec]) g → Own g (h.next + 1) (caseC op w (U num) wa a wn wc i ac) →
    Row g a i ac 2 G (prs (pU ((List.range i).map (rfsO (L.zip E) P)))) → h.next + 1 < G → G ≤ g.next →
    c7_0 N m0 h pa pn pc ⟨h.next, 0, none⟩ ⟨h.next + 1, 0, none⟩ ea en ec (Int.ofNat en) i g = some (.bool true, h) := by
  have B := C.wf
  have hlen := F.len
  have hz : (L.zip E).length = E.length := by rw [List.length_zip]; omega
  have hbl : (loc h [caseC op w (U num) wa ea wn wc en ec]).low = h.next := rfl
  have hbn : (loc h [caseC op w (U num) wa ea wn wc en ec]).next = h.next + 1 := rfl
  intro k
  induction k with
  | zero =>
    intro i m0 g a ac G hm hi K D R hG1 hG2
    obtain ⟨m0, rfl⟩ : ∃ g, m0 = g + 1 := ⟨m0 - 1, by omega⟩
    have hen := C.hen
    obtain rfl : i = E.length := by omega
    have Oc := O.kp B K
    have CK := C.kp K
    obtain ⟨e, e', eA, eB, RR⟩ := mono_run N hN op w num L E (moreO L E P) (by omega) F (more_rf F P)
    have CD : CaseAt g wa wn a E.length L (moreO L E P) := ⟨K.wf, CK.tab, CK.sw, CK.hwn, R.sl, by unfold moreO; rw [List.length_map, List.length_range]⟩
    have eB := eB (setLow g g.next) wa a wn wc E.length ac (CD.low _)
    have eA := eA g wa ea wn wc en ec CK
    have hlq : runS Tryd.prog N 22 [.agg #[.int .u64 (U e'.1), .int .u64 (U e'.2)], .agg #[.int .u64 (U e.1), .int .u64 (U e.2)]] g = some (.bool true, g) := by
      obtain ⟨n, rfl⟩ : ∃ n, N = n + 1 := ⟨N - 1, by omega⟩
      have := leq n g K.wf e'.1 e'.2 e.1 e.2
      have z1 : e.1 &&& ~~~ e'.1 = 0#64 := BitVec.eq_of_getLsbD_eq fun i hi => by
        have h1 := RR.zer i
        rw [BitVec.getLsbD_and, BitVec.getLsbD_not, BitVec.getLsbD_zero, decide_eq_true hi]
        revert h1
        cases e.1.getLsbD i <;> cases e'.1.getLsbD i <;> decide
      have z2 : e.2 &&& ~~~ e'.2 = 0#64 := BitVec.eq_of_getLsbD_eq fun i hi => by
        have h1 := RR.one i
        rw [BitVec.getLsbD_and, BitVec.getLsbD_not, BitVec.getLsbD_zero, decide_eq_true hi]
        revert h1
        cases e.2.getLsbD i <;> cases e'.2.getLsbD i <;> decide
      rw [z1, z2] at this
      exact this
    refine c7_0_ok ?_
    rw [c7_0_eq, show iLt (E.length : Int) (Int.ofNat en) = false from iLt_false (by show ((en : Nat) : Int) ≤ _; omega), cond_false]
    simp only [add_lit, D.rd, Nat.zero_add, Nat.add_zero, List.getElem?_cons_zero, List.getElem?_cons_succ, gI_int, gB_bool, bindS, cond_true, cond_false, gL_sl, eB, aggIs2, aggC20, aggC21, setLow_low, Nat.beq_refl, setLow_set, setLow_self, setLow_next]
    simp only [add_lit, Oc.rd, Nat.zero_add, Nat.add_zero, List.getElem?_cons_zero, List.getElem?_cons_succ, gI_int, gB_bool, bindS, cond_true, cond_false, gL_sl, eA, aggIs2, aggC20, aggC21, hlq]
    rw [exit_low (K.low.trans hbl) rfl]
  | succ k ih =>
    intro i m0 g a ac G hm hi K D R hG1 hG2
    obtain ⟨m0, rfl⟩ : ∃ g, m0 = g + 1 := ⟨m0 - 1, by omega⟩
    have hen := C.hen
    have hil : i < (L.zip E).length := by omega
    have hq : (L.zip E)[i]? = some (L.zip E)[i] := List.getElem?_eq_getElem hil
    generalize hqe : (L.zip E)[i] = q at hq
    have hqm : q ∈ L.zip E := List.mem_of_getElem? hq
    have hqw := zip_good F q hqm
    have hE : (pU E)[i]? = some (U q.2.1, U q.2.2) := by
      rw [← zip_els hlen]
      unfold els
      rw [List.getElem?_map, hq]
      rfl
    have hW : L[i]? = some q.1 := (List.getElem?_zip_eq_some.1 hq).1
    have hel : en = (pU E).length := by
      unfold pU
      rw [List.length_map, hen]
    have hlow : (loc h [caseC op w (U num) wa ea wn wc en ec]).low ≤ (loc h [caseC op w (U num) wa ea wn wc en ec]).next := by omega
    have dlt := D.lt K.wf
    obtain ⟨g1, e1, K1, F1, O1, n1⟩ := K.new [.int .u64 0, .int .u64 0] 0
    obtain ⟨g2, e2, K2, F2, O2, n2⟩ := K1.st hlow (o := 0) (vs := [.int .u64 (U q.2.1), .int .u64 (U q.2.2)]) O1 K.nxt (Nat.le_refl _)
    rw [putAt0] at O2
    simp only [List.length_cons, List.length_nil, List.drop_succ_cons, List.drop_nil, List.append_nil] at O2
    have Oc := O.kp B K2
    have Sg := C.se.kp B K
    have Sw := C.sw.kp B K2
    have Sp := SP.kp B K2
    have D2 : Own g2 (h.next + 1) (caseC op w (U num) wa a wn wc i ac) := D.fr (F1.trans F2) fun hx => by
      simp only [List.mem_append, List.mem_singleton, or_self] at hx
      omega
    have R2 : Row g2 a i ac 2 G (prs (pU ((List.range i).map (rfsO (L.zip E) P)))) := by
      rcases R with R | ⟨β, e, r1, r2, r3, r4, r5, r6⟩
      · exact .inl R
      · exact Row.fr (.inr ⟨β, e, r1, r2, r3, r4, r5, r6⟩) (F1.trans F2) (fun hx => by simp only [List.mem_append, List.mem_singleton, or_self] at hx; omega) fun β' e' hx => by
          rw [e] at e'
          injection e' with e'
          injection e' with e'
          simp only [List.mem_append, List.mem_singleton, or_self] at hx
          omega
    have tailR : ∀ p : BitVec 64, p = P.getD i 0#64 → c7_1 N m0 h pa pn pc ⟨h.next, 0, none⟩ ⟨h.next + 1, 0, none⟩ ⟨g.next, 0, none⟩ (U (mkO q p)) ea en ec (Int.ofNat en) i g2 = some (.bool true, h) := fun p hp => by
      have hx : rfsO (L.zip E) P i = rfO q p := by
        unfold rfsO
        rw [List.getD_eq_getElem?_getD, hq, ← hp]
        rfl
      obtain ⟨g3, g4, a', G', e3, e4, R4, K4, hG', hG4, hGa, hGb, F4, _, _⟩ := K2.app (by_ := 16) hlow R2 (by omega) (by omega) (vs := [.int .u64 (U (rfO q p).1), .int .u64 (U (rfO q p).2)]) rfl (by decide) (by omega)
      have hcs : prs (pU ((List.range i).map (rfsO (L.zip E) P))) ++ [.int .u64 (U (rfO q p).1), .int .u64 (U (rfO q p).2)] = prs (pU ((List.range (i + 1)).map (rfsO (L.zip E) P))) := by
        rw [List.range_succ, List.map_append, List.map_singleton, hx]
        unfold pU prs
        rw [List.map_append, List.flatMap_append]
        rfl
      rw [hcs] at R4
      have hGd : h.next + 1 < G' := by
        cases ha : a with
        | none => have := hGb ha; omega
        | some y => rw [hGa (by rw [ha]; exact fun h => by cases h)]; exact hG1
      have D4 : Own g4 (h.next + 1) (caseC op w (U num) wa a wn wc i ac) := D2.fr F4 fun hx => by
        simp only [List.mem_cons, List.not_mem_nil, or_false] at hx
        omega
      obtain ⟨g5, e5, K5, F5, D5, n5⟩ := K4.st hlow (o := 3) (vs := [.slice a' (i + 1) OPEN]) D4 (by omega) (by show 3 + 1 ≤ 5; omega)
      have D5 : Own g5 (h.next + 1) (caseC op w (U num) wa a' wn wc (i + 1) OPEN) := D5
      have R5 : Row g5 a' (i + 1) OPEN 2 G' (prs (pU ((List.range (i + 1)).map (rfsO (L.zip E) P)))) := by
        rcases R4 with R4 | ⟨β, e, r1, r2, r3, r4, r5, r6⟩
        · exact .inl R4
        · exact Row.fr (.inr ⟨β, e, r1, r2, r3, r4, r5, r6⟩) F5 (fun hx => by simp only [List.mem_singleton] at hx; omega) fun β' e' hx => by
            rw [e] at e'
            injection e' with e'
            injection e' with e'
            simp only [List.mem_singleton] at hx
            omega
      have ih := ih (i + 1) m0 g5 a' OPEN G' (by omega) (by omega) K5 D5 R5 hGd (by omega)
      rw [show ((i + 1 : Nat) : Int) = (i : Int) + 1 by omega] at ih
      have e3' : hNew g2 [.int .u64 (U (q.2.1 ||| (mkO q p &&& 6148914691236517205#64))), .int .u64 (U (q.2.2 ||| (mkO q p &&& ~~~ (mkO q p &&& 6148914691236517205#64))))] 2 = some (g2.next, g3) := e3
      refine c7_1_ok ?_
      rw [c7_1_eq, show (6148914691236517205 : Int) = U 6148914691236517205#64 from rfl]
      simp only [add_lit, D2.rd, O2.rd, Nat.zero_add, Nat.add_zero, List.getElem?_cons_zero, List.getElem?_cons_succ, gI_int, gB_bool, bindS, cond_true, cond_false, gL_sl, i_and, i_or, i_xor, i_andNot, i_not, i_add, i_sub, i_mulS, i_neg, i_eq, i_ne', i_lt, i_le, e3', e4, e5]
      rw [iAdd_i64 (by omega) (by omega)]
      exact ih
    obtain ⟨x, hx1⟩ : ∃ x : Nat, q.1 = x := ⟨q.1.toNat, by omega⟩
    have hmk := mkN (show 67 ≤ N by omega) (setLow g2 g2.next) x (by omega)
    by_cases hip : i < P.length
    · have t3 := tailR (P.getD i 0#64) rfl
      have hPi : (wds P)[i]? = some (U (P.getD i 0#64)) := by
        unfold wds
        rw [List.getElem?_map, List.getD_eq_getElem?_getD, List.getElem?_eq_getElem hip]
        rfl
      unfold mkO at t3
      rw [hx1] at t3
      refine c7_0_ok ?_
      rw [c7_0_eq, show iLt (i : Int) (Int.ofNat en) = true from iLt_true (by show (i : Int) < ((en : Nat) : Int); omega), cond_true]
      simp only [Int.toNat_natCast]
      rw [rowp Sg hel i _ hE]
      simp only [e1, bindS, e2]
      rw [show iLt (i : Int) (Int.ofNat pn) = true from iLt_true (by show (i : Int) < ((pn : Nat) : Int); omega), cond_true]
      have Sp' : Sl g2 pa ((wds P).map fun n => .int .u64 n) := Sp
      rw [row_at' Sp' (by rw [hpn, wds_len]) i _ hPi]
      simp only [add_lit, Oc.rd, Nat.zero_add, Nat.add_zero, List.getElem?_cons_zero, List.getElem?_cons_succ, gI_int, gB_bool, bindS, cond_true, cond_false, gL_sl]
      rw [row_at' Sw C.hwn i q.1 hW, hx1]
      simp only [hmk, Nat.zero_add, Nat.add_zero, List.getElem?_cons_zero, List.getElem?_cons_succ, gI_int, gB_bool, bindS, cond_true, cond_false, setLow_low, Nat.beq_refl, setLow_set, setLow_self, setLow_next, add_lit, O2.rd, i_and, i_or, i_xor, i_andNot, i_not, i_add, i_sub, i_mulS, i_neg, i_eq, i_ne', i_lt, i_le]
      exact t3
    · have t3 := tailR 0#64 (by rw [List.getD_eq_getElem?_getD, List.getElem?_eq_none (by omega)]; rfl)
      rw [mk0] at t3
      refine c7_0_ok ?_
      rw [c7_0_eq, show iLt (i : Int) (Int.ofNat en) = true from iLt_true (by show (i : Int) < ((en : Nat) : Int); omega), cond_true]
      simp only [Int.toNat_natCast]
      rw [rowp Sg hel i _ hE]
      simp only [e1, bindS, e2]
      rw [show iLt (i : Int) (Int.ofNat pn) = false from iLt_false (by show ((pn : Nat) : Int) ≤ i; omega), cond_false]
      exact t3
end
theorem law_mono (N : Nat) (hN : 160 ≤ N) (h : AH) (op w : Int) (num : BitVec 64) (wa ea pa : Option Addr) (wn wc en ec pn pc : Nat) (L : List Int) (E : List El) (P : List (BitVec 64)) (C : CaseAt h wa wn ea en L E) (SP : Sl h pa (row1 P)) (hpn : pn = P.length) :
    runS Tryd.prog N 7 [caseV op w (U num) wa ea wn wc en ec, .slice pa pn pc] h = some (.bool true, h) := by
  have H := C.wf
  obtain ⟨m, rfl, hm⟩ : ∃ m, N = m + 1 ∧ 159 ≤ m := ⟨N - 1, by omega, by omega⟩
  have haw : ∀ g, WF g → runS Tryd.prog m 8 [] g = some (.bool true, g) := fun g G => by
    obtain ⟨n, rfl⟩ : ∃ n, m = n + 3 := ⟨m - 3, by omega⟩
    exact awake n g G
  have C1 := C.loc' [caseC op w (U num) wa ea wn wc en ec]
  have hrt := right m (by omega) (loc h [caseC op w (U num) wa ea wn wc en ec]) op w (U num) wa ea wn wc en ec L E C1
  refine t7_ok ?_
  rw [t7]
  simp only [lrd H, lrd0 H, lst H, lst0 H, List.getElem?_cons_zero, List.getElem?_cons_succ, putAt0, putAt1, List.drop_succ_cons, List.drop_zero, List.drop_nil, List.set_cons_zero, List.set_cons_succ, List.append_nil, ble_self, ble12, gI_int, gB_bool, gS_str, gL_sl, gP_ptr, bindS, cond_true, cond_false, low_loc h, setLow_low, setLow_next, setLow_set, setLow_loc, setLow_self, hNew_loc, loc_next, loc_low, Nat.beq_refl, add_lit, List.nil_append, List.cons_append, List.length_cons, List.length_nil, Nat.zero_add, Nat.add_zero, Nat.reduceAdd, haw _ (loc_wf H _), Bool.not_true]
  simp only [lrd H, lrd0 H, lst H, lst0 H, List.getElem?_cons_zero, List.getElem?_cons_succ, putAt0, putAt1, List.drop_succ_cons, List.drop_zero, List.drop_nil, List.set_cons_zero, List.set_cons_succ, List.append_nil, ble_self, ble12, gI_int, gB_bool, gS_str, gL_sl, gP_ptr, bindS, cond_true, cond_false, low_loc h, setLow_low, setLow_next, setLow_set, setLow_loc, setLow_self, hNew_loc, loc_next, loc_low, Nat.beq_refl, add_lit, List.nil_append, List.cons_append, List.length_cons, List.length_nil, Nat.zero_add, Nat.add_zero, Nat.reduceAdd, hrt, add_lit]
  cases hr : rightB op w L E with
  | false => simp only [Bool.not_false, gI_int, gB_bool, gS_str, gL_sl, gP_ptr, bindS, cond_true, cond_false, exitR_bool, exitR_int, exitR_ints, exitR_ii, exitR_ib]
  | true =>
    obtain ⟨F, hL8, hE8⟩ := right_fit hr
    simp only [Bool.not_true, lrd H, lrd0 H, lst H, lst0 H, List.getElem?_cons_zero, List.getElem?_cons_succ, putAt0, putAt1, List.drop_succ_cons, List.drop_zero, List.drop_nil, List.set_cons_zero, List.set_cons_succ, List.append_nil, ble_self, ble12, gI_int, gB_bool, gS_str, gL_sl, gP_ptr, bindS, cond_true, cond_false, low_loc h, setLow_low, setLow_next, setLow_set, setLow_loc, setLow_self, hNew_loc, loc_next, loc_low, Nat.beq_refl, add_lit, List.nil_append, List.cons_append, List.length_cons, List.length_nil, Nat.zero_add, Nat.add_zero, Nat.reduceAdd, add_lit, putAt3, ble45]
    obtain ⟨O2, K2⟩ := own_loc2 H (caseC op w (U num) wa ea wn wc en ec) (caseC op w (U num) wa none wn wc 0 0)
    exact monoL m (by omega) h op w num wa ea pa wn wc en ec pn pc L E P C1 F (by omega) (SP.loc H _) hpn (own_loc H _) E.length 0 m _ none 0 (h.next + 2) (by omega) (by omega) K2 O2 (Row.nil _ _ _) (by omega) (Nat.le_refl _)
theorem pure_mono {H : Type} (ds : List (DataW H)) (hd : AllT (typD Tryd.prog 4) Tryd.f7.params.toList ds) : ∃ avs h1 h2, layArgs Tryd.prog 4 Tryd.f7.params.toList ds hTab = some (avs, h1) ∧ run Tryd.prog 200 7 avs h1 = some (.bool true, h2) := by
  have hd : AllT (typD Tryd.prog 4) [26, 35] ds := hd
  obtain ⟨d1, r1, rfl, t1, d2, r2, rfl, t2, hr⟩ := hd
  have hr : r2 = [] := hr
  subst hr
  obtain ⟨op, w, wa, ea, wn, wc, en, ec, num, L, E, h1, e1, C⟩ := layCase d1 t1
  obtain ⟨pa, pn, pc, ns, h2, e2, K, S, hn, hwf⟩ := layRowI (N := 2) usU ub zU d2 t2 h1 C.wf
  obtain ⟨P, hP⟩ : ∃ P : List (BitVec 64), ns = wds P := by
    clear S e2 hn
    induction ns with
    | nil => exact ⟨[], rfl⟩
    | cons n ns ih =>
      obtain ⟨P, rfl⟩ := ih fun m hm => hwf m (List.mem_cons_of_mem _ hm)
      obtain ⟨x, rfl⟩ := of_wf (hwf n (List.mem_cons_self ..))
      exact ⟨x :: P, rfl⟩
  subst hP
  refine ⟨_, h2, h2, ?_, by rw [← runS_eq]; exact law_mono 200 (by decide) h2 op w num wa ea pa wn wc en ec pn pc L E P (C.kp K) S (by rw [hn, wds_len])⟩
  show layArgs Tryd.prog 4 [26, 35] [d1, d2] hTab = _
  unfold layArgs
  rw [e1, Option.bind_some]
  unfold layArgs
  simp only
  rw [e2]
  rfl
end Go.Proofs.YtiadfnedbbkojaaDoor.Kb
