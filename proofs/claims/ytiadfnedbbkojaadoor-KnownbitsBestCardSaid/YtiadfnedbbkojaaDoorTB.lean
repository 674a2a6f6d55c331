/- Joined texts: TB. -/
import Derived.Test.YtiadfnedbbkojaaDoorTA
import Derived.Test.YtiadfnedbbkojaaDoorSC
namespace Go.Proofs.YtiadfnedbbkojaaDoor.Kb
open Go Go.Proofs Go.Proofs.YtiadfnedbbkojaaDoor.X Go.Proofs.YtiadfnedbbkojaaDoor.Bv
set_option linter.unusedSimpArgs false
set_option linter.unusedVariables false
theorem sgn_bit (w : Nat) (h1 : 1 ≤ w) (hw : w ≤ 64) (i : Nat) : (sgn w).getLsbD i = decide (i = w - 1) := by
  unfold sgn
  rw [BitVec.getLsbD_shiftLeft, BitVec.getLsbD_one]
  by_cases h : i = w - 1
  · subst h
    simp
    omega
  · simp [h]
    omega
theorem and_sgn (w : Nat) (h1 : 1 ≤ w) (hw : w ≤ 64) (x : BitVec 64) : (x &&& sgn w == 0#64) = !x.getLsbD (w - 1) := by
  cases hx : x.getLsbD (w - 1) with
  | true =>
    refine beq_eq_false_iff_ne.2 fun e => ?_
    have : (x &&& sgn w).getLsbD (w - 1) = true := by
      rw [BitVec.getLsbD_and, hx, sgn_bit w h1 hw, decide_eq_true rfl]
      rfl
    rw [e, BitVec.getLsbD_zero] at this
    cases this
  | false =>
    refine beq_iff_eq.2 (BitVec.eq_of_getLsbD_eq fun i hi => ?_)
    rw [BitVec.getLsbD_and, sgn_bit w h1 hw, BitVec.getLsbD_zero]
    by_cases h : i = w - 1
    · rw [h, hx, Bool.false_and]
    · rw [decide_eq_false h, Bool.and_false]
theorem low_dvd (x : BitVec 64) (t : Nat) (h : ∀ j, j < t → x.getLsbD j = false) : ∃ k, x.toNat = 2 ^ t * k := by
  refine ⟨x.toNat / 2 ^ t, ?_⟩
  have : x.toNat % 2 ^ t = 0 := by
    apply Nat.eq_of_testBit_eq
    intro i
    rw [Nat.testBit_mod_two_pow, Nat.zero_testBit]
    by_cases hi : i < t
    · have := h i hi
      rw [BitVec.getLsbD] at this
      rw [this, Bool.and_false]
    · rw [decide_eq_false hi, Bool.false_and]
  have := Nat.div_add_mod x.toNat (2 ^ t)
  omega
theorem mul_low (x y : BitVec 64) (s t : Nat) (hx : ∀ j, j < s → x.getLsbD j = false) (hy : ∀ j, j < t → y.getLsbD j = false) (i : Nat) (hi : i < s + t) : (x * y).getLsbD i = false := by
  by_cases h64 : i < 64
  · obtain ⟨p, hp⟩ := low_dvd x s hx
    obtain ⟨q, hq⟩ := low_dvd y t hy
    rw [BitVec.getLsbD, BitVec.toNat_mul, Nat.testBit_mod_two_pow, hp, hq, show 2 ^ s * p * (2 ^ t * q) = p * q * 2 ^ (s + t) by rw [Nat.pow_add]; simp only [Nat.mul_comm, Nat.mul_left_comm, Nat.mul_assoc]]
    rw [Nat.testBit_mul_two_pow, decide_eq_false (show ¬ s + t ≤ i by omega), Bool.false_and, Bool.and_false]
  · exact BitVec.getLsbD_of_ge _ _ (by omega)
theorem pk_eq (w : Nat) (hw : w ≤ 64) (az ao bz bo : BitVec 64) : rpk w az ao bz bo = pk w az ao bz bo := by
  unfold rpk pk
  rw [rlw_tz _ _ w hw, rlw_tz _ _ w hw]
  omega
theorem pt_eq (w : Nat) (hw : w ≤ 64) (az ao bz bo : BitVec 64) (va : az &&& ao = 0#64) (vb : bz &&& bo = 0#64) : rpt w az ao bz bo = min (tz (~~~ az) + tz (~~~ bz)) w := by
  unfold rpt
  rw [rtl_tz va w hw, rtl_tz vb w hw]
  omega
theorem pr_eq (w : Nat) (hw : w ≤ 64) (az ao bz bo : BitVec 64) (va : az &&& ao = 0#64) (vb : bz &&& bo = 0#64) : prZ w az ao bz bo = rprZ w az ao bz bo ∧ prO w az ao bz bo = rprO w az ao bz bo := by
  have hk := pk_eq w hw az ao bz bo
  have ht := pt_eq w hw az ao bz bo va vb
  have hkw : pk w az ao bz bo ≤ w := by unfold pk; omega
  have hz : pz w az bz = bvN (zrf w (rpt w az ao bz bo) 0) w := by
    unfold pz
    rw [← M_zrf w _ hw (by rw [ht]; omega), ht]
  have hn : rpn w az ao bz bo = pn w az ao bz bo := by
    unfold rpn pn
    rw [hk]
  constructor
  · unfold prZ rprZ
    rw [hz, hn, hk]
    apply BitVec.eq_of_getLsbD_eq
    intro i hi
    rw [BitVec.getLsbD_or, BitVec.getLsbD_or, BitVec.getLsbD_and, BitVec.getLsbD_not, M_bit _ (by omega), bvN_bit _ w hw, bvN_bit _ _ (by omega), decide_eq_true hi, Bool.true_and]
    rw [Bool.or_comm, Bool.and_comm (!_)]
  · unfold prO rprO
    rw [hn, hk, BitVec.zero_or]
    apply BitVec.eq_of_getLsbD_eq
    intro i hi
    rw [BitVec.getLsbD_and, BitVec.getLsbD_and, BitVec.getLsbD_not, M_bit _ (by omega), bvN_bit _ _ (by omega), decide_eq_true hi, Bool.true_and]
    by_cases hp : (pz w az bz).getLsbD i = true
    · have hlow : (pn w az ao bz bo).getLsbD i = false := by
        unfold pz at hp
        rw [M_bit _ (by omega), decide_eq_true_iff] at hp
        unfold pn
        refine mul_low _ _ (tz (~~~ az)) (tz (~~~ bz)) (fun j hj => ?_) (fun j hj => ?_) i (by omega)
        · have h1 := (tz_not az).1 j hj
          have h2 := and_zero_bit va j
          rw [h1, Bool.true_and] at h2
          rw [BitVec.getLsbD_and, h2, Bool.false_and]
        · have h1 := (tz_not bz).1 j hj
          have h2 := and_zero_bit vb j
          rw [h1, Bool.true_and] at h2
          rw [BitVec.getLsbD_and, h2, Bool.false_and]
      rw [hlow, Bool.false_and, Bool.false_and, Bool.and_false]
    · rw [Bool.not_eq_true] at hp
      rw [hp, Bool.not_false, Bool.and_true, Bool.and_comm]
theorem shl1_inj {i j : Nat} (hi : i < 64) (hj : j < 64) (h : 1#64 <<< i = 1#64 <<< j) : i = j := by
  have h1 : (sgn (i + 1)).getLsbD i = true := by rw [sgn_bit _ (by omega) (by omega)]; simp
  have h2 : sgn (i + 1) = sgn (j + 1) := h
  rw [h2, sgn_bit _ (by omega) (by omega), decide_eq_true_iff] at h1
  omega
theorem rrL_no (w : Nat) (az ao bz bo : BitVec 64) (v : Int) (x : BitVec 64) : ∀ n, (∀ k, k < n → ¬ (exB w bz bo = true ∧ bo = 1#64 <<< k)) → rrL w az ao bz bo v x n = x
  | 0, _ => rfl
  | n + 1, h => by
    show rrF w az ao bz bo v n (rrL w az ao bz bo v x n) = x
    unfold rrF
    rw [if_neg (h n (by omega)), rrL_no w az ao bz bo v x n fun k hk => h k (by omega)]
theorem rrL_yes (w : Nat) (az ao bz bo : BitVec 64) (v : Int) (x : BitVec 64) (k : Nat) (hk : k < 64) (he : exB w bz bo = true) (hb : bo = 1#64 <<< k) : ∀ n, n ≤ 64 → k < n →
    rrL w az ao bz bo v x n = (if v = 0 then bvN (zrf w 0 (w - k)) w else 0#64) ||| bvN (fun i => iEq (kn az ao i) v) k
  | 0, _, h => by omega
  | n + 1, hn, h => by
    show rrF w az ao bz bo v n (rrL w az ao bz bo v x n) = _
    unfold rrF
    by_cases hkn : k = n
    · rw [if_pos ⟨he, by rw [hb, hkn]⟩, hkn]
    · rw [if_neg (fun hh => hkn (shl1_inj hk (by omega) (hb.symm.trans hh.2))), rrL_yes w az ao bz bo v x k hk he hb n (by omega) (by omega)]
theorem pow_sub1 (k : Nat) (hk : k < 64) : 1#64 <<< k - 1#64 = M k := by
  unfold M
  rw [if_neg (by omega), Int.toNat_natCast]
theorem rm_eq (w : Nat) (h1 : 1 ≤ w) (hw : w ≤ 64) (az ao bz bo : BitVec 64) (va : az &&& ao = 0#64) : rmZ pcI w az bz bo = rrV w az ao bz bo 0 ∧ rmO pcI w ao bz bo = rrV w az ao bz bo 1 := by
  have hld := ld_le w hw az
  have hzz : hi w (ld w az) = bvN (zrf w 0 (rld w az ao 0)) w := by rw [rld_0 va w hw]; exact hi_zrf w _ hw hld
  unfold rmZ rmO rrV
  rw [if_pos rfl, if_neg (by omega)]
  by_cases hc : exB w bz bo = true ∧ pcI bo = 1
  · obtain ⟨he, hp⟩ := hc
    obtain ⟨k, hk, hb⟩ := (pc_one bo).1 hp
    have hkw : k < w := by
      unfold exB at he
      rw [Bool.and_eq_true] at he
      obtain ⟨_, V⟩ := valB_iff hw he.1
      apply Decidable.byContradiction
      intro hn
      have := (V.inM k (by omega)).2
      rw [hb, show 1#64 <<< k = sgn (k + 1) from rfl, sgn_bit _ (by omega) (by omega)] at this
      simp at this
    rw [he, decide_eq_true hp, Bool.and_true, cond_true, cond_true, rrL_yes w az ao bz bo 0 _ k hk he hb w hw hkw, rrL_yes w az ao bz bo 1 _ k hk he hb w hw hkw, if_pos rfl, if_neg (by omega), hb, pow_sub1 k hk, BitVec.zero_or]
    constructor
    · apply BitVec.eq_of_getLsbD_eq
      intro i hi'
      rw [BitVec.getLsbD_or, BitVec.getLsbD_or, BitVec.getLsbD_or, BitVec.getLsbD_and, BitVec.getLsbD_and, BitVec.getLsbD_not, hi_bit w _ hw, M_bit w hw, M_bit k (by omega), bvN_bit _ w hw, bvN_bit _ k (by omega), kn0 va]
      unfold zrf
      by_cases hik : i < k
      · rw [decide_eq_true hik, decide_eq_true (show i < w by omega), decide_eq_false (show ¬ w ≤ i + (w - k) by omega), decide_eq_false (Nat.not_lt_zero i)]
        by_cases hz : az.getLsbD i = true
        · rw [hz]
          simp
        · have hlo : ¬ (w - ld w az ≤ i) := fun hh => hz (by
            have := (ld_spec w hw az).1 (w - 1 - i) (by omega)
            rwa [show w - 1 - (w - 1 - i) = i by omega] at this)
          rw [Bool.not_eq_true] at hz
          rw [hz, decide_eq_false hlo]
          simp
      · rw [decide_eq_false hik, decide_eq_true hi']
        by_cases hiw : i < w
        · rw [decide_eq_true hiw, decide_eq_true (show w ≤ i + (w - k) by omega)]
          simp
        · rw [decide_eq_false hiw]
          simp
    · apply BitVec.eq_of_getLsbD_eq
      intro i hi'
      rw [BitVec.getLsbD_and, M_bit k (by omega), bvN_bit _ k (by omega), kn1, Bool.and_comm]
  · have hf : (exB w bz bo && decide (pcI bo = 1)) = false := by
      cases h1 : exB w bz bo with
      | false => rfl
      | true => rw [decide_eq_false fun h2 => hc ⟨h1, h2⟩]; rfl
    have hno : ∀ k, k < w → ¬ (exB w bz bo = true ∧ bo = 1#64 <<< k) := fun k hk hh => hc ⟨hh.1, (pc_one bo).2 ⟨k, by omega, hh.2⟩⟩
    rw [hf, cond_false, cond_false, rrL_no w az ao bz bo 0 _ w hno, rrL_no w az ao bz bo 1 _ w hno]
    exact ⟨hzz, rfl⟩
end Go.Proofs.YtiadfnedbbkojaaDoor.Kb
namespace Go.Proofs.YtiadfnedbbkojaaDoor.Kb
open Go Go.Proofs Go.Proofs.YtiadfnedbbkojaaDoor.X Go.Proofs.YtiadfnedbbkojaaDoor.Bv
set_option linter.unusedSimpArgs false
set_option linter.unusedVariables false
/-- A bit of a known one: of the zeros (v = 0) or the ones (v = 1). -/
def bt (v : Int) (z o : BitVec 64) (i : Nat) : Bool := if v = 0 then z.getLsbD i else o.getLsbD i
theorem knv {z o : BitVec 64} (h : z &&& o = 0#64) {v : Int} (hv : v = 0 ∨ v = 1) (i : Nat) : iEq (kn z o i) v = bt v z o i := by
  unfold bt
  rcases hv with rfl | rfl
  · rw [if_pos rfl, kn0 h]
  · rw [if_neg (by omega), kn1]
section
variable (w : Nat) (h1 : 1 ≤ w) (hw : w ≤ 64) (az ao bz bo : BitVec 64) (A : Vd2 w az ao)
 include h1 hw A
theorem shv_left (b : Nat) (hb : b ≤ w) (v : Int) (hv : v = 0 ∨ v = 1) (i : Nat) (hi : i < w) : iEq (shv w az ao (-(b : Int)) 0 i) v = if i < b then iEq 0 v else bt v az ao (i - b) := by
  have _ := h1
  have _ := hw
  unfold shv
  by_cases h : i < b
  · rw [if_pos h, iLe_false (show ((i : Int) + -(b : Int)) < 0 by omega), cond_false]
  · rw [if_neg h, iLe_true (show 0 ≤ ((i : Int) + -(b : Int)) by omega), cond_true, iLt_true (by omega), cond_true, show ((i : Int) + -(b : Int)).toNat = i - b by omega, knv A.dis hv]
theorem shv_right (b : Nat) (hb : b ≤ w) (f : Int) (v : Int) (hv : v = 0 ∨ v = 1) (i : Nat) (hi : i < w) : iEq (shv w az ao (b : Int) f i) v = if i + b < w then bt v az ao (i + b) else iEq f v := by
  unfold shv
  rw [iLe_true (show 0 ≤ ((i : Int) + (b : Int)) by omega), cond_true]
  by_cases h : i + b < w
  · rw [if_pos h, iLt_true (by omega), cond_true, show ((i : Int) + (b : Int)).toNat = i + b by omega, knv A.dis hv]
  · rw [if_neg h, iLt_false (by omega), cond_false]
theorem sh_eq12 (he : exB w bz bo = true) : shIZ 12 w az bo.toNat = rgV 12 w az ao bz bo 0 ∧ shIO 12 w ao bo.toNat = rgV 12 w az ao bz bo 1 := by
  have ha := amt_le w bo
  unfold shIZ shIO rgV
  simp only [he, show ¬ ((12 : Int) = 14) by decide, if_true, if_false]
  generalize hb : bo.toNat = b
  have ham : amt w bo = if b < w then b else w := by unfold amt; rw [hb]
  constructor
  · apply BitVec.eq_of_getLsbD_eq
    intro i hi
    rw [bvN_bit _ w hw]
    by_cases hiw : i < w
    · rw [decide_eq_true hiw, Bool.true_and, shv_left w h1 hw az ao A _ ha 0 (.inl rfl) i hiw]
      by_cases hbw : w ≤ b
      · rw [if_pos hbw, M_bit w hw, decide_eq_true hiw, show amt w bo = w by rw [ham, if_neg (by omega)], if_pos hiw]
        rfl
      · rw [if_neg hbw, show amt w bo = b by rw [ham, if_pos (by omega)], BitVec.getLsbD_and, BitVec.getLsbD_or, M_bit w hw, M_bit b (by omega), decide_eq_true hiw, Bool.and_true, BitVec.getLsbD_shiftLeft, decide_eq_true hi, Bool.true_and]
        by_cases hib : i < b
        · rw [if_pos hib, decide_eq_true hib, Bool.or_true]
          rfl
        · rw [if_neg hib, decide_eq_false hib, Bool.or_false, Bool.not_false, Bool.true_and]
          rfl
    · rw [decide_eq_false hiw, Bool.false_and]
      split
      · rw [M_bit w hw, decide_eq_false hiw]
      · rw [BitVec.getLsbD_and, M_bit w hw, decide_eq_false hiw, Bool.and_false]
  · apply BitVec.eq_of_getLsbD_eq
    intro i hi
    rw [bvN_bit _ w hw]
    by_cases hiw : i < w
    · rw [decide_eq_true hiw, Bool.true_and, shv_left w h1 hw az ao A _ ha 1 (.inr rfl) i hiw]
      by_cases hbw : w ≤ b
      · rw [if_pos hbw, BitVec.getLsbD_zero, show amt w bo = w by rw [ham, if_neg (by omega)], if_pos hiw]
        rfl
      · rw [if_neg hbw, show amt w bo = b by rw [ham, if_pos (by omega)], BitVec.getLsbD_and, M_bit w hw, decide_eq_true hiw, Bool.and_true, BitVec.getLsbD_shiftLeft, decide_eq_true hi, Bool.true_and]
        by_cases hib : i < b
        · rw [if_pos hib, decide_eq_true hib]
          rfl
        · rw [if_neg hib, decide_eq_false hib, Bool.not_false, Bool.true_and]
          rfl
    · rw [decide_eq_false hiw, Bool.false_and]
      split
      · rw [BitVec.getLsbD_zero]
      · rw [BitVec.getLsbD_and, M_bit w hw, decide_eq_false hiw, Bool.and_false]
theorem sh_eq13 (he : exB w bz bo = true) : shIZ 13 w az bo.toNat = rgV 13 w az ao bz bo 0 ∧ shIO 13 w ao bo.toNat = rgV 13 w az ao bz bo 1 := by
  have ha := amt_le w bo
  unfold shIZ shIO rgV
  simp only [he, show ¬ ((13 : Int) = 14) by decide, show ¬ ((13 : Int) = 12) by decide, if_true, if_false]
  generalize hb : bo.toNat = b
  have ham : amt w bo = if b < w then b else w := by unfold amt; rw [hb]
  constructor
  · apply BitVec.eq_of_getLsbD_eq
    intro i hi
    rw [bvN_bit _ w hw]
    by_cases hiw : i < w
    · rw [decide_eq_true hiw, Bool.true_and, shv_right w h1 hw az ao A _ ha 0 0 (.inl rfl) i hiw]
      by_cases hbw : w ≤ b
      · rw [if_pos hbw, M_bit w hw, decide_eq_true hiw, show amt w bo = w by rw [ham, if_neg (by omega)], if_neg (by omega)]
        rfl
      · rw [if_neg hbw, show amt w bo = b by rw [ham, if_pos (by omega)], BitVec.getLsbD_or, hi_bit w b hw, decide_eq_true hiw, Bool.true_and, BitVec.getLsbD_ushiftRight]
        by_cases hib : i + b < w
        · rw [if_pos hib, decide_eq_false (by omega), Bool.or_false, Nat.add_comm]
          rfl
        · rw [if_neg hib, decide_eq_true (by omega), Bool.or_true]
          rfl
    · rw [decide_eq_false hiw, Bool.false_and]
      split
      · rw [M_bit w hw, decide_eq_false hiw]
      · rw [BitVec.getLsbD_or, hi_bit w b hw, decide_eq_false hiw, Bool.false_and, Bool.or_false, BitVec.getLsbD_ushiftRight, (A.inM _ (by omega)).1]
  · apply BitVec.eq_of_getLsbD_eq
    intro i hi
    rw [bvN_bit _ w hw]
    by_cases hiw : i < w
    · rw [decide_eq_true hiw, Bool.true_and, shv_right w h1 hw az ao A _ ha 0 1 (.inr rfl) i hiw]
      by_cases hbw : w ≤ b
      · rw [if_pos hbw, BitVec.getLsbD_zero, show amt w bo = w by rw [ham, if_neg (by omega)], if_neg (by omega)]
        rfl
      · rw [if_neg hbw, show amt w bo = b by rw [ham, if_pos (by omega)], BitVec.getLsbD_ushiftRight]
        by_cases hib : i + b < w
        · rw [if_pos hib, Nat.add_comm]
          rfl
        · rw [if_neg hib, (A.inM _ (by omega)).2]
          rfl
    · rw [decide_eq_false hiw, Bool.false_and]
      split
      · rw [BitVec.getLsbD_zero]
      · rw [BitVec.getLsbD_ushiftRight, (A.inM _ (by omega)).2]
theorem orHi_bit (s : Nat) (hs : s ≤ w) (a x : BitVec 64) (i : Nat) : (orHi w s (1#64 <<< (w - 1)) a x).getLsbD i = (x.getLsbD i || (a.getLsbD (w - 1) && (decide (i < w) && decide (w - s ≤ i)))) := by
  have _ := A
  unfold orHi
  rw [show (1#64 <<< (w - 1)) = sgn w from rfl, and_sgn w h1 hw, Bool.not_not]
  cases a.getLsbD (w - 1) with
  | true => rw [cond_true, BitVec.getLsbD_or, hi_bit w s hw, Bool.true_and]
  | false => rw [cond_false, Bool.false_and, Bool.or_false]
theorem sh_eq14 (he : exB w bz bo = true) : shIZ 14 w az bo.toNat = rgV 14 w az ao bz bo 0 ∧ shIO 14 w ao bo.toNat = rgV 14 w az ao bz bo 1 := by
  have ha := amt_le w bo
  unfold shIZ shIO rgV
  simp only [he, show ¬ ((14 : Int) = 13) by decide, show ¬ ((14 : Int) = 12) by decide, if_true, if_false]
  generalize hb : bo.toNat = b
  have ham : amt w bo = if b < w then b else w := by unfold amt; rw [hb]
  constructor
  · apply BitVec.eq_of_getLsbD_eq
    intro i hi
    rw [bvN_bit _ w hw, orHi_bit w h1 hw az ao A _ (by omega), BitVec.getLsbD_ushiftRight]
    by_cases hiw : i < w
    · rw [decide_eq_true hiw, Bool.true_and, Bool.true_and, shv_right w h1 hw az ao A _ ha _ 0 (.inl rfl) i hiw, kn0 A.dis]
      by_cases hbw : b < w
      · rw [show amt w bo = b by rw [ham, if_pos hbw], show min b (w - 1) = b by omega]
        by_cases hib : i + b < w
        · rw [if_pos hib, decide_eq_false (by omega), Bool.and_false, Bool.or_false, Nat.add_comm]
          rfl
        · rw [if_neg hib, decide_eq_true (by omega), Bool.and_true, (A.inM _ (by omega)).1, Bool.false_or]
      · rw [show amt w bo = w by rw [ham, if_neg hbw], show min b (w - 1) = w - 1 by omega, if_neg (by omega)]
        by_cases hi0 : i = 0
        · subst hi0
          rw [Nat.add_zero]
          cases az.getLsbD (w - 1) <;> rfl
        · rw [(A.inM _ (show w ≤ w - 1 + i by omega)).1, Bool.false_or, decide_eq_true (by omega), Bool.and_true]
    · rw [decide_eq_false hiw, Bool.false_and, Bool.false_and, Bool.and_false, Bool.or_false, (A.inM _ (by omega)).1]
  · apply BitVec.eq_of_getLsbD_eq
    intro i hi
    rw [bvN_bit _ w hw, orHi_bit w h1 hw az ao A _ (by omega), BitVec.getLsbD_ushiftRight]
    by_cases hiw : i < w
    · rw [decide_eq_true hiw, Bool.true_and, Bool.true_and, shv_right w h1 hw az ao A _ ha _ 1 (.inr rfl) i hiw, kn1]
      by_cases hbw : b < w
      · rw [show amt w bo = b by rw [ham, if_pos hbw], show min b (w - 1) = b by omega]
        by_cases hib : i + b < w
        · rw [if_pos hib, decide_eq_false (by omega), Bool.and_false, Bool.or_false, Nat.add_comm]
          rfl
        · rw [if_neg hib, decide_eq_true (by omega), Bool.and_true, (A.inM _ (by omega)).2, Bool.false_or]
      · rw [show amt w bo = w by rw [ham, if_neg hbw], show min b (w - 1) = w - 1 by omega, if_neg (by omega)]
        by_cases hi0 : i = 0
        · subst hi0
          rw [Nat.add_zero]
          cases ao.getLsbD (w - 1) <;> rfl
        · rw [(A.inM _ (show w ≤ w - 1 + i by omega)).2, Bool.false_or, decide_eq_true (by omega), Bool.and_true]
    · rw [decide_eq_false hiw, Bool.false_and, Bool.false_and, Bool.and_false, Bool.or_false, (A.inM _ (by omega)).2]
theorem ld_zero (k : BitVec 64) (h : k.getLsbD (w - 1) = false) : ld w k = 0 := by
  have _ := h1
  have _ := A
  rcases Nat.eq_zero_or_pos (ld w k) with e | e
  · exact e
  · have := (ld_spec w hw k).1 0 e
    rw [Nat.sub_zero, h] at this
    cases this
theorem hi_0 : hi w 0 = 0#64 := by
  have _ := A
  apply BitVec.eq_of_getLsbD_eq
  intro i hi'
  rw [hi_bit w 0 hw, BitVec.getLsbD_zero]
  by_cases h : i < w
  · rw [decide_eq_false (show ¬ w - 0 ≤ i by omega), Bool.and_false]
  · rw [decide_eq_false h, Bool.false_and]
theorem hi_hiF (m : Nat) (s v : Int) (h : iEq s v = true) : hi w m = bvN (hiF (w - m) s v) w := by
  have _ := h1
  have _ := A
  apply BitVec.eq_of_getLsbD_eq
  intro i hi'
  rw [hi_bit w m hw, bvN_bit _ w hw]
  unfold hiF
  rw [h, Bool.and_true]
theorem hiF_no (m : Nat) (s v : Int) (h : iEq s v = false) : bvN (hiF m s v) w = 0#64 := by
  have _ := h1
  have _ := hw
  have _ := A
  exact bvN_zero _ _ fun j _ => by
    unfold hiF
    rw [h, Bool.and_false]
theorem vg_eq (op : Int) (ho : op = 12 ∨ op = 13 ∨ op = 14) (he : exB w bz bo = false) :
    (if op = 12 then M ((min (tz (~~~ az)) w : Nat)) else hi w (ld w az)) = rgV op w az ao bz bo 0 ∧ (if op = 12 then 0#64 else if op = 13 then 0#64 else hi w (ld w ao)) = rgV op w az ao bz bo 1 := by
  have hz := ld_le w hw az
  have ho' := ld_le w hw ao
  unfold rgV
  rcases ho with rfl | rfl | rfl
  · simp only [he, Bool.false_eq_true, show ¬ ((1 : Int) = 0) by decide, if_true, if_false, rtl_tz A.dis w hw]
    exact ⟨M_zrf w _ hw (by omega), trivial⟩
  · simp only [he, Bool.false_eq_true, show ¬ ((1 : Int) = 0) by decide, show ¬ ((13 : Int) = 12) by decide, if_true, if_false, rld_0 A.dis w hw]
    exact ⟨hi_zrf w _ hw hz, trivial⟩
  · simp only [he, Bool.false_eq_true, show ¬ ((14 : Int) = 12) by decide, show ¬ ((14 : Int) = 13) by decide, if_true, if_false]
    have hd := and_zero_bit A.dis (w - 1)
    cases e1 : ao.getLsbD (w - 1) with
    | true =>
      rw [e1, Bool.and_true] at hd
      have k1 : kn az ao (w - 1) = 1 := by unfold kn; rw [e1]; rfl
      simp only [k1, show ¬ ((1 : Int) < 0) by decide, if_false]
      rw [rld_1 az ao w hw, ld_zero w h1 hw az ao A az hd, hi_0 w h1 hw az ao A, hiF_no w h1 hw az ao A _ 1 0 rfl]
      exact ⟨rfl, hi_hiF w h1 hw az ao A _ 1 1 rfl⟩
    | false =>
      rw [ld_zero w h1 hw az ao A ao e1, hi_0 w h1 hw az ao A]
      cases e2 : az.getLsbD (w - 1) with
      | true =>
        have k1 : kn az ao (w - 1) = 0 := by unfold kn; rw [e1, e2]; rfl
        simp only [k1, show ¬ ((0 : Int) < 0) by decide, if_false]
        rw [rld_0 A.dis w hw, hiF_no w h1 hw az ao A _ 0 1 rfl]
        exact ⟨hi_hiF w h1 hw az ao A _ 0 0 rfl, rfl⟩
      | false =>
        have k1 : kn az ao (w - 1) = -1 := by unfold kn; rw [e1, e2]; rfl
        simp only [k1, show ((-1 : Int) < 0) by decide, if_true]
        rw [ld_zero w h1 hw az ao A az e2, hi_0 w h1 hw az ao A]
        exact ⟨rfl, trivial⟩
theorem sh_eq (op : Int) (ho : op = 12 ∨ op = 13 ∨ op = 14) : (if exB w bz bo then (shIZ op w az bo.toNat, shIO op w ao bo.toNat)
     else (if op = 12 then M ((min (tz (~~~ az)) w : Nat)) else hi w (ld w az), if op = 12 then 0#64 else if op = 13 then 0#64 else hi w (ld w ao))) = (rgV op w az ao bz bo 0, rgV op w az ao bz bo 1) := by
  cases he : exB w bz bo with
  | true =>
    rw [if_pos rfl]
    rcases ho with rfl | rfl | rfl
    · rw [(sh_eq12 w h1 hw az ao bz bo A he).1, (sh_eq12 w h1 hw az ao bz bo A he).2]
    · rw [(sh_eq13 w h1 hw az ao bz bo A he).1, (sh_eq13 w h1 hw az ao bz bo A he).2]
    · rw [(sh_eq14 w h1 hw az ao bz bo A he).1, (sh_eq14 w h1 hw az ao bz bo A he).2]
  | false =>
    rw [if_neg (by decide), (vg_eq w h1 hw az ao bz bo A op ho he).1, (vg_eq w h1 hw az ao bz bo A op ho he).2]
end
end Go.Proofs.YtiadfnedbbkojaaDoor.Kb
namespace Go.Proofs.YtiadfnedbbkojaaDoor.Kb
open Go Go.Proofs Go.Proofs.YtiadfnedbbkojaaDoor.X Go.Proofs.YtiadfnedbbkojaaDoor.Bv
set_option linter.unusedSimpArgs false
set_option linter.unusedVariables false
theorem sub_le {x y : BitVec 64} (h : x &&& y = x) : x ≤ y := by
  rw [BitVec.le_def]
  have := congrArg BitVec.toNat h
  rw [BitVec.toNat_and] at this
  have := @Nat.and_le_right x.toNat y.toNat
  omega
theorem one_le_most (w : Nat) (hw : w ≤ 64) (z o : BitVec 64) (A : Vd2 w z o) : o ≤ M w &&& ~~~ z := sub_le (by
  apply BitVec.eq_of_getLsbD_eq
  intro i hi
  rw [BitVec.getLsbD_and, BitVec.getLsbD_and, BitVec.getLsbD_not, M_bit w hw, decide_eq_true hi]
  have hd := and_zero_bit A.dis i
  by_cases h : i < w
  · rw [decide_eq_true h]
    revert hd
    cases z.getLsbD i <;> cases o.getLsbD i <;> decide
  · rw [(A.inM i (by omega)).2, Bool.false_and])
/-- Least and most, strictly or not: what the code says is what the reference says. -/
theorem less_eq (ml bl mb al : BitVec 64) (h1 : al ≤ ml) (h2 : bl ≤ mb) :
    (b1 (cond (decide (mb < al)) true (cond (!false) (al == mb) false)) = dZ (decide (ml < bl)) (decide (mb ≤ al)) ∧ b1 (cond (decide (ml < bl)) true (cond false (ml == bl) false)) = dO (decide (ml < bl))) ∧
    (b1 (cond (decide (mb < al)) true (cond (!true) (al == mb) false)) = dZ (decide (ml ≤ bl)) (decide (mb < al)) ∧ b1 (cond (decide (ml < bl)) true (cond true (ml == bl) false)) = dO (decide (ml ≤ bl))) := by
  rw [BitVec.le_def] at h1 h2
  have e1 : (al == mb) = decide (al.toNat = mb.toNat) := by rw [beqB]; exact decide_eq_decide.2 BitVec.toNat_inj.symm
  have e2 : (ml == bl) = decide (ml.toNat = bl.toNat) := by rw [beqB]; exact decide_eq_decide.2 BitVec.toNat_inj.symm
  rw [e1, e2]
  simp only [BitVec.lt_def, BitVec.le_def]
  generalize ml.toNat = a at *
  generalize bl.toNat = b at *
  generalize mb.toNat = c at *
  generalize al.toNat = d at *
  unfold dZ dO b1
  rcases Nat.lt_trichotomy a b with h | h | h
  · rw [decide_eq_true h, decide_eq_true (show a ≤ b by omega), decide_eq_false (show ¬ c < d by omega), decide_eq_false (show ¬ c ≤ d by omega), decide_eq_false (show ¬ d = c by omega), decide_eq_false (show ¬ a = b by omega)]
    decide
  · rw [decide_eq_false (show ¬ a < b by omega), decide_eq_true (show a ≤ b by omega), decide_eq_false (show ¬ c < d by omega), decide_eq_true h]
    by_cases hc : c ≤ d
    · rw [decide_eq_true hc, decide_eq_true (show d = c by omega)]
      decide
    · rw [decide_eq_false hc, decide_eq_false (show ¬ d = c by omega)]
      decide
  · rw [decide_eq_false (show ¬ a < b by omega), decide_eq_false (show ¬ a ≤ b by omega), decide_eq_false (show ¬ a = b by omega)]
    rcases Nat.lt_trichotomy c d with g | g | g
    · rw [decide_eq_true g, decide_eq_true (show c ≤ d by omega), decide_eq_false (show ¬ d = c by omega)]
      decide
    · rw [decide_eq_false (show ¬ c < d by omega), decide_eq_true (show c ≤ d by omega), decide_eq_true (show d = c by omega)]
      decide
    · rw [decide_eq_false (show ¬ c < d by omega), decide_eq_false (show ¬ c ≤ d by omega), decide_eq_false (show ¬ d = c by omega)]
      decide
theorem bits_lt (w : Nat) (hw : w ≤ 64) (x : BitVec 64) (h : ∀ i, w ≤ i → x.getLsbD i = false) : x.toNat < 2 ^ w := by
  rcases Nat.lt_or_ge x.toNat (2 ^ w) with h1 | h1
  · exact h1
  · obtain ⟨i, hi, hb⟩ := Nat.exists_ge_and_testBit_of_ge_two_pow h1
    have := h i hi
    rw [BitVec.getLsbD, hb] at this
    cases this
theorem pow2 (w : Nat) (h1 : 1 ≤ w) : 2 ^ w = 2 * 2 ^ (w - 1) := by
  rw [Nat.mul_comm, ← Nat.pow_succ]
  congr 1
  omega
theorem top_ge (w : Nat) (h1 : 1 ≤ w) (x : BitVec 64) (h : x.getLsbD (w - 1) = true) : 2 ^ (w - 1) ≤ x.toNat := Nat.ge_two_pow_of_testBit h
theorem top_lt (w : Nat) (h1 : 1 ≤ w) (hw : w ≤ 64) (x : BitVec 64) (hx : ∀ i, w ≤ i → x.getLsbD i = false) (h : x.getLsbD (w - 1) = false) : x.toNat < 2 ^ (w - 1) := bits_lt (w - 1) (by omega) x fun i hi => by
  by_cases e : i = w - 1
  · rw [e]
    exact h
  · exact hx i (by omega)
theorem rsg_int (w : Nat) (h1 : 1 ≤ w) (hw : w ≤ 64) (x : BitVec 64) (hx : ∀ i, w ≤ i → x.getLsbD i = false) : (rsg w x).toInt = (x.toNat : Int) - (if x.getLsbD (w - 1) then (2 : Int) ^ w else 0) := by
  have hlt := bits_lt w hw x hx
  have hp := pow2 w h1
  have hle : 2 ^ w ≤ 2 ^ 64 := Nat.pow_le_pow_right (by omega) hw
  have cst : ((2 ^ w : Nat) : Int) = (2 : Int) ^ w := by norm_cast
  unfold rsg
  cases h : x.getLsbD (w - 1) with
  | true =>
    have hge := top_ge w h1 x h
    rw [cond_true, if_pos rfl]
    have hdis : x &&& ~~~ M w = 0#64 := by
      apply BitVec.eq_of_getLsbD_eq
      intro i hi
      rw [BitVec.getLsbD_and, BitVec.getLsbD_not, M_bit w hw, BitVec.getLsbD_zero, decide_eq_true hi]
      by_cases hiw : i < w
      · rw [decide_eq_true hiw]
        simp
      · rw [hx i (by omega), Bool.false_and]
    have hnot : (~~~ M (w : Int)).toNat = 2 ^ 64 - 2 ^ w := by
      rw [BitVec.toNat_not, M_nat w hw]
      omega
    have hadd : (x ||| ~~~ M (w : Int)).toNat = x.toNat + (2 ^ 64 - 2 ^ w) := by
      rw [← BitVec.add_eq_or_of_and_eq_zero _ _ hdis, BitVec.toNat_add, hnot, Nat.mod_eq_of_lt (by omega)]
    rw [BitVec.toInt_eq_toNat_cond, hadd]
    have h64 : 2 ^ w ≤ 2 ^ 63 ∨ w = 64 := by
      rcases Nat.lt_or_ge w 64 with g | g
      · exact .inl (Nat.pow_le_pow_right (by omega) (by omega))
      · exact .inr (by omega)
    rw [if_neg (by
      rcases h64 with g | g
      · omega
      · subst g
        have : (2 : Nat) ^ (64 - 1) = 9223372036854775808 := rfl
        omega)]
    omega
  | false =>
    have hl := top_lt w h1 hw x hx h
    rw [cond_false, if_neg (by decide), BitVec.toInt_eq_toNat_cond]
    have : 2 ^ (w - 1) ≤ 2 ^ 63 := Nat.pow_le_pow_right (by omega) (by omega)
    rw [if_pos (by omega)]
    omega
theorem flip_nat (w : Nat) (h1 : 1 ≤ w) (hw : w ≤ 64) (x : BitVec 64) (hx : ∀ i, w ≤ i → x.getLsbD i = false) : ((x ^^^ sgn w).toNat : Int) = (rsg w x).toInt + ((2 ^ (w - 1) : Nat) : Int) := by
  rw [rsg_int w h1 hw x hx]
  have hp := pow2 w h1
  have cst : ((2 ^ w : Nat) : Int) = (2 : Int) ^ w := by norm_cast
  have hs : (sgn w).toNat = 2 ^ (w - 1) := by
    unfold sgn
    rw [BitVec.toNat_shiftLeft, Nat.shiftLeft_eq, show (1#64).toNat = 1 from rfl, Nat.one_mul, Nat.mod_eq_of_lt (Nat.pow_lt_pow_right (by omega) (by omega))]
  cases h : x.getLsbD (w - 1) with
  | true =>
    have hge := top_ge w h1 x h
    have e : x = (x ^^^ sgn w) + sgn w := by
      rw [BitVec.add_eq_or_of_and_eq_zero]
      · apply BitVec.eq_of_getLsbD_eq
        intro i hi
        rw [BitVec.getLsbD_or, BitVec.getLsbD_xor, sgn_bit w h1 hw]
        by_cases e : i = w - 1
        · rw [e, h]
          simp
        · rw [decide_eq_false e]
          simp
      · apply BitVec.eq_of_getLsbD_eq
        intro i hi
        rw [BitVec.getLsbD_and, BitVec.getLsbD_xor, sgn_bit w h1 hw, BitVec.getLsbD_zero]
        by_cases e : i = w - 1
        · rw [e, h]
          simp
        · rw [decide_eq_false e]
          simp
    have hlt2 : (x ^^^ sgn w).toNat < 2 ^ (w - 1) := bits_lt (w - 1) (by omega) _ fun i hi => by
      rw [BitVec.getLsbD_xor, sgn_bit w h1 hw]
      by_cases e : i = w - 1
      · rw [e, h]
        simp
      · rw [decide_eq_false e, hx i (by omega)]
        rfl
    have h3 := congrArg BitVec.toNat e
    have hle : 2 ^ w ≤ 2 ^ 64 := Nat.pow_le_pow_right (by omega) hw
    rw [BitVec.toNat_add, hs, Nat.mod_eq_of_lt (by omega)] at h3
    rw [if_pos rfl]
    omega
  | false =>
    have hl := top_lt w h1 hw x hx h
    have e : x ^^^ sgn w = x + sgn w := by
      rw [BitVec.add_eq_or_of_and_eq_zero]
      · apply BitVec.eq_of_getLsbD_eq
        intro i hi
        rw [BitVec.getLsbD_or, BitVec.getLsbD_xor, sgn_bit w h1 hw]
        by_cases e : i = w - 1
        · rw [e, h]
          simp
        · rw [decide_eq_false e]
          simp
      · apply BitVec.eq_of_getLsbD_eq
        intro i hi
        rw [BitVec.getLsbD_and, sgn_bit w h1 hw, BitVec.getLsbD_zero]
        by_cases e : i = w - 1
        · rw [e, h]
          simp
        · rw [decide_eq_false e]
          simp
    have hle : 2 ^ w ≤ 2 ^ 64 := Nat.pow_le_pow_right (by omega) hw
    rw [e, BitVec.toNat_add, hs, Nat.mod_eq_of_lt (by omega), if_neg (by decide)]
    omega
theorem rsg_cmp (w : Nat) (h1 : 1 ≤ w) (hw : w ≤ 64) (x y : BitVec 64) (hx : ∀ i, w ≤ i → x.getLsbD i = false) (hy : ∀ i, w ≤ i → y.getLsbD i = false) :
    (rsg w x).slt (rsg w y) = decide (x ^^^ sgn w < y ^^^ sgn w) ∧ (rsg w x).sle (rsg w y) = decide (x ^^^ sgn w ≤ y ^^^ sgn w) := by
  have a := flip_nat w h1 hw x hx
  have b := flip_nat w h1 hw y hy
  constructor
  · rw [BitVec.slt]
    exact decide_eq_decide.2 (by rw [BitVec.lt_def]; omega)
  · rw [BitVec.sle]
    exact decide_eq_decide.2 (by rw [BitVec.le_def]; omega)
section
variable (w : Nat) (h1 : 1 ≤ w) (hw : w ≤ 64) (z o : BitVec 64) (A : Vd2 w z o)
 include h1 hw A
theorem knlt : iLt (kn z o (w - 1)) 0 = (!z.getLsbD (w - 1) && !o.getLsbD (w - 1)) := by
  have _ := h1
  have _ := hw
  have _ := A
  unfold kn
  cases z.getLsbD (w - 1) <;> cases o.getLsbD (w - 1) <;> decide
theorem slo_in (i : Nat) (hi : w ≤ i) : (slo w z o).getLsbD i = false := by
  unfold slo
  cases iLt (kn z o (w - 1)) 0 with
  | true => rw [cond_true, BitVec.getLsbD_or, (A.inM i hi).2, sgn_bit w h1 hw, decide_eq_false (by omega)]; rfl
  | false => rw [cond_false, (A.inM i hi).2]
theorem shi_in (i : Nat) (hi : w ≤ i) : (shi' w z o).getLsbD i = false := by
  have _ := h1
  have _ := A
  unfold shi'
  cases iLt (kn z o (w - 1)) 0 with
  | true => rw [cond_true, BitVec.getLsbD_and, BitVec.getLsbD_and, M_bit w hw, decide_eq_false (by omega), Bool.false_and, Bool.false_and]
  | false => rw [cond_false, BitVec.getLsbD_and, M_bit w hw, decide_eq_false (by omega), Bool.false_and]
theorem slo_flip : slo w z o ^^^ sgn w = flz w o z := by
  have hd := and_zero_bit A.dis (w - 1)
  have hk := knlt w h1 hw z o A
  apply BitVec.eq_of_getLsbD_eq
  intro i hi
  unfold slo flz
  rw [hk, BitVec.getLsbD_xor, BitVec.getLsbD_or, BitVec.getLsbD_and, BitVec.getLsbD_and, BitVec.getLsbD_not, sgn_bit w h1 hw, decide_eq_true hi]
  by_cases e : i = w - 1
  · subst e
    revert hd
    cases hz : z.getLsbD (w - 1) <;> cases ho : o.getLsbD (w - 1) <;> simp [sgn_bit w h1 hw, hz, ho]
  · rw [decide_eq_false e]
    cases z.getLsbD (w - 1) <;> cases o.getLsbD (w - 1) <;> simp [sgn_bit w h1 hw, e]
theorem shi_flip : shi' w z o ^^^ sgn w = M w &&& ~~~ flz w z o := by
  have hd := and_zero_bit A.dis (w - 1)
  have hk := knlt w h1 hw z o A
  apply BitVec.eq_of_getLsbD_eq
  intro i hi
  unfold shi' flz
  rw [hk, BitVec.getLsbD_xor, BitVec.getLsbD_and, BitVec.getLsbD_not, BitVec.getLsbD_or, BitVec.getLsbD_and, BitVec.getLsbD_and, BitVec.getLsbD_not, sgn_bit w h1 hw, M_bit w hw, decide_eq_true hi]
  by_cases e : i = w - 1
  · subst e
    rw [decide_eq_true (show w - 1 < w by omega)]
    revert hd
    cases hz : z.getLsbD (w - 1) <;> cases ho : o.getLsbD (w - 1) <;> simp [sgn_bit w h1 hw, hz, ho, M_bit w hw] <;> omega
  · rw [decide_eq_false e]
    have hs : (sgn w).getLsbD i = false := by rw [sgn_bit w h1 hw, decide_eq_false e]
    have hm : (M (w : Int)).getLsbD i = decide (i < w) := M_bit w hw i
    cases z.getLsbD (w - 1) <;> cases o.getLsbD (w - 1) <;> simp only [Bool.not_true, Bool.not_false, Bool.and_true, Bool.and_false, Bool.true_and, Bool.false_and, cond_true, cond_false, BitVec.getLsbD_and, BitVec.getLsbD_not, hs, hm, decide_eq_true hi, Bool.or_false, Bool.xor_false, Bool.bne_false]
theorem flz_vd : Vd2 w (flz w z o) (flz w o z) := by
  have _ := h1
  have _ := hw
  have hd := and_zero_bit A.dis
  refine ⟨BitVec.eq_of_getLsbD_eq fun i hi => ?_, fun i hi => ?_⟩
  · have hd := hd i
    unfold flz
    rw [BitVec.getLsbD_and, BitVec.getLsbD_or, BitVec.getLsbD_or, BitVec.getLsbD_and, BitVec.getLsbD_and, BitVec.getLsbD_and, BitVec.getLsbD_and, BitVec.getLsbD_not, BitVec.getLsbD_zero, decide_eq_true hi]
    revert hd
    cases z.getLsbD i <;> cases o.getLsbD i <;> cases (sgn w).getLsbD i <;> decide
  · unfold flz
    rw [BitVec.getLsbD_or, BitVec.getLsbD_or, BitVec.getLsbD_and, BitVec.getLsbD_and, BitVec.getLsbD_and, BitVec.getLsbD_and, (A.inM i hi).1, (A.inM i hi).2]
    exact ⟨rfl, rfl⟩
end
end Go.Proofs.YtiadfnedbbkojaaDoor.Kb
namespace Go.Proofs.YtiadfnedbbkojaaDoor.Kb
open Go Go.Proofs Go.Proofs.YtiadfnedbbkojaaDoor.X Go.Proofs.YtiadfnedbbkojaaDoor.Bv
set_option linter.unusedSimpArgs false
set_option linter.unusedVariables false
section
variable (op : Int) (w w0 : Nat) (h1 : 1 ≤ w) (hw : w ≤ 64) (h01 : 1 ≤ w0) (hw0 : w0 ≤ 64) (az ao bz bo cz co : BitVec 64)
theorem eq_cmp (ho : op = 15 ∨ op = 16) : (if (az &&& bo) ||| (ao &&& bz) = 0#64 then (0#64, 0#64) else (~~~ b1 (iEq op 16) &&& M 1, b1 (iEq op 16) &&& M 1)) =
    (dZ (cY op w0 az ao bz bo) (cN op w0 az ao bz bo), dO (cY op w0 az ao bz bo)) := by
  have key : (!(ao &&& bz == 0#64) || !(az &&& bo == 0#64)) = !decide ((az &&& bo) ||| (ao &&& bz) = 0#64) := by
    rw [beqB, beqB]
    by_cases e1 : ao &&& bz = 0#64
    · by_cases e2 : az &&& bo = 0#64
      · rw [e1, e2]
        decide
      · rw [decide_eq_true e1, decide_eq_false e2, decide_eq_false (fun h => e2 (by rw [e1, BitVec.or_zero] at h; exact h))]
        rfl
    · have e3 : ¬ ((az &&& bo) ||| (ao &&& bz) = 0#64) := fun h => e1 (by
        apply BitVec.eq_of_getLsbD_eq
        intro i hi
        have : ((az &&& bo) ||| (ao &&& bz)).getLsbD i = false := by rw [h, BitVec.getLsbD_zero]
        rw [BitVec.getLsbD_or, Bool.or_eq_false_iff] at this
        rw [this.2, BitVec.getLsbD_zero])
      rw [decide_eq_false e1, decide_eq_false e3]
      rfl
  have m1 : M 1 = 1#64 := by decide
  have n1 : ¬ ((16 : Int) = 15) := by decide
  unfold cY cN
  rw [key, m1]
  rcases ho with rfl | rfl
  · by_cases hz : (az &&& bo) ||| (ao &&& bz) = 0#64
    · rw [if_pos hz, decide_eq_true hz]
      rfl
    · rw [if_neg hz, decide_eq_false hz]
      rfl
  · by_cases hz : (az &&& bo) ||| (ao &&& bz) = 0#64
    · rw [if_pos hz, decide_eq_true hz]
      rfl
    · rw [if_neg hz, decide_eq_false hz]
      rfl
 include h01 hw0
theorem lt_cmp (A : Vd2 w0 az ao) (B : Vd2 w0 bz bo) (ho : op = 17 ∨ op = 18) : (b1 (lsZ w0 ao bz (iEq op 18)), b1 (lsO w0 az bo (iEq op 18))) =
    (dZ (cY op w0 az ao bz bo) (cN op w0 az ao bz bo), dO (cY op w0 az ao bz bo)) := by
  have _ := h01
  obtain ⟨⟨p1, p2⟩, q1, q2⟩ := less_eq (M w0 &&& ~~~ az) bo (M w0 &&& ~~~ bz) ao (one_le_most w0 hw0 az ao A) (one_le_most w0 hw0 bz bo B)
  rcases ho with rfl | rfl
  · exact Prod.ext p1 p2
  · exact Prod.ext q1 q2
theorem slt_cmp (A : Vd2 w0 az ao) (B : Vd2 w0 bz bo) (ho : op = 19 ∨ op = 20) : (b1 (lsZ w0 (flz w0 ao az) (flz w0 bz bo) (iEq op 20)), b1 (lsO w0 (flz w0 az ao) (flz w0 bo bz) (iEq op 20))) =
    (dZ (cY op w0 az ao bz bo) (cN op w0 az ao bz bo), dO (cY op w0 az ao bz bo)) := by
  obtain ⟨⟨p1, p2⟩, q1, q2⟩ := less_eq (M w0 &&& ~~~ flz w0 az ao) (flz w0 bo bz) (M w0 &&& ~~~ flz w0 bz bo) (flz w0 ao az) (one_le_most w0 hw0 _ _ (flz_vd w0 h01 hw0 az ao A)) (one_le_most w0 hw0 _ _ (flz_vd w0 h01 hw0 bz bo B))
  obtain ⟨c1, c2⟩ := rsg_cmp w0 h01 hw0 (shi' w0 az ao) (slo w0 bz bo) (shi_in w0 h01 hw0 az ao A) (slo_in w0 h01 hw0 bz bo B)
  obtain ⟨d1, d2⟩ := rsg_cmp w0 h01 hw0 (shi' w0 bz bo) (slo w0 az ao) (shi_in w0 h01 hw0 bz bo B) (slo_in w0 h01 hw0 az ao A)
  rw [shi_flip w0 h01 hw0 az ao A, slo_flip w0 h01 hw0 bz bo B] at c1 c2
  rw [shi_flip w0 h01 hw0 bz bo B, slo_flip w0 h01 hw0 az ao A] at d1 d2
  have e19 : cY 19 w0 az ao bz bo = (rsg w0 (shi' w0 az ao)).slt (rsg w0 (slo w0 bz bo)) ∧ cN 19 w0 az ao bz bo = (rsg w0 (shi' w0 bz bo)).sle (rsg w0 (slo w0 az ao)) := ⟨rfl, rfl⟩
  have e20 : cY 20 w0 az ao bz bo = (rsg w0 (shi' w0 az ao)).sle (rsg w0 (slo w0 bz bo)) ∧ cN 20 w0 az ao bz bo = (rsg w0 (shi' w0 bz bo)).slt (rsg w0 (slo w0 az ao)) := ⟨rfl, rfl⟩
  rcases ho with rfl | rfl
  · rw [e19.1, e19.2, c1, d2]
    exact Prod.ext p1 p2
  · rw [e20.1, e20.2, c2, d1]
    exact Prod.ext q1 q2
 omit h01 hw0
 include hw
theorem zx_eq (h : w0 ≤ w) : M w &&& ~~~ M w0 = bvN (zrf w 0 (w - w0)) w := by
  apply BitVec.eq_of_getLsbD_eq
  intro i hi
  rw [BitVec.getLsbD_and, BitVec.getLsbD_not, M_bit w hw, M_bit w0 (by omega), bvN_bit _ w hw, decide_eq_true hi, Bool.true_and]
  unfold zrf
  rw [decide_eq_false (Nat.not_lt_zero i), Bool.false_or]
  by_cases hiw : i < w
  · rw [decide_eq_true hiw, Bool.true_and, Bool.true_and]
    by_cases hi0 : i < w0
    · rw [decide_eq_true hi0, decide_eq_false (by omega)]
      rfl
    · rw [decide_eq_false hi0, decide_eq_true (by omega)]
      rfl
  · rw [decide_eq_false hiw, Bool.false_and, Bool.false_and]
theorem sx_eq (h01 : 1 ≤ w0) (h : w0 ≤ w) (A : Vd2 w0 az ao) (v : Int) (hv : v = 0 ∨ v = 1) : sx1 w w0 (if v = 0 then az else ao) (if v = 0 then az else ao) = (if v = 0 then az else ao) ||| bvN (hiF w0 (kn az ao (w0 - 1)) v) w := by
  have hk := knv A.dis hv (w0 - 1)
  unfold sx1
  rw [and_sgn w0 h01 (by omega), Bool.not_not]
  have hb : bt v az ao (w0 - 1) = (if v = 0 then az else ao).getLsbD (w0 - 1) := by
    unfold bt
    split <;> rfl
  rw [hb] at hk
  cases e : (if v = 0 then az else ao).getLsbD (w0 - 1) with
  | true =>
    rw [e] at hk
    rw [cond_true, zx_eq w w0 hw h]
    congr 1
    apply BitVec.eq_of_getLsbD_eq
    intro i hi
    rw [bvN_bit _ w hw, bvN_bit _ w hw]
    unfold zrf hiF
    rw [hk, Bool.and_true, decide_eq_false (Nat.not_lt_zero i), Bool.false_or]
    congr 1
    exact decide_eq_decide.2 (by omega)
  | false =>
    rw [e] at hk
    rw [cond_false, bvN_zero _ _ fun j _ => by unfold hiF; rw [hk, Bool.and_false], BitVec.or_zero]
 include h1 h01 hw0
theorem ap_eq (hop : 2 ≤ op ∧ op ≤ 24) (A : Vd2 w0 az ao) (hA : op ≤ 14 → w0 = w) (B : 2 ≤ op ∧ op ≤ 20 → Vd2 w0 bz bo) (hext : op = 22 ∨ op = 23 → w0 ≤ w) : apI op w w0 az ao bz bo cz co = apR op w w0 az ao bz bo cz co := by
  unfold apI apR
  by_cases c9 : op = 9
  · rw [if_pos c9, if_pos c9]
  rw [if_neg c9, if_neg c9]
  by_cases c10 : op = 10
  · rw [if_pos c10, if_pos c10]
  rw [if_neg c10, if_neg c10]
  by_cases c11 : op = 11
  · rw [if_pos c11, if_pos c11]
  rw [if_neg c11, if_neg c11]
  by_cases c2 : op = 2
  · rw [if_pos c2, if_pos c2]
  rw [if_neg c2, if_neg c2]
  by_cases c3 : op = 3
  · rw [if_pos c3, if_pos c3]
  rw [if_neg c3, if_neg c3]
  by_cases c4 : op = 4
  · rw [if_pos c4, if_pos c4]
    have := pr_eq w hw az ao bz bo A.dis (B (by omega)).dis
    rw [this.1, this.2]
  rw [if_neg c4, if_neg c4]
  by_cases c5 : op = 5
  · rw [if_pos c5, if_pos c5, rld_0 A.dis w hw, hi_zrf w _ hw (ld_le w hw az)]
  rw [if_neg c5, if_neg c5]
  by_cases c6 : op = 6
  · rw [if_pos c6, if_pos c6]
    have := rm_eq w h1 hw az ao bz bo A.dis
    rw [this.1, this.2]
  rw [if_neg c6, if_neg c6]
  by_cases c7 : op = 7 ∨ op = 8
  · rw [if_pos c7, if_neg (by omega), if_neg (by omega), if_neg (by omega), if_neg (by omega), if_neg (by omega), if_neg (by omega), if_neg (by omega), if_neg (by omega)]
  rw [if_neg c7]
  by_cases c12 : op = 12 ∨ op = 13 ∨ op = 14
  · rw [if_pos c12, if_pos c12]
    have e := hA (by omega)
    subst e
    exact sh_eq w0 h1 hw az ao bz bo A op c12
  rw [if_neg c12, if_neg c12]
  by_cases c15 : op = 15 ∨ op = 16
  · rw [if_pos c15, eq_cmp op w0 az ao bz bo c15, if_neg (by omega), if_neg (by omega), if_neg (by omega), if_neg (by omega)]
  rw [if_neg c15]
  by_cases c17 : op = 17 ∨ op = 18
  · rw [if_pos c17, lt_cmp op w0 h01 hw0 az ao bz bo A (B (by omega)) c17, if_neg (by omega), if_neg (by omega), if_neg (by omega), if_neg (by omega)]
  rw [if_neg c17]
  by_cases c19 : op = 19 ∨ op = 20
  · rw [if_pos c19, slt_cmp op w0 h01 hw0 az ao bz bo A (B (by omega)) c19, if_neg (by omega), if_neg (by omega), if_neg (by omega), if_neg (by omega)]
  rw [if_neg c19]
  by_cases c21 : op = 21
  · rw [if_pos c21, if_pos c21]
  rw [if_neg c21, if_neg c21]
  by_cases c22 : op = 22
  · rw [if_pos c22, if_pos c22, zx_eq w w0 hw (hext (.inl c22)), BitVec.or_zero]
  rw [if_neg c22, if_neg c22]
  by_cases c23 : op = 23
  · rw [if_pos c23, if_pos c23]
    have e0 := sx_eq w w0 hw az ao h01 (hext (.inr c23)) A 0 (.inl rfl)
    have e1 := sx_eq w w0 hw az ao h01 (hext (.inr c23)) A 1 (.inr rfl)
    rw [if_pos rfl] at e0
    rw [if_neg (by decide)] at e1
    rw [e0, e1]
  rw [if_neg c23, if_neg c23]
  by_cases c24 : op = 24
  · rw [if_pos c24, if_pos c24]
  omega
end
theorem vd2_of {x : Int} {z o : BitVec 64} (h : valB x z o = true) : Vd2 x.toNat z o := by
  have hg : goodB x = true := by
    unfold valB at h
    rw [Bool.and_eq_true] at h
    exact h.1
  obtain ⟨g1, g2⟩ := goodB_iff.1 hg
  obtain ⟨x, rfl⟩ : ∃ v : Nat, x = v := ⟨x.toNat, by omega⟩
  exact (valB_iff (by omega) h).2
theorem apO_eq {op w : Int} {L : List Int} {E : List El} (F : Fit op w L E) (hx : (L.zip E).all Opd.e = false) : apO apI op w L E = apO apR op w L E := by
  obtain ⟨⟨hw1, hw64⟩, hc⟩ := F.cases
  unfold apO
  rcases hc with ⟨rfl, rfl, rfl⟩ | ⟨ho, rfl, a, b, rfl, va, vb⟩ | ⟨ho, ew, x, a, b, rfl, hx1, rfl, va, vb⟩ | ⟨rfl, rfl, a, b, c, rfl, va, vb, vc⟩ | ⟨ho, x, a, hxw, hx1, rfl, rfl, va⟩ | ⟨rfl, x, a, hxw, hx1, rfl, rfl, va⟩
  · cases hx
  · exact ap_eq op w.toNat w.toNat (by omega) (by omega) (by omega) (by omega) _ _ _ _ _ _ (by omega) (vd2_of va) (fun _ => rfl) (fun _ => vd2_of vb) (fun h => by omega)
  · exact ap_eq op w.toNat x.toNat (by omega) (by omega) (by omega) (by omega) _ _ _ _ _ _ (by omega) (vd2_of va) (fun h => by omega) (fun _ => vd2_of vb) (fun h => by omega)
  · exact ap_eq 21 w.toNat 1 (by omega) (by omega) (by omega) (by omega) _ _ _ _ _ _ (by omega) (vd2_of va) (fun h => by omega) (fun h => by omega) (fun h => by omega)
  · exact ap_eq op w.toNat x.toNat (by omega) (by omega) (by omega) (by omega) _ _ _ _ _ _ (by omega) (vd2_of va) (fun h => by omega) (fun h => by omega) (fun h => by omega)
  · exact ap_eq 24 w.toNat x.toNat (by omega) (by omega) (by omega) (by omega) _ _ _ _ _ _ (by omega) (vd2_of va) (fun h => by omega) (fun h => by omega) (fun h => by omega)
end Go.Proofs.YtiadfnedbbkojaaDoor.Kb
namespace Go.Proofs.YtiadfnedbbkojaaDoor.Kb
open Go Go.Proofs Go.Proofs.YtiadfnedbbkojaaDoor.X Go.Proofs.YtiadfnedbbkojaaDoor.Bv
set_option linter.unusedSimpArgs false
set_option linter.unusedVariables false
theorem newRo_kp {h : AH} (H : WF h) (cells : List Value) (z : Nat) : Kp h (h.newRo cells z) ∧ Sl (h.newRo cells z) (some ⟨h.next, 0, none⟩) cells := by
  have hb : ∀ β, (h.newRo cells z).blks.get β = if β = h.next then some ⟨cells, z, h.next, true⟩ else h.blks.get β := fun β => Tr.get_set _ _ _ _
  have hw : WF (h.newRo cells z) := ⟨fun β b e => by
    rw [hb] at e
    split at e
    · rename_i hx
      injection e with e
      subst e
      exact Nat.le_of_eq hx.symm
    · exact H.gle β b e, fun β hβ => by
    have hβ : h.next + 1 ≤ β := hβ
    rw [hb, if_neg (by omega)]
    exact H.new β (by omega)⟩
  refine ⟨⟨hw, rfl, Nat.le_succ _, fun β hβ => ?_⟩, fun i x hx => ⟨_, rfl, ?_⟩⟩
  · rw [hb, if_neg (by omega)]
    exact ⟨rfl, rfl⟩
  · have hr : (h.newRo cells z).rd h.next = some ⟨cells, z, h.next, true⟩ := rd_of (by rw [hb, if_pos rfl]) (by
      show h.next ∈ (h.grps.get h.next).getD [h.next]
      rw [(H.new h.next (Nat.le_refl _)).2]
      exact List.mem_singleton.2 rfl)
    unfold X.rdC
    rw [hr]
    show cells[0 + i]? = some x
    rw [Nat.zero_add]
    exact hx
theorem slPre {h : AH} {a : Option Addr} {es cs ds : List Value} (S : Sl h a es) (he : es = cs ++ ds) : Sl h a cs := fun i x hx => S i x (by
  rw [he]
  rw [List.getElem?_append_left (List.getElem?_eq_some_iff.1 hx).1]
  exact hx)
section
variable {H : Type} {P : Program}
theorem layI {N : Nat} {e : TypeId} {k : IntKind} (he : P.underlying e = some (.int k)) : ∀ (ds : List (DataW H)), (∀ d ∈ ds, typD P (N + 1) e d) → ∀ h : AH, ∃ ns : List Int, ns.length = ds.length ∧ (∀ n ∈ ns, (Lit.int k n).wf = true) ∧
    layAll (layD P (N + 1)) (ds.map fun d => (e, d)) h = some (ns.map fun n => .int k n, h)
  | [], _, h => ⟨[], rfl, fun _ hn => absurd hn (by simp), rfl⟩
  | d :: ds, hd, h => by
    obtain ⟨ns, e1, e2, e3⟩ := layI he ds (fun x hx => hd x (List.mem_cons_of_mem _ hx)) h
    have t := hd d (List.mem_cons_self ..)
    unfold typD at t
    rw [he] at t
    obtain ⟨n, rfl, hn⟩ := t
    refine ⟨n :: ns, congrArg Nat.succ e1, fun m hm => ?_, ?_⟩
    · rcases List.mem_cons.1 hm with rfl | hm
      · exact hn
      · exact e2 m hm
    · rw [List.map_cons]
      have q : layD P (N + 1) e (.lit (.int k n) : DataW H) h = some ([.int k n], h) := by
        unfold layD
        rw [he]
      unfold layAll
      simp only
      rw [q, Option.bind_some]
      simp only
      rw [e3]
      rfl
/-- A row of numbers. -/
theorem layRowI {N : Nat} {t e : TypeId} {k : IntKind} (ht : P.underlying t = some (.slice e)) (he : P.underlying e = some (.int k)) (hz : P.cellsOf e = 1) (d : DataW H) (hd : typD P (N + 2) t d) (h : AH) (Hh : WF h) :
    ∃ (a : Option Addr) (n c : Nat) (ns : List Int) (h' : AH), layD P (N + 2) t d h = some ([.slice a n c], h') ∧ Kp h h' ∧ Sl h' a (ns.map fun n => .int k n) ∧ n = ns.length ∧ ∀ m ∈ ns, (Lit.int k m).wf = true := by
  unfold typD at hd
  rw [ht] at hd
  rcases hd with rfl | ⟨xs, ys, rfl, hl, hx, hy⟩
  · exact ⟨none, 0, 0, [], h, by unfold layD; rw [ht], Kp.refl Hh, Sl.nil _ _, rfl, fun _ hm => absurd hm (by simp)⟩
  · by_cases h0 : xs.length + ys.length = 0
    · have hx0 : xs = [] := List.eq_nil_of_length_eq_zero (by omega)
      have hy0 : ys = [] := List.eq_nil_of_length_eq_zero (by omega)
      subst hx0 hy0
      exact ⟨some ⟨0, 0, none⟩, 0, 0, [], h, by unfold layD; rw [ht]; rfl, Kp.refl Hh, Sl.nil _ _, rfl, fun _ hm => absurd hm (by simp)⟩
    · obtain ⟨ns, e1, e2, e3⟩ := layI (N := N) he (xs ++ ys) (fun d hd => (List.mem_append.1 hd).elim (hx d) (hy d)) h
      obtain ⟨K, S⟩ := newRo_kp Hh (ns.map fun n => .int k n) 1
      have hlen : ns.length = xs.length + ys.length := by rw [e1, List.length_append]
      refine ⟨some ⟨h.next, 0, none⟩, xs.length, xs.length + ys.length, ns.take xs.length, h.newRo (ns.map fun n => .int k n) 1, ?_, K, ?_, ?_, fun m hm => e2 m (List.mem_of_mem_take hm)⟩
      · unfold layD
        rw [ht]
        simp only
        rw [show Nat.beq (xs.length + ys.length) 0 = false from (by
          cases hb : Nat.beq (xs.length + ys.length) 0 with
          | false => rfl
          | true => exact absurd (Nat.eq_of_beq_eq_true hb) h0), hz, show Nat.beq 1 0 = false from rfl, cond_false]
        have hO : Nat.ble OPEN (xs.length + ys.length) = false := by
          cases hb : Nat.ble OPEN (xs.length + ys.length) with
          | false => rfl
          | true =>
            have h1 := Nat.le_of_ble_eq_true hb
            unfold maxLen at hl
            have : (OPEN : Nat) = 2 ^ 63 := rfl
            omega
        rw [hO, e3]
        rfl
      · refine slPre S (ds := (ns.drop xs.length).map fun n => .int k n) ?_
        rw [← List.map_append, List.take_append_drop]
      · rw [List.length_take]
        omega
end
section
variable {H : Type}
theorem ui : Tryd.prog.underlying 3 = some (.int .i64) := by kernel_rfl
theorem us : Tryd.prog.underlying 22 = some (.slice 3) := by kernel_rfl
theorem usB : Tryd.prog.underlying 23 = some (.slice 30) := by kernel_rfl
theorem usU : Tryd.prog.underlying 35 = some (.slice 24) := by kernel_rfl
theorem zI : Tryd.prog.cellsOf 3 = 1 := by kernel_rfl
theorem zB : Tryd.prog.cellsOf 30 = 2 := by kernel_rfl
theorem layB (d : DataW H) (hd : typD Tryd.prog 2 30 d) (h : AH) : ∃ e : El, layD Tryd.prog 2 30 d h = some ([.int .u64 (U e.1), .int .u64 (U e.2)], h) := by
  have hd : ∃ xs, d = .agg xs ∧ AllT (typD Tryd.prog 1) [24, 24] xs := hd
  obtain ⟨xs, rfl, x1, r1, rfl, t1, x2, r2, rfl, t2, hr⟩ := hd
  have hr : r2 = [] := hr
  subst hr
  have t1 : ∃ n, x1 = .lit (.int .u64 n) ∧ (Lit.int .u64 n).wf = true := t1
  have t2 : ∃ n, x2 = .lit (.int .u64 n) ∧ (Lit.int .u64 n).wf = true := t2
  obtain ⟨n1, rfl, w1⟩ := t1
  obtain ⟨n2, rfl, w2⟩ := t2
  obtain ⟨x1, rfl⟩ := of_wf w1
  obtain ⟨x2, rfl⟩ := of_wf w2
  exact ⟨(x1, x2), rfl⟩
theorem layBs : ∀ (ds : List (DataW H)), (∀ d ∈ ds, typD Tryd.prog 2 30 d) → ∀ h : AH, ∃ es : List El, es.length = ds.length ∧ layAll (layD Tryd.prog 2) (ds.map fun d => (30, d)) h = some (prs (pU es), h)
  | [], _, h => ⟨[], rfl, rfl⟩
  | d :: ds, hd, h => by
    obtain ⟨es, e1, e3⟩ := layBs ds (fun x hx => hd x (List.mem_cons_of_mem _ hx)) h
    obtain ⟨e, e4⟩ := layB d (hd d (List.mem_cons_self ..)) h
    refine ⟨e :: es, congrArg Nat.succ e1, ?_⟩
    rw [List.map_cons]
    unfold layAll
    simp only
    rw [e4]
    simp only [Option.bind_some]
    rw [e3]
    rfl
theorem layRowB (d : DataW H) (hd : typD Tryd.prog 3 23 d) (h : AH) (Hh : WF h) :
    ∃ (a : Option Addr) (n c : Nat) (es : List El) (h' : AH), layD Tryd.prog 3 23 d h = some ([.slice a n c], h') ∧ Kp h h' ∧ Sl h' a (prs (pU es)) ∧ n = es.length := by
  unfold typD at hd
  rw [usB] at hd
  rcases hd with rfl | ⟨xs, ys, rfl, hl, hx, hy⟩
  · exact ⟨none, 0, 0, [], h, by unfold layD; rw [usB], Kp.refl Hh, Sl.nil _ _, rfl⟩
  · by_cases h0 : xs.length + ys.length = 0
    · have hx0 : xs = [] := List.eq_nil_of_length_eq_zero (by omega)
      have hy0 : ys = [] := List.eq_nil_of_length_eq_zero (by omega)
      subst hx0 hy0
      exact ⟨some ⟨0, 0, none⟩, 0, 0, [], h, by unfold layD; rw [usB]; rfl, Kp.refl Hh, Sl.nil _ _, rfl⟩
    · obtain ⟨es, e1, e3⟩ := layBs (xs ++ ys) (fun d hd => (List.mem_append.1 hd).elim (hx d) (hy d)) h
      obtain ⟨K, S⟩ := newRo_kp Hh (prs (pU es)) 2
      have hlen : es.length = xs.length + ys.length := by rw [e1, List.length_append]
      refine ⟨some ⟨h.next, 0, none⟩, xs.length, xs.length + ys.length, es.take xs.length, h.newRo (prs (pU es)) 2, ?_, K, ?_, ?_⟩
      · unfold layD
        rw [usB]
        simp only
        rw [show Nat.beq (xs.length + ys.length) 0 = false from (by
          cases hb : Nat.beq (xs.length + ys.length) 0 with
          | false => rfl
          | true => exact absurd (Nat.eq_of_beq_eq_true hb) h0), zB, show Nat.beq 2 0 = false from rfl, cond_false]
        have hO : Nat.ble OPEN (xs.length + ys.length) = false := by
          cases hb : Nat.ble OPEN (xs.length + ys.length) with
          | false => rfl
          | true =>
            have h1 := Nat.le_of_ble_eq_true hb
            unfold maxLen at hl
            have : (OPEN : Nat) = 2 ^ 63 := rfl
            omega
        rw [hO, e3]
        rfl
      · have : prs (pU es) = prs (pU (es.take xs.length)) ++ prs (pU (es.drop xs.length)) := by
          conv => lhs; rw [← List.take_append_drop xs.length es]
          unfold prs pU
          rw [List.map_append, List.flatMap_append]
        exact slPre S this
      · rw [List.length_take]
        omega
/-- A case, as it lies there. -/
structure CaseAt (h : AH) (wa : Option Addr) (wn : Nat) (ea : Option Addr) (en : Nat) (L : List Int) (E : List El) : Prop where
  wf : WF h
  tab : Tab h
  sw : Sl h wa (L.map fun n => .int .i64 n)
  hwn : wn = L.length
  se : Sl h ea (prs (pU E))
  hen : en = E.length
theorem hTab_tab : Tab hTab := fun i x hx => ⟨_, rfl, by
  have hr : hTab.rd 0 = some ⟨tabCells, 0, 0, true⟩ := rfl
  unfold X.rdC
  rw [hr]
  show tabCells[0 + i]? = some x
  rw [Nat.zero_add]
  exact hx⟩
theorem layCase (d : DataW H) (hd : typD Tryd.prog 4 26 d) : ∃ (op w : Int) (wa ea : Option Addr) (wn wc en ec : Nat) (num : BitVec 64) (L : List Int) (E : List El) (h1 : AH),
    layD Tryd.prog 4 26 d hTab = some ([.int .i64 op, .int .i64 w, .slice wa wn wc, .slice ea en ec, .int .u64 (U num)], h1) ∧ CaseAt h1 wa wn ea en L E := by
  have hd : ∃ xs, d = .agg xs ∧ AllT (typD Tryd.prog 3) [3, 3, 22, 23, 24] xs := hd
  obtain ⟨xs, rfl, x1, r1, rfl, t1, x2, r2, rfl, t2, x3, r3, rfl, t3, x4, r4, rfl, t4, x5, r5, rfl, t5, hr⟩ := hd
  have hr : r5 = [] := hr
  subst hr
  have t1 : ∃ n, x1 = .lit (.int .i64 n) ∧ (Lit.int .i64 n).wf = true := t1
  have t2 : ∃ n, x2 = .lit (.int .i64 n) ∧ (Lit.int .i64 n).wf = true := t2
  have t5 : ∃ n, x5 = .lit (.int .u64 n) ∧ (Lit.int .u64 n).wf = true := t5
  obtain ⟨op, rfl, _⟩ := t1
  obtain ⟨w, rfl, _⟩ := t2
  obtain ⟨n5, rfl, w5⟩ := t5
  obtain ⟨num, rfl⟩ := of_wf w5
  obtain ⟨wa, wn, wc, L, h1, e1, K1, S1, n1, _⟩ := layRowI (N := 1) us ui zI x3 t3 hTab hTab_wf
  obtain ⟨ea, en, ec, E, h2, e2, K2, S2, n2⟩ := layRowB x4 t4 h1 K1.wf
  refine ⟨op, w, wa, ea, wn, wc, en, ec, num, L, E, h2, ?_, K2.wf, (hTab_tab.kp hTab_wf K1).kp K1.wf K2, S1.kp K1.wf K2, n1, S2, n2⟩
  have q1 : layD Tryd.prog 3 3 (.lit (.int .i64 op) : DataW H) hTab = some ([.int .i64 op], hTab) := rfl
  have q2 : layD Tryd.prog 3 3 (.lit (.int .i64 w) : DataW H) hTab = some ([.int .i64 w], hTab) := rfl
  have q5 : layD Tryd.prog 3 24 (.lit (.int .u64 (U num)) : DataW H) h2 = some ([.int .u64 (U num)], h2) := rfl
  show (layAll (layD Tryd.prog 3) [(3, .lit (.int .i64 op)), (3, .lit (.int .i64 w)), (22, x3), (23, x4), (24, .lit (.int .u64 (U num)))] hTab) = _
  unfold layAll
  rw [q1, Option.bind_some]
  unfold layAll
  rw [q2, Option.bind_some]
  unfold layAll
  simp only
  rw [e1, Option.bind_some]
  unfold layAll
  simp only
  rw [e2, Option.bind_some]
  unfold layAll
  simp only
  rw [q5, Option.bind_some]
  rfl
end
end Go.Proofs.YtiadfnedbbkojaaDoor.Kb
namespace Go.Proofs.YtiadfnedbbkojaaDoor.Kb
open Go Go.Proofs Go.Proofs.YtiadfnedbbkojaaDoor.X Go.Proofs.YtiadfnedbbkojaaDoor.Bv
set_option linter.unusedSimpArgs false
set_option linter.unusedVariables false
theorem CaseAt.loc {h : AH} {wa ea : Option Addr} {wn en : Nat} {L : List Int} {E : List El} (C : CaseAt h wa wn ea en L E) (bs : List (List Value)) (x : Nat) : CaseAt (setLow (loc h bs) x) wa wn ea en L E :=
  ⟨wf_low (loc_wf C.wf bs) x, C.tab.loc C.wf bs, C.sw.loc C.wf bs, C.hwn, C.se.loc C.wf bs, C.hen⟩
theorem CaseAt.loc' {h : AH} {wa ea : Option Addr} {wn en : Nat} {L : List Int} {E : List El} (C : CaseAt h wa wn ea en L E) (bs : List (List Value)) : CaseAt (X.loc h bs) wa wn ea en L E :=
  ⟨loc_wf C.wf bs, C.tab.loc C.wf bs, C.sw.loc C.wf bs, C.hwn, C.se.loc C.wf bs, C.hen⟩
theorem few (n : Nat) (h : AH) (H : WF h) (op w num : Int) (wa ea : Option Addr) (wn wc en ec : Nat) : runS Tryd.prog (n + 1) 9 [.agg #[.int .i64 op, .int .i64 w, .slice wa wn wc, .slice ea en ec, .int .u64 num]] h =
    some (.bool (decide (wn ≤ 8) && decide (en ≤ 8)), h) := by
  refine t9_ok ?_
  rw [t9]
  have e : ∀ k : Nat, iLe (Int.ofNat k) 8 = decide (k ≤ 8) := fun k => decide_eq_decide.2 (by show ((k : Nat) : Int) ≤ 8 ↔ _; omega)
  simp only [lrd H, lrd0 H, lst H, lst0 H, List.getElem?_cons_zero, List.getElem?_cons_succ, putAt0, putAt1, List.drop_succ_cons, List.drop_zero, List.drop_nil, List.set_cons_zero, List.set_cons_succ, List.append_nil, ble_self, ble12, gI_int, gB_bool, gS_str, gL_sl, gP_ptr, bindS, cond_true, cond_false, low_loc h, setLow_low, setLow_next, setLow_set, setLow_loc, setLow_self, hNew_loc, loc_next, loc_low, Nat.beq_refl, add_lit, List.nil_append, List.cons_append, List.length_cons, List.length_nil, Nat.zero_add, Nat.add_zero, Nat.reduceAdd, add_lit, e]
  cases decide (wn ≤ 8) <;> simp only [lrd H, lrd0 H, lst H, lst0 H, List.getElem?_cons_zero, List.getElem?_cons_succ, putAt0, putAt1, List.drop_succ_cons, List.drop_zero, List.drop_nil, List.set_cons_zero, List.set_cons_succ, List.append_nil, ble_self, ble12, gI_int, gB_bool, gS_str, gL_sl, gP_ptr, bindS, cond_true, cond_false, low_loc h, setLow_low, setLow_next, setLow_set, setLow_loc, setLow_self, hNew_loc, loc_next, loc_low, Nat.beq_refl, add_lit, List.nil_append, List.cons_append, List.length_cons, List.length_nil, Nat.zero_add, Nat.add_zero, Nat.reduceAdd, exitR_bool, exitR_int, exitR_ints, exitR_ii, exitR_ib, Bool.true_and, Bool.false_and]
end Go.Proofs.YtiadfnedbbkojaaDoor.Kb
