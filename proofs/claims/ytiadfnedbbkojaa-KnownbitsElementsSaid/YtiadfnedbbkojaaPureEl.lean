/- For any width, element and word, Valid, Of, Contains and Exact of the program answer as the reference says: the statement over numbers. No conditions beyond the kinds of the arguments. -/
import Derived.Test.YtiadfnedbbkojaaBv
import Derived.Test.YtiadfnedbbkojaaRKnownbitsElementsx4
namespace Go.Proofs.Ytiadfnedbbkojaa.PureEl
open Go.RowKit Go.Proofs.Ytiadfnedbbkojaa.Bv Go.Proofs.Ytiadfnedbbkojaa.RKnownbitsElements Go.Proofs.YtiadfnedbbkojaaW.PrintWords

theorem mask_tells (w : Int) : knownbits_mask.f w = some (U (M w)) := by
  unfold knownbits_mask.f M
  by_cases h : 64 ≤ w
  · rw [if_pos h, if_pos h, U_max]
  · rw [if_neg h, if_neg h]
    have e : mx w 0 = (w.toNat : Int) := by unfold mx; split <;> omega
    rw [e, ← U_1, s_left 1#64 _ (by omega), U_1, w_sub1, Int.toNat_natCast]
theorem good_tells (w : Int) : knownbits_good.f w = some (decide (1 ≤ w ∧ w ≤ 64)) := by
  unfold knownbits_good.f
  by_cases h : w ≥ 1
  · rw [if_pos h]
    refine congrArg some (decide_eq_decide.2 ?_)
    omega
  · rw [if_neg h, decide_eq_false]
    omega
theorem mask_r (k : Nat) (w : Int) (hw : w ≤ 64) (hk : 66 ≤ k) : jacquardref12_Mask.f k w = some (U (M w)) := by
  by_cases h : w ≤ 0
  · rw [M_neg w h]
    obtain ⟨k, rfl⟩ : ∃ n, k = n + 1 := ⟨k - 1, by omega⟩
    unfold jacquardref12_Mask.f
    rw [jacquardref12_Mask.l0, if_neg (by omega)]
    rfl
  · have : ∀ w : Fin 65, jacquardref12_Mask.f 66 (w.val : Int) = some (U (M (w.val : Int))) := by decide +kernel
    have h2 := this ⟨w.toNat, by omega⟩
    have h3 : ((w.toNat : Nat) : Int) = w := by omega
    simp only [h3] at h2
    exact at_rounds (g := fun k => jacquardref12_Mask.f k w) (fun k => jacquardref12_Mask.mono _ k) hk h2
/-- Is an element one of a width? -/
def vld (w : Int) (z o : BitVec 64) : Bool := decide (1 ≤ w ∧ w ≤ 64) && (decide ((z ||| o) &&& ~~~ M w = 0#64) && decide (z &&& o = 0#64))
theorem beq_U (x y : BitVec 64) : (U x == U y) = decide (x = y) := by
  rw [Bool.eq_iff_iff, beq_iff_eq, decide_eq_true_iff, U_inj]
theorem beq_U0 (x : BitVec 64) : (U x == 0) = decide (x = 0#64) := beq_U x 0#64
theorem valid_tells (w : Int) (z o : BitVec 64) : knownbits_Valid.f w (U z) (U o) = some (vld w z o) := by
  unfold knownbits_Valid.f vld
  rw [good_tells]
  simp only [Option.bind_some, mask_tells, b_or, b_and, b_andNot, U_eq0, beq_U0, decide_eq_true_eq]
  by_cases h1 : 1 ≤ w ∧ w ≤ 64
  · rw [if_pos h1, decide_eq_true h1]
    by_cases h2 : (z ||| o) &&& ~~~ M w = 0#64
    · rw [if_pos h2, decide_eq_true h2]
      rfl
    · rw [if_neg h2, decide_eq_false h2]
      rfl
  · rw [if_neg h1, decide_eq_false h1]
    rfl
theorem valid_r (k : Nat) (hk : 66 ≤ k) (w : Int) (z o : BitVec 64) : jacquardref12_Valid.f k w (U z) (U o) = some (vld w z o) := by
  unfold jacquardref12_Valid.f vld
  by_cases h1 : w ≥ 1
  · by_cases h0 : w ≤ 64
    · rw [if_pos h1, if_pos h0, mask_r k w h0 hk]
      simp only [Option.bind_some, b_or, b_and, b_andNot, U_eq0, beq_U0]
      rw [decide_eq_true (show 1 ≤ w ∧ w ≤ 64 from ⟨h1, h0⟩)]
      by_cases h2 : (z ||| o) &&& ~~~ M w = 0#64
      · rw [if_pos h2, decide_eq_true h2]
        rfl
      · rw [if_neg h2, decide_eq_false h2]
        rfl
    · rw [if_pos h1, if_neg h0, decide_eq_false (by omega)]
      rfl
  · rw [if_neg h1, decide_eq_false (by omega)]
    rfl
def cont (z o n : BitVec 64) : Bool := decide (n &&& z = 0#64) && decide (n &&& o = o)
theorem contains_tells (z o n : BitVec 64) : knownbits_Contains.f (U z) (U o) (U n) = some (cont z o n) := by
  unfold knownbits_Contains.f cont
  simp only [b_and, U_eq0, beq_U]
  by_cases h2 : n &&& z = 0#64
  · rw [if_pos h2, decide_eq_true h2]
    rfl
  · rw [if_neg h2, decide_eq_false h2]
    rfl
theorem contains_r (z o n : BitVec 64) : jacquardref12_Contains.f (U z) (U o) (U n) = some (cont z o n) := by
  unfold jacquardref12_Contains.f cont
  simp only [b_and, U_eq0, beq_U]
  by_cases h2 : n &&& z = 0#64
  · rw [if_pos h2, decide_eq_true h2]
    rfl
  · rw [if_neg h2, decide_eq_false h2]
    rfl
/-- Does an element contain one word alone? -/
def exa (w : Int) (z o : BitVec 64) : Bool := vld w z o && decide (z ||| o = M w)
theorem exact_tells (w : Int) (z o : BitVec 64) : knownbits_Exact.f w (U z) (U o) = some (if exa w z o = true then (U o, true) else (0, false)) := by
  unfold knownbits_Exact.f exa
  rw [valid_tells]
  simp only [Option.bind_some, mask_tells, b_or, U_inj]
  cases h : vld w z o with
  | false => rfl
  | true =>
    simp only [if_true, Bool.true_and, decide_eq_true_eq]
    by_cases h2 : z ||| o = M w
    · rw [if_pos h2, if_pos h2]
    · rw [if_neg h2, if_neg h2]
theorem exact_r (k : Nat) (hk : 66 ≤ k) (w : Int) (z o : BitVec 64) : jacquardref12_Exact.f k w (U z) (U o) = some (exa w z o) := by
  unfold jacquardref12_Exact.f exa
  rw [valid_r k hk]
  simp only [Option.bind_some]
  cases h : vld w z o with
  | false => rfl
  | true =>
    have hw : w ≤ 64 := by
      unfold vld at h
      simp at h
      omega
    simp only [if_true, mask_r k w hw hk, Option.bind_some, b_or, beq_U, Bool.true_and]
theorem of_tells (w : Int) (n : BitVec 64) : knownbits_Of.f w (U n) = some (if 1 ≤ w ∧ w ≤ 64 then (U (~~~ n &&& M w), U (n &&& M w)) else (0, 0)) := by
  unfold knownbits_Of.f
  rw [good_tells]
  simp only [Option.bind_some, mask_tells, b_not, b_and, decide_eq_true_eq]
  split <;> rfl
theorem of_r (k : Nat) (hk : 66 ≤ k) (w : Int) (hw : w ≤ 64) (n : BitVec 64) : jacquardref12_Of.f k w (U n) = some (U (~~~ n &&& M w), U (n &&& M w)) := by
  unfold jacquardref12_Of.f
  rw [mask_r k w hw hk]
  simp only [Option.bind_some, b_andNot, b_and]
  rw [BitVec.and_comm]
theorem awake_tells : jacquardlaw12_awake.f = some true := by decide +kernel

theorem pure (w : Int) (z o n : BitVec 64) : jacquardlaw12_KnownbitsElements.f 100 w (U z) (U o) (U n) = some true := by
  have j2 : ∀ b, b = decide (w < 1 ∨ w > 64) → jacquardlaw12_KnownbitsElements.j2 98 w (U n) b = some true := by
    intro b hb
    rw [jacquardlaw12_KnownbitsElements.j2, of_tells]
    simp only [Option.bind_some]
    by_cases h : 1 ≤ w ∧ w ≤ 64
    · rw [decide_eq_false (by omega)] at hb
      subst hb
      rw [if_neg (by decide), of_r 97 (by omega) w h.2 n, if_pos h]
      simp
    · rw [decide_eq_true (by omega)] at hb
      subst hb
      rw [if_pos rfl, if_neg h]
      rfl
  have j1 : jacquardlaw12_KnownbitsElements.j1 99 w (U n) false = some true := by
    rw [jacquardlaw12_KnownbitsElements.j1, if_neg (by decide)]
    by_cases h : w < 1
    · rw [if_pos h]
      exact j2 true (decide_eq_true (.inl h)).symm
    · rw [if_neg h]
      exact j2 _ (decide_eq_decide.2 (by omega))
  have j0 : jacquardlaw12_KnownbitsElements.j0 100 w (U n) false (U z) (U o) = some true := by
    rw [jacquardlaw12_KnownbitsElements.j0, if_neg (by decide), exact_tells, exact_r 99 (by omega)]
    simp only [Option.bind_some]
    cases exa w z o with
    | true => simpa using j1
    | false => simpa using j1
  unfold jacquardlaw12_KnownbitsElements.f
  rw [awake_tells]
  simp only [Option.bind_some, if_true, valid_tells, valid_r 100 (by omega), contains_tells, contains_r, bne_self_eq_false]
  exact j0
end Go.Proofs.Ytiadfnedbbkojaa.PureEl
