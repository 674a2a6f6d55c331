/- For every width, constant and dividend the numbers of Magic are those of the reference, and the quotient by them is the quotient by the constant: the statement over numbers. No conditions beyond the kinds of the arguments. -/
import Derived.Test.YtiadfnedbbkojaaRRewriteMagicx2
namespace Go.Proofs.Ytiadfnedbbkojaa.Pure
open Go.RowKit Go.Proofs.Ytiadfnedbbkojaa.RRewriteMagic Go.Proofs.YtiadfnedbbkojaaW.PrintWords Go.Proofs.YtiadfnedbbkojaaW.PrintLast Go.Proofs.YtiadfnedbbkojaaW.PrintMore

theorem magic_div {W Q P m c e y : Nat} (hP : P = W * Q) (hQ : 0 < Q) (hm : m * c = P + e) (he : e ≤ Q) (hy : y < W) (hc : 0 < c) : y * m / P = y / c := by
  have hW : 0 < W := by omega
  have hd : c * (y / c) + y % c = y := Nat.div_add_mod y c
  have hr : y % c < c := Nat.mod_lt _ hc
  generalize y / c = q at hd ⊢
  generalize y % c = r at hd hr
  have hye : y * e < P := by
    have h1 : y * e ≤ y * Q := Nat.mul_le_mul_left _ he
    have h2 : y * Q < W * Q := Nat.mul_lt_mul_of_pos_right hy hQ
    omega
  have key : y * m * c = P * y + y * e := by rw [Nat.mul_assoc, hm, Nat.mul_add, Nat.mul_comm P y]
  apply Nat.div_eq_of_lt_le
  · refine Nat.le_of_mul_le_mul_right ?_ hc
    rw [key]
    have : q * P * c = P * (c * q) := by rw [Nat.mul_comm q P, Nat.mul_assoc, Nat.mul_comm q c]
    rw [this]
    have : P * (c * q) ≤ P * y := Nat.mul_le_mul_left _ (by omega)
    omega
  · refine Nat.lt_of_mul_lt_mul_right (a := c) ?_
    rw [key]
    have h3 : (q + 1) * P * c = P * (c * q + c) := by rw [Nat.mul_comm (q + 1) P, Nat.mul_assoc, Nat.add_mul, Nat.one_mul, Nat.mul_comm q c]
    rw [h3]
    have h4 : P * (y + 1) ≤ P * (c * q + c) := Nat.mul_le_mul_left _ (by omega)
    rw [Nat.mul_add, Nat.mul_one] at h4
    omega

theorem wrap_u64 (n : Int) : IntKind.u64.wrap n = n % 18446744073709551616 := by simp [IntKind.wrap, IntKind.bits, IntKind.signed]
theorem wraps_u64 (n : Int) (h0 : 0 ≤ n) (h1 : n < 2 ^ 64) : IntKind.u64.wrap n = n := by
  rw [wrap_u64]
  omega
theorem and_mod (i : Nat) (hi : i ≤ 64) (x : Int) (h0 : 0 ≤ x) (h1 : x < 18446744073709551616) : Go.bits .and .u64 x (2 ^ i - 1) = x % 2 ^ i :=
  bits_mask .u64 64 (by decide) wraps_u64 i hi x h0 (by omega)
theorem and_low (x : Int) (h0 : 0 ≤ x) (h1 : x < 18446744073709551616) : Go.bits .and .u64 x 4294967295 = x % 4294967296 := and_mod 32 (by decide) x h0 h1

theorem mul64 (a b : Nat) (ha : a < 18446744073709551616) (hb : b < 18446744073709551616) :
    bits_Mul64.f a b = some (((a * b / 18446744073709551616 : Nat) : Int), ((a * b % 18446744073709551616 : Nat) : Int)) := by
  unfold bits_Mul64.f
  rw [and_low a (by omega) (by omega), and_low b (by omega) (by omega)]
  simp only [wrap_u64]
  obtain ⟨a1, a0, rfl, h1, h2⟩ : ∃ a1 a0, a = 4294967296 * a1 + a0 ∧ a1 < 4294967296 ∧ a0 < 4294967296 := ⟨a / 4294967296, a % 4294967296, by omega, by omega, by omega⟩
  obtain ⟨b1, b0, rfl, h3, h4⟩ : ∃ b1 b0, b = 4294967296 * b1 + b0 ∧ b1 < 4294967296 ∧ b0 < 4294967296 := ⟨b / 4294967296, b % 4294967296, by omega, by omega, by omega⟩
  have e1 : ((4294967296 * a1 + a0 : Nat) : Int) / 4294967296 = a1 := by omega
  have e2 : ((4294967296 * b1 + b0 : Nat) : Int) / 4294967296 = b1 := by omega
  have e3 : ((4294967296 * a1 + a0 : Nat) : Int) % 4294967296 = a0 := by omega
  have e4 : ((4294967296 * b1 + b0 : Nat) : Int) % 4294967296 = b0 := by omega
  rw [e1, e2, e3, e4]
  have hm : (4294967296 * a1 + a0) * (4294967296 * b1 + b0) = 18446744073709551616 * (a1 * b1) + 4294967296 * (a1 * b0) + 4294967296 * (a0 * b1) + a0 * b0 := by
    simp only [Nat.mul_add, Nat.add_mul]
    have : 4294967296 * a1 * (4294967296 * b1) = 18446744073709551616 * (a1 * b1) := by rw [Nat.mul_mul_mul_comm]
    have : a0 * (4294967296 * b1) = 4294967296 * (a0 * b1) := Nat.mul_left_comm _ _ _
    have : 4294967296 * a1 * b0 = 4294967296 * (a1 * b0) := Nat.mul_assoc _ _ _
    omega
  have p1 : a1 * b1 ≤ 18446744065119617025 := Nat.mul_le_mul (show a1 ≤ 4294967295 by omega) (show b1 ≤ 4294967295 by omega)
  have p2 : a1 * b0 ≤ 18446744065119617025 := Nat.mul_le_mul (show a1 ≤ 4294967295 by omega) (show b0 ≤ 4294967295 by omega)
  have p3 : a0 * b1 ≤ 18446744065119617025 := Nat.mul_le_mul (show a0 ≤ 4294967295 by omega) (show b1 ≤ 4294967295 by omega)
  have p4 : a0 * b0 ≤ 18446744065119617025 := Nat.mul_le_mul (show a0 ≤ 4294967295 by omega) (show b0 ≤ 4294967295 by omega)
  simp only [← Int.natCast_mul]
  rw [hm]
  generalize a1 * b1 = q1 at *
  generalize a1 * b0 = q2 at *
  generalize a0 * b1 = q3 at *
  generalize a0 * b0 = q4 at *
  have l1 : Go.bits .and .u64 (((q2 : Int) % 18446744073709551616 + (q4 : Int) % 18446744073709551616 / 4294967296) % 18446744073709551616) 4294967295 = ((q2 : Int) + (q4 : Int) / 4294967296) % 4294967296 := by
    rw [and_low _ (by omega) (by omega)]
    omega
  rw [l1]
  have g1 : (↑(18446744073709551616 * q1 + 4294967296 * q2 + 4294967296 * q3 + q4) : Int) = 18446744073709551616 * q1 + 4294967296 * q2 + 4294967296 * q3 + q4 := by omega
  refine congrArg some (Prod.ext ?_ ?_)
  · show _ = (((18446744073709551616 * q1 + 4294967296 * q2 + 4294967296 * q3 + q4) / 18446744073709551616 : Nat) : Int)
    omega
  · show _ = (((18446744073709551616 * q1 + 4294967296 * q2 + 4294967296 * q3 + q4) % 18446744073709551616 : Nat) : Int)
    omega

theorem mask_b (w : Nat) (hw : w < 65) : bits_Mask.f w = some (((2 ^ w - 1 : Nat) : Int)) := by
  have : ∀ w : Fin 65, bits_Mask.f (w.val : Int) = some (((2 ^ w.val - 1 : Nat) : Int)) := by decide +kernel
  exact this ⟨w, hw⟩
theorem mask_r (k w : Nat) (hw : w < 65) (hk : 66 ≤ k) : jacquardref12_Mask.f k w = some (((2 ^ w - 1 : Nat) : Int)) := by
  have : ∀ w : Fin 65, jacquardref12_Mask.f 66 (w.val : Int) = some (((2 ^ w.val - 1 : Nat) : Int)) := by decide +kernel
  exact at_rounds (g := fun k => jacquardref12_Mask.f k w) (fun k => jacquardref12_Mask.mono _ k) hk (this ⟨w, hw⟩)
theorem mask_m (k w : Nat) (hw : w < 65) (hk : 66 ≤ k) : jacquardref15_mask.f k w = some (((2 ^ w - 1 : Nat) : Int)) := by
  unfold jacquardref15_mask.f
  rw [mask_r k w hw hk]
  rfl

theorem shl_one (k : Nat) (hk : k < 64) : shl .u64 1 k = ((2 ^ k : Nat) : Int) := by
  have : ∀ k : Fin 64, shl .u64 1 (k.val : Int) = ((2 ^ k.val : Nat) : Int) := by decide +kernel
  exact this ⟨k, hk⟩
theorem pow_bd (k : Nat) (hk : k < 64) : 2 ^ k ≤ 9223372036854775808 := Nat.pow_le_pow_right (j := 63) (Nat.zero_lt_succ 1) (by omega)
theorem pow_bd32 (k : Nat) (hk : k ≤ 32) : 2 ^ k ≤ 4294967296 := Nat.pow_le_pow_right (j := 32) (Nat.zero_lt_succ 1) (by omega)
theorem pow_bd64 (k : Nat) (hk : k ≤ 64) : 2 ^ k ≤ 18446744073709551616 := Nat.pow_le_pow_right (j := 64) (Nat.zero_lt_succ 1) (by omega)
theorem pow_pos (k : Nat) : 1 ≤ 2 ^ k := Nat.one_le_two_pow
theorem wrap_small (n : Int) (h0 : -9223372036854775808 ≤ n) (h1 : n < 9223372036854775808) : wrap64 n = n := by
  unfold wrap64
  omega

/-- What the numbers of a division have to satisfy. -/
def Cond (w c m k : Nat) : Prop := (2 ^ w - 1) * m ≤ 2 ^ (2 * w) - 1 ∧ 2 ^ k ≤ m * c ∧ m * c - 2 ^ k ≤ 2 ^ (k - w)
instance (w c m k : Nat) : Decidable (Cond w c m k) := by unfold Cond; infer_instance

theorem magical_tells (K w c m k : Nat) (hK : 1 ≤ K) (h1 : 1 ≤ w) (h2 : w ≤ 32) (hc : 1 ≤ c) (hk : w ≤ k) (hk2 : k < 2 * w) (hm : m < 18446744073709551616) (hc2 : c < 18446744073709551616) (hmc : m * c < 18446744073709551616) :
    rewrite_magical.f K w c m k = some (decide (Cond w c m k)) := by
  obtain ⟨K, rfl⟩ : ∃ n, K = n + 1 := ⟨K - 1, by omega⟩
  have e2 : wrap64 (2 * (w : Int)) = ((2 * w : Nat) : Int) := by rw [wrap_small _ (by omega) (by omega)]; omega
  have e3 : wrap64 ((k : Int) - w) = ((k - w : Nat) : Int) := by rw [wrap_small _ (by omega) (by omega)]; omega
  have b1 := pow_bd32 w h2
  have b2 := pow_pos w
  unfold rewrite_magical.f
  rw [if_neg (by omega), if_neg (by omega), if_neg (by omega), e2, decide_eq_false (by omega)]
  rw [rewrite_magical.j0]
  rw [if_neg (by decide), mask_b w (by omega)]
  simp only [Option.bind_some]
  rw [mul64 _ _ (by omega) hm]
  simp only [Option.bind_some]
  have b3 := pow_bd64 (2 * w) (by omega)
  have b4 := pow_pos (2 * w)
  have b5 := pow_bd k (by omega)
  have b6 := pow_bd (k - w) (by omega)
  by_cases c1 : (2 ^ w - 1) * m ≤ 2 ^ (2 * w) - 1
  · have hx : (2 ^ w - 1) * m < 18446744073709551616 := by omega
    rw [Nat.div_eq_of_lt hx, Nat.mod_eq_of_lt hx, if_pos (by decide), e2, mask_b (2 * w) (by omega)]
    simp only [Option.bind_some]
    rw [if_neg (by omega), mul64 _ _ hm hc2]
    simp only [Option.bind_some]
    rw [Nat.div_eq_of_lt hmc, Nat.mod_eq_of_lt hmc, if_pos (by decide), if_pos (by omega), shl_one k (by omega)]
    by_cases c2 : 2 ^ k ≤ m * c
    · rw [if_pos (by omega), e3, if_pos (by omega), shl_one (k - w) (by omega)]
      refine congrArg some ?_
      have e5 : IntKind.u64.wrap (((m * c : Nat) : Int) - ((2 ^ k : Nat) : Int)) = ((m * c - 2 ^ k : Nat) : Int) := by
        rw [← Int.natCast_sub c2, wrap_u64]
        have : m * c - 2 ^ k < 18446744073709551616 := Nat.lt_of_le_of_lt (Nat.sub_le _ _) hmc
        generalize m * c - 2 ^ k = q at this ⊢
        omega
      rw [e5, decide_eq_decide]
      unfold Cond
      omega
    · rw [if_neg (by omega)]
      refine congrArg some (decide_eq_false ?_).symm
      unfold Cond
      omega
  · have hn : ¬ Cond w c m k := fun h => c1 h.1
    rw [decide_eq_false hn]
    by_cases c3 : (2 ^ w - 1) * m < 18446744073709551616
    · rw [Nat.div_eq_of_lt c3, Nat.mod_eq_of_lt c3, if_pos (by decide), e2, mask_b (2 * w) (by omega)]
      simp only [Option.bind_some]
      rw [if_pos (by omega)]
    · rw [if_neg (by omega)]

theorem fits_tells (K w c m k : Nat) (hK : 70 ≤ K) (h1 : 1 ≤ w) (h2 : w ≤ 32) (hc : 1 ≤ c) (hk : w ≤ k) (hk2 : k < 2 * w) (hcw : c ≤ 2 ^ w - 1) (hmc : m * c < 18446744073709551616) :
    jacquardref15_fits.f K w c m k = some (decide (Cond w c m k)) := by
  obtain ⟨K, rfl⟩ : ∃ n, K = n + 1 := ⟨K - 1, by omega⟩
  have e2 : wrap64 (2 * (w : Int)) = ((2 * w : Nat) : Int) := by rw [wrap_small _ (by omega) (by omega)]; omega
  have e3 : wrap64 ((k : Int) - w) = ((k - w : Nat) : Int) := by rw [wrap_small _ (by omega) (by omega)]; omega
  have b1 := pow_bd32 w h2
  have b2 : 2 ≤ 2 ^ w := Nat.pow_le_pow_right (i := 1) (Nat.zero_lt_succ 1) h1
  have b3 := pow_bd64 (2 * w) (by omega)
  have b4 := pow_pos (2 * w)
  have b5 := pow_bd k (by omega)
  have b6 := pow_bd (k - w) (by omega)
  unfold jacquardref15_fits.f
  rw [if_neg (by omega), if_neg (by omega), if_neg (by omega), mask_m (K + 1) w (by omega) (by omega)]
  simp only [Option.bind_some]
  rw [if_neg (by omega), if_neg (by omega), e2, decide_eq_false (by omega)]
  rw [jacquardref15_fits.j0]
  rw [if_neg (by decide), e2, mask_m K (2 * w) (by omega) (by omega)]
  simp only [Option.bind_some]
  rw [mask_m K w (by omega) (by omega)]
  simp only [Option.bind_some]
  rw [if_neg (by omega)]
  have e4 : IntKind.u64.wrap (Int.tdiv ((2 ^ (2 * w) - 1 : Nat) : Int) ((2 ^ w - 1 : Nat) : Int)) = (((2 ^ (2 * w) - 1) / (2 ^ w - 1) : Nat) : Int) := by
    rw [← Int.ofNat_tdiv, wrap_u64]
    have := Nat.div_le_self (2 ^ (2 * w) - 1) (2 ^ w - 1)
    generalize (2 ^ (2 * w) - 1) / (2 ^ w - 1) = q at this ⊢
    omega
  have e6 : IntKind.u64.wrap ((m : Int) * (c : Int)) = ((m * c : Nat) : Int) := by
    rw [← Int.natCast_mul, wrap_u64]
    omega
  have e7 : m ≤ (2 ^ (2 * w) - 1) / (2 ^ w - 1) ↔ (2 ^ w - 1) * m ≤ 2 ^ (2 * w) - 1 := by
    rw [Nat.le_div_iff_mul_le (by omega), Nat.mul_comm]
  rw [e4, e6]
  by_cases c1 : (2 ^ w - 1) * m ≤ 2 ^ (2 * w) - 1
  · have c1' := e7.2 c1
    rw [if_neg (by omega), if_pos (by omega), shl_one k (by omega)]
    by_cases c2 : 2 ^ k ≤ m * c
    · rw [if_pos (by omega), e3, if_pos (by omega), shl_one (k - w) (by omega)]
      refine congrArg some ?_
      have e5 : IntKind.u64.wrap (((m * c : Nat) : Int) - ((2 ^ k : Nat) : Int)) = ((m * c - 2 ^ k : Nat) : Int) := by
        rw [← Int.natCast_sub c2, wrap_u64]
        have : m * c - 2 ^ k < 18446744073709551616 := Nat.lt_of_le_of_lt (Nat.sub_le _ _) hmc
        generalize m * c - 2 ^ k = q at this ⊢
        omega
      rw [e5, decide_eq_decide]
      unfold Cond
      omega
    · rw [if_neg (by omega)]
      refine congrArg some (decide_eq_false ?_).symm
      unfold Cond
      omega
  · have hn : ¬ Cond w c m k := fun h => c1 h.1
    have c1' : ¬ m ≤ (2 ^ (2 * w) - 1) / (2 ^ w - 1) := fun h => c1 (e7.1 h)
    rw [decide_eq_false hn, if_pos (by omega)]

/-- The least number that is at least 2^k / c. -/
def num (c k : Nat) : Nat := (2 ^ k - 1) / c + 1
theorem num_alt (c k : Nat) : num c k = if 2 ^ k % c = 0 then 2 ^ k / c else 2 ^ k / c + 1 := by
  unfold num
  have hp := pow_pos k
  generalize 2 ^ k = P at hp ⊢
  obtain ⟨p, rfl⟩ : ∃ p, P = p + 1 := ⟨P - 1, by omega⟩
  rw [Nat.add_sub_cancel, Nat.succ_div]
  by_cases h : c ∣ p + 1
  · rw [if_pos h, if_pos (Nat.mod_eq_zero_of_dvd h)]
  · rw [if_neg h, if_neg (fun e => h (Nat.dvd_of_mod_eq_zero e))]
theorem num_bd (c k : Nat) : num c k ≤ 2 ^ k ∧ 1 ≤ num c k ∧ num c k * c ≤ 2 ^ k - 1 + c := by
  unfold num
  have hp := pow_pos k
  have h1 := Nat.div_le_self (2 ^ k - 1) c
  have h2 := Nat.div_mul_le_self (2 ^ k - 1) c
  rw [Nat.add_mul]
  generalize (2 ^ k - 1) / c * c = z at h2 ⊢
  generalize (2 ^ k - 1) / c = q at h1 ⊢
  omega

/-- The answer from some k on, d steps before the end. -/
def found (w c : Nat) : Nat → Nat → Int × Int × Int
  | 0, _ => (0, 0, 6)
  | d + 1, k => if Cond w c (num c k) k then (((num c k : Nat) : Int), (k : Int), (0 : Int)) else found w c d (k + 1)

theorem loop_rw (w c : Nat) (h1 : 1 ≤ w) (h2 : w ≤ 32) (hc : 1 ≤ c) (hcw : c ≤ 2 ^ w - 1) (d : Nat) : ∀ (K k : Nat), d + 2 ≤ K → w ≤ k → k + d = 2 * w → rewrite_Magic.l0 K w c k = some (found w c d k) := by
  have e2 : wrap64 (2 * (w : Int)) = ((2 * w : Nat) : Int) := by rw [wrap_small _ (by omega) (by omega)]; omega
  have b1 := pow_bd32 w h2
  induction d with
  | zero =>
    intro K k hK hk hd
    obtain ⟨K, rfl⟩ : ∃ n, K = n + 1 := ⟨K - 1, by omega⟩
    rw [rewrite_Magic.l0]
    rw [e2, if_neg (by omega)]
    rfl
  | succ d ih =>
    intro K k hK hk hd
    obtain ⟨K, rfl⟩ : ∃ n, K = n + 1 := ⟨K - 1, by omega⟩
    have b2 := pow_bd k (by omega)
    have b3 := pow_pos k
    obtain ⟨n1, n2, n3⟩ := num_bd c k
    rw [rewrite_Magic.l0]
    rw [e2, if_pos (by omega), if_pos (by omega), if_neg (by omega), shl_one k (by omega)]
    have e3 : IntKind.u64.wrap (((2 ^ k : Nat) : Int) - 1) = ((2 ^ k - 1 : Nat) : Int) := by rw [wrap_u64]; omega
    have e4 : IntKind.u64.wrap (IntKind.u64.wrap (Int.tdiv (IntKind.u64.wrap (((2 ^ k : Nat) : Int) - 1)) c) + 1) = ((num c k : Nat) : Int) := by
      rw [e3, ← Int.ofNat_tdiv, wrap_u64, wrap_u64]
      unfold num at n1 ⊢
      clear n2 n3
      generalize (2 ^ k - 1) / c = q at n1 ⊢
      omega
    rw [e4, magical_tells K w c (num c k) k (by omega) h1 h2 hc hk (by omega) (by omega) (by omega) (by omega)]
    simp only [Option.bind_some]
    unfold found
    by_cases hx : Cond w c (num c k) k
    · rw [if_pos hx, if_pos (decide_eq_true hx)]
    · rw [if_neg hx, if_neg (by simpa using hx), wrap_small _ (by omega) (by omega)]
      exact ih K (k + 1) (by omega) (by omega) (by omega)

theorem loop_ref (w c : Nat) (h1 : 1 ≤ w) (h2 : w ≤ 32) (hc : 1 ≤ c) (hcw : c ≤ 2 ^ w - 1) (d : Nat) : ∀ (K k : Nat), d + 72 ≤ K → w ≤ k → k + d = 2 * w → jacquardref15_Magic.l0 K w c k = some (found w c d k) := by
  have e2 : wrap64 (2 * (w : Int)) = ((2 * w : Nat) : Int) := by rw [wrap_small _ (by omega) (by omega)]; omega
  have b1 := pow_bd32 w h2
  induction d with
  | zero =>
    intro K k hK hk hd
    obtain ⟨K, rfl⟩ : ∃ n, K = n + 1 := ⟨K - 1, by omega⟩
    rw [jacquardref15_Magic.l0]
    rw [e2, if_neg (by omega)]
    rfl
  | succ d ih =>
    intro K k hK hk hd
    obtain ⟨K, rfl⟩ : ∃ n, K = n + 1 := ⟨K - 1, by omega⟩
    have b2 := pow_bd k (by omega)
    have b3 := pow_pos k
    obtain ⟨n1, n2, n3⟩ := num_bd c k
    have n4 := num_alt c k
    have n5 := Nat.div_le_self (2 ^ k) c
    rw [jacquardref15_Magic.l0]
    rw [e2, if_pos (by omega), if_pos (by omega), if_neg (by omega), shl_one k (by omega), ← Int.ofNat_tmod, ← Int.ofNat_tdiv]
    have hq : ∀ q : Nat, q ≤ 2 ^ k → IntKind.u64.wrap (q : Int) = (q : Int) ∧ IntKind.u64.wrap ((q : Int) + 1) = ((q + 1 : Nat) : Int) := fun q h => by
      rw [wrap_u64, wrap_u64]
      omega
    rw [(hq _ n5).1, (hq _ n5).2]
    have hif : ((if 2 ^ k % c = 0 then 2 ^ k / c else 2 ^ k / c + 1) = num c k) := n4.symm
    have hstep : ((jacquardref15_fits.f K w c (num c k : Nat) k).bind fun t => (if t = true then some ((((num c k : Nat) : Int)), (k : Int), (0 : Int)) else jacquardref15_Magic.l0 K w c (wrap64 ((k : Int) + 1)))) = some (found w c (d + 1) k) := by
      rw [fits_tells K w c (num c k) k (by omega) h1 h2 hc hk (by omega) hcw (by omega)]
      simp only [Option.bind_some]
      unfold found
      by_cases hx : Cond w c (num c k) k
      · rw [if_pos hx, if_pos (decide_eq_true hx)]
      · rw [if_neg hx, if_neg (by simpa using hx), wrap_small _ (by omega) (by omega)]
        exact ih K (k + 1) (by omega) (by omega) (by omega)
    by_cases hz : 2 ^ k % c = 0
    · rw [if_pos hz] at hif
      rw [if_pos (by omega), hif]
      exact hstep
    · rw [if_neg hz] at hif
      rw [if_neg (by omega), hif]
      exact hstep

/-- What is found satisfies the conditions. -/
theorem found_tells (w c : Nat) (d : Nat) : ∀ k, found w c d k = (0, 0, 6) ∨ ∃ j, k ≤ j ∧ j < k + d ∧ Cond w c (num c j) j ∧ found w c d k = (((num c j : Nat) : Int), (j : Int), (0 : Int)) := by
  induction d with
  | zero => exact fun k => .inl rfl
  | succ d ih =>
    intro k
    unfold found
    by_cases hx : Cond w c (num c k) k
    · rw [if_pos hx]
      exact .inr ⟨k, by omega, by omega, hx, rfl⟩
    · rw [if_neg hx]
      rcases ih (k + 1) with h | ⟨j, a, b, h⟩
      · exact .inl h
      · exact .inr ⟨j, by omega, by omega, h⟩

/-- Both functions, for any width and constant. -/
theorem both_tell (K : Nat) (hK : 200 ≤ K) (a : Int) (c : Nat) (hc : c < 18446744073709551616) :
    (¬ (1 ≤ a ∧ a ≤ 32 ∧ 1 ≤ c ∧ c ≤ 2 ^ a.toNat - 1) ∧ rewrite_Magic.f K a c = some (0, 0, 1) ∧ jacquardref15_Magic.f K a c = some (0, 0, 1)) ∨
    ∃ w : Nat, a = w ∧ 1 ≤ w ∧ w ≤ 32 ∧ 1 ≤ c ∧ c ≤ 2 ^ w - 1 ∧ rewrite_Magic.f K a c = some (found w c w w) ∧ jacquardref15_Magic.f K a c = some (found w c w w) := by
  have hj1 : rewrite_Magic.j0 K a c true = some (0, 0, 1) := by
    obtain ⟨K, rfl⟩ : ∃ n, K = n + 1 := ⟨K - 1, by omega⟩
    rw [rewrite_Magic.j0]
    exact if_pos rfl
  have hj2 : jacquardref15_Magic.j0 K a c true = some (0, 0, 1) := by
    obtain ⟨K, rfl⟩ : ∃ n, K = n + 1 := ⟨K - 1, by omega⟩
    rw [jacquardref15_Magic.j0]
    exact if_pos rfl
  by_cases h1 : a < 1
  · refine .inl ⟨by omega, ?_, ?_⟩
    · unfold rewrite_Magic.f
      rw [if_pos h1, hj1]
    · unfold jacquardref15_Magic.f
      rw [if_pos h1, hj2]
  by_cases h2 : a > 32
  · refine .inl ⟨by omega, ?_, ?_⟩
    · unfold rewrite_Magic.f
      rw [if_neg h1, if_pos h2, hj1]
    · unfold jacquardref15_Magic.f
      rw [if_neg h1, if_pos h2, hj2]
  by_cases h3 : (c : Int) < 1
  · refine .inl ⟨by omega, ?_, ?_⟩
    · unfold rewrite_Magic.f
      rw [if_neg h1, if_neg h2, if_pos h3, hj1]
    · unfold jacquardref15_Magic.f
      rw [if_neg h1, if_neg h2, if_pos h3, hj2]
  obtain ⟨w, rfl⟩ := Int.eq_ofNat_of_zero_le (show 0 ≤ a by omega)
  have b2 := pow_pos w
  have f1 : rewrite_Magic.f K w c = rewrite_Magic.j0 K w c (decide ((c : Int) > ((2 ^ w - 1 : Nat) : Int))) := by
    unfold rewrite_Magic.f
    rw [if_neg h1, if_neg h2, if_neg h3, mask_b w (by omega)]
    rfl
  have f2 : jacquardref15_Magic.f K w c = jacquardref15_Magic.j0 K w c (decide ((c : Int) > ((2 ^ w - 1 : Nat) : Int))) := by
    unfold jacquardref15_Magic.f
    rw [if_neg h1, if_neg h2, if_neg h3, mask_m K w (by omega) (by omega)]
    rfl
  by_cases h4 : c ≤ 2 ^ w - 1
  · refine .inr ⟨w, rfl, by omega, by omega, by omega, h4, ?_, ?_⟩
    · rw [f1, decide_eq_false (by omega)]
      obtain ⟨K, rfl⟩ : ∃ n, K = n + 1 := ⟨K - 1, by omega⟩
      rw [rewrite_Magic.j0]
      rw [if_neg (by decide)]
      exact loop_rw w c (by omega) (by omega) (by omega) h4 w K w (by omega) (by omega) (by omega)
    · rw [f2, decide_eq_false (by omega)]
      obtain ⟨K, rfl⟩ : ∃ n, K = n + 1 := ⟨K - 1, by omega⟩
      rw [jacquardref15_Magic.j0]
      rw [if_neg (by decide)]
      exact loop_ref w c (by omega) (by omega) (by omega) h4 w K w (by omega) (by omega) (by omega)
  · refine .inl ⟨?_, ?_, ?_⟩
    · rw [Int.toNat_natCast]
      omega
    · rw [f1, decide_eq_true (by omega), hj1]
    · rw [f2, decide_eq_true (by omega), hj2]

theorem awake_tells (K : Nat) (hK : 200 ≤ K) : jacquardlaw15_awake.f K = some true := by
  have h : jacquardlaw15_awake.f 20 = some true := by decide +kernel
  exact at_rounds (g := fun k => jacquardlaw15_awake.f k) (fun k => jacquardlaw15_awake.mono k) (by omega) h

theorem RewriteMagic : jacquardlaw15_RewriteMagic.Pure := by
  intro a c x ha hc hx
  have hx2 : 0 ≤ x ∧ x < 18446744073709551616 := by
    simp [Lit.wf, IntKind.min, IntKind.max, IntKind.bits, IntKind.signed] at hx
    omega
  have hc2 : 0 ≤ c ∧ c < 18446744073709551616 := by
    simp [Lit.wf, IntKind.min, IntKind.max, IntKind.bits, IntKind.signed] at hc
    omega
  clear ha hc hx
  obtain ⟨c, rfl⟩ := Int.eq_ofNat_of_zero_le hc2.1
  obtain ⟨x, rfl⟩ := Int.eq_ofNat_of_zero_le hx2.1
  refine ⟨300, ?_⟩
  unfold jacquardlaw15_RewriteMagic.f
  rw [awake_tells 300 (by omega)]
  simp only [Option.bind_some, if_true]
  rcases both_tell 300 (by omega) a c (by omega) with ⟨_, e1, e2⟩ | ⟨w, rfl, h1, h2, h3, h4, e1, e2⟩
  · rw [e1, e2]
    rfl
  rw [e1, e2]
  simp only [Option.bind_some, if_true, bne_self_eq_false]
  show jacquardlaw15_RewriteMagic.j0 (299 + 1) _ _ _ _ _ _ _ = _
  rw [jacquardlaw15_RewriteMagic.j0]
  rw [if_neg (by decide)]
  rcases found_tells w c w w with h | ⟨j, g1, g2, ⟨q1, q2, q3⟩, h⟩
  · rw [h]
    rfl
  rw [h]
  simp only [if_true]
  obtain ⟨n1, n2, n3⟩ := num_bd c j
  have b1 := pow_bd32 w h2
  have b2 := pow_bd j (by omega)
  have b3 := pow_bd64 (2 * w) (by omega)
  have b4 := pow_pos w
  have b5 := pow_pos (2 * w)
  have hand : Go.bits .and .u64 (x : Int) ((2 ^ w - 1 : Nat) : Int) = ((x % 2 ^ w : Nat) : Int) := by
    have h0 := and_mod w (by omega) (x : Int) (by omega) (by omega)
    have h00 : ((2 : Int) ^ w) = ((2 ^ w : Nat) : Int) := by simp
    rw [h00] at h0
    rw [Int.natCast_sub b4]
    exact h0.trans (by omega)
  have hy : x % 2 ^ w < 2 ^ w := Nat.mod_lt _ (by omega)
  rw [mask_r 299 w (by omega) (by omega)]
  simp only [Option.bind_some]
  rw [if_pos (by omega), if_neg (by omega), hand]
  generalize x % 2 ^ w = y at hy ⊢
  have hmy : y * num c j ≤ 2 ^ (2 * w) - 1 := Nat.le_trans (Nat.mul_le_mul_right _ (show y ≤ 2 ^ w - 1 by omega)) q1
  have hdiv : y * num c j / 2 ^ j = y / c := by
    have hP : 2 ^ j = 2 ^ w * 2 ^ (j - w) := by rw [← Nat.pow_add]; congr 1; omega
    exact magic_div hP (pow_pos _) (e := num c j * c - 2 ^ j) (by omega) q3 hy h3
  have d1 : shr .u64 (IntKind.u64.wrap ((y : Int) * ((num c j : Nat) : Int))) (j : Int) = ((y / c : Nat) : Int) := by
    rw [← hdiv, ← Int.natCast_mul, wrap_u64]
    have : ((y * num c j : Nat) : Int) % 18446744073709551616 = ((y * num c j : Nat) : Int) := by omega
    rw [this]
    unfold shr
    rw [Int.toNat_natCast, Nat.min_eq_left (by show j ≤ 64; omega), Int.natCast_ediv]
    simp
  have d2 : IntKind.u64.wrap (Int.tdiv (y : Int) (c : Int)) = ((y / c : Nat) : Int) := by
    rw [← Int.ofNat_tdiv, wrap_u64]
    have := Nat.div_le_self y c
    generalize y / c = q at this ⊢
    omega
  have e3 : wrap64 (2 * (w : Int)) = ((2 * w : Nat) : Int) := by rw [wrap_small _ (by omega) (by omega)]; omega
  rw [d1, d2, if_pos rfl, if_neg (by omega), e3, mask_r 299 (2 * w) (by omega) (by omega)]
  simp only [Option.bind_some]
  refine congrArg some (decide_eq_true ?_)
  rw [← Int.ofNat_tdiv, wrap_u64]
  have l1 := Nat.div_le_self (2 ^ (2 * w) - 1) (num c j)
  have l2 : y ≤ (2 ^ (2 * w) - 1) / num c j := (Nat.le_div_iff_mul_le (by omega)).2 hmy
  omega
end Go.Proofs.Ytiadfnedbbkojaa.Pure
