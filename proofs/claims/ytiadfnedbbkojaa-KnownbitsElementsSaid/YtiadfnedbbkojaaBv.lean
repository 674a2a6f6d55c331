/- Words of 64 bits as bit vectors: what the program's operations on unsigned numbers come to. Plain lemmas, without conditions of the program. -/
import Derived.Laws.Entries
import Derived.Laws.BitsLemmas
import Derived.RowKit
import Derived.Test.YtiadfnedbbkojaaWMore
namespace Go.Proofs.Ytiadfnedbbkojaa.Bv
open Go.RowKit Go.Proofs.YtiadfnedbbkojaaW.PrintWords
/-- A word as the whole number that it is. -/
def U (x : BitVec 64) : Int := (x.toNat : Int)

theorem U_nonneg (x : BitVec 64) : 0 ≤ U x := Int.natCast_nonneg _
theorem U_lt (x : BitVec 64) : U x < 18446744073709551616 := by
  have := x.isLt
  unfold U
  omega
theorem of_range {a : Int} (h0 : 0 ≤ a) (h1 : a < 18446744073709551616) : ∃ x, a = U x := by
  refine ⟨BitVec.ofNat 64 a.toNat, ?_⟩
  unfold U
  rw [BitVec.toNat_ofNat, Nat.mod_eq_of_lt (by omega)]
  omega
theorem of_wf {a : Int} (h : (Lit.int .u64 a).wf = true) : ∃ x, a = U x := by
  simp [Lit.wf, IntKind.min, IntKind.max, IntKind.bits, IntKind.signed] at h
  exact of_range (by omega) (by omega)
theorem U_inj {x y : BitVec 64} : U x = U y ↔ x = y := by
  unfold U
  rw [Int.ofNat_inj]
  exact BitVec.toNat_inj
theorem U_lt_iff {x y : BitVec 64} : U x < U y ↔ x < y := by
  unfold U
  rw [Int.ofNat_lt]
  exact Iff.rfl
theorem U_le_iff {x y : BitVec 64} : U x ≤ U y ↔ x ≤ y := by
  unfold U
  rw [Int.ofNat_le]
  exact Iff.rfl
theorem U_ofNat (n : Nat) (h : n < 18446744073709551616) : U (BitVec.ofNat 64 n) = (n : Int) := by
  unfold U
  rw [BitVec.toNat_ofNat, Nat.mod_eq_of_lt (by omega)]
theorem U_0 : U 0#64 = 0 := rfl
theorem U_1 : U 1#64 = 1 := rfl
theorem U_max : U (BitVec.allOnes 64) = 18446744073709551615 := by decide
theorem U_eq0 {x : BitVec 64} : U x = 0 ↔ x = 0#64 := U_inj (y := 0#64)
theorem zero_eqU {x : BitVec 64} : 0 = U x ↔ 0#64 = x := U_inj (x := 0#64)

theorem wrap_u64 (n : Int) : IntKind.u64.wrap n = n % 18446744073709551616 := by simp [IntKind.wrap, IntKind.bits, IntKind.signed]
theorem wrap_U (x : BitVec 64) : IntKind.u64.wrap (U x) = U x := by
  have h0 := U_nonneg x
  have h1 := U_lt x
  rw [wrap_u64]
  omega
theorem ofInt_U (x : BitVec 64) : BitVec.ofInt 64 (U x) = x := by
  unfold U
  rw [BitVec.ofInt_natCast, BitVec.ofNat_toNat, BitVec.setWidth_eq]
theorem wrap_ofInt (n : Int) : IntKind.u64.wrap n = U (BitVec.ofInt 64 n) := by
  unfold U
  rw [wrap_u64, BitVec.toNat_ofInt]
  omega
theorem b_and (x y : BitVec 64) : Go.bits .and .u64 (U x) (U y) = U (x &&& y) := by
  have h : Go.bits .and .u64 (U x) (U y) = IntKind.u64.wrap (U (BitVec.ofInt 64 (U x) &&& BitVec.ofInt 64 (U y))) := rfl
  rw [h, ofInt_U, ofInt_U, wrap_U]
theorem b_or (x y : BitVec 64) : Go.bits .or .u64 (U x) (U y) = U (x ||| y) := by
  have h : Go.bits .or .u64 (U x) (U y) = IntKind.u64.wrap (U (BitVec.ofInt 64 (U x) ||| BitVec.ofInt 64 (U y))) := rfl
  rw [h, ofInt_U, ofInt_U, wrap_U]
theorem b_xor (x y : BitVec 64) : Go.bits .xor .u64 (U x) (U y) = U (x ^^^ y) := by
  have h : Go.bits .xor .u64 (U x) (U y) = IntKind.u64.wrap (U (BitVec.ofInt 64 (U x) ^^^ BitVec.ofInt 64 (U y))) := rfl
  rw [h, ofInt_U, ofInt_U, wrap_U]
theorem b_andNot (x y : BitVec 64) : Go.bits .andNot .u64 (U x) (U y) = U (x &&& ~~~ y) := by
  have h : Go.bits .andNot .u64 (U x) (U y) = IntKind.u64.wrap (U (BitVec.ofInt 64 (U x) &&& ~~~ BitVec.ofInt 64 (U y))) := rfl
  rw [h, ofInt_U, ofInt_U, wrap_U]
theorem b_not (x : BitVec 64) : Go.bits .xor .u64 18446744073709551615 (U x) = U (~~~ x) := by
  rw [← U_max, b_xor]
  congr 1
theorem w_add (x y : BitVec 64) : IntKind.u64.wrap (U x + U y) = U (x + y) := by
  rw [wrap_ofInt, BitVec.ofInt_add, ofInt_U, ofInt_U]
theorem w_sub (x y : BitVec 64) : IntKind.u64.wrap (U x - U y) = U (x - y) := by
  rw [Int.sub_eq_add_neg, wrap_ofInt, BitVec.ofInt_add, BitVec.ofInt_neg, ofInt_U, ofInt_U, BitVec.sub_eq_add_neg]
theorem w_mul (x y : BitVec 64) : IntKind.u64.wrap (U x * U y) = U (x * y) := by
  rw [wrap_ofInt, BitVec.ofInt_mul, ofInt_U, ofInt_U]
theorem w_neg (x : BitVec 64) : IntKind.u64.wrap (- U x) = U (- x) := by
  rw [wrap_ofInt, BitVec.ofInt_neg, ofInt_U]
theorem w_sub1 (x : BitVec 64) : IntKind.u64.wrap (U x - 1) = U (x - 1#64) := w_sub x 1#64
theorem w_add1 (x : BitVec 64) : IntKind.u64.wrap (U x + 1) = U (x + 1#64) := w_add x 1#64
theorem s_left (x : BitVec 64) (i : Int) (_h : 0 ≤ i) : shl .u64 (U x) i = U (x <<< i.toNat) := by
  have hb : IntKind.u64.bits = 64 := rfl
  unfold shl
  rw [wrap_u64, hb]
  unfold U
  rw [BitVec.toNat_shiftLeft, Nat.shiftLeft_eq]
  by_cases hi : i.toNat ≤ 64
  · rw [Nat.min_eq_left hi]
    simp
  · rw [Nat.min_eq_right (by show 64 ≤ i.toNat; omega)]
    have h1 : x.toNat * 2 ^ i.toNat % 2 ^ 64 = 0 := by
      obtain ⟨j, hj⟩ : ∃ j, i.toNat = 64 + j := ⟨i.toNat - 64, by omega⟩
      rw [hj, Nat.pow_add, ← Nat.mul_assoc, Nat.mul_comm x.toNat, Nat.mul_assoc]
      exact Nat.mul_mod_right _ _
    rw [h1]
    show ((x.toNat : Int) * 2 ^ 64) % 18446744073709551616 = 0
    omega
theorem s_right (x : BitVec 64) (i : Int) (_h : 0 ≤ i) : shr .u64 (U x) i = U (x >>> i.toNat) := by
  have hb : IntKind.u64.bits = 64 := rfl
  unfold shr U
  rw [hb, BitVec.toNat_ushiftRight, Nat.shiftRight_eq_div_pow]
  by_cases hi : i.toNat ≤ 64
  · rw [Nat.min_eq_left hi, Int.natCast_ediv]
    simp
  · rw [Nat.min_eq_right (by show 64 ≤ i.toNat; omega)]
    have h1 : x.toNat / 2 ^ i.toNat = 0 := by
      refine Nat.div_eq_of_lt (Nat.lt_of_lt_of_le x.isLt (Nat.pow_le_pow_right (Nat.zero_lt_succ 1) (by omega)))
    rw [h1]
    have := x.isLt
    show (x.toNat : Int) / 2 ^ 64 = 0
    omega
theorem q_div (x y : BitVec 64) : Int.tdiv (U x) (U y) = U (x / y) := by
  unfold U
  rw [← Int.ofNat_tdiv, BitVec.toNat_udiv]
theorem q_mod (x y : BitVec 64) : Int.tmod (U x) (U y) = U (x % y) := by
  unfold U
  rw [← Int.ofNat_tmod, BitVec.toNat_umod]
/-- The word of w ones, for a width of any sign. -/
def M (w : Int) : BitVec 64 := if 64 ≤ w then BitVec.allOnes 64 else (1#64 <<< w.toNat) - 1#64
theorem M_nat (w : Nat) (h : w ≤ 64) : (M w).toNat = 2 ^ w - 1 := by
  have : ∀ w : Fin 65, (M (w.val : Int)).toNat = 2 ^ w.val - 1 := by decide +kernel
  exact this ⟨w, by omega⟩
theorem M_bit (w : Nat) (h : w ≤ 64) (i : Nat) : (M w).getLsbD i = decide (i < w) := by
  unfold BitVec.getLsbD
  rw [M_nat w h, Nat.testBit_two_pow_sub_one]
theorem M_neg (w : Int) (h : w ≤ 0) : M w = 0#64 := by
  unfold M
  rw [if_neg (by omega), show w.toNat = 0 by omega]
  rfl
end Go.Proofs.Ytiadfnedbbkojaa.Bv
