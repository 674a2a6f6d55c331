/- Joined texts: SC. -/
import Derived.Lib.TrailingZeros
import Derived.Test.YtiadfnedbbkojaaDoorSB
import Derived.Test.YtiadfnedbbkojaaDoorRD
namespace Go.Proofs.YtiadfnedbbkojaaDoor.Kb
open Go Go.Proofs Go.Proofs.YtiadfnedbbkojaaDoor.X Go.Proofs.YtiadfnedbbkojaaDoor.Bv
set_option linter.unusedSimpArgs false
set_option linter.unusedVariables false
end Go.Proofs.YtiadfnedbbkojaaDoor.Kb
namespace Go.Proofs.YtiadfnedbbkojaaDoor.Kb
open Go Go.Proofs Go.Proofs.YtiadfnedbbkojaaDoor.X Go.Proofs.YtiadfnedbbkojaaDoor.Bv
set_option linter.unusedSimpArgs false
set_option linter.unusedVariables false
end Go.Proofs.YtiadfnedbbkojaaDoor.Kb
namespace Go.Proofs.YtiadfnedbbkojaaDoor.Kb
open Go Go.Proofs Go.Proofs.YtiadfnedbbkojaaDoor.X Go.Proofs.YtiadfnedbbkojaaDoor.Bv Go.Proofs.YtiadfnedbbkojaaDoor
set_option linter.unusedSimpArgs false
set_option linter.unusedVariables false
theorem hTab_wf : WF hTab := by
  constructor
  · intro β b hb
    unfold hTab at hb
    simp only at hb
    rw [Tr.get_set] at hb
    split at hb
    · injection hb with hb
      subst hb
      exact Nat.zero_le _
    · rw [Tr.get_nil] at hb
      cases hb
  · intro β hβ
    unfold hTab at hβ ⊢
    simp only at hβ ⊢
    rw [Tr.get_set, if_neg (by omega), Tr.get_nil, Tr.get_nil]
    exact ⟨rfl, rfl⟩
end Go.Proofs.YtiadfnedbbkojaaDoor.Kb
namespace Go.Proofs.YtiadfnedbbkojaaDoor.Kb
open Go Go.Proofs Go.Proofs.YtiadfnedbbkojaaDoor.X Go.Proofs.YtiadfnedbbkojaaDoor.Bv
set_option linter.unusedSimpArgs false
set_option linter.unusedVariables false
def tabC : List Value := [0, 1, 56, 2, 57, 49, 28, 3, 61, 58, 42, 50, 38, 29, 17, 4, 62, 47, 59, 36, 45, 43, 51, 22, 53, 39, 33, 30, 24, 18, 12, 5, 63, 55, 48, 27, 60, 41, 37, 16, 46, 35, 44, 21, 52, 32, 23, 11, 54, 26, 40, 15, 34, 20, 31, 10, 25, 14, 19, 9, 13, 8, 7, 6].map fun (n : Nat) => .int .u8 n
/-- The program's table lies where it is looked for. -/
def Tab (h : AH) : Prop := Sl h (some ⟨0, 0, none⟩) tabC
theorem tabC_at (i : Nat) (hi : i < 64) : tabC[i]? = some (.int .u8 ((Go.Lib.deBruijn64tab.getD i 0 : Nat) : Int)) := by
  have : ∀ i : Fin 64, tabC[i.val]? = some (.int .u8 ((Go.Lib.deBruijn64tab.getD i.val 0 : Nat) : Int)) := by
    intro i
    unfold tabC
    rw [List.getElem?_map]
    rcases i with ⟨i, hi⟩
    have e : [0, 1, 56, 2, 57, 49, 28, 3, 61, 58, 42, 50, 38, 29, 17, 4, 62, 47, 59, 36, 45, 43, 51, 22, 53, 39, 33, 30, 24, 18, 12, 5, 63, 55, 48, 27, 60, 41, 37, 16, 46, 35, 44, 21, 52, 32, 23, 11, 54, 26, 40, 15, 34, 20, 31, 10, 25, 14, 19, 9, 13, 8, 7, 6] = Go.Lib.deBruijn64tab := rfl
    rw [e]
    have hl : i < Go.Lib.deBruijn64tab.length := hi
    rw [List.getElem?_eq_getElem hl, List.getD_eq_getElem?_getD, List.getElem?_eq_getElem hl]
    rfl
  exact this ⟨i, hi⟩
/-- The number of trailing zeros. -/
def tz (x : BitVec 64) : Nat := Go.Lib.ctz 64 x.toNat
theorem tz_spec {x : BitVec 64} (h : x ≠ 0#64) : tz x < 64 ∧ (∀ i, i < tz x → x.getLsbD i = false) ∧ x.getLsbD (tz x) = true := by
  have h0 : x.toNat ≠ 0 := fun e => h (BitVec.eq_of_toNat_eq e)
  obtain ⟨m, hm, hk⟩ := Go.Lib.ctzFrom_spec 64 x.toNat (by omega) x.isLt
  have e : tz x = Go.Lib.ctzFrom 64 x.toNat := by
    unfold tz Go.Lib.ctz
    rw [if_neg h0]
  rw [e]
  generalize Go.Lib.ctzFrom 64 x.toNat = k at hm hk
  refine ⟨hk, fun i hi => ?_, ?_⟩
  · unfold BitVec.getLsbD
    rw [hm, Nat.testBit_two_pow_mul, decide_eq_false (by omega), Bool.false_and]
  · unfold BitVec.getLsbD
    rw [hm, Nat.testBit_two_pow_mul, decide_eq_true (Nat.le_refl _), Bool.true_and, Nat.sub_self, Nat.testBit_zero]
    simp
theorem tz_le (x : BitVec 64) : tz x ≤ 64 := by
  by_cases h : x = 0#64
  · rw [h]
    exact Nat.le_refl _
  · exact Nat.le_of_lt (tz_spec h).1
theorem Sl.i8 {h : AH} {a : Option Addr} {cs : List Value} (S : Sl h a cs) {i : Nat} {n : Int} (hi : cs[i]? = some (.int .u8 n)) : ∃ ad, a = some ad ∧ gI .u8 (rdC h (ad.add (i * 1)) 0) = some n := by
  obtain ⟨ad, h1, h2⟩ := S i _ hi
  refine ⟨ad, h1, ?_⟩
  rw [rdC_add h (rdC_ok h2).1, Nat.mul_one, Nat.add_zero, h2, gI_int]
theorem k1 : (285870213051353865#64).toNat = 285870213051353865 := rfl
theorem k2 : (2 : Nat) ^ 64 = 18446744073709551616 := rfl
theorem k3 : (2 : Nat) ^ (58 : Int).toNat = 288230376151711744 := rfl
theorem k4 : (285870213051353865 : Int) = U 285870213051353865#64 := rfl
theorem hz62 (x : BitVec 64) (k : Nat) (l1 : x.toNat &&& (2 ^ 64 - x.toNat) = 2 ^ k) (hx0 : x.toNat ≠ 0) : iShr .u64 (mulS .u64 (iAnd .u64 (U x) (iNeg .u64 (U x))) 285870213051353865) 58 = ((2 ^ k * 285870213051353865 % 18446744073709551616 / 288230376151711744 : Nat) : Int) := by
  have c2 : (x &&& -x).toNat = 2 ^ k := by
    rw [BitVec.toNat_and, BitVec.toNat_neg, Nat.mod_eq_of_lt (a := 2 ^ 64 - x.toNat) (by omega)]
    exact l1
  rw [k4, i_neg, i_and, i_mulS, i_shr _ _ (by decide), U_nat, BitVec.toNat_ushiftRight, BitVec.toNat_mul, c2, Nat.shiftRight_eq_div_pow, k1, k2, k3]
theorem trail2 (n : Nat) (h : AH) (T : Tab h) (x : BitVec 64) (e0 : iEq (U x) 0 = false) (j k : Nat) (hz : iShr .u64 (mulS .u64 (iAnd .u64 (U x) (iNeg .u64 (U x))) 285870213051353865) 58 = (j : Int)) (d1 : j < 64) (d2 : Go.Lib.deBruijn64tab.getD j 0 = k) (hk : k < 64) :
    runS Tryd.prog (n + 1) 62 [.int .u64 (U x)] h = some (.int .i64 (k : Int), h) := by
  refine t62_ok ?_
  rw [t62, e0, cond_false, hz, low_loc]
  have T' : Sl (loc h []) (some ⟨0, 0, none⟩) tabC := T
  have ht := tabC_at j d1
  rw [d2] at ht
  obtain ⟨ad, ha, hr⟩ := Sl.i8 T' ht
  injection ha with ha
  subst ha
  rw [inB_lt (Int.natCast_nonneg j) (by simpa using d1), cond_true]
  simp only [Int.toNat_natCast, hr, Option.bind_some]
  have : iConv .i64 (k : Int) = (k : Int) := by
    unfold iConv
    simp only [IntKind.wrap, IntKind.bits, IntKind.signed]
    simp
    omega
  rw [this, exitR_int]
theorem trail (n : Nat) (h : AH) (T : Tab h) (x : BitVec 64) : runS Tryd.prog (n + 1) 62 [.int .u64 (U x)] h = some (.int .i64 (tz x : Int), h) := by
  by_cases h0 : x = 0#64
  · subst h0
    refine t62_ok ?_
    rw [t62]
    rw [show iEq (U 0#64) 0 = true from rfl, cond_true, low_loc, exitR_int]
    rfl
  · have e0 : iEq (U x) 0 = false := by
      rw [U0, i_eq]
      exact beq_eq_false_iff_ne.2 h0
    have hx0 : x.toNat ≠ 0 := fun e => h0 (BitVec.eq_of_toNat_eq e)
    obtain ⟨l1, l2⟩ := Go.Lib.lowest_bit 64 x.toNat hx0 x.isLt
    have hk : Go.Lib.ctz 64 x.toNat = tz x := rfl
    rw [hk] at l1 l2
    obtain ⟨d1, d2⟩ := Go.Lib.deBruijn64_at (tz x) l2
    exact trail2 n h T x e0 _ _ (hz62 x _ l1 hx0) d1 d2 l2
end Go.Proofs.YtiadfnedbbkojaaDoor.Kb
namespace Go.Proofs.YtiadfnedbbkojaaDoor.Kb
open Go Go.Proofs Go.Proofs.YtiadfnedbbkojaaDoor.X Go.Proofs.YtiadfnedbbkojaaDoor.Bv
set_option linter.unusedSimpArgs false
set_option linter.unusedVariables false
/-- The number of bits of a number. -/
def lenN (x : Nat) : Nat := if x = 0 then 0 else x.log2 + 1
theorem lenN_lt (x k : Nat) : lenN x ≤ k ↔ x < 2 ^ k := by
  unfold lenN
  by_cases h : x = 0
  · rw [if_pos h, h]
    exact ⟨fun _ => Nat.two_pow_pos k, fun _ => Nat.zero_le _⟩
  · rw [if_neg h]
    exact (Nat.log2_lt h)
theorem lenN_shift (x k : Nat) (h : 2 ^ k ≤ x) : lenN x = lenN (x / 2 ^ k) + k := by
  have key : ∀ m, lenN x ≤ m ↔ lenN (x / 2 ^ k) + k ≤ m := fun m => by
    by_cases hm : k ≤ m
    · have : lenN (x / 2 ^ k) + k ≤ m ↔ lenN (x / 2 ^ k) ≤ m - k := by omega
      rw [this, lenN_lt, lenN_lt, Nat.div_lt_iff_lt_mul (Nat.two_pow_pos k), ← Nat.pow_add, Nat.sub_add_cancel hm]
    · have h1 : ¬ lenN x ≤ m := fun hh => by
        have := (lenN_lt x m).1 hh
        have : 2 ^ m ≤ 2 ^ k := Nat.pow_le_pow_right (by decide) (by omega)
        omega
      exact ⟨fun hh => absurd hh h1, fun hh => by omega⟩
  have a := (key (lenN x)).1 (Nat.le_refl _)
  have b := (key _).2 (Nat.le_refl (lenN (x / 2 ^ k) + k))
  omega
theorem U_shr (x : BitVec 64) (k : Nat) : iShr .u64 (U x) (k : Int) = U (x >>> k) := by
  rw [i_shr _ _ (Int.natCast_nonneg k), Int.toNat_natCast]
theorem ln8 (n : Nat) (h : AH) (x : BitVec 64) (m : Nat) (hx : x.toNat < 65536) (hm : m ≤ 1000) : c74_1 n h (U x) m (loc h []) = some (.int .i64 ((lenN x.toNat + m : Nat) : Int), h) := by
  refine c74_1_ok ?_
  rw [c74_1_eq]
  generalize hs : ByteArray.mk _ = s
  have key : ∀ i : Fin 256, sIx s (i.val : Int) = some (lenN i.val : Int) := by
    subst hs
    decide +kernel
  clear hs
  have kk : ∀ j : Nat, j < 256 → sIx s (iConv .u8 (j : Int)) = some (lenN j : Int) := fun j hj => by
    have : iConv .u8 (j : Int) = (j : Int) := by
      unfold iConv
      simp only [IntKind.wrap, IntKind.bits, IntKind.signed]
      simp
      omega
    rw [this]
    exact key ⟨j, hj⟩
  have l8 : ∀ j : Nat, j < 256 → lenN j ≤ 8 := fun j hj => (lenN_lt j 8).2 hj
  have ic : ∀ j : Nat, j < 256 → iConv .i64 (lenN j : Int) = (lenN j : Int) := fun j hj => by
    have := l8 j hj
    unfold iConv
    simp only [IntKind.wrap, IntKind.bits, IntKind.signed]
    simp
    omega
  by_cases h8 : 256 ≤ x.toNat
  · rw [iLe_true (by rw [U_nat]; omega), cond_true, show (8 : Int) = ((8 : Nat) : Int) from rfl, U_shr, U_nat]
    have hd : (x >>> 8).toNat = x.toNat / 2 ^ 8 := by rw [BitVec.toNat_ushiftRight, Nat.shiftRight_eq_div_pow]
    have hlt : (x >>> 8).toNat < 256 := by
      rw [hd]
      omega
    rw [kk _ hlt, Option.bind_some, ic _ hlt, exitR_int]
    have hsx := lenN_shift x.toNat 8 h8
    rw [← hd] at hsx
    have := l8 _ hlt
    rw [iAdd_i64 (x := (m : Int)) (by omega) (by omega), iAdd_i64 (by omega) (by omega)]
    congr 3
    omega
  · rw [iLe_false (by rw [U_nat]; omega), cond_false, U_nat, kk _ (by omega), Option.bind_some, ic _ (by omega), exitR_int]
    have := l8 x.toNat (by omega)
    rw [iAdd_i64 (by omega) (by omega)]
    congr 3
    omega
theorem len1' (n : Nat) (h : AH) (x : BitVec 64) (m : Nat) (hx : x.toNat < 4294967296) (hm : m ≤ 500) : c74_0 n h (U x) m (loc h []) = some (.int .i64 ((lenN x.toNat + m : Nat) : Int), h) := by
  refine c74_0_ok ?_
  rw [c74_0_eq]
  by_cases h8 : 65536 ≤ x.toNat
  · rw [iLe_true (by rw [U_nat]; omega), cond_true, show (16 : Int) = ((16 : Nat) : Int) from rfl, U_shr, iAdd_i64 (by omega) (by omega), show ((m : Int) + ((16 : Nat) : Int)) = ((m + 16 : Nat) : Int) by omega]
    have hd : (x >>> 16).toNat = x.toNat / 2 ^ 16 := by rw [BitVec.toNat_ushiftRight, Nat.shiftRight_eq_div_pow]
    rw [ln8 n h _ _ (by rw [hd]; omega) (by omega)]
    have := lenN_shift x.toNat 16 h8
    rw [← hd] at this
    congr 3
    omega
  · rw [iLe_false (by rw [U_nat]; omega), cond_false, ln8 n h _ _ (by omega) (by omega)]
theorem len64 (n : Nat) (h : AH) (x : BitVec 64) : runS Tryd.prog (n + 1) 74 [.int .u64 (U x)] h = some (.int .i64 (lenN x.toNat : Int), h) := by
  refine t74_ok ?_
  rw [t74, low_loc]
  have := x.isLt
  by_cases h8 : 4294967296 ≤ x.toNat
  · rw [iLe_true (by rw [U_nat]; omega), cond_true, show (32 : Int) = ((32 : Nat) : Int) from rfl, U_shr]
    have hd : (x >>> 32).toNat = x.toNat / 2 ^ 32 := by rw [BitVec.toNat_ushiftRight, Nat.shiftRight_eq_div_pow]
    rw [len1' n h _ _ (by rw [hd]; omega) (by omega)]
    have := lenN_shift x.toNat 32 h8
    rw [← hd] at this
    congr 3
    omega
  · rw [iLe_false (by rw [U_nat]; omega), cond_false]
    have := len1' n h x 0 (by omega) (by omega)
    exact this
def lz (x : BitVec 64) : Nat := 64 - lenN x.toNat
theorem lead64 (n : Nat) (h : AH) (x : BitVec 64) : runS Tryd.prog (n + 2) 64 [.int .u64 (U x)] h = some (.int .i64 (lz x : Int), h) := by
  refine t64_ok ?_
  have hl : lenN x.toNat ≤ 64 := (lenN_lt _ _).2 x.isLt
  rw [t64]
  simp only [low_loc h, setLow_low, setLow_next, setLow_set, setLow_loc, setLow_self, hNew_loc, loc_next, loc_low, Nat.beq_refl, add_lit, List.nil_append, List.cons_append, List.length_cons, List.length_nil, Nat.zero_add, Nat.add_zero, Nat.reduceAdd, len64, gI_int, gB_bool, gS_str, gL_sl, gP_ptr, Option.bind_some, cond_true, cond_false, exitR_bool, exitR_int, exitR_ints, exitR_ii, exitR_ib]
  rw [iSub_i64 (by omega) (by omega)]
  unfold lz
  congr 3
  omega
/-- The number of leading ones of a word of a width. -/
def ld (w : Nat) (k : BitVec 64) : Nat := lz (~~~ (k <<< (64 - w)))
theorem lead (n : Nat) (h : AH) (w : Nat) (hw : w ≤ 64) (k : BitVec 64) : runS Tryd.prog (n + 3) 28 [.int .i64 w, .int .u64 (U k)] h = some (.int .i64 (ld w k : Int), h) := by
  refine t28_ok ?_
  rw [t28, iSub_i64 (by omega) (by omega), iLt_false (by omega), cond_false, i_shl _ _ (by omega), i_not]
  simp only [low_loc h, setLow_low, setLow_next, setLow_set, setLow_loc, setLow_self, hNew_loc, loc_next, loc_low, Nat.beq_refl, add_lit, List.nil_append, List.cons_append, List.length_cons, List.length_nil, Nat.zero_add, Nat.add_zero, Nat.reduceAdd, lead64, gI_int, gB_bool, gS_str, gL_sl, gP_ptr, Option.bind_some, cond_true, cond_false, exitR_bool, exitR_int, exitR_ints, exitR_ii, exitR_ib]
  unfold ld
  rw [show ((64 : Int) - w).toNat = 64 - w by omega]
/-- The n highest bits. -/
def hi (w m : Nat) : BitVec 64 := M w &&& ~~~ M ((w - m : Nat))
theorem high (n : Nat) (h : AH) (w m : Nat) (hw : w ≤ 64) (hm : m ≤ w) : runS Tryd.prog (n + 2) 27 [.int .i64 w, .int .i64 m] h = some (.int .u64 (U (hi w m)), h) := by
  refine t27_ok ?_
  rw [t27, iSub_i64 (by omega) (by omega), show ((w : Int) - m) = ((w - m : Nat) : Int) by omega]
  simp only [low_loc h, setLow_low, setLow_next, setLow_set, setLow_loc, setLow_self, hNew_loc, loc_next, loc_low, Nat.beq_refl, add_lit, List.nil_append, List.cons_append, List.length_cons, List.length_nil, Nat.zero_add, Nat.add_zero, Nat.reduceAdd, mask, gI_int, gB_bool, gS_str, gL_sl, gP_ptr, Option.bind_some, cond_true, cond_false, i_and, i_or, i_xor, i_andNot, i_not, i_add, i_sub, i_mulS, i_neg, i_eq, i_ne', i_lt, i_le, exitR_bool, exitR_int, exitR_ints, exitR_ii, exitR_ib]
  rfl
theorem tail (n : Nat) (h : AH) (H : WF h) (T : Tab h) (z o : BitVec 64) : runS Tryd.prog (n + 2) 63 [.agg #[.int .u64 (U z), .int .u64 (U o)]] h = some (.int .i64 (tz (~~~ z) : Int), h) := by
  refine t63_ok ?_
  have T' : ∀ bs, Tab (loc h bs) := fun bs => T.loc H bs
  rw [t63]
  simp only [low_loc h, setLow_low, setLow_next, setLow_set, setLow_loc, setLow_self, hNew_loc, loc_next, loc_low, Nat.beq_refl, add_lit, List.nil_append, List.cons_append, List.length_cons, List.length_nil, Nat.zero_add, Nat.add_zero, Nat.reduceAdd, lrd H, lrd0 H, lst H, lst0 H, List.getElem?_cons_zero, List.getElem?_cons_succ, putAt0, putAt1, List.drop_succ_cons, List.drop_zero, List.drop_nil, List.set_cons_zero, List.set_cons_succ, List.append_nil, ble_self, ble12, gI_int, gB_bool, gS_str, gL_sl, gP_ptr, Option.bind_some, cond_true, cond_false, i_not, trail _ _ (T' _), exitR_bool, exitR_int, exitR_ints, exitR_ii, exitR_ib]
def sgn (w : Nat) : BitVec 64 := 1#64 <<< (w - 1)
def flz (w : Nat) (z o : BitVec 64) : BitVec 64 := (z &&& ~~~ sgn w) ||| (o &&& sgn w)
theorem flip (n : Nat) (h : AH) (H : WF h) (w : Nat) (h1 : 1 ≤ w) (hw : w ≤ 64) (z o : BitVec 64) : runS Tryd.prog (n + 1) 34 [.int .i64 w, .agg #[.int .u64 (U z), .int .u64 (U o)]] h =
    some (.agg #[.int .u64 (U (flz w z o)), .int .u64 (U (flz w o z))], h) := by
  refine t34_ok ?_
  have e : iShl .u64 1 ((w : Int) - 1) = U (sgn w) := by
    show iShl .u64 (U 1#64) ((w : Int) - 1) = _
    rw [i_shl _ _ (by omega), show ((w : Int) - 1).toNat = w - 1 by omega]
    rfl
  rw [t34, iSub_i64 (by omega) (by omega), show iLt ((w : Int) - 1) 0 = false from iLt_false (by omega)]
  simp only [low_loc h, setLow_low, setLow_next, setLow_set, setLow_loc, setLow_self, hNew_loc, loc_next, loc_low, Nat.beq_refl, add_lit, List.nil_append, List.cons_append, List.length_cons, List.length_nil, Nat.zero_add, Nat.add_zero, Nat.reduceAdd, lrd H, lrd0 H, lst H, lst0 H, List.getElem?_cons_zero, List.getElem?_cons_succ, putAt0, putAt1, List.drop_succ_cons, List.drop_zero, List.drop_nil, List.set_cons_zero, List.set_cons_succ, List.append_nil, ble_self, ble12, gI_int, gB_bool, gS_str, gL_sl, gP_ptr, Option.bind_some, cond_true, cond_false, e, i_and, i_or, i_xor, i_andNot, i_not, i_add, i_sub, i_mulS, i_neg, i_eq, i_ne', i_lt, i_le, exitR_bool, exitR_int, exitR_ints, exitR_ii, exitR_ib]
  rfl
end Go.Proofs.YtiadfnedbbkojaaDoor.Kb
namespace Go.Proofs.YtiadfnedbbkojaaDoor.Kb
open Go Go.Proofs Go.Proofs.YtiadfnedbbkojaaDoor.X Go.Proofs.YtiadfnedbbkojaaDoor.Bv
set_option linter.unusedSimpArgs false
set_option linter.unusedVariables false
def nxt (x y c : Int) : Int := cond (iEq x y) x (cond (iEq x c) x (cond (iNe y c) (-1) c))
def ob (x y c : Int) : Int := cond (iLe 0 x) (cond (iLe 0 y) (cond (iLe 0 c) (iRem .i64 (iAdd .i64 (iAdd .i64 x y) c) 2) (-1)) (-1)) (-1)
section
variable (az ao bz bo : BitVec 64) (c0 : Int)
def car : Nat → Int
  | 0 => c0
  | i + 1 => nxt (kn az ao i) (kn bz bo i) (car i)
def adB (i : Nat) : Int := ob (kn az ao i) (kn bz bo i) (car az ao bz bo c0 i)
def adZ (w : Nat) : BitVec 64 := bvN (fun i => iEq (adB az ao bz bo c0 i) 0) w
def adO (w : Nat) : BitVec 64 := bvN (fun i => iEq (adB az ao bz bo c0 i) 1) w
end
theorem bvN_no (f : Nat → Bool) (i : Nat) (h : f i = false) : bvN f (i + 1) = bvN f i := by
  show bvN f i ||| cond (f i) (1#64 <<< i) 0#64 = _
  rw [h]
  simp
end Go.Proofs.YtiadfnedbbkojaaDoor.Kb
namespace Go.Proofs.YtiadfnedbbkojaaDoor.Kb
open Go Go.Proofs Go.Proofs.YtiadfnedbbkojaaDoor.X Go.Proofs.YtiadfnedbbkojaaDoor.Bv
set_option linter.unusedSimpArgs false
set_option linter.unusedVariables false
/-- Two bits, counted. -/
def cnt2 (p q : Bool) : Int := boolI p + boolI q
theorem cnt2_ok (a b : BitVec 64) (i : Nat) : iConv .i64 (iAdd .u64 (iAnd .u64 (iShr .u64 (U a) i) 1) (iAnd .u64 (iShr .u64 (U b) i) 1)) = cnt2 (a.getLsbD i) (b.getLsbD i) := by
  rw [U_shr, U_shr, U1, i_and, i_and, and1, and1, i_add, c_i64]
  unfold cnt2 boolI
  cases a.getLsbD i <;> cases b.getLsbD i <;> rfl
def zcnt (p q : Bool) (c : Int) : Int := cond (iEq c 0) (iAdd .i64 (cnt2 p q) 1) (cnt2 p q)
def ocnt (p q : Bool) (c : Int) : Int := cond (iEq c 0) (cnt2 p q) (cond (iEq c 1) (iAdd .i64 (cnt2 p q) 1) (cnt2 p q))
def knB (z o : Bool) : Int := cond o 1 (cond z 0 (-1))
def tri (c : Int) : Prop := c = -1 ∨ c = 0 ∨ c = 1
theorem bits_ok (p q r s : Bool) (h1 : (p && q) = false) (h2 : (r && s) = false) (c : Int) (hc : tri c) :
    (iEq (iAdd .i64 (zcnt p r c) (ocnt q s c)) 3 = true → iEq (iRem .i64 (ocnt q s c) 2) 1 = true → ob (knB p q) (knB r s) c = 1) ∧
    (iEq (iAdd .i64 (zcnt p r c) (ocnt q s c)) 3 = true → iEq (iRem .i64 (ocnt q s c) 2) 1 = false → ob (knB p q) (knB r s) c = 0) ∧
    (iEq (iAdd .i64 (zcnt p r c) (ocnt q s c)) 3 = false → ob (knB p q) (knB r s) c = -1) ∧
    cond (iLe 2 (ocnt q s c)) 1 (cond (iLe 2 (zcnt p r c)) 0 (-1)) = nxt (knB p q) (knB r s) c := by
  rcases hc with rfl | rfl | rfl <;> revert p q r s <;> decide
theorem nxt_tri (x y c : Int) (hx : tri x) (hc : tri c) : tri (nxt x y c) := by
  unfold nxt
  cases iEq x y <;> cases iEq x c <;> cases iNe y c <;> simp only [cond_true, cond_false] <;> first | exact hx | exact hc | exact .inl rfl
theorem kn_tri (z o : BitVec 64) (i : Nat) : tri (kn z o i) := by
  unfold kn
  cases o.getLsbD i <;> cases z.getLsbD i <;> simp [tri]
theorem car_tri (az ao bz bo : BitVec 64) (c0 : Int) (h : tri c0) : ∀ i, tri (car az ao bz bo c0 i)
  | 0 => h
  | i + 1 => nxt_tri _ _ _ (kn_tri _ _ _) (car_tri az ao bz bo c0 h i)
theorem addL (N : Nat) (h : AH) (H : WF h) (w : Nat) (hw : w ≤ 64) (az ao bz bo : BitVec 64) (va : az &&& ao = 0#64) (vb : bz &&& bo = 0#64) (c0 : Int) (hc0 : tri c0) : ∀ (k i m0 : Nat), k < m0 → i + k = w →
    c25_0 N m0 h (car az ao bz bo c0 i) ⟨h.next, 0, none⟩ ⟨h.next + 1, 0, none⟩ ⟨h.next + 2, 0, none⟩ ⟨h.next + 3, 0, none⟩ w i (loc h [[.int .u64 (U az), .int .u64 (U ao)], [.int .u64 (U bz), .int .u64 (U bo)], [.int .u64 0, .int .u64 0], [.int .u64 (U (adZ az ao bz bo c0 i)), .int .u64 (U (adO az ao bz bo c0 i))]]) =
      some (.agg #[.int .u64 (U (adZ az ao bz bo c0 w)), .int .u64 (U (adO az ao bz bo c0 w))], h) := by
  intro k
  induction k with
  | zero =>
    intro i m0 hm hi
    obtain ⟨m0, rfl⟩ : ∃ g, m0 = g + 1 := ⟨m0 - 1, by omega⟩
    obtain rfl : i = w := by omega
    refine c25_0_ok ?_
    rw [c25_0_eq, iLt_false (Int.le_refl _), cond_false]
    simp only [lrd H, lrd0 H, lst H, lst0 H, List.getElem?_cons_zero, List.getElem?_cons_succ, putAt0, putAt1, List.drop_succ_cons, List.drop_zero, List.drop_nil, List.set_cons_zero, List.set_cons_succ, List.append_nil, ble_self, ble12, gI_int, gB_bool, gS_str, gL_sl, gP_ptr, Option.bind_some, cond_true, cond_false, low_loc h, setLow_low, setLow_next, setLow_set, setLow_loc, setLow_self, hNew_loc, loc_next, loc_low, Nat.beq_refl, add_lit, List.nil_append, List.cons_append, List.length_cons, List.length_nil, Nat.zero_add, Nat.add_zero, Nat.reduceAdd, exitR_bool, exitR_int, exitR_ints, exitR_ii, exitR_ib]
  | succ k ih =>
    intro i m0 hm hi
    obtain ⟨m0, rfl⟩ : ∃ g, m0 = g + 1 := ⟨m0 - 1, by omega⟩
    have ih := ih (i + 1) m0 (by omega) (by omega)
    rw [show ((i + 1 : Nat) : Int) = (i : Int) + 1 by omega] at ih
    have hv : ∀ (x y : BitVec 64), x &&& y = 0#64 → (x.getLsbD i && y.getLsbD i) = false := fun x y e => by
      rw [← BitVec.getLsbD_and, e, BitVec.getLsbD_zero]
    obtain ⟨b1, b1', b1'', b2⟩ := bits_ok (az.getLsbD i) (ao.getLsbD i) (bz.getLsbD i) (bo.getLsbD i) (hv _ _ va) (hv _ _ vb) (car az ao bz bo c0 i) (car_tri az ao bz bo c0 hc0 i)
    have hc : car az ao bz bo c0 (i + 1) = nxt (knB (az.getLsbD i) (ao.getLsbD i)) (knB (bz.getLsbD i) (bo.getLsbD i)) (car az ao bz bo c0 i) := rfl
    have hob : adB az ao bz bo c0 i = ob (knB (az.getLsbD i) (ao.getLsbD i)) (knB (bz.getLsbD i) (bo.getLsbD i)) (car az ao bz bo c0 i) := rfl
    rw [← hc] at b2
    rw [← hob] at b1 b1' b1''
    generalize hzz : zcnt (az.getLsbD i) (bz.getLsbD i) (car az ao bz bo c0 i) = zz at b1 b1' b1'' b2
    generalize hoo : ocnt (ao.getLsbD i) (bo.getLsbD i) (car az ao bz bo c0 i) = oo at b1 b1' b1'' b2
    have fin : ∀ Z O, Z = adZ az ao bz bo c0 (i + 1) → O = adO az ao bz bo c0 (i + 1) → c25_2 N m0 h (car az ao bz bo c0 i) ⟨h.next, 0, none⟩ ⟨h.next + 1, 0, none⟩ ⟨h.next + 2, 0, none⟩ ⟨h.next + 3, 0, none⟩ zz oo w i (loc h [[.int .u64 (U az), .int .u64 (U ao)], [.int .u64 (U bz), .int .u64 (U bo)], [.int .u64 0, .int .u64 0], [.int .u64 (U Z), .int .u64 (U O)]]) =
        some (.agg #[.int .u64 (U (adZ az ao bz bo c0 w)), .int .u64 (U (adO az ao bz bo c0 w))], h) := by
      rintro Z O rfl rfl
      refine c25_2_ok ?_
      rw [c25_2_eq, iAdd_i64 (by omega) (by omega)]
      cases e1 : iLe 2 oo with
      | true =>
        rw [e1, cond_true] at b2
        rw [cond_true]
        rw [← b2] at ih
        exact ih
      | false =>
        rw [e1, cond_false] at b2
        rw [cond_false]
        cases e2 : iLe 2 zz with
        | true =>
          rw [e2, cond_true] at b2
          rw [cond_true]
          rw [← b2] at ih
          exact ih
        | false =>
          rw [e2, cond_false] at b2
          rw [cond_false]
          rw [← b2] at ih
          exact ih
    have es : iShl .u64 1 (i : Int) = U (1#64 <<< i) := by
      show iShl .u64 (U 1#64) (i : Int) = _
      rw [i_shl _ _ (Int.natCast_nonneg i), Int.toNat_natCast]
    have mid : c25_1 N m0 h (car az ao bz bo c0 i) ⟨h.next, 0, none⟩ ⟨h.next + 1, 0, none⟩ ⟨h.next + 2, 0, none⟩ ⟨h.next + 3, 0, none⟩ (U (1#64 <<< i)) zz oo w i (loc h [[.int .u64 (U az), .int .u64 (U ao)], [.int .u64 (U bz), .int .u64 (U bo)], [.int .u64 0, .int .u64 0], [.int .u64 (U (adZ az ao bz bo c0 i)), .int .u64 (U (adO az ao bz bo c0 i))]]) =
        some (.agg #[.int .u64 (U (adZ az ao bz bo c0 w)), .int .u64 (U (adO az ao bz bo c0 w))], h) := by
      refine c25_1_ok ?_
      rw [c25_1_eq]
      cases e1 : iEq (iAdd .i64 zz oo) 3 with
      | true =>
        rw [cond_true]
        cases e2 : iEq (iRem .i64 oo 2) 1 with
        | true =>
          have b1 := b1 e1 e2
          rw [cond_true]
          simp only [lrd H, lrd0 H, lst H, lst0 H, List.getElem?_cons_zero, List.getElem?_cons_succ, putAt0, putAt1, List.drop_succ_cons, List.drop_zero, List.drop_nil, List.set_cons_zero, List.set_cons_succ, List.append_nil, ble_self, ble12, gI_int, gB_bool, gS_str, gL_sl, gP_ptr, Option.bind_some, cond_true, cond_false, low_loc h, setLow_low, setLow_next, setLow_set, setLow_loc, setLow_self, hNew_loc, loc_next, loc_low, Nat.beq_refl, add_lit, List.nil_append, List.cons_append, List.length_cons, List.length_nil, Nat.zero_add, Nat.add_zero, Nat.reduceAdd, i_or]
          exact fin _ _ (bvN_no _ _ (by rw [b1]; rfl)).symm (by
            show _ = bvN _ i ||| cond (iEq (adB az ao bz bo c0 i) 1) (1#64 <<< i) 0#64
            rw [b1]
            rfl)
        | false =>
          have b1 := b1' e1 e2
          rw [cond_false]
          simp only [lrd H, lrd0 H, lst H, lst0 H, List.getElem?_cons_zero, List.getElem?_cons_succ, putAt0, putAt1, List.drop_succ_cons, List.drop_zero, List.drop_nil, List.set_cons_zero, List.set_cons_succ, List.append_nil, ble_self, ble12, gI_int, gB_bool, gS_str, gL_sl, gP_ptr, Option.bind_some, cond_true, cond_false, low_loc h, setLow_low, setLow_next, setLow_set, setLow_loc, setLow_self, hNew_loc, loc_next, loc_low, Nat.beq_refl, add_lit, List.nil_append, List.cons_append, List.length_cons, List.length_nil, Nat.zero_add, Nat.add_zero, Nat.reduceAdd, i_or]
          exact fin _ _ (by
            show _ = bvN _ i ||| cond (iEq (adB az ao bz bo c0 i) 0) (1#64 <<< i) 0#64
            rw [b1]
            rfl) (bvN_no _ _ (by rw [b1]; rfl)).symm
      | false =>
        have b1 := b1'' e1
        rw [cond_false]
        exact fin _ _ (bvN_no _ _ (by rw [b1]; rfl)).symm (bvN_no _ _ (by rw [b1]; rfl)).symm
    refine c25_0_ok ?_
    rw [c25_0_eq, iLt_true (by omega), cond_true]
    simp only [iLt_false (Int.natCast_nonneg i), cond_false]
    simp only [lrd H, lrd0 H, lst H, lst0 H, List.getElem?_cons_zero, List.getElem?_cons_succ, putAt0, putAt1, List.drop_succ_cons, List.drop_zero, List.drop_nil, List.set_cons_zero, List.set_cons_succ, List.append_nil, ble_self, ble12, gI_int, gB_bool, gS_str, gL_sl, gP_ptr, Option.bind_some, cond_true, cond_false, low_loc h, setLow_low, setLow_next, setLow_set, setLow_loc, setLow_self, hNew_loc, loc_next, loc_low, Nat.beq_refl, add_lit, List.nil_append, List.cons_append, List.length_cons, List.length_nil, Nat.zero_add, Nat.add_zero, Nat.reduceAdd, cnt2_ok]
    unfold zcnt at hzz
    unfold ocnt at hoo
    rw [es]
    cases c1 : iEq (car az ao bz bo c0 i) 0 with
    | true =>
      rw [c1, cond_true] at hzz hoo
      rw [cond_true, hzz, hoo]
      exact mid
    | false =>
      rw [c1, cond_false] at hzz hoo
      rw [cond_false]
      cases c2 : iEq (car az ao bz bo c0 i) 1 with
      | true =>
        rw [c2, cond_true] at hoo
        rw [cond_true, hzz, hoo]
        exact mid
      | false =>
        rw [c2, cond_false] at hoo
        rw [cond_false, hzz, hoo]
        exact mid
theorem add (N : Nat) (hN : 70 ≤ N) (h : AH) (H : WF h) (w : Nat) (hw : w ≤ 64) (az ao bz bo : BitVec 64) (va : az &&& ao = 0#64) (vb : bz &&& bo = 0#64) (c0 : Int) (hc0 : tri c0) : runS Tryd.prog N 25 [.int .i64 w, .agg #[.int .u64 (U az), .int .u64 (U ao)], .agg #[.int .u64 (U bz), .int .u64 (U bo)], .int .i64 c0] h =
    some (.agg #[.int .u64 (U (adZ az ao bz bo c0 w)), .int .u64 (U (adO az ao bz bo c0 w))], h) := by
  obtain ⟨m, rfl, hm⟩ : ∃ m, N = m + 1 ∧ 69 ≤ m := ⟨N - 1, by omega, by omega⟩
  refine t25_ok ?_
  rw [t25]
  simp only [low_loc h, setLow_low, setLow_next, setLow_set, setLow_loc, setLow_self, hNew_loc, loc_next, loc_low, Nat.beq_refl, add_lit, List.nil_append, List.cons_append, List.length_cons, List.length_nil, Nat.zero_add, Nat.add_zero, Nat.reduceAdd, Option.bind_some]
  exact addL m h H w hw az ao bz bo va vb c0 hc0 w 0 m (by omega) (by omega)
end Go.Proofs.YtiadfnedbbkojaaDoor.Kb
namespace Go.Proofs.YtiadfnedbbkojaaDoor.Kb
open Go Go.Proofs Go.Proofs.YtiadfnedbbkojaaDoor.X Go.Proofs.YtiadfnedbbkojaaDoor.Bv
set_option linter.unusedSimpArgs false
set_option linter.unusedVariables false
/-- From n on, how far p holds; k more at most. -/
def runUp (p : Nat → Bool) : Nat → Nat → Nat
  | 0, n => n
  | k + 1, n => cond (p n) (runUp p k (n + 1)) n
def up (p : Nat → Bool) (w : Nat) : Nat := runUp p w 0
theorem runUp_spec (p : Nat → Bool) : ∀ (k n : Nat), n ≤ runUp p k n ∧ runUp p k n ≤ n + k ∧ (∀ j, n ≤ j → j < runUp p k n → p j = true) ∧ (runUp p k n < n + k → p (runUp p k n) = false)
  | 0, n => ⟨Nat.le_refl _, Nat.le_refl _, fun j h1 h2 => by
      have : runUp p 0 n = n := rfl
      omega, fun h => by
      have : runUp p 0 n = n := rfl
      omega⟩
  | k + 1, n => by
    obtain ⟨h1, h2, h3, h4⟩ := runUp_spec p k (n + 1)
    show n ≤ cond (p n) (runUp p k (n + 1)) n ∧ cond (p n) (runUp p k (n + 1)) n ≤ n + (k + 1) ∧ (∀ j, n ≤ j → j < cond (p n) (runUp p k (n + 1)) n → p j = true) ∧ (cond (p n) (runUp p k (n + 1)) n < n + (k + 1) → p (cond (p n) (runUp p k (n + 1)) n) = false)
    cases hp : p n with
    | true =>
      simp only [cond_true]
      refine ⟨by omega, by omega, fun j hj1 hj2 => ?_, fun h => h4 (by omega)⟩
      by_cases he : j = n
      · rw [he]
        exact hp
      · exact h3 j (by omega) hj2
    | false =>
      simp only [cond_false]
      exact ⟨Nat.le_refl _, by omega, fun j hj1 hj2 => by omega, fun _ => hp⟩
theorem up_spec (p : Nat → Bool) (w : Nat) : up p w ≤ w ∧ (∀ j, j < up p w → p j = true) ∧ (up p w < w → p (up p w) = false) := by
  obtain ⟨h1, h2, h3, h4⟩ := runUp_spec p w 0
  unfold up
  exact ⟨by omega, fun j hj => h3 j (Nat.zero_le _) hj, fun h => h4 (by omega)⟩
def zrf (w lo hi : Nat) (i : Nat) : Bool := decide (i < lo) || decide (w ≤ i + hi)
end Go.Proofs.YtiadfnedbbkojaaDoor.Kb
namespace Go.Proofs.YtiadfnedbbkojaaDoor.Kb
open Go Go.Proofs Go.Proofs.YtiadfnedbbkojaaDoor.X Go.Proofs.YtiadfnedbbkojaaDoor.Bv
set_option linter.unusedSimpArgs false
set_option linter.unusedVariables false
def shv (w : Nat) (z o : BitVec 64) (n fill : Int) (i : Nat) : Int := cond (iLe 0 ((i : Int) + n)) (cond (iLt ((i : Int) + n) w) (kn z o ((i : Int) + n).toNat) fill) fill
end Go.Proofs.YtiadfnedbbkojaaDoor.Kb
namespace Go.Proofs.YtiadfnedbbkojaaDoor.Kb
open Go Go.Proofs Go.Proofs.YtiadfnedbbkojaaDoor.X Go.Proofs.YtiadfnedbbkojaaDoor.Bv
set_option linter.unusedSimpArgs false
set_option linter.unusedVariables false
theorem bindS {α β : Type} (a : α) (f : α → Option β) : (some a).bind f = f a := Eq.trans (Eq.refl ((some a).bind f)) (Eq.refl (f a))
theorem min3 (w a b : Nat) : cond (decide ((w : Int) < cond (decide ((b : Int) < a)) (b : Int) a)) (w : Int) (cond (decide ((b : Int) < a)) (b : Int) a) = ((min (min a b) w : Nat) : Int) := by
  by_cases h1 : (b : Int) < a
  · rw [decide_eq_true h1, cond_true]
    by_cases h2 : (w : Int) < b
    · rw [decide_eq_true h2, cond_true]
      congr 1
      omega
    · rw [decide_eq_false h2, cond_false]
      congr 1
      omega
  · rw [decide_eq_false h1, cond_false]
    by_cases h2 : (w : Int) < a
    · rw [decide_eq_true h2, cond_true]
      congr 1
      omega
    · rw [decide_eq_false h2, cond_false]
      congr 1
      omega
def pk (w : Nat) (az ao bz bo : BitVec 64) : Nat := min (min (tz (~~~ (az ||| ao))) (tz (~~~ (bz ||| bo)))) w
def pn (w : Nat) (az ao bz bo : BitVec 64) : BitVec 64 := (ao &&& M (pk w az ao bz bo)) * (bo &&& M (pk w az ao bz bo))
def pz (w : Nat) (az bz : BitVec 64) : BitVec 64 := M ((min (tz (~~~ az) + tz (~~~ bz)) w : Nat))
def prZ (w : Nat) (az ao bz bo : BitVec 64) : BitVec 64 := (~~~ (pn w az ao bz bo) &&& M (pk w az ao bz bo)) ||| pz w az bz
def prO (w : Nat) (az ao bz bo : BitVec 64) : BitVec 64 := (pn w az ao bz bo &&& M (pk w az ao bz bo)) &&& ~~~ (pz w az bz)
theorem product_go (m : Nat) (h : AH) (H : WF h) (T : Tab h) (w : Nat) (hw : w ≤ 64) (az ao bz bo k1 k2 : BitVec 64) (ta tb tc td : Nat) (hc : tc ≤ 64) (hd : td ≤ 64)
    (ha' : ∀ (g : AH), Tab g → runS Tryd.prog m 62 [.int .u64 (U (~~~ (az ||| ao)))] g = some (.int .i64 (ta : Int), g))
    (hb' : ∀ (g : AH), Tab g → runS Tryd.prog m 62 [.int .u64 (U (~~~ (bz ||| bo)))] g = some (.int .i64 (tb : Int), g))
    (hc' : ∀ (g : AH), WF g → Tab g → runS Tryd.prog m 63 [.agg #[.int .u64 (U az), .int .u64 (U ao)]] g = some (.int .i64 (tc : Int), g))
    (hd' : ∀ (g : AH), WF g → Tab g → runS Tryd.prog m 63 [.agg #[.int .u64 (U bz), .int .u64 (U bo)]] g = some (.int .i64 (td : Int), g))
    (hk1 : ∀ (g : AH), runS Tryd.prog m 36 [.int .i64 ((min (min ta tb) w : Nat) : Int)] g = some (.int .u64 (U k1), g))
    (hk2 : ∀ (g : AH), runS Tryd.prog m 36 [.int .i64 ((min (tc + td) w : Nat) : Int)] g = some (.int .u64 (U k2), g)) :
    runS Tryd.prog (m + 1) 26 [.int .i64 w, .agg #[.int .u64 (U az), .int .u64 (U ao)], .agg #[.int .u64 (U bz), .int .u64 (U bo)]] h =
    some (.agg #[.int .u64 (U ((~~~ ((ao &&& k1) * (bo &&& k1)) &&& k1) ||| k2)), .int .u64 (U ((((ao &&& k1) * (bo &&& k1)) &&& k1) &&& ~~~ k2))], h) := by
  have T' : ∀ bs x, Tab (setLow (loc h bs) x) := fun bs x => T.loc H bs
  refine t26_ok ?_
  rw [t26]
  simp only [low_loc h, setLow_low, setLow_next, setLow_set, setLow_loc, setLow_self, hNew_loc, loc_next, loc_low, Nat.beq_refl, add_lit, List.nil_append, List.cons_append, List.length_cons, List.length_nil, Nat.zero_add, Nat.add_zero, Nat.reduceAdd, lrd H, lrd0 H, lst H, lst0 H, List.getElem?_cons_zero, List.getElem?_cons_succ, putAt0, putAt1, List.drop_succ_cons, List.drop_zero, List.drop_nil, List.set_cons_zero, List.set_cons_succ, List.append_nil, ble_self, ble12, gI_int, gB_bool, gS_str, gL_sl, gP_ptr, bindS, cond_true, cond_false, i_and, i_or, i_xor, i_andNot, i_not, i_add, i_sub, i_mulS, i_neg, i_eq, i_ne', i_lt, i_le, ha' _ (T' _ _), hb' _ (T' _ _)]
  rw [min3]
  simp only [low_loc h, setLow_low, setLow_next, setLow_set, setLow_loc, setLow_self, hNew_loc, loc_next, loc_low, Nat.beq_refl, add_lit, List.nil_append, List.cons_append, List.length_cons, List.length_nil, Nat.zero_add, Nat.add_zero, Nat.reduceAdd, lrd H, lrd0 H, lst H, lst0 H, List.getElem?_cons_zero, List.getElem?_cons_succ, putAt0, putAt1, List.drop_succ_cons, List.drop_zero, List.drop_nil, List.set_cons_zero, List.set_cons_succ, List.append_nil, ble_self, ble12, gI_int, gB_bool, gS_str, gL_sl, gP_ptr, bindS, cond_true, cond_false, i_and, i_or, i_xor, i_andNot, i_not, i_add, i_sub, i_mulS, i_neg, i_eq, i_ne', i_lt, i_le, hk1, hc' _ (wf_low (loc_wf H _) _) (T' _ _), hd' _ (wf_low (loc_wf H _) _) (T' _ _)]
  rw [iAdd_i64 (by omega) (by omega), ← Int.natCast_add, iMin_nat]
  simp only [low_loc h, setLow_low, setLow_next, setLow_set, setLow_loc, setLow_self, hNew_loc, loc_next, loc_low, Nat.beq_refl, add_lit, List.nil_append, List.cons_append, List.length_cons, List.length_nil, Nat.zero_add, Nat.add_zero, Nat.reduceAdd, lrd H, lrd0 H, lst H, lst0 H, List.getElem?_cons_zero, List.getElem?_cons_succ, putAt0, putAt1, List.drop_succ_cons, List.drop_zero, List.drop_nil, List.set_cons_zero, List.set_cons_succ, List.append_nil, ble_self, ble12, gI_int, gB_bool, gS_str, gL_sl, gP_ptr, bindS, cond_true, cond_false, i_and, i_or, i_xor, i_andNot, i_not, i_add, i_sub, i_mulS, i_neg, i_eq, i_ne', i_lt, i_le, exitR_bool, exitR_int, exitR_ints, exitR_ii, exitR_ib, hk2]
theorem product (N : Nat) (hN : 10 ≤ N) (h : AH) (H : WF h) (T : Tab h) (w : Nat) (hw : w ≤ 64) (az ao bz bo : BitVec 64) : runS Tryd.prog N 26 [.int .i64 w, .agg #[.int .u64 (U az), .int .u64 (U ao)], .agg #[.int .u64 (U bz), .int .u64 (U bo)]] h =
    some (.agg #[.int .u64 (U (prZ w az ao bz bo)), .int .u64 (U (prO w az ao bz bo))], h) := by
  obtain ⟨m, rfl, hm⟩ : ∃ m, N = m + 1 ∧ 9 ≤ m := ⟨N - 1, by omega, by omega⟩
  have htz : ∀ (g : AH), Tab g → ∀ x : BitVec 64, runS Tryd.prog m 62 [.int .u64 (U x)] g = some (.int .i64 (tz x : Int), g) := fun g G x => by
    obtain ⟨n, rfl⟩ : ∃ n, m = n + 1 := ⟨m - 1, by omega⟩
    exact trail n g G x
  have htl : ∀ (g : AH), WF g → Tab g → ∀ z o : BitVec 64, runS Tryd.prog m 63 [.agg #[.int .u64 (U z), .int .u64 (U o)]] g = some (.int .i64 (tz (~~~ z) : Int), g) := fun g G G' z o => by
    obtain ⟨n, rfl⟩ : ∃ n, m = n + 2 := ⟨m - 2, by omega⟩
    exact tail n g G G' z o
  have hmk : ∀ (g : AH) (v : Int), runS Tryd.prog m 36 [.int .i64 v] g = some (.int .u64 (U (M v)), g) := fun g v => by
    obtain ⟨n, rfl⟩ : ∃ n, m = n + 1 := ⟨m - 1, by omega⟩
    exact mask n g v
  exact product_go m h H T w hw az ao bz bo _ _ _ _ _ _ (tz_le _) (tz_le _) (fun g G => htz g G _) (fun g G => htz g G _) (fun g G G' => htl g G G' _ _) (fun g G G' => htl g G G' _ _) (fun g => hmk g _) (fun g => hmk g _)
end Go.Proofs.YtiadfnedbbkojaaDoor.Kb
