/- Joined texts: SA. -/
import Derived.Test.YtiadfnedbbkojaaDoorHA
import Derived.Test.YtiadfnedbbkojaaDoorHB
import Derived.Test.YtiadfnedbbkojaaDoorYA
namespace Go.Proofs.YtiadfnedbbkojaaDoor.Kb
open Go Go.Proofs Go.Proofs.YtiadfnedbbkojaaDoor.X Go.Proofs.YtiadfnedbbkojaaDoor.Bv
set_option linter.unusedSimpArgs false
def goodB (w : Int) : Bool := iLe 1 w && iLe w 64
theorem good (n : Nat) (h : AH) (w : Int) : runS Tryd.prog (n + 1) 57 [.int .i64 w] h = some (.bool (goodB w), h) := by
  refine t57_ok ?_
  rw [t57]
  unfold goodB
  cases iLe 1 w <;> simp only [low_loc, cond_true, cond_false, Bool.true_and, Bool.false_and, exitR_bool]
theorem mask (n : Nat) (h : AH) (w : Int) : runS Tryd.prog (n + 1) 36 [.int .i64 w] h = some (.int .u64 (U (M w)), h) := by
  refine t36_ok ?_
  rw [t36]
  unfold M
  by_cases hw : 64 ≤ w
  · rw [show iLe 64 w = true from decide_eq_true hw, if_pos hw]
    simp only [low_loc, cond_true, exitR_int, U_max]
  · have h0 : 0 ≤ iMax w 0 := by
      unfold iMax
      cases e : decide (0 > w) with
      | true => exact Int.le_refl 0
      | false =>
        have := of_decide_eq_false e
        show 0 ≤ w
        omega
    have h1 : (iMax w 0).toNat = w.toNat := by
      unfold iMax
      cases e : decide (0 > w) with
      | true =>
        have := of_decide_eq_true e
        show (0 : Int).toNat = w.toNat
        omega
      | false => rfl
    rw [show iLe 64 w = false from decide_eq_false hw, if_neg hw, show iLt (iMax w 0) 0 = false from decide_eq_false (by omega)]
    simp only [low_loc, cond_false, exitR_int]
    rw [U1, i_shl _ _ h0, i_sub, h1]
theorem ofs (n : Nat) (h : AH) (H : WF h) (w : Int) (x : BitVec 64) : runS Tryd.prog (n + 2) 18 [.int .i64 w, .int .u64 (U x)] h =
    some (.agg #[.int .u64 (cond (goodB w) (U (~~~ x &&& M w)) 0), .int .u64 (cond (goodB w) (U (x &&& M w)) 0)], h) := by
  refine t18_ok ?_
  rw [t18]
  simp only [low_loc h, setLow_low, setLow_next, setLow_set, setLow_loc, setLow_self, hNew_loc, loc_next, loc_low, Nat.beq_refl, add_lit, List.nil_append, List.cons_append, List.length_cons, List.length_nil, Nat.zero_add, Nat.add_zero, Nat.reduceAdd, good, mask, gI_int, gB_bool, gS_str, gL_sl, gP_ptr, Option.bind_some, cond_true, cond_false]
  cases goodB w <;> simp only [Bool.not_true, Bool.not_false, gI_int, gB_bool, gS_str, gL_sl, gP_ptr, Option.bind_some, cond_true, cond_false, low_loc h, setLow_low, setLow_next, setLow_set, setLow_loc, setLow_self, hNew_loc, loc_next, loc_low, Nat.beq_refl, add_lit, List.nil_append, List.cons_append, List.length_cons, List.length_nil, Nat.zero_add, Nat.add_zero, Nat.reduceAdd, lrd H, lrd0 H, lst H, lst0 H, List.getElem?_cons_zero, List.getElem?_cons_succ, putAt0, putAt1, List.drop_succ_cons, List.drop_zero, List.drop_nil, List.set_cons_zero, List.set_cons_succ, List.append_nil, ble_self, ble12, mask, i_and, i_or, i_xor, i_andNot, i_not, i_add, i_sub, i_mulS, i_neg, i_eq, i_ne', i_lt, i_le, exitR_bool, exitR_int, exitR_ints, exitR_ii, exitR_ib]
theorem valid (n : Nat) (h : AH) (H : WF h) (w : Int) (z o : BitVec 64) : runS Tryd.prog (n + 2) 19 [.int .i64 w, .agg #[.int .u64 (U z), .int .u64 (U o)]] h =
    some (.bool (goodB w && (((z ||| o) &&& ~~~ M w) == 0#64 && (z &&& o) == 0#64)), h) := by
  refine t19_ok ?_
  rw [t19]
  simp only [low_loc h, setLow_low, setLow_next, setLow_set, setLow_loc, setLow_self, hNew_loc, loc_next, loc_low, Nat.beq_refl, add_lit, List.nil_append, List.cons_append, List.length_cons, List.length_nil, Nat.zero_add, Nat.add_zero, Nat.reduceAdd, good, mask, gI_int, gB_bool, gS_str, gL_sl, gP_ptr, Option.bind_some, cond_true, cond_false]
  cases goodB w <;> simp only [gI_int, gB_bool, gS_str, gL_sl, gP_ptr, Option.bind_some, cond_true, cond_false, low_loc h, setLow_low, setLow_next, setLow_set, setLow_loc, setLow_self, hNew_loc, loc_next, loc_low, Nat.beq_refl, add_lit, List.nil_append, List.cons_append, List.length_cons, List.length_nil, Nat.zero_add, Nat.add_zero, Nat.reduceAdd, lrd H, lrd0 H, lst H, lst0 H, List.getElem?_cons_zero, List.getElem?_cons_succ, putAt0, putAt1, List.drop_succ_cons, List.drop_zero, List.drop_nil, List.set_cons_zero, List.set_cons_succ, List.append_nil, ble_self, ble12, mask, i_and, i_or, i_xor, i_andNot, i_not, i_add, i_sub, i_mulS, i_neg, i_eq, i_ne', i_lt, i_le, U0, exitR_bool, exitR_int, exitR_ints, exitR_ii, exitR_ib, Bool.true_and, Bool.false_and]
  cases (((z ||| o) &&& ~~~ M w) == 0#64) <;> simp only [gI_int, gB_bool, gS_str, gL_sl, gP_ptr, Option.bind_some, cond_true, cond_false, exitR_bool, exitR_int, exitR_ints, exitR_ii, exitR_ib, Bool.true_and, Bool.false_and]
end Go.Proofs.YtiadfnedbbkojaaDoor.Kb
namespace Go.Proofs.YtiadfnedbbkojaaDoor.Kb
open Go Go.Proofs Go.Proofs.YtiadfnedbbkojaaDoor.X Go.Proofs.YtiadfnedbbkojaaDoor.Bv
set_option linter.unusedSimpArgs false
def valB (w : Int) (z o : BitVec 64) : Bool := goodB w && (((z ||| o) &&& ~~~ M w) == 0#64 && (z &&& o) == 0#64)
def exB (w : Int) (z o : BitVec 64) : Bool := valB w z o && (z ||| o) == M w
theorem exact (n : Nat) (h : AH) (H : WF h) (w : Int) (z o : BitVec 64) : runS Tryd.prog (n + 3) 13 [.int .i64 w, .agg #[.int .u64 (U z), .int .u64 (U o)]] h =
    some (.tuple #[.int .u64 (U (cond (exB w z o) o 0#64)), .bool (exB w z o)], h) := by
  refine t13_ok ?_
  rw [t13]
  simp only [low_loc h, setLow_low, setLow_next, setLow_set, setLow_loc, setLow_self, hNew_loc, loc_next, loc_low, Nat.beq_refl, add_lit, List.nil_append, List.cons_append, List.length_cons, List.length_nil, Nat.zero_add, Nat.add_zero, Nat.reduceAdd, lrd H, lrd0 H, lst H, lst0 H, List.getElem?_cons_zero, List.getElem?_cons_succ, putAt0, putAt1, List.drop_succ_cons, List.drop_zero, List.drop_nil, List.set_cons_zero, List.set_cons_succ, List.append_nil, ble_self, ble12, gI_int, gB_bool, gS_str, gL_sl, gP_ptr, Option.bind_some, cond_true, cond_false]
  rw [valid _ _ (wf_low (loc_wf H _) _)]
  unfold exB
  rw [show (goodB w && (((z ||| o) &&& ~~~ M w) == 0#64 && (z &&& o) == 0#64)) = valB w z o from rfl]
  simp only [low_loc h, setLow_low, setLow_next, setLow_set, setLow_loc, setLow_self, hNew_loc, loc_next, loc_low, Nat.beq_refl, add_lit, List.nil_append, List.cons_append, List.length_cons, List.length_nil, Nat.zero_add, Nat.add_zero, Nat.reduceAdd, lrd H, lrd0 H, lst H, lst0 H, List.getElem?_cons_zero, List.getElem?_cons_succ, putAt0, putAt1, List.drop_succ_cons, List.drop_zero, List.drop_nil, List.set_cons_zero, List.set_cons_succ, List.append_nil, ble_self, ble12, gI_int, gB_bool, gS_str, gL_sl, gP_ptr, Option.bind_some, cond_true, cond_false]
  cases valB w z o <;> simp only [Bool.not_true, Bool.not_false, gI_int, gB_bool, gS_str, gL_sl, gP_ptr, Option.bind_some, cond_true, cond_false, low_loc h, setLow_low, setLow_next, setLow_set, setLow_loc, setLow_self, hNew_loc, loc_next, loc_low, Nat.beq_refl, add_lit, List.nil_append, List.cons_append, List.length_cons, List.length_nil, Nat.zero_add, Nat.add_zero, Nat.reduceAdd, lrd H, lrd0 H, lst H, lst0 H, List.getElem?_cons_zero, List.getElem?_cons_succ, putAt0, putAt1, List.drop_succ_cons, List.drop_zero, List.drop_nil, List.set_cons_zero, List.set_cons_succ, List.append_nil, ble_self, ble12, mask, i_and, i_or, i_xor, i_andNot, i_not, i_add, i_sub, i_mulS, i_neg, i_eq, i_ne', i_lt, i_le, exitR_bool, exitR_int, exitR_ints, exitR_ii, exitR_ib, Bool.true_and, Bool.false_and]
  · rfl
  · cases ((z ||| o) == M w) <;> simp only [Bool.not_true, Bool.not_false, gI_int, gB_bool, gS_str, gL_sl, gP_ptr, Option.bind_some, cond_true, cond_false, low_loc h, setLow_low, setLow_next, setLow_set, setLow_loc, setLow_self, hNew_loc, loc_next, loc_low, Nat.beq_refl, add_lit, List.nil_append, List.cons_append, List.length_cons, List.length_nil, Nat.zero_add, Nat.add_zero, Nat.reduceAdd, lrd H, lrd0 H, lst H, lst0 H, List.getElem?_cons_zero, List.getElem?_cons_succ, putAt0, putAt1, List.drop_succ_cons, List.drop_zero, List.drop_nil, List.set_cons_zero, List.set_cons_succ, List.append_nil, ble_self, ble12, exitR_bool, exitR_int, exitR_ints, exitR_ii, exitR_ib] <;> rfl
theorem contains (n : Nat) (h : AH) (H : WF h) (z o x : BitVec 64) : runS Tryd.prog (n + 1) 20 [.agg #[.int .u64 (U z), .int .u64 (U o)], .int .u64 (U x)] h =
    some (.bool ((x &&& z) == 0#64 && (x &&& o) == o), h) := by
  refine t20_ok ?_
  rw [t20]
  simp only [low_loc h, setLow_low, setLow_next, setLow_set, setLow_loc, setLow_self, hNew_loc, loc_next, loc_low, Nat.beq_refl, add_lit, List.nil_append, List.cons_append, List.length_cons, List.length_nil, Nat.zero_add, Nat.add_zero, Nat.reduceAdd, lrd H, lrd0 H, lst H, lst0 H, List.getElem?_cons_zero, List.getElem?_cons_succ, putAt0, putAt1, List.drop_succ_cons, List.drop_zero, List.drop_nil, List.set_cons_zero, List.set_cons_succ, List.append_nil, ble_self, ble12, gI_int, gB_bool, gS_str, gL_sl, gP_ptr, Option.bind_some, cond_true, cond_false, i_and, i_or, i_xor, i_andNot, i_not, i_add, i_sub, i_mulS, i_neg, i_eq, i_ne', i_lt, i_le, U0]
  cases ((x &&& z) == 0#64) <;> simp only [gI_int, gB_bool, gS_str, gL_sl, gP_ptr, Option.bind_some, cond_true, cond_false, low_loc h, setLow_low, setLow_next, setLow_set, setLow_loc, setLow_self, hNew_loc, loc_next, loc_low, Nat.beq_refl, add_lit, List.nil_append, List.cons_append, List.length_cons, List.length_nil, Nat.zero_add, Nat.add_zero, Nat.reduceAdd, lrd H, lrd0 H, lst H, lst0 H, List.getElem?_cons_zero, List.getElem?_cons_succ, putAt0, putAt1, List.drop_succ_cons, List.drop_zero, List.drop_nil, List.set_cons_zero, List.set_cons_succ, List.append_nil, ble_self, ble12, i_and, i_or, i_xor, i_andNot, i_not, i_add, i_sub, i_mulS, i_neg, i_eq, i_ne', i_lt, i_le, exitR_bool, exitR_int, exitR_ints, exitR_ii, exitR_ib, Bool.true_and, Bool.false_and]
theorem leq (n : Nat) (h : AH) (H : WF h) (z o z' o' : BitVec 64) : runS Tryd.prog (n + 1) 22 [.agg #[.int .u64 (U z), .int .u64 (U o)], .agg #[.int .u64 (U z'), .int .u64 (U o')]] h =
    some (.bool ((z' &&& ~~~ z) == 0#64 && (o' &&& ~~~ o) == 0#64), h) := by
  refine t22_ok ?_
  rw [t22]
  simp only [low_loc h, setLow_low, setLow_next, setLow_set, setLow_loc, setLow_self, hNew_loc, loc_next, loc_low, Nat.beq_refl, add_lit, List.nil_append, List.cons_append, List.length_cons, List.length_nil, Nat.zero_add, Nat.add_zero, Nat.reduceAdd, lrd H, lrd0 H, lst H, lst0 H, List.getElem?_cons_zero, List.getElem?_cons_succ, putAt0, putAt1, List.drop_succ_cons, List.drop_zero, List.drop_nil, List.set_cons_zero, List.set_cons_succ, List.append_nil, ble_self, ble12, gI_int, gB_bool, gS_str, gL_sl, gP_ptr, Option.bind_some, cond_true, cond_false, i_and, i_or, i_xor, i_andNot, i_not, i_add, i_sub, i_mulS, i_neg, i_eq, i_ne', i_lt, i_le, U0]
  cases ((z' &&& ~~~ z) == 0#64) <;> simp only [gI_int, gB_bool, gS_str, gL_sl, gP_ptr, Option.bind_some, cond_true, cond_false, low_loc h, setLow_low, setLow_next, setLow_set, setLow_loc, setLow_self, hNew_loc, loc_next, loc_low, Nat.beq_refl, add_lit, List.nil_append, List.cons_append, List.length_cons, List.length_nil, Nat.zero_add, Nat.add_zero, Nat.reduceAdd, lrd H, lrd0 H, lst H, lst0 H, List.getElem?_cons_zero, List.getElem?_cons_succ, putAt0, putAt1, List.drop_succ_cons, List.drop_zero, List.drop_nil, List.set_cons_zero, List.set_cons_succ, List.append_nil, ble_self, ble12, i_and, i_or, i_xor, i_andNot, i_not, i_add, i_sub, i_mulS, i_neg, i_eq, i_ne', i_lt, i_le, exitR_bool, exitR_int, exitR_ints, exitR_ii, exitR_ib, Bool.true_and, Bool.false_and]
theorem join (n : Nat) (h : AH) (H : WF h) (z o z' o' : BitVec 64) : runS Tryd.prog (n + 1) 35 [.agg #[.int .u64 (U z), .int .u64 (U o)], .agg #[.int .u64 (U z'), .int .u64 (U o')]] h =
    some (.agg #[.int .u64 (U (z &&& z')), .int .u64 (U (o &&& o'))], h) := by
  refine t35_ok ?_
  rw [t35]
  simp only [low_loc h, setLow_low, setLow_next, setLow_set, setLow_loc, setLow_self, hNew_loc, loc_next, loc_low, Nat.beq_refl, add_lit, List.nil_append, List.cons_append, List.length_cons, List.length_nil, Nat.zero_add, Nat.add_zero, Nat.reduceAdd, lrd H, lrd0 H, lst H, lst0 H, List.getElem?_cons_zero, List.getElem?_cons_succ, putAt0, putAt1, List.drop_succ_cons, List.drop_zero, List.drop_nil, List.set_cons_zero, List.set_cons_succ, List.append_nil, ble_self, ble12, gI_int, gB_bool, gS_str, gL_sl, gP_ptr, Option.bind_some, cond_true, cond_false, i_and, i_or, i_xor, i_andNot, i_not, i_add, i_sub, i_mulS, i_neg, i_eq, i_ne', i_lt, i_le, exitR_bool, exitR_int, exitR_ints, exitR_ii, exitR_ib]
theorem both (n : Nat) (h : AH) (H : WF h) (z o z' o' : BitVec 64) : runS Tryd.prog (n + 1) 47 [.agg #[.int .u64 (U z), .int .u64 (U o)], .agg #[.int .u64 (U z'), .int .u64 (U o')]] h =
    some (.agg #[.int .u64 (U (z ||| z')), .int .u64 (U (o ||| o'))], h) := by
  refine t47_ok ?_
  rw [t47]
  simp only [low_loc h, setLow_low, setLow_next, setLow_set, setLow_loc, setLow_self, hNew_loc, loc_next, loc_low, Nat.beq_refl, add_lit, List.nil_append, List.cons_append, List.length_cons, List.length_nil, Nat.zero_add, Nat.add_zero, Nat.reduceAdd, lrd H, lrd0 H, lst H, lst0 H, List.getElem?_cons_zero, List.getElem?_cons_succ, putAt0, putAt1, List.drop_succ_cons, List.drop_zero, List.drop_nil, List.set_cons_zero, List.set_cons_succ, List.append_nil, ble_self, ble12, gI_int, gB_bool, gS_str, gL_sl, gP_ptr, Option.bind_some, cond_true, cond_false, i_and, i_or, i_xor, i_andNot, i_not, i_add, i_sub, i_mulS, i_neg, i_eq, i_ne', i_lt, i_le, exitR_bool, exitR_int, exitR_ints, exitR_ii, exitR_ib]
theorem rcontains (n : Nat) (h : AH) (H : WF h) (z o x : BitVec 64) : runS Tryd.prog (n + 1) 51 [.agg #[.int .u64 (U z), .int .u64 (U o)], .int .u64 (U x)] h =
    some (.bool ((x &&& z) == 0#64 && (x &&& o) == o), h) := by
  refine t51_ok ?_
  rw [t51]
  simp only [low_loc h, setLow_low, setLow_next, setLow_set, setLow_loc, setLow_self, hNew_loc, loc_next, loc_low, Nat.beq_refl, add_lit, List.nil_append, List.cons_append, List.length_cons, List.length_nil, Nat.zero_add, Nat.add_zero, Nat.reduceAdd, lrd H, lrd0 H, lst H, lst0 H, List.getElem?_cons_zero, List.getElem?_cons_succ, putAt0, putAt1, List.drop_succ_cons, List.drop_zero, List.drop_nil, List.set_cons_zero, List.set_cons_succ, List.append_nil, ble_self, ble12, gI_int, gB_bool, gS_str, gL_sl, gP_ptr, Option.bind_some, cond_true, cond_false, i_and, i_or, i_xor, i_andNot, i_not, i_add, i_sub, i_mulS, i_neg, i_eq, i_ne', i_lt, i_le, U0]
  cases ((x &&& z) == 0#64) <;> simp only [gI_int, gB_bool, gS_str, gL_sl, gP_ptr, Option.bind_some, cond_true, cond_false, low_loc h, setLow_low, setLow_next, setLow_set, setLow_loc, setLow_self, hNew_loc, loc_next, loc_low, Nat.beq_refl, add_lit, List.nil_append, List.cons_append, List.length_cons, List.length_nil, Nat.zero_add, Nat.add_zero, Nat.reduceAdd, lrd H, lrd0 H, lst H, lst0 H, List.getElem?_cons_zero, List.getElem?_cons_succ, putAt0, putAt1, List.drop_succ_cons, List.drop_zero, List.drop_nil, List.set_cons_zero, List.set_cons_succ, List.append_nil, ble_self, ble12, i_and, i_or, i_xor, i_andNot, i_not, i_add, i_sub, i_mulS, i_neg, i_eq, i_ne', i_lt, i_le, exitR_bool, exitR_int, exitR_ints, exitR_ii, exitR_ib, Bool.true_and, Bool.false_and]
theorem one (n : Nat) (h : AH) (b : Bool) : runS Tryd.prog (n + 1) 32 [.bool b] h = some (.int .u64 (U (cond b 1#64 0#64)), h) := by
  refine t32_ok ?_
  rw [t32]
  cases b <;> simp only [low_loc h, setLow_low, setLow_next, setLow_set, setLow_loc, setLow_self, hNew_loc, loc_next, loc_low, Nat.beq_refl, add_lit, List.nil_append, List.cons_append, List.length_cons, List.length_nil, Nat.zero_add, Nat.add_zero, Nat.reduceAdd, gI_int, gB_bool, gS_str, gL_sl, gP_ptr, Option.bind_some, cond_true, cond_false, exitR_bool, exitR_int, exitR_ints, exitR_ii, exitR_ib] <;> rfl
theorem truth (n : Nat) (h : AH) (b : Bool) : runS Tryd.prog (n + 1) 55 [.bool b] h = some (.int .u64 (U (cond b 1#64 0#64)), h) := by
  refine t55_ok ?_
  rw [t55]
  cases b <;> simp only [low_loc h, setLow_low, setLow_next, setLow_set, setLow_loc, setLow_self, hNew_loc, loc_next, loc_low, Nat.beq_refl, add_lit, List.nil_append, List.cons_append, List.length_cons, List.length_nil, Nat.zero_add, Nat.add_zero, Nat.reduceAdd, gI_int, gB_bool, gS_str, gL_sl, gP_ptr, Option.bind_some, cond_true, cond_false, exitR_bool, exitR_int, exitR_ints, exitR_ii, exitR_ib] <;> rfl
theorem most (n : Nat) (h : AH) (H : WF h) (w : Int) (z o : BitVec 64) : runS Tryd.prog (n + 2) 66 [.int .i64 w, .agg #[.int .u64 (U z), .int .u64 (U o)]] h = some (.int .u64 (U (M w &&& ~~~ z)), h) := by
  refine t66_ok ?_
  rw [t66]
  simp only [low_loc h, setLow_low, setLow_next, setLow_set, setLow_loc, setLow_self, hNew_loc, loc_next, loc_low, Nat.beq_refl, add_lit, List.nil_append, List.cons_append, List.length_cons, List.length_nil, Nat.zero_add, Nat.add_zero, Nat.reduceAdd, lrd H, lrd0 H, lst H, lst0 H, List.getElem?_cons_zero, List.getElem?_cons_succ, putAt0, putAt1, List.drop_succ_cons, List.drop_zero, List.drop_nil, List.set_cons_zero, List.set_cons_succ, List.append_nil, ble_self, ble12, gI_int, gB_bool, gS_str, gL_sl, gP_ptr, Option.bind_some, cond_true, cond_false, mask, i_and, i_or, i_xor, i_andNot, i_not, i_add, i_sub, i_mulS, i_neg, i_eq, i_ne', i_lt, i_le, exitR_bool, exitR_int, exitR_ints, exitR_ii, exitR_ib]
theorem least (n : Nat) (h : AH) (H : WF h) (z o : BitVec 64) : runS Tryd.prog (n + 1) 67 [.agg #[.int .u64 (U z), .int .u64 (U o)]] h = some (.int .u64 (U o), h) := by
  refine t67_ok ?_
  rw [t67]
  simp only [low_loc h, setLow_low, setLow_next, setLow_set, setLow_loc, setLow_self, hNew_loc, loc_next, loc_low, Nat.beq_refl, add_lit, List.nil_append, List.cons_append, List.length_cons, List.length_nil, Nat.zero_add, Nat.add_zero, Nat.reduceAdd, lrd H, lrd0 H, lst H, lst0 H, List.getElem?_cons_zero, List.getElem?_cons_succ, putAt0, putAt1, List.drop_succ_cons, List.drop_zero, List.drop_nil, List.set_cons_zero, List.set_cons_succ, List.append_nil, ble_self, ble12, gI_int, gB_bool, gS_str, gL_sl, gP_ptr, Option.bind_some, cond_true, cond_false, exitR_bool, exitR_int, exitR_ints, exitR_ii, exitR_ib]
theorem M_succ (i : Nat) (h : i < 64) : M ((i : Int) + 1) = M i * 2#64 + 1#64 := by
  have : ∀ i : Fin 64, M ((i.val : Int) + 1) = M i.val * 2#64 + 1#64 := by decide +kernel
  exact this ⟨i, h⟩
theorem iAdd_i64 {x y : Int} (h1 : -9223372036854775808 ≤ x + y) (h2 : x + y ≤ 9223372036854775807) : iAdd .i64 x y = x + y := by
  unfold iAdd
  simp only [IntKind.wrap, IntKind.bits, IntKind.signed]
  simp
  omega
theorem iSub_i64 {x y : Int} (h1 : -9223372036854775808 ≤ x - y) (h2 : x - y ≤ 9223372036854775807) : iSub .i64 x y = x - y := by
  unfold iSub
  simp only [IntKind.wrap, IntKind.bits, IntKind.signed]
  simp
  omega
theorem iLt_true {x y : Int} (h : x < y) : iLt x y = true := decide_eq_true h
theorem iLt_false {x y : Int} (h : y ≤ x) : iLt x y = false := decide_eq_false (by omega)
theorem iLe_true {x y : Int} (h : x ≤ y) : iLe x y = true := decide_eq_true h
theorem iLe_false {x y : Int} (h : y < x) : iLe x y = false := decide_eq_false (by omega)
theorem maskL (n : Nat) (h0 h : AH) (w : Nat) (hw : w ≤ 64) : ∀ (k i m0 : Nat), k < m0 → i + k = w → c14_0 n m0 h0 w (U (M i)) i h = some (exitR h0 h (.int .u64 (U (M w)))) := by
  intro k
  induction k with
  | zero =>
    intro i m0 hm hi
    obtain ⟨m0, rfl⟩ : ∃ g, m0 = g + 1 := ⟨m0 - 1, by omega⟩
    refine c14_0_ok ?_
    rw [c14_0_eq, iLt_false (by omega), cond_false, show i = w by omega]
  | succ k ih =>
    intro i m0 hm hi
    obtain ⟨m0, rfl⟩ : ∃ g, m0 = g + 1 := ⟨m0 - 1, by omega⟩
    refine c14_0_ok ?_
    rw [c14_0_eq, iLt_true (by omega), cond_true, iAdd_i64 (by omega) (by omega)]
    have e : iAdd .u64 (mulS .u64 (U (M i)) 2) 1 = U (M ((i : Int) + 1)) := by
      rw [show (2 : Int) = U 2#64 from rfl, i_mulS]
      exact (i_add _ 1#64).trans (congrArg U (M_succ i (by omega)).symm)
    rw [e]
    exact ih (i + 1) m0 (by omega) (by omega)
theorem rmask (n : Nat) (h : AH) (w : Int) (h1 : 0 ≤ w) (h2 : w ≤ 64) : runS Tryd.prog (n + 66) 14 [.int .i64 w] h = some (.int .u64 (U (M w)), h) := by
  obtain ⟨w, rfl⟩ : ∃ v : Nat, w = v := ⟨w.toNat, by omega⟩
  refine t14_ok ?_
  rw [t14]
  have := maskL (n + 65) h (setLow h h.next) w (by omega) w 0 (n + 65) (by omega) (by omega)
  rw [show ((0 : Nat) : Int) = 0 from rfl, show U (M 0) = 0 from rfl] at this
  rw [this, low_loc, exitR_int]
theorem rvalid (n : Nat) (h : AH) (H : WF h) (w : Int) (z o : BitVec 64) : runS Tryd.prog (n + 67) 37 [.int .i64 w, .agg #[.int .u64 (U z), .int .u64 (U o)]] h =
    some (.bool (valB w z o), h) := by
  refine t37_ok ?_
  rw [t37]
  unfold valB goodB
  by_cases h1 : 1 ≤ w
  · by_cases h2 : w ≤ 64
    · rw [iLe_true h1, iLe_true h2]
      simp only [low_loc h, setLow_low, setLow_next, setLow_set, setLow_loc, setLow_self, hNew_loc, loc_next, loc_low, Nat.beq_refl, add_lit, List.nil_append, List.cons_append, List.length_cons, List.length_nil, Nat.zero_add, Nat.add_zero, Nat.reduceAdd, lrd H, lrd0 H, lst H, lst0 H, List.getElem?_cons_zero, List.getElem?_cons_succ, putAt0, putAt1, List.drop_succ_cons, List.drop_zero, List.drop_nil, List.set_cons_zero, List.set_cons_succ, List.append_nil, ble_self, ble12, gI_int, gB_bool, gS_str, gL_sl, gP_ptr, Option.bind_some, cond_true, cond_false, rmask _ _ w (by omega) h2, i_and, i_or, i_xor, i_andNot, i_not, i_add, i_sub, i_mulS, i_neg, i_eq, i_ne', i_lt, i_le, U0, Bool.true_and]
      cases (((z ||| o) &&& ~~~ M w) == 0#64) <;> simp only [gI_int, gB_bool, gS_str, gL_sl, gP_ptr, Option.bind_some, cond_true, cond_false, low_loc h, setLow_low, setLow_next, setLow_set, setLow_loc, setLow_self, hNew_loc, loc_next, loc_low, Nat.beq_refl, add_lit, List.nil_append, List.cons_append, List.length_cons, List.length_nil, Nat.zero_add, Nat.add_zero, Nat.reduceAdd, lrd H, lrd0 H, lst H, lst0 H, List.getElem?_cons_zero, List.getElem?_cons_succ, putAt0, putAt1, List.drop_succ_cons, List.drop_zero, List.drop_nil, List.set_cons_zero, List.set_cons_succ, List.append_nil, ble_self, ble12, i_and, i_or, i_xor, i_andNot, i_not, i_add, i_sub, i_mulS, i_neg, i_eq, i_ne', i_lt, i_le, exitR_bool, exitR_int, exitR_ints, exitR_ii, exitR_ib, Bool.true_and, Bool.false_and]
    · rw [iLe_true h1, iLe_false (by omega)]
      simp only [low_loc h, setLow_low, setLow_next, setLow_set, setLow_loc, setLow_self, hNew_loc, loc_next, loc_low, Nat.beq_refl, add_lit, List.nil_append, List.cons_append, List.length_cons, List.length_nil, Nat.zero_add, Nat.add_zero, Nat.reduceAdd, lrd H, lrd0 H, lst H, lst0 H, List.getElem?_cons_zero, List.getElem?_cons_succ, putAt0, putAt1, List.drop_succ_cons, List.drop_zero, List.drop_nil, List.set_cons_zero, List.set_cons_succ, List.append_nil, ble_self, ble12, gI_int, gB_bool, gS_str, gL_sl, gP_ptr, Option.bind_some, cond_true, cond_false, exitR_bool, exitR_int, exitR_ints, exitR_ii, exitR_ib, Bool.true_and, Bool.false_and]
  · rw [iLe_false (by omega)]
    simp only [low_loc h, setLow_low, setLow_next, setLow_set, setLow_loc, setLow_self, hNew_loc, loc_next, loc_low, Nat.beq_refl, add_lit, List.nil_append, List.cons_append, List.length_cons, List.length_nil, Nat.zero_add, Nat.add_zero, Nat.reduceAdd, lrd H, lrd0 H, lst H, lst0 H, List.getElem?_cons_zero, List.getElem?_cons_succ, putAt0, putAt1, List.drop_succ_cons, List.drop_zero, List.drop_nil, List.set_cons_zero, List.set_cons_succ, List.append_nil, ble_self, ble12, gI_int, gB_bool, gS_str, gL_sl, gP_ptr, Option.bind_some, cond_true, cond_false, exitR_bool, exitR_int, exitR_ints, exitR_ii, exitR_ib, Bool.true_and, Bool.false_and]
theorem rofs (n : Nat) (h : AH) (H : WF h) (w : Int) (h1 : 0 ≤ w) (h2 : w ≤ 64) (x : BitVec 64) : runS Tryd.prog (n + 67) 39 [.int .i64 w, .int .u64 (U x)] h =
    some (.agg #[.int .u64 (U (M w &&& ~~~ x)), .int .u64 (U (x &&& M w))], h) := by
  refine t39_ok ?_
  rw [t39]
  simp only [low_loc h, setLow_low, setLow_next, setLow_set, setLow_loc, setLow_self, hNew_loc, loc_next, loc_low, Nat.beq_refl, add_lit, List.nil_append, List.cons_append, List.length_cons, List.length_nil, Nat.zero_add, Nat.add_zero, Nat.reduceAdd, rmask _ _ w h1 h2, gI_int, gB_bool, gS_str, gL_sl, gP_ptr, Option.bind_some, cond_true, cond_false, lrd H, lrd0 H, lst H, lst0 H, List.getElem?_cons_zero, List.getElem?_cons_succ, putAt0, putAt1, List.drop_succ_cons, List.drop_zero, List.drop_nil, List.set_cons_zero, List.set_cons_succ, List.append_nil, ble_self, ble12, i_and, i_or, i_xor, i_andNot, i_not, i_add, i_sub, i_mulS, i_neg, i_eq, i_ne', i_lt, i_le, exitR_bool, exitR_int, exitR_ints, exitR_ii, exitR_ib]
end Go.Proofs.YtiadfnedbbkojaaDoor.Kb
namespace Go.Proofs.YtiadfnedbbkojaaDoor.Kb
open Go Go.Proofs Go.Proofs.YtiadfnedbbkojaaDoor.X Go.Proofs.YtiadfnedbbkojaaDoor.Bv
set_option linter.unusedSimpArgs false
def S (x : BitVec 64) : Int := x.toInt
theorem c_i64 (x : BitVec 64) : iConv .i64 (U x) = S x := by
  unfold iConv S U
  rw [BitVec.toInt_eq_toNat_cond]
  have := x.isLt
  simp only [IntKind.wrap, IntKind.bits, IntKind.signed]
  simp
  split <;> omega
theorem c_u64 (x : BitVec 64) : iConv .u64 (S x) = U x := by
  unfold iConv S U
  rw [BitVec.toInt_eq_toNat_cond]
  have := x.isLt
  simp only [IntKind.wrap, IntKind.bits, IntKind.signed]
  simp
  split <;> omega
theorem wrap_i64 (n : Int) : IntKind.i64.wrap n = n.bmod (2 ^ 64) := by
  simp only [IntKind.wrap, IntKind.bits, IntKind.signed]
  simp
  rw [Int.bmod_def]
  split <;> omega
theorem S_inj {x y : BitVec 64} : S x = S y ↔ x = y := BitVec.toInt_inj
theorem i_seq (x y : BitVec 64) : iEq (S x) (S y) = (x == y) := by
  unfold iEq
  rw [Bool.eq_iff_iff, beq_iff_eq, beq_iff_eq]
  exact S_inj
theorem i_slt (x y : BitVec 64) : iLt (S x) (S y) = x.slt y := rfl
theorem i_sle (x y : BitVec 64) : iLe (S x) (S y) = x.sle y := rfl
theorem i_squo (x y : BitVec 64) : iQuo .i64 (S x) (S y) = S (x.sdiv y) := by
  unfold iQuo S
  rw [wrap_i64, BitVec.toInt_sdiv]
theorem i_srem (x y : BitVec 64) : iRem .i64 (S x) (S y) = S (x.srem y) := by
  unfold iRem S
  rw [BitVec.toInt_srem]
theorem i_sshr (x : BitVec 64) (i : Int) (h : 0 ≤ i) (h2 : i ≤ 64) : iShr .i64 (S x) i = S (x.sshiftRight i.toNat) := by
  unfold iShr S
  rw [BitVec.toInt_sshiftRight, Int.shiftRight_eq_div_pow, show IntKind.i64.bits = 64 from rfl, Nat.min_eq_left (by omega)]
  rw [Int.fdiv_eq_ediv_of_nonneg _ (Int.le_of_lt (Int.pow_pos (by decide)))]
  simp
theorem S_0 : S 0#64 = 0 := rfl
theorem S_m1 : S (BitVec.allOnes 64) = -1 := by decide
theorem U_small {x : Int} (h0 : 0 ≤ x) (h1 : x ≤ 9223372036854775807) : iConv .u64 x = x := by
  unfold iConv
  simp only [IntKind.wrap, IntKind.bits, IntKind.signed]
  simp
  omega
def bitI (x : BitVec 64) (i : Nat) : Int := cond (x.getLsbD i) 1 0
theorem and1 (x : BitVec 64) (i : Nat) : (x >>> i) &&& 1#64 = cond (x.getLsbD i) 1#64 0#64 := by
  apply BitVec.eq_of_getLsbD_eq
  intro j hj
  rw [BitVec.getLsbD_and, BitVec.getLsbD_ushiftRight, BitVec.getLsbD_one]
  cases hx : x.getLsbD i with
  | true =>
    rw [cond_true, BitVec.getLsbD_one]
    by_cases h0 : j = 0
    · subst h0
      simp [hx]
    · simp [h0]
  | false =>
    rw [cond_false, BitVec.getLsbD_zero]
    by_cases h0 : j = 0
    · subst h0
      simp [hx]
    · simp [h0]
theorem bit (n : Nat) (h : AH) (x : BitVec 64) (i : Nat) : runS Tryd.prog (n + 1) 54 [.int .u64 (U x), .int .i64 i] h = some (.int .i64 (bitI x i), h) := by
  refine t54_ok ?_
  rw [t54, iLt_false (Int.natCast_nonneg i), cond_false, low_loc, exitR_int, i_shr _ _ (Int.natCast_nonneg i), U1, i_and, Int.toNat_natCast, and1]
  unfold bitI
  cases x.getLsbD i <;> rfl
def kn (z o : BitVec 64) (i : Nat) : Int := cond (o.getLsbD i) 1 (cond (z.getLsbD i) 0 (-1))
theorem bitI_1 (x : BitVec 64) (i : Nat) : iEq (bitI x i) 1 = x.getLsbD i := by
  unfold bitI
  cases x.getLsbD i <;> rfl
theorem known (n : Nat) (h : AH) (H : WF h) (z o : BitVec 64) (i : Nat) : runS Tryd.prog (n + 2) 49 [.agg #[.int .u64 (U z), .int .u64 (U o)], .int .i64 i] h = some (.int .i64 (kn z o i), h) := by
  refine t49_ok ?_
  rw [t49]
  simp only [low_loc h, setLow_low, setLow_next, setLow_set, setLow_loc, setLow_self, hNew_loc, loc_next, loc_low, Nat.beq_refl, add_lit, List.nil_append, List.cons_append, List.length_cons, List.length_nil, Nat.zero_add, Nat.add_zero, Nat.reduceAdd, lrd H, lrd0 H, lst H, lst0 H, List.getElem?_cons_zero, List.getElem?_cons_succ, putAt0, putAt1, List.drop_succ_cons, List.drop_zero, List.drop_nil, List.set_cons_zero, List.set_cons_succ, List.append_nil, ble_self, ble12, gI_int, gB_bool, gS_str, gL_sl, gP_ptr, Option.bind_some, cond_true, cond_false, bit, bitI_1]
  unfold kn
  cases o.getLsbD i with
  | true => simp only [low_loc h, setLow_low, setLow_next, setLow_set, setLow_loc, setLow_self, hNew_loc, loc_next, loc_low, Nat.beq_refl, add_lit, List.nil_append, List.cons_append, List.length_cons, List.length_nil, Nat.zero_add, Nat.add_zero, Nat.reduceAdd, lrd H, lrd0 H, lst H, lst0 H, List.getElem?_cons_zero, List.getElem?_cons_succ, putAt0, putAt1, List.drop_succ_cons, List.drop_zero, List.drop_nil, List.set_cons_zero, List.set_cons_succ, List.append_nil, ble_self, ble12, gI_int, gB_bool, gS_str, gL_sl, gP_ptr, Option.bind_some, cond_true, cond_false, exitR_bool, exitR_int, exitR_ints, exitR_ii, exitR_ib]
  | false =>
    simp only [low_loc h, setLow_low, setLow_next, setLow_set, setLow_loc, setLow_self, hNew_loc, loc_next, loc_low, Nat.beq_refl, add_lit, List.nil_append, List.cons_append, List.length_cons, List.length_nil, Nat.zero_add, Nat.add_zero, Nat.reduceAdd, lrd H, lrd0 H, lst H, lst0 H, List.getElem?_cons_zero, List.getElem?_cons_succ, putAt0, putAt1, List.drop_succ_cons, List.drop_zero, List.drop_nil, List.set_cons_zero, List.set_cons_succ, List.append_nil, ble_self, ble12, gI_int, gB_bool, gS_str, gL_sl, gP_ptr, Option.bind_some, cond_true, cond_false, bit, bitI_1]
    cases z.getLsbD i <;> simp only [low_loc h, setLow_low, setLow_next, setLow_set, setLow_loc, setLow_self, hNew_loc, loc_next, loc_low, Nat.beq_refl, add_lit, List.nil_append, List.cons_append, List.length_cons, List.length_nil, Nat.zero_add, Nat.add_zero, Nat.reduceAdd, lrd H, lrd0 H, lst H, lst0 H, List.getElem?_cons_zero, List.getElem?_cons_succ, putAt0, putAt1, List.drop_succ_cons, List.drop_zero, List.drop_nil, List.set_cons_zero, List.set_cons_succ, List.append_nil, ble_self, ble12, gI_int, gB_bool, gS_str, gL_sl, gP_ptr, Option.bind_some, cond_true, cond_false, exitR_bool, exitR_int, exitR_ints, exitR_ii, exitR_ib]
def put0 (z : BitVec 64) (i : Nat) (v : Int) : BitVec 64 := cond (iEq v 0) (z ||| 1#64 <<< i) z
def put1 (o : BitVec 64) (i : Nat) (v : Int) : BitVec 64 := cond (iEq v 1) (o ||| 1#64 <<< i) o
theorem put (n : Nat) (h : AH) (H : WF h) (z o : BitVec 64) (i : Nat) (v : Int) : runS Tryd.prog (n + 1) 48 [.agg #[.int .u64 (U z), .int .u64 (U o)], .int .i64 i, .int .i64 v] h =
    some (.agg #[.int .u64 (U (put0 z i v)), .int .u64 (U (put1 o i v))], h) := by
  refine t48_ok ?_
  rw [t48]
  have e : iShl .u64 1 (i : Int) = U (1#64 <<< i) := by rw [U1, i_shl _ _ (Int.natCast_nonneg i), Int.toNat_natCast]
  have key : ∀ z o : BitVec 64, c48_0 n h i v ⟨h.next, 0, none⟩ ⟨h.next + 1, 0, none⟩ (loc h [[.int .u64 (U z), .int .u64 (U o)], [.int .u64 0, .int .u64 0]]) = some (.agg #[.int .u64 (U (put0 z i v)), .int .u64 (U o)], h) := fun z o => by
    refine c48_0_ok ?_
    rw [c48_0_eq]
    unfold put0
    cases iEq v 0 <;> simp only [low_loc h, setLow_low, setLow_next, setLow_set, setLow_loc, setLow_self, hNew_loc, loc_next, loc_low, Nat.beq_refl, add_lit, List.nil_append, List.cons_append, List.length_cons, List.length_nil, Nat.zero_add, Nat.add_zero, Nat.reduceAdd, lrd H, lrd0 H, lst H, lst0 H, List.getElem?_cons_zero, List.getElem?_cons_succ, putAt0, putAt1, List.drop_succ_cons, List.drop_zero, List.drop_nil, List.set_cons_zero, List.set_cons_succ, List.append_nil, ble_self, ble12, gI_int, gB_bool, gS_str, gL_sl, gP_ptr, Option.bind_some, cond_true, cond_false, exitR_bool, exitR_int, exitR_ints, exitR_ii, exitR_ib, e, i_or, iLt_false (Int.natCast_nonneg i)]
  unfold put1
  cases iEq v 1 <;> simp only [low_loc h, setLow_low, setLow_next, setLow_set, setLow_loc, setLow_self, hNew_loc, loc_next, loc_low, Nat.beq_refl, add_lit, List.nil_append, List.cons_append, List.length_cons, List.length_nil, Nat.zero_add, Nat.add_zero, Nat.reduceAdd, lrd H, lrd0 H, lst H, lst0 H, List.getElem?_cons_zero, List.getElem?_cons_succ, putAt0, putAt1, List.drop_succ_cons, List.drop_zero, List.drop_nil, List.set_cons_zero, List.set_cons_succ, List.append_nil, ble_self, ble12, gI_int, gB_bool, gS_str, gL_sl, gP_ptr, Option.bind_some, cond_true, cond_false, e, i_or, iLt_false (Int.natCast_nonneg i), key]
def isg (w : Nat) (x : BitVec 64) : BitVec 64 := (x <<< (64 - w)).sshiftRight (64 - w)
def rsg (w : Nat) (x : BitVec 64) : BitVec 64 := cond (x.getLsbD (w - 1)) (x ||| ~~~ M w) x
theorem signed (n : Nat) (h : AH) (w : Nat) (hw : w ≤ 64) (x : BitVec 64) : runS Tryd.prog (n + 1) 60 [.int .i64 w, .int .u64 (U x)] h = some (.int .i64 (S (isg w x)), h) := by
  refine t60_ok ?_
  rw [t60, iSub_i64 (by omega) (by omega), iLt_false (by omega), cond_false, cond_false, low_loc, exitR_int, i_shl _ _ (by omega), c_i64, i_sshr _ _ (by omega) (by omega)]
  unfold isg
  rw [show ((64 : Int) - w).toNat = 64 - w by omega]
theorem rsigned (n : Nat) (h : AH) (w : Nat) (h1 : 1 ≤ w) (hw : w ≤ 64) (x : BitVec 64) : runS Tryd.prog (n + 67) 56 [.int .i64 w, .int .u64 (U x)] h = some (.int .i64 (S (rsg w x)), h) := by
  refine t56_ok ?_
  rw [t56, iSub_i64 (by omega) (by omega), show ((w : Int) - 1) = ((w - 1 : Nat) : Int) by omega, bit]
  unfold rsg
  simp only [gI_int, gB_bool, gS_str, gL_sl, gP_ptr, Option.bind_some, cond_true, cond_false, bitI_1]
  cases x.getLsbD (w - 1) with
  | true => simp only [low_loc h, setLow_low, setLow_next, setLow_set, setLow_loc, setLow_self, hNew_loc, loc_next, loc_low, Nat.beq_refl, add_lit, List.nil_append, List.cons_append, List.length_cons, List.length_nil, Nat.zero_add, Nat.add_zero, Nat.reduceAdd, gI_int, gB_bool, gS_str, gL_sl, gP_ptr, Option.bind_some, cond_true, cond_false, rmask _ _ (w : Int) (by omega) (by omega), i_and, i_or, i_xor, i_andNot, i_not, i_add, i_sub, i_mulS, i_neg, i_eq, i_ne', i_lt, i_le, c_i64, exitR_bool, exitR_int, exitR_ints, exitR_ii, exitR_ib]
  | false => simp only [low_loc h, setLow_low, setLow_next, setLow_set, setLow_loc, setLow_self, hNew_loc, loc_next, loc_low, Nat.beq_refl, add_lit, List.nil_append, List.cons_append, List.length_cons, List.length_nil, Nat.zero_add, Nat.add_zero, Nat.reduceAdd, gI_int, gB_bool, gS_str, gL_sl, gP_ptr, Option.bind_some, cond_true, cond_false, c_i64, exitR_bool, exitR_int, exitR_ints, exitR_ii, exitR_ib]
end Go.Proofs.YtiadfnedbbkojaaDoor.Kb
namespace Go.Proofs.YtiadfnedbbkojaaDoor.Kb
open Go Go.Proofs Go.Proofs.YtiadfnedbbkojaaDoor.X Go.Proofs.YtiadfnedbbkojaaDoor.Bv
set_option linter.unusedSimpArgs false
/-- A word bit by bit. -/
def bvN (f : Nat → Bool) : Nat → BitVec 64
  | 0 => 0#64
  | n + 1 => bvN f n ||| cond (f n) (1#64 <<< n) 0#64
theorem bvN_bit (f : Nat → Bool) : ∀ (n : Nat), n ≤ 64 → ∀ i, (bvN f n).getLsbD i = (decide (i < n) && f i)
  | 0, _, i => by
    rw [show bvN f 0 = 0#64 from rfl, BitVec.getLsbD_zero]
    simp
  | n + 1, hn, i => by
    show (bvN f n ||| cond (f n) (1#64 <<< n) 0#64).getLsbD i = _
    rw [BitVec.getLsbD_or, bvN_bit f n (by omega) i]
    have hs : (1#64 <<< n).getLsbD i = decide (i = n) := by
      rw [BitVec.getLsbD_shiftLeft, BitVec.getLsbD_one]
      by_cases h : i = n
      · subst h
        simp
        omega
      · simp [h]
        omega
    by_cases h : i = n
    · subst h
      cases hf : f i with
      | true =>
        rw [cond_true, hs]
        simp
      | false =>
        rw [cond_false, BitVec.getLsbD_zero]
        simp
    · have hz : (cond (f n) (1#64 <<< n) 0#64).getLsbD i = false := by
        cases f n with
        | true => rw [cond_true, hs, decide_eq_false h]
        | false => rw [cond_false, BitVec.getLsbD_zero]
      rw [hz, Bool.or_false]
      congr 1
      exact decide_eq_decide.2 (by omega)
theorem bitI_U (x : BitVec 64) (i : Nat) : iConv .u64 (bitI x i) = U (cond (x.getLsbD i) 1#64 0#64) := by
  unfold bitI
  cases x.getLsbD i <;> rfl
def boolI (b : Bool) : Int := cond b 1 0
theorem boolI_U (b : Bool) : iConv .u64 (boolI b) = U (cond b 1#64 0#64) := by
  cases b <;> rfl
theorem shl_bit (b : Bool) (i : Nat) : iShl .u64 (U (cond b 1#64 0#64)) i = U (cond b (1#64 <<< i) 0#64) := by
  rw [i_shl _ _ (Int.natCast_nonneg i), Int.toNat_natCast]
  cases b with
  | true => rfl
  | false =>
    simp only [cond_false]
    congr 1
    simp
def shf (w : Nat) (a b : BitVec 64) (fill : Bool) (i : Nat) : Bool := cond (decide (b.toNat < w) && decide (i + b.toNat < w)) (a.getLsbD (i + b.toNat)) fill
theorem rshiftL (n : Nat) (h0 h : AH) (w : Nat) (hw : w ≤ 64) (a b : BitVec 64) (fill : Bool) : ∀ (k i m0 : Nat), k < m0 → i + k = w →
    c53_0 (n + 1) m0 h0 w (U a) (U b) (boolI fill) (U (bvN (shf w a b fill) i)) i h = some (exitR h0 h (.int .u64 (U (bvN (shf w a b fill) w)))) := by
  intro k
  induction k with
  | zero =>
    intro i m0 hm hi
    obtain ⟨m0, rfl⟩ : ∃ g, m0 = g + 1 := ⟨m0 - 1, by omega⟩
    refine c53_0_ok ?_
    rw [c53_0_eq, iLt_false (by omega), cond_false, show i = w by omega]
  | succ k ih =>
    intro i m0 hm hi
    obtain ⟨m0, rfl⟩ : ∃ g, m0 = g + 1 := ⟨m0 - 1, by omega⟩
    refine c53_0_ok ?_
    have ih := ih (i + 1) m0 (by omega) (by omega)
    rw [show ((i + 1 : Nat) : Int) = (i : Int) + 1 by omega] at ih
    have st : ∀ t : Bool, shf w a b fill i = t → iOr .u64 (U (bvN (shf w a b fill) i)) (U (cond t (1#64 <<< i) 0#64)) = U (bvN (shf w a b fill) (i + 1)) := fun t ht => by
      rw [i_or, ← ht]
      rfl
    rw [c53_0_eq, iLt_true (by omega), cond_true, iAdd_i64 (y := 1) (by omega) (by omega), U_small (by omega) (by omega), iLt_false (y := 0) (by omega)]
    have hbw : iLt (U b) w = decide (b.toNat < w) := by
      unfold iLt U
      exact decide_eq_decide.2 (by omega)
    rw [hbw]
    by_cases hb : b.toNat < w
    · rw [decide_eq_true hb, cond_true]
      have hc : iConv .i64 (U b) = (b.toNat : Int) := by
        rw [c_i64]
        unfold S
        rw [BitVec.toInt_eq_toNat_cond, if_pos (by omega)]
      rw [hc, iAdd_i64 (by omega) (by omega)]
      by_cases hj : i + b.toNat < w
      · rw [iLt_true (by omega), cond_true, show ((i : Int) + (b.toNat : Int)) = ((i + b.toNat : Nat) : Int) by omega, bit]
        simp only [gI_int, gB_bool, gS_str, gL_sl, gP_ptr, Option.bind_some, cond_true, cond_false, bitI_U, shl_bit]
        rw [st (a.getLsbD (i + b.toNat)) (by unfold shf; rw [decide_eq_true hb, decide_eq_true hj]; rfl)]
        exact ih
      · rw [iLt_false (by omega), cond_false, cond_false, boolI_U, shl_bit, st fill (by unfold shf; rw [decide_eq_false hj, Bool.and_false]; rfl)]
        exact ih
    · rw [decide_eq_false hb, cond_false, cond_false, boolI_U, shl_bit, st fill (by unfold shf; rw [decide_eq_false hb, Bool.false_and]; rfl)]
      exact ih
theorem rshift (n : Nat) (h : AH) (w : Nat) (hw : w ≤ 64) (a b : BitVec 64) (fill : Bool) : runS Tryd.prog (n + 66) 53 [.int .i64 w, .int .u64 (U a), .int .u64 (U b), .int .i64 (boolI fill)] h =
    some (.int .u64 (U (bvN (shf w a b fill) w)), h) := by
  refine t53_ok ?_
  rw [t53]
  have := rshiftL (n + 64) h (loc h []) w hw a b fill w 0 (n + 65) (by omega) (by omega)
  rw [exitR_int] at this
  rw [low_loc]
  exact this
def dvi (op : Int) (w : Nat) (a b : BitVec 64) : BitVec 64 :=
  if (op = 5 ∨ op = 7) ∧ b = 0#64 then M w else if b = 0#64 then a else if op = 5 then a / b else if op = 6 then a % b
  else if isg w b = BitVec.allOnes 64 ∧ op = 7 then - a else if isg w b = BitVec.allOnes 64 then 0#64 else if op = 7 then (isg w a).sdiv (isg w b) else (isg w a).srem (isg w b)
theorem isg0 (w : Nat) : isg w 0#64 = 0#64 := by
  unfold isg
  simp
theorem divide (n : Nat) (h : AH) (op : Int) (w : Nat) (ho : 5 ≤ op ∧ op ≤ 8) (hw : w ≤ 64) (a b : BitVec 64) (hb : b ≠ 0#64 → isg w b ≠ 0#64) : runS Tryd.prog (n + 2) 58 [.int .i64 op, .int .i64 w, .int .u64 (U a), .int .u64 (U b)] h = some (.int .u64 (U (dvi op w a b)), h) := by
  refine t58_ok ?_
  rw [t58]
  simp only [low_loc h, setLow_low, setLow_next, setLow_set, setLow_loc, setLow_self, hNew_loc, loc_next, loc_low, Nat.beq_refl, add_lit, List.nil_append, List.cons_append, List.length_cons, List.length_nil, Nat.zero_add, Nat.add_zero, Nat.reduceAdd, signed _ _ w hw, gI_int, gB_bool, gS_str, gL_sl, gP_ptr, Option.bind_some, cond_true, cond_false]
  have hop : op = 5 ∨ op = 6 ∨ op = 7 ∨ op = 8 := by omega
  unfold dvi
  by_cases h0 : b = 0#64
  · subst h0
    have e0 : iEq (U 0#64) 0 = true := rfl
    rw [e0]
    rcases hop with rfl | rfl | rfl | rfl
    · simp only [oe5_5, low_loc h, setLow_low, setLow_next, setLow_set, setLow_loc, setLow_self, hNew_loc, loc_next, loc_low, Nat.beq_refl, add_lit, List.nil_append, List.cons_append, List.length_cons, List.length_nil, Nat.zero_add, Nat.add_zero, Nat.reduceAdd, gI_int, gB_bool, gS_str, gL_sl, gP_ptr, Option.bind_some, cond_true, cond_false, mask, exitR_bool, exitR_int, exitR_ints, exitR_ii, exitR_ib, Int.reduceEq, true_or, true_and, reduceIte]
    · simp only [oe6_5, oe6_7, cond_true, cond_false]
      refine c58_0_ok ?_
      rw [c58_0_eq, e0]
      simp only [low_loc h, setLow_low, setLow_next, setLow_set, setLow_loc, setLow_self, hNew_loc, loc_next, loc_low, Nat.beq_refl, add_lit, List.nil_append, List.cons_append, List.length_cons, List.length_nil, Nat.zero_add, Nat.add_zero, Nat.reduceAdd, gI_int, gB_bool, gS_str, gL_sl, gP_ptr, Option.bind_some, cond_true, cond_false, mask, exitR_bool, exitR_int, exitR_ints, exitR_ii, exitR_ib, Int.reduceEq, false_or, false_and, reduceIte]
    · simp only [oe7_5, oe7_7, low_loc h, setLow_low, setLow_next, setLow_set, setLow_loc, setLow_self, hNew_loc, loc_next, loc_low, Nat.beq_refl, add_lit, List.nil_append, List.cons_append, List.length_cons, List.length_nil, Nat.zero_add, Nat.add_zero, Nat.reduceAdd, gI_int, gB_bool, gS_str, gL_sl, gP_ptr, Option.bind_some, cond_true, cond_false, mask, exitR_bool, exitR_int, exitR_ints, exitR_ii, exitR_ib, Int.reduceEq, or_true, true_and, reduceIte]
    · simp only [oe8_5, oe8_7, cond_true, cond_false]
      refine c58_0_ok ?_
      rw [c58_0_eq, e0]
      simp only [low_loc h, setLow_low, setLow_next, setLow_set, setLow_loc, setLow_self, hNew_loc, loc_next, loc_low, Nat.beq_refl, add_lit, List.nil_append, List.cons_append, List.length_cons, List.length_nil, Nat.zero_add, Nat.add_zero, Nat.reduceAdd, gI_int, gB_bool, gS_str, gL_sl, gP_ptr, Option.bind_some, cond_true, cond_false, mask, exitR_bool, exitR_int, exitR_ints, exitR_ii, exitR_ib, Int.reduceEq, false_or, false_and, reduceIte]
  · have e0 : iEq (U b) 0 = false := by
      rw [U0, i_eq]
      exact beq_eq_false_iff_ne.2 h0
    have e1 : iEq (S (isg w b)) 0 = false := by
      rw [← S_0, i_seq]
      exact beq_eq_false_iff_ne.2 (hb h0)
    have e2 : iEq (S (isg w b)) (-1) = decide (isg w b = BitVec.allOnes 64) := by
      rw [← S_m1, i_seq]
      exact Bool.eq_iff_iff.2 (by rw [beq_iff_eq, decide_eq_true_iff])
    have k1 : op = 7 ∨ op = 8 → c58_1 (n + 1) h op (S (isg w a)) (S (isg w b)) (loc h []) = some (.int .u64 (U (if isg w b = BitVec.allOnes 64 then 0#64 else if op = 7 then (isg w a).sdiv (isg w b) else (isg w a).srem (isg w b))), h) := fun ho => by
      refine c58_1_ok ?_
      rw [c58_1_eq, e1, e2]
      by_cases hm : isg w b = BitVec.allOnes 64
      · rw [decide_eq_true hm, if_pos hm]
        simp only [gI_int, gB_bool, gS_str, gL_sl, gP_ptr, Option.bind_some, cond_true, cond_false, exitR_bool, exitR_int, exitR_ints, exitR_ii, exitR_ib]
        rfl
      · rw [decide_eq_false hm, if_neg hm]
        rcases ho with rfl | rfl
        · simp only [oe7_7, gI_int, gB_bool, gS_str, gL_sl, gP_ptr, Option.bind_some, cond_true, cond_false, i_squo, c_u64, exitR_bool, exitR_int, exitR_ints, exitR_ii, exitR_ib, reduceIte]
        · simp only [oe8_7, gI_int, gB_bool, gS_str, gL_sl, gP_ptr, Option.bind_some, cond_true, cond_false, i_srem, c_u64, exitR_bool, exitR_int, exitR_ints, exitR_ii, exitR_ib, Int.reduceEq, reduceIte]
    have k0 : c58_0 (n + 1) h op (U a) (U b) (S (isg w a)) (S (isg w b)) (loc h []) = some (.int .u64 (U (if op = 5 then a / b else if op = 6 then a % b
  else if isg w b = BitVec.allOnes 64 ∧ op = 7 then - a else if isg w b = BitVec.allOnes 64 then 0#64 else if op = 7 then (isg w a).sdiv (isg w b) else (isg w a).srem (isg w b))), h) := by
      refine c58_0_ok ?_
      rw [c58_0_eq, e0, e2]
      rcases hop with rfl | rfl | rfl | rfl
      · simp only [oe5_5, gI_int, gB_bool, gS_str, gL_sl, gP_ptr, Option.bind_some, cond_true, cond_false, i_quo, exitR_bool, exitR_int, exitR_ints, exitR_ii, exitR_ib, reduceIte]
      · simp only [oe6_5, oe6_6, gI_int, gB_bool, gS_str, gL_sl, gP_ptr, Option.bind_some, cond_true, cond_false, i_rem, exitR_bool, exitR_int, exitR_ints, exitR_ii, exitR_ib, Int.reduceEq, reduceIte]
      · by_cases hm : isg w b = BitVec.allOnes 64
        · rw [decide_eq_true hm]
          simp only [oe7_5, oe7_6, oe7_7, gI_int, gB_bool, gS_str, gL_sl, gP_ptr, Option.bind_some, cond_true, cond_false, i_neg, exitR_bool, exitR_int, exitR_ints, exitR_ii, exitR_ib, Int.reduceEq, reduceIte, hm, and_self]
        · rw [decide_eq_false hm]
          simp only [oe7_5, oe7_6, oe7_7, gI_int, gB_bool, gS_str, gL_sl, gP_ptr, Option.bind_some, cond_true, cond_false, exitR_bool, exitR_int, exitR_ints, exitR_ii, exitR_ib, Int.reduceEq, reduceIte, k1 (.inl rfl), hm, false_and]
      · rw [k1 (.inr rfl)]
        by_cases hm : isg w b = BitVec.allOnes 64
        · rw [decide_eq_true hm]
          simp only [oe8_5, oe8_6, oe8_7, gI_int, gB_bool, gS_str, gL_sl, gP_ptr, Option.bind_some, cond_true, cond_false, exitR_bool, exitR_int, exitR_ints, exitR_ii, exitR_ib, Int.reduceEq, reduceIte, hm, and_false]
        · rw [decide_eq_false hm]
          simp only [oe8_5, oe8_6, oe8_7, gI_int, gB_bool, gS_str, gL_sl, gP_ptr, Option.bind_some, cond_true, cond_false, exitR_bool, exitR_int, exitR_ints, exitR_ii, exitR_ib, Int.reduceEq, reduceIte, hm, and_false]
    rw [e0]
    have hn : ¬ ((op = 5 ∨ op = 7) ∧ b = 0#64) := fun h => h0 h.2
    rw [if_neg hn, if_neg h0]
    cases iEq op 5 <;> cases iEq op 7 <;> simp only [cond_true, cond_false] <;> exact k0
end Go.Proofs.YtiadfnedbbkojaaDoor.Kb
namespace Go.Proofs.YtiadfnedbbkojaaDoor.Kb
open Go Go.Proofs Go.Proofs.YtiadfnedbbkojaaDoor.X Go.Proofs.YtiadfnedbbkojaaDoor.Bv
set_option linter.unusedSimpArgs false
theorem U_nat (x : BitVec 64) : U x = (x.toNat : Int) := rfl
theorem U_n0 (x : BitVec 64) : iLt (U x) 0 = false := iLt_false (U_nonneg x)
theorem iMin_nat (a b : Nat) : iMin (a : Int) b = ((min a b : Nat) : Int) := by
  unfold iMin
  by_cases h : (b : Int) < a
  · rw [decide_eq_true h, cond_true]
    congr 1
    omega
  · rw [decide_eq_false h, cond_false]
    congr 1
    omega
theorem iEqB (x y : BitVec 64) : iEq (U x) (U y) = decide (x = y) := by
  rw [i_eq]
  exact Bool.eq_iff_iff.2 (by rw [beq_iff_eq, decide_eq_true_iff])
theorem beqB (x y : BitVec 64) : (x == y) = decide (x = y) := Bool.eq_iff_iff.2 (by rw [beq_iff_eq, decide_eq_true_iff])
def shi (op : Int) (w : Nat) (a b : BitVec 64) : BitVec 64 :=
  if op = 14 then (isg w a).sshiftRight (min b.toNat (w - 1)) else if w ≤ b.toNat then 0#64 else if op = 12 then a <<< b.toNat else a >>> b.toNat
theorem shift (n : Nat) (h : AH) (op : Int) (w : Nat) (ho : op = 12 ∨ op = 13 ∨ op = 14) (h1 : 1 ≤ w) (hw : w ≤ 64) (a b : BitVec 64) : runS Tryd.prog (n + 2) 59 [.int .i64 op, .int .i64 w, .int .u64 (U a), .int .u64 (U b)] h = some (.int .u64 (U (shi op w a b)), h) := by
  refine t59_ok ?_
  have e1 : iConv .u64 (iSub .i64 (w : Int) 1) = ((w - 1 : Nat) : Int) := by
    rw [iSub_i64 (by omega) (by omega), U_small (by omega) (by omega)]
    omega
  have e2 : iLe (iConv .u64 (w : Int)) (U b) = decide (w ≤ b.toNat) := by
    rw [U_small (by omega) (by omega), U_nat]
    unfold iLe
    exact decide_eq_decide.2 (by omega)
  have e3 : ∀ m : Nat, iLt (m : Int) 0 = false := fun m => iLt_false (Int.natCast_nonneg m)
  rw [t59, e1, e2]
  unfold shi
  rcases ho with rfl | rfl | rfl
  · by_cases hb : w ≤ b.toNat
    · simp only [oe12_14, decide_eq_true hb, if_pos hb, low_loc h, setLow_low, setLow_next, setLow_set, setLow_loc, setLow_self, hNew_loc, loc_next, loc_low, Nat.beq_refl, add_lit, List.nil_append, List.cons_append, List.length_cons, List.length_nil, Nat.zero_add, Nat.add_zero, Nat.reduceAdd, gI_int, gB_bool, gS_str, gL_sl, gP_ptr, Option.bind_some, cond_true, cond_false, exitR_bool, exitR_int, exitR_ints, exitR_ii, exitR_ib, Int.reduceEq, reduceIte]
      rfl
    · simp only [oe12_14, oe12_12, decide_eq_false hb, if_neg hb, low_loc h, setLow_low, setLow_next, setLow_set, setLow_loc, setLow_self, hNew_loc, loc_next, loc_low, Nat.beq_refl, add_lit, List.nil_append, List.cons_append, List.length_cons, List.length_nil, Nat.zero_add, Nat.add_zero, Nat.reduceAdd, gI_int, gB_bool, gS_str, gL_sl, gP_ptr, Option.bind_some, cond_true, cond_false, exitR_bool, exitR_int, exitR_ints, exitR_ii, exitR_ib, Int.reduceEq, reduceIte, U_n0, i_shl _ _ (U_nonneg b)]
      rfl
  · by_cases hb : w ≤ b.toNat
    · simp only [oe13_14, decide_eq_true hb, if_pos hb, low_loc h, setLow_low, setLow_next, setLow_set, setLow_loc, setLow_self, hNew_loc, loc_next, loc_low, Nat.beq_refl, add_lit, List.nil_append, List.cons_append, List.length_cons, List.length_nil, Nat.zero_add, Nat.add_zero, Nat.reduceAdd, gI_int, gB_bool, gS_str, gL_sl, gP_ptr, Option.bind_some, cond_true, cond_false, exitR_bool, exitR_int, exitR_ints, exitR_ii, exitR_ib, Int.reduceEq, reduceIte]
      rfl
    · simp only [oe13_14, oe13_12, decide_eq_false hb, if_neg hb, low_loc h, setLow_low, setLow_next, setLow_set, setLow_loc, setLow_self, hNew_loc, loc_next, loc_low, Nat.beq_refl, add_lit, List.nil_append, List.cons_append, List.length_cons, List.length_nil, Nat.zero_add, Nat.add_zero, Nat.reduceAdd, gI_int, gB_bool, gS_str, gL_sl, gP_ptr, Option.bind_some, cond_true, cond_false, exitR_bool, exitR_int, exitR_ints, exitR_ii, exitR_ib, Int.reduceEq, reduceIte, U_n0, i_shr _ _ (U_nonneg b)]
      rfl
  · simp only [oe14_14, low_loc h, setLow_low, setLow_next, setLow_set, setLow_loc, setLow_self, hNew_loc, loc_next, loc_low, Nat.beq_refl, add_lit, List.nil_append, List.cons_append, List.length_cons, List.length_nil, Nat.zero_add, Nat.add_zero, Nat.reduceAdd, gI_int, gB_bool, gS_str, gL_sl, gP_ptr, Option.bind_some, cond_true, cond_false, exitR_bool, exitR_int, exitR_ints, exitR_ii, exitR_ib, reduceIte, signed _ _ w hw, U_nat b, iMin_nat, e3]
    rw [i_sshr _ _ (by omega) (by omega), c_u64]
    rfl
def cmpB (op : Int) (w : Nat) (a b : BitVec 64) : Bool :=
  if op = 15 then a == b else if op = 16 then !(a == b) else if op = 17 then decide (a < b) else if op = 18 then decide (a ≤ b) else if op = 19 then (isg w a).slt (isg w b) else (isg w a).sle (isg w b)
theorem compare (n : Nat) (h : AH) (op : Int) (w : Nat) (ho : 15 ≤ op ∧ op ≤ 20) (hw : w ≤ 64) (a b : BitVec 64) : runS Tryd.prog (n + 2) 61 [.int .i64 op, .int .i64 w, .int .u64 (U a), .int .u64 (U b)] h = some (.int .u64 (U (cond (cmpB op w a b) 1#64 0#64)), h) := by
  refine t61_ok ?_
  rw [t61]
  unfold cmpB
  have hop : op = 15 ∨ op = 16 ∨ op = 17 ∨ op = 18 ∨ op = 19 ∨ op = 20 := by omega
  rcases hop with rfl | rfl | rfl | rfl | rfl | rfl
  · simp only [oe15_15, low_loc h, setLow_low, setLow_next, setLow_set, setLow_loc, setLow_self, hNew_loc, loc_next, loc_low, Nat.beq_refl, add_lit, List.nil_append, List.cons_append, List.length_cons, List.length_nil, Nat.zero_add, Nat.add_zero, Nat.reduceAdd, gI_int, gB_bool, gS_str, gL_sl, gP_ptr, Option.bind_some, cond_true, cond_false, i_and, i_or, i_xor, i_andNot, i_not, i_add, i_sub, i_mulS, i_neg, i_eq, i_ne', i_lt, i_le, one, exitR_bool, exitR_int, exitR_ints, exitR_ii, exitR_ib, reduceIte]
  · simp only [oe16_15, oe16_16, low_loc h, setLow_low, setLow_next, setLow_set, setLow_loc, setLow_self, hNew_loc, loc_next, loc_low, Nat.beq_refl, add_lit, List.nil_append, List.cons_append, List.length_cons, List.length_nil, Nat.zero_add, Nat.add_zero, Nat.reduceAdd, gI_int, gB_bool, gS_str, gL_sl, gP_ptr, Option.bind_some, cond_true, cond_false, i_and, i_or, i_xor, i_andNot, i_not, i_add, i_sub, i_mulS, i_neg, i_eq, i_ne', i_lt, i_le, one, exitR_bool, exitR_int, exitR_ints, exitR_ii, exitR_ib, Int.reduceEq, reduceIte]
  · simp only [oe17_15, oe17_16, oe17_17, low_loc h, setLow_low, setLow_next, setLow_set, setLow_loc, setLow_self, hNew_loc, loc_next, loc_low, Nat.beq_refl, add_lit, List.nil_append, List.cons_append, List.length_cons, List.length_nil, Nat.zero_add, Nat.add_zero, Nat.reduceAdd, gI_int, gB_bool, gS_str, gL_sl, gP_ptr, Option.bind_some, cond_true, cond_false, i_and, i_or, i_xor, i_andNot, i_not, i_add, i_sub, i_mulS, i_neg, i_eq, i_ne', i_lt, i_le, one, exitR_bool, exitR_int, exitR_ints, exitR_ii, exitR_ib, Int.reduceEq, reduceIte]
  · simp only [oe18_15, oe18_16, oe18_17, oe18_18, low_loc h, setLow_low, setLow_next, setLow_set, setLow_loc, setLow_self, hNew_loc, loc_next, loc_low, Nat.beq_refl, add_lit, List.nil_append, List.cons_append, List.length_cons, List.length_nil, Nat.zero_add, Nat.add_zero, Nat.reduceAdd, gI_int, gB_bool, gS_str, gL_sl, gP_ptr, Option.bind_some, cond_true, cond_false, i_and, i_or, i_xor, i_andNot, i_not, i_add, i_sub, i_mulS, i_neg, i_eq, i_ne', i_lt, i_le, one, exitR_bool, exitR_int, exitR_ints, exitR_ii, exitR_ib, Int.reduceEq, reduceIte]
  · simp only [oe19_15, oe19_16, oe19_17, oe19_18, oe19_19, low_loc h, setLow_low, setLow_next, setLow_set, setLow_loc, setLow_self, hNew_loc, loc_next, loc_low, Nat.beq_refl, add_lit, List.nil_append, List.cons_append, List.length_cons, List.length_nil, Nat.zero_add, Nat.add_zero, Nat.reduceAdd, gI_int, gB_bool, gS_str, gL_sl, gP_ptr, Option.bind_some, cond_true, cond_false, signed _ _ w hw, i_slt, one, exitR_bool, exitR_int, exitR_ints, exitR_ii, exitR_ib, Int.reduceEq, reduceIte]
  · simp only [oe20_15, oe20_16, oe20_17, oe20_18, oe20_19, low_loc h, setLow_low, setLow_next, setLow_set, setLow_loc, setLow_self, hNew_loc, loc_next, loc_low, Nat.beq_refl, add_lit, List.nil_append, List.cons_append, List.length_cons, List.length_nil, Nat.zero_add, Nat.add_zero, Nat.reduceAdd, gI_int, gB_bool, gS_str, gL_sl, gP_ptr, Option.bind_some, cond_true, cond_false, signed _ _ w hw, i_sle, one, exitR_bool, exitR_int, exitR_ints, exitR_ii, exitR_ib, Int.reduceEq, reduceIte]
def dvq (w : Nat) (a b : BitVec 64) : BitVec 64 := if rsg w b = 0#64 then M w else if rsg w b = BitVec.allOnes 64 then (0#64 - a) &&& M w else ((rsg w a).sdiv (rsg w b)) &&& M w
def dvr (w : Nat) (a b : BitVec 64) : BitVec 64 := if rsg w b = 0#64 then a else if rsg w b = BitVec.allOnes 64 then 0#64 else ((rsg w a).srem (rsg w b)) &&& M w
theorem iEqS (x y : BitVec 64) : iEq (S x) (S y) = decide (x = y) := by
  rw [i_seq, beqB]
theorem rdivide (n : Nat) (h : AH) (w : Nat) (h1 : 1 ≤ w) (hw : w ≤ 64) (a b : BitVec 64) : runS Tryd.prog (n + 68) 52 [.int .i64 w, .int .u64 (U a), .int .u64 (U b)] h =
    some (.tuple #[.int .u64 (U (dvq w a b)), .int .u64 (U (dvr w a b))], h) := by
  refine t52_ok ?_
  rw [t52]
  simp only [low_loc h, setLow_low, setLow_next, setLow_set, setLow_loc, setLow_self, hNew_loc, loc_next, loc_low, Nat.beq_refl, add_lit, List.nil_append, List.cons_append, List.length_cons, List.length_nil, Nat.zero_add, Nat.add_zero, Nat.reduceAdd, rsigned _ _ w h1 hw, gI_int, gB_bool, gS_str, gL_sl, gP_ptr, Option.bind_some, cond_true, cond_false]
  have e0 : iEq (S (rsg w b)) 0 = decide (rsg w b = 0#64) := iEqS _ 0#64
  have e1 : iEq (S (rsg w b)) (-1) = decide (rsg w b = BitVec.allOnes 64) := by
    rw [← S_m1]
    exact iEqS _ _
  rw [e0, e1]
  unfold dvq dvr
  have hm : ∀ g : AH, runS Tryd.prog (n + 67) 14 [.int .i64 (w : Int)] g = some (.int .u64 (U (M w)), g) := fun g => rmask (n + 1) g (w : Int) (by omega) (by omega)
  by_cases h0 : rsg w b = 0#64
  · simp only [decide_eq_true h0, if_pos h0, gI_int, gB_bool, gS_str, gL_sl, gP_ptr, Option.bind_some, cond_true, cond_false, hm, exitR_bool, exitR_int, exitR_ints, exitR_ii, exitR_ib]
  · by_cases h2 : rsg w b = BitVec.allOnes 64
    · simp only [decide_eq_false h0, decide_eq_true h2, if_neg h0, if_pos h2, gI_int, gB_bool, gS_str, gL_sl, gP_ptr, Option.bind_some, cond_true, cond_false, hm, U0, i_sub, i_and, exitR_bool, exitR_int, exitR_ints, exitR_ii, exitR_ib]
    · simp only [decide_eq_false h0, decide_eq_false h2, if_neg h0, if_neg h2, gI_int, gB_bool, gS_str, gL_sl, gP_ptr, Option.bind_some, cond_true, cond_false, hm, i_squo, i_srem, c_u64, i_and, low_loc h, setLow_low, setLow_next, setLow_set, setLow_loc, setLow_self, hNew_loc, loc_next, loc_low, Nat.beq_refl, add_lit, List.nil_append, List.cons_append, List.length_cons, List.length_nil, Nat.zero_add, Nat.add_zero, Nat.reduceAdd, exitR_bool, exitR_int, exitR_ints, exitR_ii, exitR_ib]
end Go.Proofs.YtiadfnedbbkojaaDoor.Kb
namespace Go.Proofs.YtiadfnedbbkojaaDoor.Kb
open Go Go.Proofs Go.Proofs.YtiadfnedbbkojaaDoor.X Go.Proofs.YtiadfnedbbkojaaDoor.Bv
set_option linter.unusedSimpArgs false
set_option linter.unusedVariables false
set_option linter.unusedSectionVars false
/-- Words, as a row. -/
def wds (A : List (BitVec 64)) : List Int := A.map U
/-- Two operands. -/
def vl2 (op : Int) (w w0 : Nat) (a b : BitVec 64) : BitVec 64 :=
  if op = 2 then a + b else if op = 3 then a - b else if op = 4 then a * b else if op ≤ 8 then dvi op w a b else if op = 9 then a &&& b else if op = 10 then a ||| b else if op = 11 then a ^^^ b
  else if op ≤ 14 then shi op w a b else cond (cmpB op w0 a b) 1#64 0#64
section
variable (n : Nat) (h : AH) (H : WF h) (w w0 : Nat) (hw1 : 1 ≤ w) (hw : w ≤ 64) (hw0 : w0 ≤ 64) (wa : Option Addr) (wn wc : Nat) (W : List Int) (SW : Sl h wa (W.map fun n => .int .i64 n)) (hwn : wn = W.length)
  (na : Option Addr) (nn nc : Nat) (A : List (BitVec 64)) (SA : Sl h na ((wds A).map fun n => .int .u64 n)) (hnn : nn = (wds A).length) (num : BitVec 64)
 include H hw1 hw hw0 SW hwn SA hnn
theorem value0 : runS Tryd.prog (n + 1) 24 [.int .i64 1, .int .i64 w, .slice wa wn wc, .slice na nn nc, .int .u64 (U num)] h = some (.int .u64 (U num), h) := by
  refine t24_ok ?_
  rw [t24]
  simp only [oe1_1, oe1_2, oe1_3, oe1_4, oe1_5, oe1_6, oe1_7, oe1_8, oe1_9, oe1_10, oe1_11, oe1_12, oe1_13, oe1_14, oe1_15, oe1_16, oe1_17, oe1_18, oe1_19, oe1_20, oe1_21, oe1_22, oe1_23, oe1_24, ol2_1, ol5_1, ol12_1, ol15_1, og1_8, og1_14, og1_20, low_loc h, setLow_low, setLow_next, setLow_set, setLow_loc, setLow_self, hNew_loc, loc_next, loc_low, Nat.beq_refl, add_lit, List.nil_append, List.cons_append, List.length_cons, List.length_nil, Nat.zero_add, Nat.add_zero, Nat.reduceAdd, gI_int, gB_bool, gS_str, gL_sl, gP_ptr, Option.bind_some, cond_true, cond_false, exitR_bool, exitR_int, exitR_ints, exitR_ii, exitR_ib]
theorem value2 (op : Int) (ho : 2 ≤ op ∧ op ≤ 20) (a b : BitVec 64) (hA : A = [a, b]) (h0 : W[0]? = some (w0 : Int)) (hb : 5 ≤ op → op ≤ 8 → b ≠ 0#64 → isg w b ≠ 0#64) :
    runS Tryd.prog (n + 3) 24 [.int .i64 op, .int .i64 w, .slice wa wn wc, .slice na nn nc, .int .u64 (U num)] h = some (.int .u64 (U (vl2 op w w0 a b)), h) := by
  subst hA
  have SA' : Sl (loc h []) na ((wds [a, b]).map fun n => .int .u64 n) := SA.loc H []
  have SW' : Sl (loc h []) wa (W.map fun n => .int .i64 n) := SW.loc H []
  have r0 : ∀ {ρ : Type} (K : Int → Option ρ), _ := fun {ρ} K => row0 (K := K) SA' hnn (x := U a) rfl
  have r1 : ∀ {ρ : Type} (K : Int → Option ρ), _ := fun {ρ} K => row1 (K := K) SA' hnn (x := U b) rfl
  have s0 : ∀ {ρ : Type} (K : Int → Option ρ), _ := fun {ρ} K => row0 (K := K) SW' hwn (x := (w0 : Int)) h0
  refine t24_ok ?_
  rw [t24, low_loc]
  unfold vl2
  have hop : op = 2 ∨ op = 3 ∨ op = 4 ∨ (5 ≤ op ∧ op ≤ 8) ∨ op = 9 ∨ op = 10 ∨ op = 11 ∨ (12 ≤ op ∧ op ≤ 14) ∨ (15 ≤ op ∧ op ≤ 20) := by omega
  rcases hop with rfl | rfl | rfl | ho | rfl | rfl | rfl | ho | ho
  · simp only [oe2_1, oe2_2, oe2_3, oe2_4, oe2_5, oe2_6, oe2_7, oe2_8, oe2_9, oe2_10, oe2_11, oe2_12, oe2_13, oe2_14, oe2_15, oe2_16, oe2_17, oe2_18, oe2_19, oe2_20, oe2_21, oe2_22, oe2_23, oe2_24, ol2_2, ol5_2, ol12_2, ol15_2, og2_8, og2_14, og2_20, gI_int, gB_bool, gS_str, gL_sl, gP_ptr, Option.bind_some, cond_true, cond_false, r0, r1, i_add, exitR_bool, exitR_int, exitR_ints, exitR_ii, exitR_ib, reduceIte]
  · simp only [oe3_1, oe3_2, oe3_3, oe3_4, oe3_5, oe3_6, oe3_7, oe3_8, oe3_9, oe3_10, oe3_11, oe3_12, oe3_13, oe3_14, oe3_15, oe3_16, oe3_17, oe3_18, oe3_19, oe3_20, oe3_21, oe3_22, oe3_23, oe3_24, ol2_3, ol5_3, ol12_3, ol15_3, og3_8, og3_14, og3_20, gI_int, gB_bool, gS_str, gL_sl, gP_ptr, Option.bind_some, cond_true, cond_false, r0, r1, i_sub, exitR_bool, exitR_int, exitR_ints, exitR_ii, exitR_ib, Int.reduceEq, reduceIte]
  · simp only [oe4_1, oe4_2, oe4_3, oe4_4, oe4_5, oe4_6, oe4_7, oe4_8, oe4_9, oe4_10, oe4_11, oe4_12, oe4_13, oe4_14, oe4_15, oe4_16, oe4_17, oe4_18, oe4_19, oe4_20, oe4_21, oe4_22, oe4_23, oe4_24, ol2_4, ol5_4, ol12_4, ol15_4, og4_8, og4_14, og4_20, gI_int, gB_bool, gS_str, gL_sl, gP_ptr, Option.bind_some, cond_true, cond_false, r0, r1, i_mulS, exitR_bool, exitR_int, exitR_ints, exitR_ii, exitR_ib, Int.reduceEq, reduceIte]
  · have key : c24_0 (n + 2) h op w wa wn wc na nn nc op true (loc h []) = some (.int .u64 (U (dvi op w a b)), h) := by
      refine c24_0_ok ?_
      rw [c24_0_eq]
      simp only [gI_int, gB_bool, gS_str, gL_sl, gP_ptr, Option.bind_some, cond_true, cond_false, r0, r1, divide _ _ op w ho hw a b (hb ho.1 ho.2), exitR_bool, exitR_int, exitR_ints, exitR_ii, exitR_ib]
    have : op = 5 ∨ op = 6 ∨ op = 7 ∨ op = 8 := by omega
    rcases this with rfl | rfl | rfl | rfl
    · simp only [oe5_1, oe5_2, oe5_3, oe5_4, oe5_5, oe5_6, oe5_7, oe5_8, oe5_9, oe5_10, oe5_11, oe5_12, oe5_13, oe5_14, oe5_15, oe5_16, oe5_17, oe5_18, oe5_19, oe5_20, oe5_21, oe5_22, oe5_23, oe5_24, ol2_5, ol5_5, ol12_5, ol15_5, og5_8, og5_14, og5_20, gI_int, gB_bool, gS_str, gL_sl, gP_ptr, Option.bind_some, cond_true, cond_false, key, Int.reduceEq, Int.reduceLE, reduceIte]
    · simp only [oe6_1, oe6_2, oe6_3, oe6_4, oe6_5, oe6_6, oe6_7, oe6_8, oe6_9, oe6_10, oe6_11, oe6_12, oe6_13, oe6_14, oe6_15, oe6_16, oe6_17, oe6_18, oe6_19, oe6_20, oe6_21, oe6_22, oe6_23, oe6_24, ol2_6, ol5_6, ol12_6, ol15_6, og6_8, og6_14, og6_20, gI_int, gB_bool, gS_str, gL_sl, gP_ptr, Option.bind_some, cond_true, cond_false, key, Int.reduceEq, Int.reduceLE, reduceIte]
    · simp only [oe7_1, oe7_2, oe7_3, oe7_4, oe7_5, oe7_6, oe7_7, oe7_8, oe7_9, oe7_10, oe7_11, oe7_12, oe7_13, oe7_14, oe7_15, oe7_16, oe7_17, oe7_18, oe7_19, oe7_20, oe7_21, oe7_22, oe7_23, oe7_24, ol2_7, ol5_7, ol12_7, ol15_7, og7_8, og7_14, og7_20, gI_int, gB_bool, gS_str, gL_sl, gP_ptr, Option.bind_some, cond_true, cond_false, key, Int.reduceEq, Int.reduceLE, reduceIte]
    · simp only [oe8_1, oe8_2, oe8_3, oe8_4, oe8_5, oe8_6, oe8_7, oe8_8, oe8_9, oe8_10, oe8_11, oe8_12, oe8_13, oe8_14, oe8_15, oe8_16, oe8_17, oe8_18, oe8_19, oe8_20, oe8_21, oe8_22, oe8_23, oe8_24, ol2_8, ol5_8, ol12_8, ol15_8, og8_8, og8_14, og8_20, gI_int, gB_bool, gS_str, gL_sl, gP_ptr, Option.bind_some, cond_true, cond_false, key, Int.reduceEq, Int.reduceLE, reduceIte]
  · simp only [oe9_1, oe9_2, oe9_3, oe9_4, oe9_5, oe9_6, oe9_7, oe9_8, oe9_9, oe9_10, oe9_11, oe9_12, oe9_13, oe9_14, oe9_15, oe9_16, oe9_17, oe9_18, oe9_19, oe9_20, oe9_21, oe9_22, oe9_23, oe9_24, ol2_9, ol5_9, ol12_9, ol15_9, og9_8, og9_14, og9_20, gI_int, gB_bool, gS_str, gL_sl, gP_ptr, Option.bind_some, cond_true, cond_false]
    refine c24_0_ok ?_
    rw [c24_0_eq]
    simp only [oe9_1, oe9_2, oe9_3, oe9_4, oe9_5, oe9_6, oe9_7, oe9_8, oe9_9, oe9_10, oe9_11, oe9_12, oe9_13, oe9_14, oe9_15, oe9_16, oe9_17, oe9_18, oe9_19, oe9_20, oe9_21, oe9_22, oe9_23, oe9_24, ol2_9, ol5_9, ol12_9, ol15_9, og9_8, og9_14, og9_20, gI_int, gB_bool, gS_str, gL_sl, gP_ptr, Option.bind_some, cond_true, cond_false, r0, r1, i_and, exitR_bool, exitR_int, exitR_ints, exitR_ii, exitR_ib, Int.reduceEq, Int.reduceLE, reduceIte]
  · simp only [oe10_1, oe10_2, oe10_3, oe10_4, oe10_5, oe10_6, oe10_7, oe10_8, oe10_9, oe10_10, oe10_11, oe10_12, oe10_13, oe10_14, oe10_15, oe10_16, oe10_17, oe10_18, oe10_19, oe10_20, oe10_21, oe10_22, oe10_23, oe10_24, ol2_10, ol5_10, ol12_10, ol15_10, og10_8, og10_14, og10_20, gI_int, gB_bool, gS_str, gL_sl, gP_ptr, Option.bind_some, cond_true, cond_false]
    refine c24_0_ok ?_
    rw [c24_0_eq]
    simp only [oe10_1, oe10_2, oe10_3, oe10_4, oe10_5, oe10_6, oe10_7, oe10_8, oe10_9, oe10_10, oe10_11, oe10_12, oe10_13, oe10_14, oe10_15, oe10_16, oe10_17, oe10_18, oe10_19, oe10_20, oe10_21, oe10_22, oe10_23, oe10_24, ol2_10, ol5_10, ol12_10, ol15_10, og10_8, og10_14, og10_20, gI_int, gB_bool, gS_str, gL_sl, gP_ptr, Option.bind_some, cond_true, cond_false, r0, r1, i_or, exitR_bool, exitR_int, exitR_ints, exitR_ii, exitR_ib, Int.reduceEq, Int.reduceLE, reduceIte]
  · simp only [oe11_1, oe11_2, oe11_3, oe11_4, oe11_5, oe11_6, oe11_7, oe11_8, oe11_9, oe11_10, oe11_11, oe11_12, oe11_13, oe11_14, oe11_15, oe11_16, oe11_17, oe11_18, oe11_19, oe11_20, oe11_21, oe11_22, oe11_23, oe11_24, ol2_11, ol5_11, ol12_11, ol15_11, og11_8, og11_14, og11_20, gI_int, gB_bool, gS_str, gL_sl, gP_ptr, Option.bind_some, cond_true, cond_false]
    refine c24_0_ok ?_
    rw [c24_0_eq]
    simp only [oe11_1, oe11_2, oe11_3, oe11_4, oe11_5, oe11_6, oe11_7, oe11_8, oe11_9, oe11_10, oe11_11, oe11_12, oe11_13, oe11_14, oe11_15, oe11_16, oe11_17, oe11_18, oe11_19, oe11_20, oe11_21, oe11_22, oe11_23, oe11_24, ol2_11, ol5_11, ol12_11, ol15_11, og11_8, og11_14, og11_20, gI_int, gB_bool, gS_str, gL_sl, gP_ptr, Option.bind_some, cond_true, cond_false, r0, r1, i_xor, exitR_bool, exitR_int, exitR_ints, exitR_ii, exitR_ib, Int.reduceEq, Int.reduceLE, reduceIte]
  · have key : c24_1 (n + 2) h op w wa wn wc na nn nc op true (loc h []) = some (.int .u64 (U (shi op w a b)), h) := by
      refine c24_1_ok ?_
      rw [c24_1_eq]
      simp only [gI_int, gB_bool, gS_str, gL_sl, gP_ptr, Option.bind_some, cond_true, cond_false, r0, r1, shift _ _ op w (by omega) hw1 hw a b, exitR_bool, exitR_int, exitR_ints, exitR_ii, exitR_ib]
    have : op = 12 ∨ op = 13 ∨ op = 14 := by omega
    rcases this with rfl | rfl | rfl
    · simp only [oe12_1, oe12_2, oe12_3, oe12_4, oe12_5, oe12_6, oe12_7, oe12_8, oe12_9, oe12_10, oe12_11, oe12_12, oe12_13, oe12_14, oe12_15, oe12_16, oe12_17, oe12_18, oe12_19, oe12_20, oe12_21, oe12_22, oe12_23, oe12_24, ol2_12, ol5_12, ol12_12, ol15_12, og12_8, og12_14, og12_20, gI_int, gB_bool, gS_str, gL_sl, gP_ptr, Option.bind_some, cond_true, cond_false]
      refine c24_0_ok ?_
      rw [c24_0_eq]
      simp only [oe12_1, oe12_2, oe12_3, oe12_4, oe12_5, oe12_6, oe12_7, oe12_8, oe12_9, oe12_10, oe12_11, oe12_12, oe12_13, oe12_14, oe12_15, oe12_16, oe12_17, oe12_18, oe12_19, oe12_20, oe12_21, oe12_22, oe12_23, oe12_24, ol2_12, ol5_12, ol12_12, ol15_12, og12_8, og12_14, og12_20, gI_int, gB_bool, gS_str, gL_sl, gP_ptr, Option.bind_some, cond_true, cond_false, key, Int.reduceEq, Int.reduceLE, reduceIte]
    · simp only [oe13_1, oe13_2, oe13_3, oe13_4, oe13_5, oe13_6, oe13_7, oe13_8, oe13_9, oe13_10, oe13_11, oe13_12, oe13_13, oe13_14, oe13_15, oe13_16, oe13_17, oe13_18, oe13_19, oe13_20, oe13_21, oe13_22, oe13_23, oe13_24, ol2_13, ol5_13, ol12_13, ol15_13, og13_8, og13_14, og13_20, gI_int, gB_bool, gS_str, gL_sl, gP_ptr, Option.bind_some, cond_true, cond_false]
      refine c24_0_ok ?_
      rw [c24_0_eq]
      simp only [oe13_1, oe13_2, oe13_3, oe13_4, oe13_5, oe13_6, oe13_7, oe13_8, oe13_9, oe13_10, oe13_11, oe13_12, oe13_13, oe13_14, oe13_15, oe13_16, oe13_17, oe13_18, oe13_19, oe13_20, oe13_21, oe13_22, oe13_23, oe13_24, ol2_13, ol5_13, ol12_13, ol15_13, og13_8, og13_14, og13_20, gI_int, gB_bool, gS_str, gL_sl, gP_ptr, Option.bind_some, cond_true, cond_false, key, Int.reduceEq, Int.reduceLE, reduceIte]
    · simp only [oe14_1, oe14_2, oe14_3, oe14_4, oe14_5, oe14_6, oe14_7, oe14_8, oe14_9, oe14_10, oe14_11, oe14_12, oe14_13, oe14_14, oe14_15, oe14_16, oe14_17, oe14_18, oe14_19, oe14_20, oe14_21, oe14_22, oe14_23, oe14_24, ol2_14, ol5_14, ol12_14, ol15_14, og14_8, og14_14, og14_20, gI_int, gB_bool, gS_str, gL_sl, gP_ptr, Option.bind_some, cond_true, cond_false]
      refine c24_0_ok ?_
      rw [c24_0_eq]
      simp only [oe14_1, oe14_2, oe14_3, oe14_4, oe14_5, oe14_6, oe14_7, oe14_8, oe14_9, oe14_10, oe14_11, oe14_12, oe14_13, oe14_14, oe14_15, oe14_16, oe14_17, oe14_18, oe14_19, oe14_20, oe14_21, oe14_22, oe14_23, oe14_24, ol2_14, ol5_14, ol12_14, ol15_14, og14_8, og14_14, og14_20, gI_int, gB_bool, gS_str, gL_sl, gP_ptr, Option.bind_some, cond_true, cond_false, key, Int.reduceEq, Int.reduceLE, reduceIte]
  · have key : c24_3 (n + 2) h op wa wn wc na nn nc (loc h []) = some (.int .u64 (U (cond (cmpB op w0 a b) 1#64 0#64)), h) := by
      refine c24_3_ok ?_
      rw [c24_3_eq]
      simp only [gI_int, gB_bool, gS_str, gL_sl, gP_ptr, Option.bind_some, cond_true, cond_false, r0, r1, s0, compare _ _ op w0 ho hw0 a b, exitR_bool, exitR_int, exitR_ints, exitR_ii, exitR_ib]
    have : op = 15 ∨ op = 16 ∨ op = 17 ∨ op = 18 ∨ op = 19 ∨ op = 20 := by omega
    rcases this with rfl | rfl | rfl | rfl | rfl | rfl
    all_goals
      simp only [oe15_1, oe15_2, oe15_3, oe15_4, oe15_5, oe15_6, oe15_7, oe15_8, oe15_9, oe15_10, oe15_11, oe15_12, oe15_13, oe15_14, oe15_15, oe15_16, oe15_17, oe15_18, oe15_19, oe15_20, oe15_21, oe15_22, oe15_23, oe15_24, ol2_15, ol5_15, ol12_15, ol15_15, og15_8, og15_14, og15_20, oe16_1, oe16_2, oe16_3, oe16_4, oe16_5, oe16_6, oe16_7, oe16_8, oe16_9, oe16_10, oe16_11, oe16_12, oe16_13, oe16_14, oe16_15, oe16_16, oe16_17, oe16_18, oe16_19, oe16_20, oe16_21, oe16_22, oe16_23, oe16_24, ol2_16, ol5_16, ol12_16, ol15_16, og16_8, og16_14, og16_20, oe17_1, oe17_2, oe17_3, oe17_4, oe17_5, oe17_6, oe17_7, oe17_8, oe17_9, oe17_10, oe17_11, oe17_12, oe17_13, oe17_14, oe17_15, oe17_16, oe17_17, oe17_18, oe17_19, oe17_20, oe17_21, oe17_22, oe17_23, oe17_24, ol2_17, ol5_17, ol12_17, ol15_17, og17_8, og17_14, og17_20, oe18_1, oe18_2, oe18_3, oe18_4, oe18_5, oe18_6, oe18_7, oe18_8, oe18_9, oe18_10, oe18_11, oe18_12, oe18_13, oe18_14, oe18_15, oe18_16, oe18_17, oe18_18, oe18_19, oe18_20, oe18_21, oe18_22, oe18_23, oe18_24, ol2_18, ol5_18, ol12_18, ol15_18, og18_8, og18_14, og18_20, oe19_1, oe19_2, oe19_3, oe19_4, oe19_5, oe19_6, oe19_7, oe19_8, oe19_9, oe19_10, oe19_11, oe19_12, oe19_13, oe19_14, oe19_15, oe19_16, oe19_17, oe19_18, oe19_19, oe19_20, oe19_21, oe19_22, oe19_23, oe19_24, ol2_19, ol5_19, ol12_19, ol15_19, og19_8, og19_14, og19_20, oe20_1, oe20_2, oe20_3, oe20_4, oe20_5, oe20_6, oe20_7, oe20_8, oe20_9, oe20_10, oe20_11, oe20_12, oe20_13, oe20_14, oe20_15, oe20_16, oe20_17, oe20_18, oe20_19, oe20_20, oe20_21, oe20_22, oe20_23, oe20_24, ol2_20, ol5_20, ol12_20, ol15_20, og20_8, og20_14, og20_20, gI_int, gB_bool, gS_str, gL_sl, gP_ptr, Option.bind_some, cond_true, cond_false]
      refine c24_0_ok ?_
      rw [c24_0_eq]
      simp only [oe15_1, oe15_2, oe15_3, oe15_4, oe15_5, oe15_6, oe15_7, oe15_8, oe15_9, oe15_10, oe15_11, oe15_12, oe15_13, oe15_14, oe15_15, oe15_16, oe15_17, oe15_18, oe15_19, oe15_20, oe15_21, oe15_22, oe15_23, oe15_24, ol2_15, ol5_15, ol12_15, ol15_15, og15_8, og15_14, og15_20, oe16_1, oe16_2, oe16_3, oe16_4, oe16_5, oe16_6, oe16_7, oe16_8, oe16_9, oe16_10, oe16_11, oe16_12, oe16_13, oe16_14, oe16_15, oe16_16, oe16_17, oe16_18, oe16_19, oe16_20, oe16_21, oe16_22, oe16_23, oe16_24, ol2_16, ol5_16, ol12_16, ol15_16, og16_8, og16_14, og16_20, oe17_1, oe17_2, oe17_3, oe17_4, oe17_5, oe17_6, oe17_7, oe17_8, oe17_9, oe17_10, oe17_11, oe17_12, oe17_13, oe17_14, oe17_15, oe17_16, oe17_17, oe17_18, oe17_19, oe17_20, oe17_21, oe17_22, oe17_23, oe17_24, ol2_17, ol5_17, ol12_17, ol15_17, og17_8, og17_14, og17_20, oe18_1, oe18_2, oe18_3, oe18_4, oe18_5, oe18_6, oe18_7, oe18_8, oe18_9, oe18_10, oe18_11, oe18_12, oe18_13, oe18_14, oe18_15, oe18_16, oe18_17, oe18_18, oe18_19, oe18_20, oe18_21, oe18_22, oe18_23, oe18_24, ol2_18, ol5_18, ol12_18, ol15_18, og18_8, og18_14, og18_20, oe19_1, oe19_2, oe19_3, oe19_4, oe19_5, oe19_6, oe19_7, oe19_8, oe19_9, oe19_10, oe19_11, oe19_12, oe19_13, oe19_14, oe19_15, oe19_16, oe19_17, oe19_18, oe19_19, oe19_20, oe19_21, oe19_22, oe19_23, oe19_24, ol2_19, ol5_19, ol12_19, ol15_19, og19_8, og19_14, og19_20, oe20_1, oe20_2, oe20_3, oe20_4, oe20_5, oe20_6, oe20_7, oe20_8, oe20_9, oe20_10, oe20_11, oe20_12, oe20_13, oe20_14, oe20_15, oe20_16, oe20_17, oe20_18, oe20_19, oe20_20, oe20_21, oe20_22, oe20_23, oe20_24, ol2_20, ol5_20, ol12_20, ol15_20, og20_8, og20_14, og20_20, gI_int, gB_bool, gS_str, gL_sl, gP_ptr, Option.bind_some, cond_true, cond_false]
      refine c24_1_ok ?_
      rw [c24_1_eq]
      simp only [oe15_1, oe15_2, oe15_3, oe15_4, oe15_5, oe15_6, oe15_7, oe15_8, oe15_9, oe15_10, oe15_11, oe15_12, oe15_13, oe15_14, oe15_15, oe15_16, oe15_17, oe15_18, oe15_19, oe15_20, oe15_21, oe15_22, oe15_23, oe15_24, ol2_15, ol5_15, ol12_15, ol15_15, og15_8, og15_14, og15_20, oe16_1, oe16_2, oe16_3, oe16_4, oe16_5, oe16_6, oe16_7, oe16_8, oe16_9, oe16_10, oe16_11, oe16_12, oe16_13, oe16_14, oe16_15, oe16_16, oe16_17, oe16_18, oe16_19, oe16_20, oe16_21, oe16_22, oe16_23, oe16_24, ol2_16, ol5_16, ol12_16, ol15_16, og16_8, og16_14, og16_20, oe17_1, oe17_2, oe17_3, oe17_4, oe17_5, oe17_6, oe17_7, oe17_8, oe17_9, oe17_10, oe17_11, oe17_12, oe17_13, oe17_14, oe17_15, oe17_16, oe17_17, oe17_18, oe17_19, oe17_20, oe17_21, oe17_22, oe17_23, oe17_24, ol2_17, ol5_17, ol12_17, ol15_17, og17_8, og17_14, og17_20, oe18_1, oe18_2, oe18_3, oe18_4, oe18_5, oe18_6, oe18_7, oe18_8, oe18_9, oe18_10, oe18_11, oe18_12, oe18_13, oe18_14, oe18_15, oe18_16, oe18_17, oe18_18, oe18_19, oe18_20, oe18_21, oe18_22, oe18_23, oe18_24, ol2_18, ol5_18, ol12_18, ol15_18, og18_8, og18_14, og18_20, oe19_1, oe19_2, oe19_3, oe19_4, oe19_5, oe19_6, oe19_7, oe19_8, oe19_9, oe19_10, oe19_11, oe19_12, oe19_13, oe19_14, oe19_15, oe19_16, oe19_17, oe19_18, oe19_19, oe19_20, oe19_21, oe19_22, oe19_23, oe19_24, ol2_19, ol5_19, ol12_19, ol15_19, og19_8, og19_14, og19_20, oe20_1, oe20_2, oe20_3, oe20_4, oe20_5, oe20_6, oe20_7, oe20_8, oe20_9, oe20_10, oe20_11, oe20_12, oe20_13, oe20_14, oe20_15, oe20_16, oe20_17, oe20_18, oe20_19, oe20_20, oe20_21, oe20_22, oe20_23, oe20_24, ol2_20, ol5_20, ol12_20, ol15_20, og20_8, og20_14, og20_20, gI_int, gB_bool, gS_str, gL_sl, gP_ptr, Option.bind_some, cond_true, cond_false]
      refine c24_2_ok ?_
      rw [c24_2_eq]
      simp only [oe15_1, oe15_2, oe15_3, oe15_4, oe15_5, oe15_6, oe15_7, oe15_8, oe15_9, oe15_10, oe15_11, oe15_12, oe15_13, oe15_14, oe15_15, oe15_16, oe15_17, oe15_18, oe15_19, oe15_20, oe15_21, oe15_22, oe15_23, oe15_24, ol2_15, ol5_15, ol12_15, ol15_15, og15_8, og15_14, og15_20, oe16_1, oe16_2, oe16_3, oe16_4, oe16_5, oe16_6, oe16_7, oe16_8, oe16_9, oe16_10, oe16_11, oe16_12, oe16_13, oe16_14, oe16_15, oe16_16, oe16_17, oe16_18, oe16_19, oe16_20, oe16_21, oe16_22, oe16_23, oe16_24, ol2_16, ol5_16, ol12_16, ol15_16, og16_8, og16_14, og16_20, oe17_1, oe17_2, oe17_3, oe17_4, oe17_5, oe17_6, oe17_7, oe17_8, oe17_9, oe17_10, oe17_11, oe17_12, oe17_13, oe17_14, oe17_15, oe17_16, oe17_17, oe17_18, oe17_19, oe17_20, oe17_21, oe17_22, oe17_23, oe17_24, ol2_17, ol5_17, ol12_17, ol15_17, og17_8, og17_14, og17_20, oe18_1, oe18_2, oe18_3, oe18_4, oe18_5, oe18_6, oe18_7, oe18_8, oe18_9, oe18_10, oe18_11, oe18_12, oe18_13, oe18_14, oe18_15, oe18_16, oe18_17, oe18_18, oe18_19, oe18_20, oe18_21, oe18_22, oe18_23, oe18_24, ol2_18, ol5_18, ol12_18, ol15_18, og18_8, og18_14, og18_20, oe19_1, oe19_2, oe19_3, oe19_4, oe19_5, oe19_6, oe19_7, oe19_8, oe19_9, oe19_10, oe19_11, oe19_12, oe19_13, oe19_14, oe19_15, oe19_16, oe19_17, oe19_18, oe19_19, oe19_20, oe19_21, oe19_22, oe19_23, oe19_24, ol2_19, ol5_19, ol12_19, ol15_19, og19_8, og19_14, og19_20, oe20_1, oe20_2, oe20_3, oe20_4, oe20_5, oe20_6, oe20_7, oe20_8, oe20_9, oe20_10, oe20_11, oe20_12, oe20_13, oe20_14, oe20_15, oe20_16, oe20_17, oe20_18, oe20_19, oe20_20, oe20_21, oe20_22, oe20_23, oe20_24, ol2_20, ol5_20, ol12_20, ol15_20, og20_8, og20_14, og20_20, gI_int, gB_bool, gS_str, gL_sl, gP_ptr, Option.bind_some, cond_true, cond_false, key, Int.reduceEq, Int.reduceLE, reduceIte]
theorem value3 (a b c : BitVec 64) (hA : A = [a, b, c]) :
    runS Tryd.prog (n + 3) 24 [.int .i64 21, .int .i64 w, .slice wa wn wc, .slice na nn nc, .int .u64 (U num)] h = some (.int .u64 (U (if a = 1#64 then b else c)), h) := by
  subst hA
  have SA' : Sl (loc h []) na ((wds [a, b, c]).map fun n => .int .u64 n) := SA.loc H []
  have r0 : ∀ {ρ : Type} (K : Int → Option ρ), _ := fun {ρ} K => row0 (K := K) SA' hnn (x := U a) rfl
  have r1 : ∀ {ρ : Type} (K : Int → Option ρ), _ := fun {ρ} K => row1 (K := K) SA' hnn (x := U b) rfl
  have r2 : ∀ {ρ : Type} (K : Int → Option ρ), _ := fun {ρ} K => row2 (K := K) SA' hnn (x := U c) rfl
  have e1 : iEq (U a) 1 = decide (a = 1#64) := iEqB a 1#64
  refine t24_ok ?_
  rw [t24, low_loc]
  simp only [oe21_1, oe21_2, oe21_3, oe21_4, oe21_5, oe21_6, oe21_7, oe21_8, oe21_9, oe21_10, oe21_11, oe21_12, oe21_13, oe21_14, oe21_15, oe21_16, oe21_17, oe21_18, oe21_19, oe21_20, oe21_21, oe21_22, oe21_23, oe21_24, ol2_21, ol5_21, ol12_21, ol15_21, og21_8, og21_14, og21_20, gI_int, gB_bool, gS_str, gL_sl, gP_ptr, Option.bind_some, cond_true, cond_false]
  refine c24_0_ok ?_
  rw [c24_0_eq]
  simp only [oe21_1, oe21_2, oe21_3, oe21_4, oe21_5, oe21_6, oe21_7, oe21_8, oe21_9, oe21_10, oe21_11, oe21_12, oe21_13, oe21_14, oe21_15, oe21_16, oe21_17, oe21_18, oe21_19, oe21_20, oe21_21, oe21_22, oe21_23, oe21_24, ol2_21, ol5_21, ol12_21, ol15_21, og21_8, og21_14, og21_20, gI_int, gB_bool, gS_str, gL_sl, gP_ptr, Option.bind_some, cond_true, cond_false]
  refine c24_1_ok ?_
  rw [c24_1_eq]
  by_cases ha : a = 1#64
  · simp only [oe21_1, oe21_2, oe21_3, oe21_4, oe21_5, oe21_6, oe21_7, oe21_8, oe21_9, oe21_10, oe21_11, oe21_12, oe21_13, oe21_14, oe21_15, oe21_16, oe21_17, oe21_18, oe21_19, oe21_20, oe21_21, oe21_22, oe21_23, oe21_24, ol2_21, ol5_21, ol12_21, ol15_21, og21_8, og21_14, og21_20, gI_int, gB_bool, gS_str, gL_sl, gP_ptr, Option.bind_some, cond_true, cond_false, r0, r1, e1, decide_eq_true ha, if_pos ha, exitR_bool, exitR_int, exitR_ints, exitR_ii, exitR_ib]
  · simp only [oe21_1, oe21_2, oe21_3, oe21_4, oe21_5, oe21_6, oe21_7, oe21_8, oe21_9, oe21_10, oe21_11, oe21_12, oe21_13, oe21_14, oe21_15, oe21_16, oe21_17, oe21_18, oe21_19, oe21_20, oe21_21, oe21_22, oe21_23, oe21_24, ol2_21, ol5_21, ol12_21, ol15_21, og21_8, og21_14, og21_20, gI_int, gB_bool, gS_str, gL_sl, gP_ptr, Option.bind_some, cond_true, cond_false, r0, r2, e1, decide_eq_false ha, if_neg ha, exitR_bool, exitR_int, exitR_ints, exitR_ii, exitR_ib]
theorem value1 (op : Int) (ho : 22 ≤ op ∧ op ≤ 24) (a : BitVec 64) (hA : A = [a]) (h0 : W[0]? = some (w0 : Int)) :
    runS Tryd.prog (n + 3) 24 [.int .i64 op, .int .i64 w, .slice wa wn wc, .slice na nn nc, .int .u64 (U num)] h = some (.int .u64 (U (if op = 23 then isg w0 a else a)), h) := by
  subst hA
  have SA' : Sl (loc h []) na ((wds [a]).map fun n => .int .u64 n) := SA.loc H []
  have SW' : Sl (loc h []) wa (W.map fun n => .int .i64 n) := SW.loc H []
  have r0 : ∀ {ρ : Type} (K : Int → Option ρ), _ := fun {ρ} K => row0 (K := K) SA' hnn (x := U a) rfl
  have s0 : ∀ {ρ : Type} (K : Int → Option ρ), _ := fun {ρ} K => row0 (K := K) SW' hwn (x := (w0 : Int)) h0
  refine t24_ok ?_
  rw [t24, low_loc]
  have : op = 22 ∨ op = 23 ∨ op = 24 := by omega
  rcases this with rfl | rfl | rfl
  all_goals
    simp only [oe22_1, oe22_2, oe22_3, oe22_4, oe22_5, oe22_6, oe22_7, oe22_8, oe22_9, oe22_10, oe22_11, oe22_12, oe22_13, oe22_14, oe22_15, oe22_16, oe22_17, oe22_18, oe22_19, oe22_20, oe22_21, oe22_22, oe22_23, oe22_24, ol2_22, ol5_22, ol12_22, ol15_22, og22_8, og22_14, og22_20, oe23_1, oe23_2, oe23_3, oe23_4, oe23_5, oe23_6, oe23_7, oe23_8, oe23_9, oe23_10, oe23_11, oe23_12, oe23_13, oe23_14, oe23_15, oe23_16, oe23_17, oe23_18, oe23_19, oe23_20, oe23_21, oe23_22, oe23_23, oe23_24, ol2_23, ol5_23, ol12_23, ol15_23, og23_8, og23_14, og23_20, oe24_1, oe24_2, oe24_3, oe24_4, oe24_5, oe24_6, oe24_7, oe24_8, oe24_9, oe24_10, oe24_11, oe24_12, oe24_13, oe24_14, oe24_15, oe24_16, oe24_17, oe24_18, oe24_19, oe24_20, oe24_21, oe24_22, oe24_23, oe24_24, ol2_24, ol5_24, ol12_24, ol15_24, og24_8, og24_14, og24_20, gI_int, gB_bool, gS_str, gL_sl, gP_ptr, Option.bind_some, cond_true, cond_false]
    refine c24_0_ok ?_
    rw [c24_0_eq]
    simp only [oe22_1, oe22_2, oe22_3, oe22_4, oe22_5, oe22_6, oe22_7, oe22_8, oe22_9, oe22_10, oe22_11, oe22_12, oe22_13, oe22_14, oe22_15, oe22_16, oe22_17, oe22_18, oe22_19, oe22_20, oe22_21, oe22_22, oe22_23, oe22_24, ol2_22, ol5_22, ol12_22, ol15_22, og22_8, og22_14, og22_20, oe23_1, oe23_2, oe23_3, oe23_4, oe23_5, oe23_6, oe23_7, oe23_8, oe23_9, oe23_10, oe23_11, oe23_12, oe23_13, oe23_14, oe23_15, oe23_16, oe23_17, oe23_18, oe23_19, oe23_20, oe23_21, oe23_22, oe23_23, oe23_24, ol2_23, ol5_23, ol12_23, ol15_23, og23_8, og23_14, og23_20, oe24_1, oe24_2, oe24_3, oe24_4, oe24_5, oe24_6, oe24_7, oe24_8, oe24_9, oe24_10, oe24_11, oe24_12, oe24_13, oe24_14, oe24_15, oe24_16, oe24_17, oe24_18, oe24_19, oe24_20, oe24_21, oe24_22, oe24_23, oe24_24, ol2_24, ol5_24, ol12_24, ol15_24, og24_8, og24_14, og24_20, gI_int, gB_bool, gS_str, gL_sl, gP_ptr, Option.bind_some, cond_true, cond_false]
    refine c24_1_ok ?_
    rw [c24_1_eq]
    simp only [oe22_1, oe22_2, oe22_3, oe22_4, oe22_5, oe22_6, oe22_7, oe22_8, oe22_9, oe22_10, oe22_11, oe22_12, oe22_13, oe22_14, oe22_15, oe22_16, oe22_17, oe22_18, oe22_19, oe22_20, oe22_21, oe22_22, oe22_23, oe22_24, ol2_22, ol5_22, ol12_22, ol15_22, og22_8, og22_14, og22_20, oe23_1, oe23_2, oe23_3, oe23_4, oe23_5, oe23_6, oe23_7, oe23_8, oe23_9, oe23_10, oe23_11, oe23_12, oe23_13, oe23_14, oe23_15, oe23_16, oe23_17, oe23_18, oe23_19, oe23_20, oe23_21, oe23_22, oe23_23, oe23_24, ol2_23, ol5_23, ol12_23, ol15_23, og23_8, og23_14, og23_20, oe24_1, oe24_2, oe24_3, oe24_4, oe24_5, oe24_6, oe24_7, oe24_8, oe24_9, oe24_10, oe24_11, oe24_12, oe24_13, oe24_14, oe24_15, oe24_16, oe24_17, oe24_18, oe24_19, oe24_20, oe24_21, oe24_22, oe24_23, oe24_24, ol2_24, ol5_24, ol12_24, ol15_24, og24_8, og24_14, og24_20, gI_int, gB_bool, gS_str, gL_sl, gP_ptr, Option.bind_some, cond_true, cond_false]
    refine c24_2_ok ?_
    rw [c24_2_eq]
    simp only [oe22_1, oe22_2, oe22_3, oe22_4, oe22_5, oe22_6, oe22_7, oe22_8, oe22_9, oe22_10, oe22_11, oe22_12, oe22_13, oe22_14, oe22_15, oe22_16, oe22_17, oe22_18, oe22_19, oe22_20, oe22_21, oe22_22, oe22_23, oe22_24, ol2_22, ol5_22, ol12_22, ol15_22, og22_8, og22_14, og22_20, oe23_1, oe23_2, oe23_3, oe23_4, oe23_5, oe23_6, oe23_7, oe23_8, oe23_9, oe23_10, oe23_11, oe23_12, oe23_13, oe23_14, oe23_15, oe23_16, oe23_17, oe23_18, oe23_19, oe23_20, oe23_21, oe23_22, oe23_23, oe23_24, ol2_23, ol5_23, ol12_23, ol15_23, og23_8, og23_14, og23_20, oe24_1, oe24_2, oe24_3, oe24_4, oe24_5, oe24_6, oe24_7, oe24_8, oe24_9, oe24_10, oe24_11, oe24_12, oe24_13, oe24_14, oe24_15, oe24_16, oe24_17, oe24_18, oe24_19, oe24_20, oe24_21, oe24_22, oe24_23, oe24_24, ol2_24, ol5_24, ol12_24, ol15_24, og24_8, og24_14, og24_20, gI_int, gB_bool, gS_str, gL_sl, gP_ptr, Option.bind_some, cond_true, cond_false, r0, s0, signed _ _ w0 hw0, c_u64, exitR_bool, exitR_int, exitR_ints, exitR_ii, exitR_ib, Int.reduceEq, reduceIte]
end
end Go.Proofs.YtiadfnedbbkojaaDoor.Kb
namespace Go.Proofs.YtiadfnedbbkojaaDoor.Kb
open Go Go.Proofs Go.Proofs.YtiadfnedbbkojaaDoor.X Go.Proofs.YtiadfnedbbkojaaDoor.Bv
set_option linter.unusedSimpArgs false
set_option linter.unusedVariables false
set_option linter.unusedSectionVars false
def sh2 (w : Int) : List Int → Bool
  | [x, y] => iEq x w && iEq y w
  | _ => false
def shc (w : Int) : List Int → Bool
  | [x, y] => iEq x y && iEq w 1
  | _ => false
def sh3 (w : Int) : List Int → Bool
  | [x, y, z] => iEq x 1 && (iEq y w && iEq z w)
  | _ => false
def she (w : Int) : List Int → Bool
  | [x] => iLe x w
  | _ => false
def sht (w : Int) : List Int → Bool
  | [x] => iLe w x
  | _ => false
def shO (op w : Int) (L : List Int) : Bool :=
  cond (iEq op 1) (iEq (Int.ofNat L.length) 0) (cond (iLe 2 op && iLe op 14) (sh2 w L) (cond (iLe 15 op && iLe op 20) (shc w L) (cond (iEq op 21) (sh3 w L) (cond (iEq op 22 || iEq op 23) (she w L) (cond (iEq op 24) (sht w L) false)))))
def shp (op w : Int) (L : List Int) : Bool := goodB w && (L.all goodB && shO op w L)
theorem iEq_ne {x y : Int} (h : x ≠ y) : iEq x y = false := beq_eq_false_iff_ne.2 h
theorem iEq_nlen (L : List Int) (k : Nat) (h : L.length ≠ k) : iEq (Int.ofNat L.length) (k : Int) = false := iEq_ne fun e => h (Int.ofNat.inj e)
theorem sh2_ne (w : Int) {L : List Int} (h : L.length ≠ 2) : sh2 w L = false := by
  match L, h with
  | [], _ => rfl
  | [_], _ => rfl
  | [_, _], h => exact absurd rfl h
  | _ :: _ :: _ :: _, _ => rfl
theorem shc_ne (w : Int) {L : List Int} (h : L.length ≠ 2) : shc w L = false := by
  match L, h with
  | [], _ => rfl
  | [_], _ => rfl
  | [_, _], h => exact absurd rfl h
  | _ :: _ :: _ :: _, _ => rfl
theorem sh3_ne (w : Int) {L : List Int} (h : L.length ≠ 3) : sh3 w L = false := by
  match L, h with
  | [], _ => rfl
  | [_], _ => rfl
  | [_, _], _ => rfl
  | [_, _, _], h => exact absurd rfl h
  | _ :: _ :: _ :: _ :: _, _ => rfl
theorem she_ne (w : Int) {L : List Int} (h : L.length ≠ 1) : she w L = false := by
  match L, h with
  | [], _ => rfl
  | [_], h => exact absurd rfl h
  | _ :: _ :: _, _ => rfl
theorem sht_ne (w : Int) {L : List Int} (h : L.length ≠ 1) : sht w L = false := by
  match L, h with
  | [], _ => rfl
  | [_], h => exact absurd rfl h
  | _ :: _ :: _, _ => rfl
theorem len1 {L : List Int} (h : L.length = 1) : ∃ x, L = [x] := List.length_eq_one_iff.1 h
theorem len2 {L : List Int} (h : L.length = 2) : ∃ x y, L = [x, y] := by
  match L, h with
  | [x, y], _ => exact ⟨x, y, rfl⟩
theorem len3 {L : List Int} (h : L.length = 3) : ∃ x y z, L = [x, y, z] := by
  match L, h with
  | [x, y, z], _ => exact ⟨x, y, z, rfl⟩
section
variable (n : Nat) (h0 h : AH) (op w : Int) (wa : Option Addr) (wn wc : Nat) (L : List Int) (SW : Sl h wa (L.map fun n => .int .i64 n)) (hwn : wn = L.length)
 include SW hwn
theorem s23_1 : c23_1 n h0 w wa wn wc (Int.ofNat wn) h = some (exitR h0 h (.bool (sh2 w L))) := by
  refine c23_1_ok ?_
  rw [c23_1_eq, hwn]
  by_cases hl : L.length = 2
  · obtain ⟨x, y, rfl⟩ := len2 hl
    have r0 : ∀ {ρ : Type} (K : Int → Option ρ), _ := fun {ρ} K => row0 (K := K) SW rfl (x := x) rfl
    have r1 : ∀ {ρ : Type} (K : Int → Option ρ), _ := fun {ρ} K => row1 (K := K) SW rfl (x := y) rfl
    rw [show iEq (Int.ofNat [x, y].length) 2 = true from rfl]
    simp only [gI_int, gB_bool, gS_str, gL_sl, gP_ptr, Option.bind_some, cond_true, cond_false, r0, r1]
    rw [show sh2 w [x, y] = (iEq x w && iEq y w) from rfl]
    cases iEq x w <;> simp only [gI_int, gB_bool, gS_str, gL_sl, gP_ptr, Option.bind_some, cond_true, cond_false, r1, Bool.true_and, Bool.false_and]
  · rw [show iEq (Int.ofNat L.length) 2 = false from iEq_nlen L 2 hl, sh2_ne w hl, cond_false]
theorem s23_3 : c23_3 n h0 w wa wn wc (Int.ofNat wn) h = some (exitR h0 h (.bool (shc w L))) := by
  refine c23_3_ok ?_
  rw [c23_3_eq, hwn]
  by_cases hl : L.length = 2
  · obtain ⟨x, y, rfl⟩ := len2 hl
    have r0 : ∀ {ρ : Type} (K : Int → Option ρ), _ := fun {ρ} K => row0 (K := K) SW rfl (x := x) rfl
    have r1 : ∀ {ρ : Type} (K : Int → Option ρ), _ := fun {ρ} K => row1 (K := K) SW rfl (x := y) rfl
    rw [show iEq (Int.ofNat [x, y].length) 2 = true from rfl]
    simp only [gI_int, gB_bool, gS_str, gL_sl, gP_ptr, Option.bind_some, cond_true, cond_false, r0, r1]
    rw [show shc w [x, y] = (iEq x y && iEq w 1) from rfl]
    cases iEq x y <;> simp only [gI_int, gB_bool, gS_str, gL_sl, gP_ptr, Option.bind_some, cond_true, cond_false, Bool.true_and, Bool.false_and]
  · rw [show iEq (Int.ofNat L.length) 2 = false from iEq_nlen L 2 hl, shc_ne w hl, cond_false]
theorem s23_5 : c23_5 n h0 w wa wn wc (Int.ofNat wn) h = some (exitR h0 h (.bool (she w L))) := by
  refine c23_5_ok ?_
  rw [c23_5_eq, hwn]
  by_cases hl : L.length = 1
  · obtain ⟨x, rfl⟩ := len1 hl
    have r0 : ∀ {ρ : Type} (K : Int → Option ρ), _ := fun {ρ} K => row0 (K := K) SW rfl (x := x) rfl
    rw [show iEq (Int.ofNat [x].length) 1 = true from rfl]
    simp only [gI_int, gB_bool, gS_str, gL_sl, gP_ptr, Option.bind_some, cond_true, cond_false, r0]
    rfl
  · rw [show iEq (Int.ofNat L.length) 1 = false from iEq_nlen L 1 hl, she_ne w hl, cond_false]
theorem s23_6 : c23_6 n h0 op w wa wn wc (Int.ofNat wn) h = some (exitR h0 h (.bool (cond (iEq op 24) (sht w L) false))) := by
  refine c23_6_ok ?_
  rw [c23_6_eq, hwn]
  cases iEq op 24 with
  | false => simp only [gI_int, gB_bool, gS_str, gL_sl, gP_ptr, Option.bind_some, cond_true, cond_false]
  | true =>
    simp only [gI_int, gB_bool, gS_str, gL_sl, gP_ptr, Option.bind_some, cond_true, cond_false]
    by_cases hl : L.length = 1
    · obtain ⟨x, rfl⟩ := len1 hl
      have r0 : ∀ {ρ : Type} (K : Int → Option ρ), _ := fun {ρ} K => row0 (K := K) SW rfl (x := x) rfl
      rw [show iEq (Int.ofNat [x].length) 1 = true from rfl]
      simp only [gI_int, gB_bool, gS_str, gL_sl, gP_ptr, Option.bind_some, cond_true, cond_false, r0]
      rfl
    · rw [show iEq (Int.ofNat L.length) 1 = false from iEq_nlen L 1 hl, sht_ne w hl, cond_false]
theorem s23_4 : c23_4 n h0 op w wa wn wc (Int.ofNat wn) h = some (exitR h0 h (.bool (cond (iEq op 21) (sh3 w L) (cond (iEq op 22 || iEq op 23) (she w L) (cond (iEq op 24) (sht w L) false))))) := by
  refine c23_4_ok ?_
  rw [c23_4_eq]
  cases iEq op 21 with
  | true =>
    simp only [gI_int, gB_bool, gS_str, gL_sl, gP_ptr, Option.bind_some, cond_true, cond_false]
    rw [hwn]
    by_cases hl : L.length = 3
    · obtain ⟨x, y, z, rfl⟩ := len3 hl
      have r0 : ∀ {ρ : Type} (K : Int → Option ρ), _ := fun {ρ} K => row0 (K := K) SW rfl (x := x) rfl
      have r1 : ∀ {ρ : Type} (K : Int → Option ρ), _ := fun {ρ} K => row1 (K := K) SW rfl (x := y) rfl
      have r2 : ∀ {ρ : Type} (K : Int → Option ρ), _ := fun {ρ} K => row2 (K := K) SW rfl (x := z) rfl
      rw [show iEq (Int.ofNat [x, y, z].length) 3 = true from rfl]
      simp only [gI_int, gB_bool, gS_str, gL_sl, gP_ptr, Option.bind_some, cond_true, cond_false, r0, r1]
      rw [show sh3 w [x, y, z] = (iEq x 1 && (iEq y w && iEq z w)) from rfl]
      cases iEq x 1 <;> simp only [gI_int, gB_bool, gS_str, gL_sl, gP_ptr, Option.bind_some, cond_true, cond_false, r1, Bool.true_and, Bool.false_and]
      cases iEq y w <;> simp only [gI_int, gB_bool, gS_str, gL_sl, gP_ptr, Option.bind_some, cond_true, cond_false, r2, Bool.true_and, Bool.false_and]
    · rw [show iEq (Int.ofNat L.length) 3 = false from iEq_nlen L 3 hl, sh3_ne w hl, cond_false]
  | false =>
    simp only [gI_int, gB_bool, gS_str, gL_sl, gP_ptr, Option.bind_some, cond_true, cond_false, s23_5 n h0 h w wa wn wc L SW hwn, s23_6 n h0 h op w wa wn wc L SW hwn]
    cases iEq op 22 <;> cases iEq op 23 <;> simp only [gI_int, gB_bool, gS_str, gL_sl, gP_ptr, Option.bind_some, cond_true, cond_false, Bool.or_true, Bool.or_false]
theorem s23_2 : c23_2 n h0 op w wa wn wc (Int.ofNat wn) h = some (exitR h0 h (.bool (cond (iLe 15 op && iLe op 20) (shc w L) (cond (iEq op 21) (sh3 w L) (cond (iEq op 22 || iEq op 23) (she w L) (cond (iEq op 24) (sht w L) false)))))) := by
  refine c23_2_ok ?_
  rw [c23_2_eq, s23_3 n h0 h w wa wn wc L SW hwn, s23_4 n h0 h op w wa wn wc L SW hwn]
  cases iLe 15 op <;> cases iLe op 20 <;> simp only [gI_int, gB_bool, gS_str, gL_sl, gP_ptr, Option.bind_some, cond_true, cond_false, Bool.true_and, Bool.false_and]
end
theorem all_drop {L : List Int} {i : Nat} {x : Int} (hx : L[i]? = some x) : L.drop i = x :: L.drop (i + 1) := by
  obtain ⟨hi, e⟩ := List.getElem?_eq_some_iff.1 hx
  rw [List.drop_eq_getElem_cons hi, e]
theorem s23_0 (n : Nat) (h0 h : AH) (op w : Int) (wa : Option Addr) (wn wc : Nat) (L : List Int) (SW : Sl h wa (L.map fun n => .int .i64 n)) (hwn : wn = L.length) (hlen : L.length ≤ 1000) :
    ∀ (k i m0 : Nat), k < m0 → i + k = L.length → c23_0 (n + 1) m0 h0 op w wa wn wc wa wn wc (Int.ofNat wn) i h = some (exitR h0 h (.bool ((L.drop i).all goodB && shO op w L))) := by
  intro k
  induction k with
  | zero =>
    intro i m0 hm hi
    obtain ⟨m0, rfl⟩ : ∃ g, m0 = g + 1 := ⟨m0 - 1, by omega⟩
    refine c23_0_ok ?_
    rw [c23_0_eq, iLt_false (by rw [hwn]; exact Int.ofNat_le.2 (by omega)), cond_false, List.drop_eq_nil_of_le (by omega), s23_1 (n + 1) h0 h w wa wn wc L SW hwn, s23_2 (n + 1) h0 h op w wa wn wc L SW hwn]
    unfold shO
    rw [hwn]
    cases iEq op 1 with
    | true => simp only [gI_int, gB_bool, gS_str, gL_sl, gP_ptr, Option.bind_some, cond_true, cond_false, List.all_nil, Bool.true_and]
    | false => cases iLe 2 op <;> cases iLe op 14 <;> simp only [gI_int, gB_bool, gS_str, gL_sl, gP_ptr, Option.bind_some, cond_true, cond_false, List.all_nil, Bool.true_and, Bool.false_and]
  | succ k ih =>
    intro i m0 hm hi
    obtain ⟨m0, rfl⟩ : ∃ g, m0 = g + 1 := ⟨m0 - 1, by omega⟩
    refine c23_0_ok ?_
    have hil : i < L.length := by omega
    have hx : L[i]? = some L[i] := List.getElem?_eq_getElem hil
    have ih := ih (i + 1) m0 (by omega) (by omega)
    rw [show ((i + 1 : Nat) : Int) = (i : Int) + 1 by omega] at ih
    rw [c23_0_eq, iLt_true (by rw [hwn]; exact Int.ofNat_lt.2 hil), cond_true, row_i SW hwn i L[i] hx, iAdd_i64 (by omega) (by omega)]
    simp only [good, gI_int, gB_bool, gS_str, gL_sl, gP_ptr, Option.bind_some, cond_true, cond_false]
    rw [ih, all_drop hx, List.all_cons]
    cases goodB L[i] <;> simp only [Bool.not_true, Bool.not_false, gI_int, gB_bool, gS_str, gL_sl, gP_ptr, Option.bind_some, cond_true, cond_false, Bool.true_and, Bool.false_and]
theorem shaped (n : Nat) (h : AH) (H : WF h) (op w : Int) (wa : Option Addr) (wn wc : Nat) (L : List Int) (SW : Sl h wa (L.map fun n => .int .i64 n)) (hwn : wn = L.length) (hlen : L.length ≤ 20) :
    runS Tryd.prog (n + 30) 23 [.int .i64 op, .int .i64 w, .slice wa wn wc] h = some (.bool (shp op w L), h) := by
  refine t23_ok ?_
  rw [t23]
  simp only [low_loc h, setLow_low, setLow_next, setLow_set, setLow_loc, setLow_self, hNew_loc, loc_next, loc_low, Nat.beq_refl, add_lit, List.nil_append, List.cons_append, List.length_cons, List.length_nil, Nat.zero_add, Nat.add_zero, Nat.reduceAdd, good, gI_int, gB_bool, gS_str, gL_sl, gP_ptr, Option.bind_some, cond_true, cond_false]
  unfold shp
  have := s23_0 (n + 28) h (loc h []) op w wa wn wc L (SW.loc H []) hwn (by omega) L.length 0 (n + 29) (by omega) (by omega)
  rw [List.drop_zero, exitR_bool] at this
  cases goodB w with
  | false => simp only [Bool.not_false, gI_int, gB_bool, gS_str, gL_sl, gP_ptr, Option.bind_some, cond_true, cond_false, exitR_bool, exitR_int, exitR_ints, exitR_ii, exitR_ib, Bool.false_and]
  | true =>
    simp only [Bool.not_true, gI_int, gB_bool, gS_str, gL_sl, gP_ptr, Option.bind_some, cond_true, cond_false, Bool.true_and]
    exact this
section
variable (n : Nat) (h0 h : AH) (op w : Int) (wa : Option Addr) (wn wc : Nat) (L : List Int) (SW : Sl h wa (L.map fun n => .int .i64 n)) (hwn : wn = L.length)
 include SW hwn
theorem s17_2 : c17_2 n h0 w wa wn wc (Int.ofNat wn) h = some (exitR h0 h (.bool (sh2 w L))) := by
  refine c17_2_ok ?_
  rw [c17_2_eq, hwn]
  by_cases hl : L.length = 2
  · obtain ⟨x, y, rfl⟩ := len2 hl
    have r0 : ∀ {ρ : Type} (K : Int → Option ρ), _ := fun {ρ} K => row0 (K := K) SW rfl (x := x) rfl
    have r1 : ∀ {ρ : Type} (K : Int → Option ρ), _ := fun {ρ} K => row1 (K := K) SW rfl (x := y) rfl
    rw [show iEq (Int.ofNat [x, y].length) 2 = true from rfl]
    simp only [gI_int, gB_bool, gS_str, gL_sl, gP_ptr, Option.bind_some, cond_true, cond_false, r0, r1]
    rw [show sh2 w [x, y] = (iEq x w && iEq y w) from rfl]
    cases iEq x w <;> simp only [gI_int, gB_bool, gS_str, gL_sl, gP_ptr, Option.bind_some, cond_true, cond_false, r1, Bool.true_and, Bool.false_and]
  · rw [show iEq (Int.ofNat L.length) 2 = false from iEq_nlen L 2 hl, sh2_ne w hl, cond_false]
theorem s17_4 : c17_4 n h0 w wa wn wc (Int.ofNat wn) h = some (exitR h0 h (.bool (shc w L))) := by
  refine c17_4_ok ?_
  rw [c17_4_eq, hwn]
  by_cases hl : L.length = 2
  · obtain ⟨x, y, rfl⟩ := len2 hl
    have r0 : ∀ {ρ : Type} (K : Int → Option ρ), _ := fun {ρ} K => row0 (K := K) SW rfl (x := x) rfl
    have r1 : ∀ {ρ : Type} (K : Int → Option ρ), _ := fun {ρ} K => row1 (K := K) SW rfl (x := y) rfl
    rw [show iEq (Int.ofNat [x, y].length) 2 = true from rfl]
    simp only [gI_int, gB_bool, gS_str, gL_sl, gP_ptr, Option.bind_some, cond_true, cond_false, r0, r1]
    rw [show shc w [x, y] = (iEq x y && iEq w 1) from rfl]
    cases iEq x y <;> simp only [gI_int, gB_bool, gS_str, gL_sl, gP_ptr, Option.bind_some, cond_true, cond_false, Bool.true_and, Bool.false_and]
  · rw [show iEq (Int.ofNat L.length) 2 = false from iEq_nlen L 2 hl, shc_ne w hl, cond_false]
theorem s17_6 : c17_6 n h0 w wa wn wc (Int.ofNat wn) h = some (exitR h0 h (.bool (she w L))) := by
  refine c17_6_ok ?_
  rw [c17_6_eq, hwn]
  by_cases hl : L.length = 1
  · obtain ⟨x, rfl⟩ := len1 hl
    have r0 : ∀ {ρ : Type} (K : Int → Option ρ), _ := fun {ρ} K => row0 (K := K) SW rfl (x := x) rfl
    rw [show iEq (Int.ofNat [x].length) 1 = true from rfl]
    simp only [gI_int, gB_bool, gS_str, gL_sl, gP_ptr, Option.bind_some, cond_true, cond_false, r0]
    rfl
  · rw [show iEq (Int.ofNat L.length) 1 = false from iEq_nlen L 1 hl, she_ne w hl, cond_false]
theorem s17_7 : c17_7 n h0 op w wa wn wc (Int.ofNat wn) h = some (exitR h0 h (.bool (cond (iEq op 24) (sht w L) false))) := by
  refine c17_7_ok ?_
  rw [c17_7_eq, hwn]
  cases iEq op 24 with
  | false => simp only [gI_int, gB_bool, gS_str, gL_sl, gP_ptr, Option.bind_some, cond_true, cond_false]
  | true =>
    simp only [gI_int, gB_bool, gS_str, gL_sl, gP_ptr, Option.bind_some, cond_true, cond_false]
    by_cases hl : L.length = 1
    · obtain ⟨x, rfl⟩ := len1 hl
      have r0 : ∀ {ρ : Type} (K : Int → Option ρ), _ := fun {ρ} K => row0 (K := K) SW rfl (x := x) rfl
      rw [show iEq (Int.ofNat [x].length) 1 = true from rfl]
      simp only [gI_int, gB_bool, gS_str, gL_sl, gP_ptr, Option.bind_some, cond_true, cond_false, r0]
      rfl
    · rw [show iEq (Int.ofNat L.length) 1 = false from iEq_nlen L 1 hl, sht_ne w hl, cond_false]
theorem s17_5 : c17_5 n h0 op w wa wn wc (Int.ofNat wn) h = some (exitR h0 h (.bool (cond (iEq op 21) (sh3 w L) (cond (iEq op 22 || iEq op 23) (she w L) (cond (iEq op 24) (sht w L) false))))) := by
  refine c17_5_ok ?_
  rw [c17_5_eq]
  cases iEq op 21 with
  | true =>
    simp only [gI_int, gB_bool, gS_str, gL_sl, gP_ptr, Option.bind_some, cond_true, cond_false]
    rw [hwn]
    by_cases hl : L.length = 3
    · obtain ⟨x, y, z, rfl⟩ := len3 hl
      have r0 : ∀ {ρ : Type} (K : Int → Option ρ), _ := fun {ρ} K => row0 (K := K) SW rfl (x := x) rfl
      have r1 : ∀ {ρ : Type} (K : Int → Option ρ), _ := fun {ρ} K => row1 (K := K) SW rfl (x := y) rfl
      have r2 : ∀ {ρ : Type} (K : Int → Option ρ), _ := fun {ρ} K => row2 (K := K) SW rfl (x := z) rfl
      rw [show iEq (Int.ofNat [x, y, z].length) 3 = true from rfl]
      simp only [gI_int, gB_bool, gS_str, gL_sl, gP_ptr, Option.bind_some, cond_true, cond_false, r0, r1]
      rw [show sh3 w [x, y, z] = (iEq x 1 && (iEq y w && iEq z w)) from rfl]
      cases iEq x 1 <;> simp only [gI_int, gB_bool, gS_str, gL_sl, gP_ptr, Option.bind_some, cond_true, cond_false, r1, Bool.true_and, Bool.false_and]
      cases iEq y w <;> simp only [gI_int, gB_bool, gS_str, gL_sl, gP_ptr, Option.bind_some, cond_true, cond_false, r2, Bool.true_and, Bool.false_and]
    · rw [show iEq (Int.ofNat L.length) 3 = false from iEq_nlen L 3 hl, sh3_ne w hl, cond_false]
  | false =>
    simp only [gI_int, gB_bool, gS_str, gL_sl, gP_ptr, Option.bind_some, cond_true, cond_false, s17_6 n h0 h w wa wn wc L SW hwn, s17_7 n h0 h op w wa wn wc L SW hwn]
    cases iEq op 22 <;> cases iEq op 23 <;> simp only [gI_int, gB_bool, gS_str, gL_sl, gP_ptr, Option.bind_some, cond_true, cond_false, Bool.or_true, Bool.or_false]
theorem s17_3 : c17_3 n h0 op w wa wn wc (Int.ofNat wn) h = some (exitR h0 h (.bool (cond (iLe 15 op && iLe op 20) (shc w L) (cond (iEq op 21) (sh3 w L) (cond (iEq op 22 || iEq op 23) (she w L) (cond (iEq op 24) (sht w L) false)))))) := by
  refine c17_3_ok ?_
  rw [c17_3_eq, s17_4 n h0 h w wa wn wc L SW hwn, s17_5 n h0 h op w wa wn wc L SW hwn]
  cases iLe 15 op <;> cases iLe op 20 <;> simp only [gI_int, gB_bool, gS_str, gL_sl, gP_ptr, Option.bind_some, cond_true, cond_false, Bool.true_and, Bool.false_and]
end
theorem s17_1 (n : Nat) (h0 h : AH) (op w : Int) (wa : Option Addr) (wn wc : Nat) (L : List Int) (SW : Sl h wa (L.map fun n => .int .i64 n)) (hwn : wn = L.length) (hlen : L.length ≤ 1000) :
    ∀ (k i m0 : Nat), k < m0 → i + k = L.length → c17_1 (n + 1) m0 h0 op w wa wn wc i h = some (exitR h0 h (.bool ((L.drop i).all goodB && shO op w L))) := by
  intro k
  induction k with
  | zero =>
    intro i m0 hm hi
    obtain ⟨m0, rfl⟩ : ∃ g, m0 = g + 1 := ⟨m0 - 1, by omega⟩
    refine c17_1_ok ?_
    rw [c17_1_eq, iLt_false (by rw [hwn]; exact Int.ofNat_le.2 (by omega)), cond_false, List.drop_eq_nil_of_le (by omega), s17_2 (n + 1) h0 h w wa wn wc L SW hwn, s17_3 (n + 1) h0 h op w wa wn wc L SW hwn]
    unfold shO
    rw [hwn]
    cases iEq op 1 with
    | true => simp only [gI_int, gB_bool, gS_str, gL_sl, gP_ptr, Option.bind_some, cond_true, cond_false, List.all_nil, Bool.true_and]
    | false => cases iLe 2 op <;> cases iLe op 14 <;> simp only [gI_int, gB_bool, gS_str, gL_sl, gP_ptr, Option.bind_some, cond_true, cond_false, List.all_nil, Bool.true_and, Bool.false_and]
  | succ k ih =>
    intro i m0 hm hi
    obtain ⟨m0, rfl⟩ : ∃ g, m0 = g + 1 := ⟨m0 - 1, by omega⟩
    refine c17_1_ok ?_
    have hil : i < L.length := by omega
    have hx : L[i]? = some L[i] := List.getElem?_eq_getElem hil
    have ih := ih (i + 1) m0 (by omega) (by omega)
    rw [show ((i + 1 : Nat) : Int) = (i : Int) + 1 by omega] at ih
    rw [c17_1_eq, iLt_true (by rw [hwn]; exact Int.ofNat_lt.2 hil), cond_true, row_i SW hwn i L[i] hx, row_i SW hwn i L[i] hx, iAdd_i64 (by omega) (by omega), ih, all_drop hx, List.all_cons]
    unfold goodB
    by_cases g1 : L[i] < 1
    · rw [iLt_true g1, iLe_false g1]
      simp only [gI_int, gB_bool, gS_str, gL_sl, gP_ptr, Option.bind_some, cond_true, cond_false, Bool.false_and]
    · rw [iLt_false (by omega), iLe_true (by omega)]
      by_cases g2 : 64 < L[i]
      · rw [iLt_true g2, iLe_false g2]
        simp only [gI_int, gB_bool, gS_str, gL_sl, gP_ptr, Option.bind_some, cond_true, cond_false, Bool.false_and, Bool.and_false]
      · rw [iLt_false (by omega), iLe_true (by omega)]
        simp only [gI_int, gB_bool, gS_str, gL_sl, gP_ptr, Option.bind_some, cond_true, cond_false, Bool.true_and]
theorem rshape (n : Nat) (h : AH) (H : WF h) (op w : Int) (wa : Option Addr) (wn wc : Nat) (L : List Int) (SW : Sl h wa (L.map fun n => .int .i64 n)) (hwn : wn = L.length) (hlen : L.length ≤ 20) :
    runS Tryd.prog (n + 30) 17 [.int .i64 op, .int .i64 w, .slice wa wn wc] h = some (.bool (shp op w L), h) := by
  refine t17_ok ?_
  rw [t17, low_loc]
  unfold shp
  have := s17_1 (n + 28) h (loc h []) op w wa wn wc L (SW.loc H []) hwn (by omega) L.length 0 (n + 29) (by omega) (by omega)
  rw [List.drop_zero, exitR_bool] at this
  have h0 : c17_0 (n + 29) h op w wa wn wc (loc h []) = some (.bool (L.all goodB && shO op w L), h) := by
    refine c17_0_ok ?_
    rw [c17_0_eq]
    exact this
  rw [h0]
  unfold goodB
  by_cases g1 : w < 1
  · rw [iLt_true g1, iLe_false g1]
    simp only [gI_int, gB_bool, gS_str, gL_sl, gP_ptr, Option.bind_some, cond_true, cond_false, Bool.false_and, exitR_bool, exitR_int, exitR_ints, exitR_ii, exitR_ib]
  · rw [iLt_false (by omega), iLe_true (by omega)]
    by_cases g2 : 64 < w
    · rw [iLt_true g2, iLe_false g2]
      simp only [gI_int, gB_bool, gS_str, gL_sl, gP_ptr, Option.bind_some, cond_true, cond_false, Bool.false_and, Bool.and_false, exitR_bool, exitR_int, exitR_ints, exitR_ii, exitR_ib]
    · rw [iLt_false (by omega), iLe_true (by omega)]
      simp only [gI_int, gB_bool, gS_str, gL_sl, gP_ptr, Option.bind_some, cond_true, cond_false, Bool.true_and]
end Go.Proofs.YtiadfnedbbkojaaDoor.Kb
namespace Go.Proofs.YtiadfnedbbkojaaDoor.Kb
open Go Go.Proofs Go.Proofs.YtiadfnedbbkojaaDoor.X Go.Proofs.YtiadfnedbbkojaaDoor.Bv
set_option linter.unusedSimpArgs false
set_option linter.unusedVariables false
set_option linter.unusedSectionVars false
def ev2 (op : Int) (w w0 : Nat) (a b : BitVec 64) : BitVec 64 :=
  if op = 2 then (a + b) &&& M w else if op = 3 then (a - b) &&& M w else if op = 4 then (a * b) &&& M w else if op = 5 then (if b = 0#64 then M w else a / b) else if op = 6 then (if b = 0#64 then a else a % b)
  else if op = 7 then dvq w a b else if op = 8 then dvr w a b else if op = 9 then a &&& b else if op = 10 then a ||| b else if op = 11 then a ^^^ b
  else if op = 12 then (if w ≤ b.toNat then 0#64 else (a <<< b.toNat) &&& M w) else if op = 13 then bvN (shf w a b false) w else if op = 14 then bvN (shf w a b (a.getLsbD (w - 1))) w
  else if op = 15 then cond (a == b) 1#64 0#64 else if op = 16 then cond (!(a == b)) 1#64 0#64 else if op = 17 then cond (decide (a < b)) 1#64 0#64 else if op = 18 then cond (decide (a ≤ b)) 1#64 0#64
  else if op = 19 then cond ((rsg w0 a).slt (rsg w0 b)) 1#64 0#64 else cond ((rsg w0 a).sle (rsg w0 b)) 1#64 0#64
section
variable (n : Nat) (h : AH) (H : WF h) (w w0 : Nat) (hw1 : 1 ≤ w) (hw : w ≤ 64) (hv1 : 1 ≤ w0) (hw0 : w0 ≤ 64) (wa : Option Addr) (wn wc : Nat) (W : List Int) (SW : Sl h wa (W.map fun n => .int .i64 n)) (hwn : wn = W.length)
  (na : Option Addr) (nn nc : Nat) (A : List (BitVec 64)) (SA : Sl h na ((wds A).map fun n => .int .u64 n)) (hnn : nn = (wds A).length) (num : BitVec 64)
 include H hw1 hw hv1 hw0 SW hwn SA hnn
theorem eval0 : runS Tryd.prog (n + 70) 16 [.int .i64 1, .int .i64 w, .slice wa wn wc, .slice na nn nc, .int .u64 (U num)] h = some (.int .u64 (U (num &&& M w)), h) := by
  have hm : ∀ g : AH, runS Tryd.prog (n + 69) 14 [.int .i64 (w : Int)] g = some (.int .u64 (U (M w)), g) := fun g => rmask (n + 3) g (w : Int) (by omega) (by omega)
  refine t16_ok ?_
  rw [t16]
  simp only [oe1_1, oe1_2, oe1_3, oe1_4, oe1_5, oe1_6, oe1_7, oe1_8, oe1_9, oe1_10, oe1_11, oe1_12, oe1_13, oe1_14, oe1_15, oe1_16, oe1_17, oe1_18, oe1_19, oe1_20, oe1_21, oe1_22, oe1_23, oe1_24, ol2_1, ol5_1, ol12_1, ol15_1, og1_8, og1_14, og1_20, low_loc h, setLow_low, setLow_next, setLow_set, setLow_loc, setLow_self, hNew_loc, loc_next, loc_low, Nat.beq_refl, add_lit, List.nil_append, List.cons_append, List.length_cons, List.length_nil, Nat.zero_add, Nat.add_zero, Nat.reduceAdd, gI_int, gB_bool, gS_str, gL_sl, gP_ptr, Option.bind_some, cond_true, cond_false, hm, i_and, exitR_bool, exitR_int, exitR_ints, exitR_ii, exitR_ib]
theorem eval2 (op : Int) (ho : 2 ≤ op ∧ op ≤ 20) (a b : BitVec 64) (hA : A = [a, b]) (h0 : W[0]? = some (w0 : Int)) (h1 : W[1]? = some (w0 : Int)) :
    runS Tryd.prog (n + 70) 16 [.int .i64 op, .int .i64 w, .slice wa wn wc, .slice na nn nc, .int .u64 (U num)] h = some (.int .u64 (U (ev2 op w w0 a b)), h) := by
  subst hA
  have SA' : Sl (loc h []) na ((wds [a, b]).map fun n => .int .u64 n) := SA.loc H []
  have SW' : Sl (loc h []) wa (W.map fun n => .int .i64 n) := SW.loc H []
  have r0 : ∀ {ρ : Type} (K : Int → Option ρ), _ := fun {ρ} K => row0 (K := K) SA' hnn (x := U a) rfl
  have r1 : ∀ {ρ : Type} (K : Int → Option ρ), _ := fun {ρ} K => row1 (K := K) SA' hnn (x := U b) rfl
  have s0 : ∀ {ρ : Type} (K : Int → Option ρ), _ := fun {ρ} K => row0 (K := K) SW' hwn (x := (w0 : Int)) h0
  have s1 : ∀ {ρ : Type} (K : Int → Option ρ), _ := fun {ρ} K => row1 (K := K) SW' hwn (x := (w0 : Int)) h1
  have hm : ∀ g : AH, runS Tryd.prog (n + 69) 14 [.int .i64 (w : Int)] g = some (.int .u64 (U (M w)), g) := fun g => rmask (n + 3) g (w : Int) (by omega) (by omega)
  have hd := rdivide (n + 1) (loc h []) w hw1 hw a b
  have hsh := fun f => rshift (n + 3) (loc h []) w hw a b f
  have hsg := fun g x => rsigned (n + 2) g w0 hv1 hw0 x
  have hbt := bit (n + 68) (loc h []) a (w - 1)
  have e0 : iEq (U b) 0 = decide (b = 0#64) := iEqB b 0#64
  have e1 : iSub .i64 (w : Int) 1 = ((w - 1 : Nat) : Int) := by
    rw [iSub_i64 (by omega) (by omega)]
    omega
  have e2 : iLe (iConv .u64 (w : Int)) (U b) = decide (w ≤ b.toNat) := by
    rw [U_small (by omega) (by omega), U_nat]
    unfold iLe
    exact decide_eq_decide.2 (by omega)
  have e3 : iLt 1 (Int.ofNat nn) = true := by rw [hnn]; rfl
  have ef : (0 : Int) = boolI false := rfl
  have eb : bitI a (w - 1) = boolI (a.getLsbD (w - 1)) := rfl
  have key : c16_0 (n + 69) h op w wa wn wc na nn nc (U a) (U b) (loc h []) = some (.int .u64 (U (ev2 op w w0 a b)), h) := by
    refine c16_0_ok ?_
    rw [c16_0_eq]
    unfold ev2
    have hop : op = 2 ∨ op = 3 ∨ op = 4 ∨ op = 5 ∨ op = 6 ∨ op = 7 ∨ op = 8 ∨ op = 9 ∨ op = 10 ∨ op = 11 ∨ op = 12 ∨ op = 13 ∨ op = 14 ∨ op = 15 ∨ op = 16 ∨ op = 17 ∨ op = 18 ∨ op = 19 ∨ op = 20 := by omega
    rcases hop with rfl | rfl | rfl | rfl | rfl | rfl | rfl | rfl | rfl | rfl | rfl | rfl | rfl | rfl | rfl | rfl | rfl | rfl | rfl
    · simp only [oe2_1, oe2_2, oe2_3, oe2_4, oe2_5, oe2_6, oe2_7, oe2_8, oe2_9, oe2_10, oe2_11, oe2_12, oe2_13, oe2_14, oe2_15, oe2_16, oe2_17, oe2_18, oe2_19, oe2_20, oe2_21, oe2_22, oe2_23, oe2_24, ol2_2, ol5_2, ol12_2, ol15_2, og2_8, og2_14, og2_20, gI_int, gB_bool, gS_str, gL_sl, gP_ptr, Option.bind_some, cond_true, cond_false, hm, i_add, i_and, exitR_bool, exitR_int, exitR_ints, exitR_ii, exitR_ib, reduceIte]
    · simp only [oe3_1, oe3_2, oe3_3, oe3_4, oe3_5, oe3_6, oe3_7, oe3_8, oe3_9, oe3_10, oe3_11, oe3_12, oe3_13, oe3_14, oe3_15, oe3_16, oe3_17, oe3_18, oe3_19, oe3_20, oe3_21, oe3_22, oe3_23, oe3_24, ol2_3, ol5_3, ol12_3, ol15_3, og3_8, og3_14, og3_20, gI_int, gB_bool, gS_str, gL_sl, gP_ptr, Option.bind_some, cond_true, cond_false, hm, i_sub, i_and, exitR_bool, exitR_int, exitR_ints, exitR_ii, exitR_ib, Int.reduceEq, reduceIte]
    · simp only [oe4_1, oe4_2, oe4_3, oe4_4, oe4_5, oe4_6, oe4_7, oe4_8, oe4_9, oe4_10, oe4_11, oe4_12, oe4_13, oe4_14, oe4_15, oe4_16, oe4_17, oe4_18, oe4_19, oe4_20, oe4_21, oe4_22, oe4_23, oe4_24, ol2_4, ol5_4, ol12_4, ol15_4, og4_8, og4_14, og4_20, gI_int, gB_bool, gS_str, gL_sl, gP_ptr, Option.bind_some, cond_true, cond_false, hm, i_mulS, i_and, exitR_bool, exitR_int, exitR_ints, exitR_ii, exitR_ib, Int.reduceEq, reduceIte]
    · by_cases hb : b = 0#64
      · simp only [oe5_1, oe5_2, oe5_3, oe5_4, oe5_5, oe5_6, oe5_7, oe5_8, oe5_9, oe5_10, oe5_11, oe5_12, oe5_13, oe5_14, oe5_15, oe5_16, oe5_17, oe5_18, oe5_19, oe5_20, oe5_21, oe5_22, oe5_23, oe5_24, ol2_5, ol5_5, ol12_5, ol15_5, og5_8, og5_14, og5_20, gI_int, gB_bool, gS_str, gL_sl, gP_ptr, Option.bind_some, cond_true, cond_false, e0, decide_eq_true hb, hm, if_pos hb, exitR_bool, exitR_int, exitR_ints, exitR_ii, exitR_ib, Int.reduceEq, reduceIte]
      · simp only [oe5_1, oe5_2, oe5_3, oe5_4, oe5_5, oe5_6, oe5_7, oe5_8, oe5_9, oe5_10, oe5_11, oe5_12, oe5_13, oe5_14, oe5_15, oe5_16, oe5_17, oe5_18, oe5_19, oe5_20, oe5_21, oe5_22, oe5_23, oe5_24, ol2_5, ol5_5, ol12_5, ol15_5, og5_8, og5_14, og5_20, gI_int, gB_bool, gS_str, gL_sl, gP_ptr, Option.bind_some, cond_true, cond_false, e0, decide_eq_false hb, if_neg hb, i_quo, exitR_bool, exitR_int, exitR_ints, exitR_ii, exitR_ib, Int.reduceEq, reduceIte]
    · by_cases hb : b = 0#64
      · simp only [oe6_1, oe6_2, oe6_3, oe6_4, oe6_5, oe6_6, oe6_7, oe6_8, oe6_9, oe6_10, oe6_11, oe6_12, oe6_13, oe6_14, oe6_15, oe6_16, oe6_17, oe6_18, oe6_19, oe6_20, oe6_21, oe6_22, oe6_23, oe6_24, ol2_6, ol5_6, ol12_6, ol15_6, og6_8, og6_14, og6_20, gI_int, gB_bool, gS_str, gL_sl, gP_ptr, Option.bind_some, cond_true, cond_false, e0, decide_eq_true hb, hm, if_pos hb, exitR_bool, exitR_int, exitR_ints, exitR_ii, exitR_ib, Int.reduceEq, reduceIte]
      · simp only [oe6_1, oe6_2, oe6_3, oe6_4, oe6_5, oe6_6, oe6_7, oe6_8, oe6_9, oe6_10, oe6_11, oe6_12, oe6_13, oe6_14, oe6_15, oe6_16, oe6_17, oe6_18, oe6_19, oe6_20, oe6_21, oe6_22, oe6_23, oe6_24, ol2_6, ol5_6, ol12_6, ol15_6, og6_8, og6_14, og6_20, gI_int, gB_bool, gS_str, gL_sl, gP_ptr, Option.bind_some, cond_true, cond_false, e0, decide_eq_false hb, if_neg hb, i_rem, exitR_bool, exitR_int, exitR_ints, exitR_ii, exitR_ib, Int.reduceEq, reduceIte]
    · simp only [oe7_1, oe7_2, oe7_3, oe7_4, oe7_5, oe7_6, oe7_7, oe7_8, oe7_9, oe7_10, oe7_11, oe7_12, oe7_13, oe7_14, oe7_15, oe7_16, oe7_17, oe7_18, oe7_19, oe7_20, oe7_21, oe7_22, oe7_23, oe7_24, ol2_7, ol5_7, ol12_7, ol15_7, og7_8, og7_14, og7_20, gI_int, gB_bool, gS_str, gL_sl, gP_ptr, Option.bind_some, cond_true, cond_false, hd, tupIs2, tupC20, tupC21, aggIs2, aggC20, aggC21, exitR_bool, exitR_int, exitR_ints, exitR_ii, exitR_ib, Int.reduceEq, reduceIte]
    · simp only [oe8_1, oe8_2, oe8_3, oe8_4, oe8_5, oe8_6, oe8_7, oe8_8, oe8_9, oe8_10, oe8_11, oe8_12, oe8_13, oe8_14, oe8_15, oe8_16, oe8_17, oe8_18, oe8_19, oe8_20, oe8_21, oe8_22, oe8_23, oe8_24, ol2_8, ol5_8, ol12_8, ol15_8, og8_8, og8_14, og8_20, gI_int, gB_bool, gS_str, gL_sl, gP_ptr, Option.bind_some, cond_true, cond_false, hd, tupIs2, tupC20, tupC21, aggIs2, aggC20, aggC21, exitR_bool, exitR_int, exitR_ints, exitR_ii, exitR_ib, Int.reduceEq, reduceIte]
    · simp only [oe9_1, oe9_2, oe9_3, oe9_4, oe9_5, oe9_6, oe9_7, oe9_8, oe9_9, oe9_10, oe9_11, oe9_12, oe9_13, oe9_14, oe9_15, oe9_16, oe9_17, oe9_18, oe9_19, oe9_20, oe9_21, oe9_22, oe9_23, oe9_24, ol2_9, ol5_9, ol12_9, ol15_9, og9_8, og9_14, og9_20, gI_int, gB_bool, gS_str, gL_sl, gP_ptr, Option.bind_some, cond_true, cond_false, i_and, exitR_bool, exitR_int, exitR_ints, exitR_ii, exitR_ib, Int.reduceEq, reduceIte]
    · simp only [oe10_1, oe10_2, oe10_3, oe10_4, oe10_5, oe10_6, oe10_7, oe10_8, oe10_9, oe10_10, oe10_11, oe10_12, oe10_13, oe10_14, oe10_15, oe10_16, oe10_17, oe10_18, oe10_19, oe10_20, oe10_21, oe10_22, oe10_23, oe10_24, ol2_10, ol5_10, ol12_10, ol15_10, og10_8, og10_14, og10_20, gI_int, gB_bool, gS_str, gL_sl, gP_ptr, Option.bind_some, cond_true, cond_false, i_or, exitR_bool, exitR_int, exitR_ints, exitR_ii, exitR_ib, Int.reduceEq, reduceIte]
    · simp only [oe11_1, oe11_2, oe11_3, oe11_4, oe11_5, oe11_6, oe11_7, oe11_8, oe11_9, oe11_10, oe11_11, oe11_12, oe11_13, oe11_14, oe11_15, oe11_16, oe11_17, oe11_18, oe11_19, oe11_20, oe11_21, oe11_22, oe11_23, oe11_24, ol2_11, ol5_11, ol12_11, ol15_11, og11_8, og11_14, og11_20, gI_int, gB_bool, gS_str, gL_sl, gP_ptr, Option.bind_some, cond_true, cond_false, i_xor, exitR_bool, exitR_int, exitR_ints, exitR_ii, exitR_ib, Int.reduceEq, reduceIte]
    · by_cases hb : w ≤ b.toNat
      · simp only [oe12_1, oe12_2, oe12_3, oe12_4, oe12_5, oe12_6, oe12_7, oe12_8, oe12_9, oe12_10, oe12_11, oe12_12, oe12_13, oe12_14, oe12_15, oe12_16, oe12_17, oe12_18, oe12_19, oe12_20, oe12_21, oe12_22, oe12_23, oe12_24, ol2_12, ol5_12, ol12_12, ol15_12, og12_8, og12_14, og12_20, gI_int, gB_bool, gS_str, gL_sl, gP_ptr, Option.bind_some, cond_true, cond_false, e2, decide_eq_true hb, if_pos hb, exitR_bool, exitR_int, exitR_ints, exitR_ii, exitR_ib, Int.reduceEq, reduceIte]
        rfl
      · simp only [oe12_1, oe12_2, oe12_3, oe12_4, oe12_5, oe12_6, oe12_7, oe12_8, oe12_9, oe12_10, oe12_11, oe12_12, oe12_13, oe12_14, oe12_15, oe12_16, oe12_17, oe12_18, oe12_19, oe12_20, oe12_21, oe12_22, oe12_23, oe12_24, ol2_12, ol5_12, ol12_12, ol15_12, og12_8, og12_14, og12_20, gI_int, gB_bool, gS_str, gL_sl, gP_ptr, Option.bind_some, cond_true, cond_false, e2, decide_eq_false hb, if_neg hb, U_n0, hm, i_shl _ _ (U_nonneg b), i_and, exitR_bool, exitR_int, exitR_ints, exitR_ii, exitR_ib, Int.reduceEq, reduceIte]
        rfl
    · have := hsh false
      rw [← ef] at this
      simp only [oe13_1, oe13_2, oe13_3, oe13_4, oe13_5, oe13_6, oe13_7, oe13_8, oe13_9, oe13_10, oe13_11, oe13_12, oe13_13, oe13_14, oe13_15, oe13_16, oe13_17, oe13_18, oe13_19, oe13_20, oe13_21, oe13_22, oe13_23, oe13_24, ol2_13, ol5_13, ol12_13, ol15_13, og13_8, og13_14, og13_20, gI_int, gB_bool, gS_str, gL_sl, gP_ptr, Option.bind_some, cond_true, cond_false, this, exitR_bool, exitR_int, exitR_ints, exitR_ii, exitR_ib, Int.reduceEq, reduceIte]
    · simp only [oe14_1, oe14_2, oe14_3, oe14_4, oe14_5, oe14_6, oe14_7, oe14_8, oe14_9, oe14_10, oe14_11, oe14_12, oe14_13, oe14_14, oe14_15, oe14_16, oe14_17, oe14_18, oe14_19, oe14_20, oe14_21, oe14_22, oe14_23, oe14_24, ol2_14, ol5_14, ol12_14, ol15_14, og14_8, og14_14, og14_20, gI_int, gB_bool, gS_str, gL_sl, gP_ptr, Option.bind_some, cond_true, cond_false, e1, hbt, eb, hsh, exitR_bool, exitR_int, exitR_ints, exitR_ii, exitR_ib, Int.reduceEq, reduceIte]
    · simp only [oe15_1, oe15_2, oe15_3, oe15_4, oe15_5, oe15_6, oe15_7, oe15_8, oe15_9, oe15_10, oe15_11, oe15_12, oe15_13, oe15_14, oe15_15, oe15_16, oe15_17, oe15_18, oe15_19, oe15_20, oe15_21, oe15_22, oe15_23, oe15_24, ol2_15, ol5_15, ol12_15, ol15_15, og15_8, og15_14, og15_20, gI_int, gB_bool, gS_str, gL_sl, gP_ptr, Option.bind_some, cond_true, cond_false, i_eq, truth, exitR_bool, exitR_int, exitR_ints, exitR_ii, exitR_ib, Int.reduceEq, reduceIte]
    · simp only [oe16_1, oe16_2, oe16_3, oe16_4, oe16_5, oe16_6, oe16_7, oe16_8, oe16_9, oe16_10, oe16_11, oe16_12, oe16_13, oe16_14, oe16_15, oe16_16, oe16_17, oe16_18, oe16_19, oe16_20, oe16_21, oe16_22, oe16_23, oe16_24, ol2_16, ol5_16, ol12_16, ol15_16, og16_8, og16_14, og16_20, gI_int, gB_bool, gS_str, gL_sl, gP_ptr, Option.bind_some, cond_true, cond_false, i_ne', truth, exitR_bool, exitR_int, exitR_ints, exitR_ii, exitR_ib, Int.reduceEq, reduceIte]
    · simp only [oe17_1, oe17_2, oe17_3, oe17_4, oe17_5, oe17_6, oe17_7, oe17_8, oe17_9, oe17_10, oe17_11, oe17_12, oe17_13, oe17_14, oe17_15, oe17_16, oe17_17, oe17_18, oe17_19, oe17_20, oe17_21, oe17_22, oe17_23, oe17_24, ol2_17, ol5_17, ol12_17, ol15_17, og17_8, og17_14, og17_20, gI_int, gB_bool, gS_str, gL_sl, gP_ptr, Option.bind_some, cond_true, cond_false, i_lt, truth, exitR_bool, exitR_int, exitR_ints, exitR_ii, exitR_ib, Int.reduceEq, reduceIte]
    · simp only [oe18_1, oe18_2, oe18_3, oe18_4, oe18_5, oe18_6, oe18_7, oe18_8, oe18_9, oe18_10, oe18_11, oe18_12, oe18_13, oe18_14, oe18_15, oe18_16, oe18_17, oe18_18, oe18_19, oe18_20, oe18_21, oe18_22, oe18_23, oe18_24, ol2_18, ol5_18, ol12_18, ol15_18, og18_8, og18_14, og18_20, gI_int, gB_bool, gS_str, gL_sl, gP_ptr, Option.bind_some, cond_true, cond_false, i_le, truth, exitR_bool, exitR_int, exitR_ints, exitR_ii, exitR_ib, Int.reduceEq, reduceIte]
    · simp only [oe19_1, oe19_2, oe19_3, oe19_4, oe19_5, oe19_6, oe19_7, oe19_8, oe19_9, oe19_10, oe19_11, oe19_12, oe19_13, oe19_14, oe19_15, oe19_16, oe19_17, oe19_18, oe19_19, oe19_20, oe19_21, oe19_22, oe19_23, oe19_24, ol2_19, ol5_19, ol12_19, ol15_19, og19_8, og19_14, og19_20, gI_int, gB_bool, gS_str, gL_sl, gP_ptr, Option.bind_some, cond_true, cond_false, s0, hsg, setLow_low, Nat.beq_refl, setLow_set, setLow_self, s1, i_slt, truth, exitR_bool, exitR_int, exitR_ints, exitR_ii, exitR_ib, Int.reduceEq, reduceIte]
    · simp only [oe20_1, oe20_2, oe20_3, oe20_4, oe20_5, oe20_6, oe20_7, oe20_8, oe20_9, oe20_10, oe20_11, oe20_12, oe20_13, oe20_14, oe20_15, oe20_16, oe20_17, oe20_18, oe20_19, oe20_20, oe20_21, oe20_22, oe20_23, oe20_24, ol2_20, ol5_20, ol12_20, ol15_20, og20_8, og20_14, og20_20, gI_int, gB_bool, gS_str, gL_sl, gP_ptr, Option.bind_some, cond_true, cond_false, s0, hsg, setLow_low, Nat.beq_refl, setLow_set, setLow_self, s1, i_sle, truth, exitR_bool, exitR_int, exitR_ints, exitR_ii, exitR_ib, Int.reduceEq, reduceIte]
  refine t16_ok ?_
  rw [t16, low_loc, iEq_ne (x := op) (y := 1) (by omega)]
  simp only [gI_int, gB_bool, gS_str, gL_sl, gP_ptr, Option.bind_some, cond_true, cond_false, r0, r1, e3, key]
theorem eval3 (a b c : BitVec 64) (hA : A = [a, b, c]) :
    runS Tryd.prog (n + 70) 16 [.int .i64 21, .int .i64 w, .slice wa wn wc, .slice na nn nc, .int .u64 (U num)] h = some (.int .u64 (U (if a = 1#64 then b else c)), h) := by
  subst hA
  have SA' : Sl (loc h []) na ((wds [a, b, c]).map fun n => .int .u64 n) := SA.loc H []
  have r0 : ∀ {ρ : Type} (K : Int → Option ρ), _ := fun {ρ} K => row0 (K := K) SA' hnn (x := U a) rfl
  have r1 : ∀ {ρ : Type} (K : Int → Option ρ), _ := fun {ρ} K => row1 (K := K) SA' hnn (x := U b) rfl
  have r2 : ∀ {ρ : Type} (K : Int → Option ρ), _ := fun {ρ} K => row2 (K := K) SA' hnn (x := U c) rfl
  have e1 : iEq (U a) 1 = decide (a = 1#64) := iEqB a 1#64
  have e3 : iLt 1 (Int.ofNat nn) = true := by rw [hnn]; rfl
  refine t16_ok ?_
  rw [t16, low_loc]
  simp only [oe21_1, oe21_2, oe21_3, oe21_4, oe21_5, oe21_6, oe21_7, oe21_8, oe21_9, oe21_10, oe21_11, oe21_12, oe21_13, oe21_14, oe21_15, oe21_16, oe21_17, oe21_18, oe21_19, oe21_20, oe21_21, oe21_22, oe21_23, oe21_24, ol2_21, ol5_21, ol12_21, ol15_21, og21_8, og21_14, og21_20, gI_int, gB_bool, gS_str, gL_sl, gP_ptr, Option.bind_some, cond_true, cond_false, r0, r1, e3]
  refine c16_0_ok ?_
  rw [c16_0_eq]
  by_cases ha : a = 1#64
  · simp only [oe21_1, oe21_2, oe21_3, oe21_4, oe21_5, oe21_6, oe21_7, oe21_8, oe21_9, oe21_10, oe21_11, oe21_12, oe21_13, oe21_14, oe21_15, oe21_16, oe21_17, oe21_18, oe21_19, oe21_20, oe21_21, oe21_22, oe21_23, oe21_24, ol2_21, ol5_21, ol12_21, ol15_21, og21_8, og21_14, og21_20, gI_int, gB_bool, gS_str, gL_sl, gP_ptr, Option.bind_some, cond_true, cond_false, e1, decide_eq_true ha, if_pos ha, exitR_bool, exitR_int, exitR_ints, exitR_ii, exitR_ib]
  · simp only [oe21_1, oe21_2, oe21_3, oe21_4, oe21_5, oe21_6, oe21_7, oe21_8, oe21_9, oe21_10, oe21_11, oe21_12, oe21_13, oe21_14, oe21_15, oe21_16, oe21_17, oe21_18, oe21_19, oe21_20, oe21_21, oe21_22, oe21_23, oe21_24, ol2_21, ol5_21, ol12_21, ol15_21, og21_8, og21_14, og21_20, gI_int, gB_bool, gS_str, gL_sl, gP_ptr, Option.bind_some, cond_true, cond_false, r2, e1, decide_eq_false ha, if_neg ha, exitR_bool, exitR_int, exitR_ints, exitR_ii, exitR_ib]
theorem eval1 (op : Int) (ho : 22 ≤ op ∧ op ≤ 24) (a : BitVec 64) (hA : A = [a]) (h0 : W[0]? = some (w0 : Int)) :
    runS Tryd.prog (n + 70) 16 [.int .i64 op, .int .i64 w, .slice wa wn wc, .slice na nn nc, .int .u64 (U num)] h = some (.int .u64 (U ((if op = 23 then rsg w0 a else a) &&& M w)), h) := by
  subst hA
  have SA' : Sl (loc h []) na ((wds [a]).map fun n => .int .u64 n) := SA.loc H []
  have SW' : Sl (loc h []) wa (W.map fun n => .int .i64 n) := SW.loc H []
  have r0 : ∀ {ρ : Type} (K : Int → Option ρ), _ := fun {ρ} K => row0 (K := K) SA' hnn (x := U a) rfl
  have s0 : ∀ {ρ : Type} (K : Int → Option ρ), _ := fun {ρ} K => row0 (K := K) SW' hwn (x := (w0 : Int)) h0
  have hm : ∀ g : AH, runS Tryd.prog (n + 69) 14 [.int .i64 (w : Int)] g = some (.int .u64 (U (M w)), g) := fun g => rmask (n + 3) g (w : Int) (by omega) (by omega)
  have hsg := fun x => rsigned (n + 2) (loc h []) w0 hv1 hw0 x
  have e3 : iLt 1 (Int.ofNat nn) = false := by rw [hnn]; rfl
  refine t16_ok ?_
  rw [t16, low_loc]
  have : op = 22 ∨ op = 23 ∨ op = 24 := by omega
  rcases this with rfl | rfl | rfl
  all_goals
    simp only [oe22_1, oe22_2, oe22_3, oe22_4, oe22_5, oe22_6, oe22_7, oe22_8, oe22_9, oe22_10, oe22_11, oe22_12, oe22_13, oe22_14, oe22_15, oe22_16, oe22_17, oe22_18, oe22_19, oe22_20, oe22_21, oe22_22, oe22_23, oe22_24, ol2_22, ol5_22, ol12_22, ol15_22, og22_8, og22_14, og22_20, oe23_1, oe23_2, oe23_3, oe23_4, oe23_5, oe23_6, oe23_7, oe23_8, oe23_9, oe23_10, oe23_11, oe23_12, oe23_13, oe23_14, oe23_15, oe23_16, oe23_17, oe23_18, oe23_19, oe23_20, oe23_21, oe23_22, oe23_23, oe23_24, ol2_23, ol5_23, ol12_23, ol15_23, og23_8, og23_14, og23_20, oe24_1, oe24_2, oe24_3, oe24_4, oe24_5, oe24_6, oe24_7, oe24_8, oe24_9, oe24_10, oe24_11, oe24_12, oe24_13, oe24_14, oe24_15, oe24_16, oe24_17, oe24_18, oe24_19, oe24_20, oe24_21, oe24_22, oe24_23, oe24_24, ol2_24, ol5_24, ol12_24, ol15_24, og24_8, og24_14, og24_20, gI_int, gB_bool, gS_str, gL_sl, gP_ptr, Option.bind_some, cond_true, cond_false, r0, e3]
    refine c16_0_ok ?_
    rw [c16_0_eq]
    simp only [oe22_1, oe22_2, oe22_3, oe22_4, oe22_5, oe22_6, oe22_7, oe22_8, oe22_9, oe22_10, oe22_11, oe22_12, oe22_13, oe22_14, oe22_15, oe22_16, oe22_17, oe22_18, oe22_19, oe22_20, oe22_21, oe22_22, oe22_23, oe22_24, ol2_22, ol5_22, ol12_22, ol15_22, og22_8, og22_14, og22_20, oe23_1, oe23_2, oe23_3, oe23_4, oe23_5, oe23_6, oe23_7, oe23_8, oe23_9, oe23_10, oe23_11, oe23_12, oe23_13, oe23_14, oe23_15, oe23_16, oe23_17, oe23_18, oe23_19, oe23_20, oe23_21, oe23_22, oe23_23, oe23_24, ol2_23, ol5_23, ol12_23, ol15_23, og23_8, og23_14, og23_20, oe24_1, oe24_2, oe24_3, oe24_4, oe24_5, oe24_6, oe24_7, oe24_8, oe24_9, oe24_10, oe24_11, oe24_12, oe24_13, oe24_14, oe24_15, oe24_16, oe24_17, oe24_18, oe24_19, oe24_20, oe24_21, oe24_22, oe24_23, oe24_24, ol2_24, ol5_24, ol12_24, ol15_24, og24_8, og24_14, og24_20, gI_int, gB_bool, gS_str, gL_sl, gP_ptr, Option.bind_some, cond_true, cond_false, s0, hsg, hm, c_u64, i_and, exitR_bool, exitR_int, exitR_ints, exitR_ii, exitR_ib, Int.reduceEq, reduceIte]
end
end Go.Proofs.YtiadfnedbbkojaaDoor.Kb
