/- Joined texts: SD. -/
import Derived.Test.YtiadfnedbbkojaaDoorSC
namespace Go.Proofs.YtiadfnedbbkojaaDoor.Kb
open Go Go.Proofs Go.Proofs.YtiadfnedbbkojaaDoor.X Go.Proofs.YtiadfnedbbkojaaDoor.Bv
set_option linter.unusedSimpArgs false
set_option linter.unusedVariables false
theorem ld_le (w : Nat) (hw : w ≤ 64) (k : BitVec 64) : ld w k ≤ w := by
  unfold ld lz
  by_cases h : w = 64
  · omega
  · apply Decidable.byContradiction
    intro hc
    have h1 : lenN (~~~ (k <<< (64 - w))).toNat ≤ 63 - w := by omega
    have h2 := (lenN_lt _ _).1 h1
    have h3 : (~~~ (k <<< (64 - w))).getLsbD (63 - w) = true := by
      rw [BitVec.getLsbD_not, BitVec.getLsbD_shiftLeft]
      simp only [show 63 - w < 64 by omega, show 63 - w < 64 - w by omega, decide_true, Bool.not_true, Bool.and_false, Bool.false_and, Bool.not_false, Bool.true_and]
    rw [BitVec.getLsbD, Nat.testBit_lt_two_pow h2] at h3
    exact Bool.noConfusion h3
theorem vague (N : Nat) (hN : 10 ≤ N) (h : AH) (H : WF h) (T : Tab h) (op : Int) (w : Nat) (hw : w ≤ 64) (az ao : BitVec 64) : runS Tryd.prog N 31 [.int .i64 op, .int .i64 w, .agg #[.int .u64 (U az), .int .u64 (U ao)]] h =
    some (.agg #[.int .u64 (U (if op = 12 then M ((min (tz (~~~ az)) w : Nat)) else hi w (ld w az))), .int .u64 (U (if op = 12 then 0#64 else if op = 13 then 0#64 else hi w (ld w ao)))], h) := by
  obtain ⟨m, rfl, hm⟩ : ∃ m, N = m + 1 ∧ 9 ≤ m := ⟨N - 1, by omega, by omega⟩
  have htl : ∀ (g : AH), WF g → Tab g → ∀ z o : BitVec 64, runS Tryd.prog m 63 [.agg #[.int .u64 (U z), .int .u64 (U o)]] g = some (.int .i64 (tz (~~~ z) : Int), g) := fun g G G' z o => by
    obtain ⟨n, rfl⟩ : ∃ n, m = n + 2 := ⟨m - 2, by omega⟩
    exact tail n g G G' z o
  have hmk : ∀ (g : AH) (v : Int), runS Tryd.prog m 36 [.int .i64 v] g = some (.int .u64 (U (M v)), g) := fun g v => by
    obtain ⟨n, rfl⟩ : ∃ n, m = n + 1 := ⟨m - 1, by omega⟩
    exact mask n g v
  have hld : ∀ (g : AH) (k : BitVec 64), runS Tryd.prog m 28 [.int .i64 w, .int .u64 (U k)] g = some (.int .i64 (ld w k : Int), g) := fun g k => by
    obtain ⟨n, rfl⟩ : ∃ n, m = n + 3 := ⟨m - 3, by omega⟩
    exact lead n g w hw k
  have hhi : ∀ (g : AH) (k : BitVec 64), runS Tryd.prog m 27 [.int .i64 w, .int .i64 (ld w k : Int)] g = some (.int .u64 (U (hi w (ld w k))), g) := fun g k => by
    obtain ⟨n, rfl⟩ : ∃ n, m = n + 2 := ⟨m - 2, by omega⟩
    exact high n g w _ hw (ld_le w hw k)
  have T'' : ∀ bs, Tab (loc h bs) := fun bs => T.loc H bs
  have u0 : (0 : Int) = U 0#64 := rfl
  refine t31_ok ?_
  rw [t31]
  by_cases h1 : op = 12
  · rw [if_pos h1, if_pos h1, h1, show iEq 12 12 = true from rfl]
    simp only [low_loc h, setLow_low, setLow_next, setLow_set, setLow_loc, setLow_self, hNew_loc, loc_next, loc_low, Nat.beq_refl, add_lit, List.nil_append, List.cons_append, List.length_cons, List.length_nil, Nat.zero_add, Nat.add_zero, Nat.reduceAdd, lrd H, lrd0 H, lst H, lst0 H, List.getElem?_cons_zero, List.getElem?_cons_succ, putAt0, putAt1, List.drop_succ_cons, List.drop_zero, List.drop_nil, List.set_cons_zero, List.set_cons_succ, List.append_nil, ble_self, ble12, gI_int, gB_bool, gS_str, gL_sl, gP_ptr, bindS, cond_true, cond_false, htl _ (loc_wf H _) (T'' _), iMin_nat, hmk]
    simp only [low_loc h, setLow_low, setLow_next, setLow_set, setLow_loc, setLow_self, hNew_loc, loc_next, loc_low, Nat.beq_refl, add_lit, List.nil_append, List.cons_append, List.length_cons, List.length_nil, Nat.zero_add, Nat.add_zero, Nat.reduceAdd, lrd H, lrd0 H, lst H, lst0 H, List.getElem?_cons_zero, List.getElem?_cons_succ, putAt0, putAt1, List.drop_succ_cons, List.drop_zero, List.drop_nil, List.set_cons_zero, List.set_cons_succ, List.append_nil, ble_self, ble12, gI_int, gB_bool, gS_str, gL_sl, gP_ptr, bindS, cond_true, cond_false, exitR_bool, exitR_int, exitR_ints, exitR_ii, exitR_ib]
    rfl
  · rw [if_neg h1, if_neg h1, show iEq op 12 = false from decide_eq_false h1]
    by_cases h2 : op = 13
    · rw [if_pos h2, h2, show iEq 13 13 = true from rfl]
      simp only [low_loc h, setLow_low, setLow_next, setLow_set, setLow_loc, setLow_self, hNew_loc, loc_next, loc_low, Nat.beq_refl, add_lit, List.nil_append, List.cons_append, List.length_cons, List.length_nil, Nat.zero_add, Nat.add_zero, Nat.reduceAdd, lrd H, lrd0 H, lst H, lst0 H, List.getElem?_cons_zero, List.getElem?_cons_succ, putAt0, putAt1, List.drop_succ_cons, List.drop_zero, List.drop_nil, List.set_cons_zero, List.set_cons_succ, List.append_nil, ble_self, ble12, gI_int, gB_bool, gS_str, gL_sl, gP_ptr, bindS, cond_true, cond_false, hld, hhi]
      simp only [low_loc h, setLow_low, setLow_next, setLow_set, setLow_loc, setLow_self, hNew_loc, loc_next, loc_low, Nat.beq_refl, add_lit, List.nil_append, List.cons_append, List.length_cons, List.length_nil, Nat.zero_add, Nat.add_zero, Nat.reduceAdd, lrd H, lrd0 H, lst H, lst0 H, List.getElem?_cons_zero, List.getElem?_cons_succ, putAt0, putAt1, List.drop_succ_cons, List.drop_zero, List.drop_nil, List.set_cons_zero, List.set_cons_succ, List.append_nil, ble_self, ble12, gI_int, gB_bool, gS_str, gL_sl, gP_ptr, bindS, cond_true, cond_false, exitR_bool, exitR_int, exitR_ints, exitR_ii, exitR_ib]
      rfl
    · rw [if_neg h2, show iEq op 13 = false from decide_eq_false h2]
      simp only [low_loc h, setLow_low, setLow_next, setLow_set, setLow_loc, setLow_self, hNew_loc, loc_next, loc_low, Nat.beq_refl, add_lit, List.nil_append, List.cons_append, List.length_cons, List.length_nil, Nat.zero_add, Nat.add_zero, Nat.reduceAdd, lrd H, lrd0 H, lst H, lst0 H, List.getElem?_cons_zero, List.getElem?_cons_succ, putAt0, putAt1, List.drop_succ_cons, List.drop_zero, List.drop_nil, List.set_cons_zero, List.set_cons_succ, List.append_nil, ble_self, ble12, gI_int, gB_bool, gS_str, gL_sl, gP_ptr, bindS, cond_true, cond_false, hld, hhi]
      simp only [low_loc h, setLow_low, setLow_next, setLow_set, setLow_loc, setLow_self, hNew_loc, loc_next, loc_low, Nat.beq_refl, add_lit, List.nil_append, List.cons_append, List.length_cons, List.length_nil, Nat.zero_add, Nat.add_zero, Nat.reduceAdd, lrd H, lrd0 H, lst H, lst0 H, List.getElem?_cons_zero, List.getElem?_cons_succ, putAt0, putAt1, List.drop_succ_cons, List.drop_zero, List.drop_nil, List.set_cons_zero, List.set_cons_succ, List.append_nil, ble_self, ble12, gI_int, gB_bool, gS_str, gL_sl, gP_ptr, bindS, cond_true, cond_false, exitR_bool, exitR_int, exitR_ints, exitR_ii, exitR_ib]
end Go.Proofs.YtiadfnedbbkojaaDoor.Kb
namespace Go.Proofs.YtiadfnedbbkojaaDoor.Kb
open Go Go.Proofs Go.Proofs.YtiadfnedbbkojaaDoor.X Go.Proofs.YtiadfnedbbkojaaDoor.Bv
set_option linter.unusedSimpArgs false
set_option linter.unusedVariables false
theorem i_ne0 (x : BitVec 64) : iNe (U x) 0 = !(x == 0#64) := i_ne' x 0#64
theorem cv_i64 (n : Nat) (h : n < 2 ^ 63) : iConv .i64 (n : Int) = n := by
  have h1 : (n : Int) = U (BitVec.ofNat 64 n) := by
    unfold U
    rw [BitVec.toNat_ofNat, Nat.mod_eq_of_lt (by omega)]
  rw [h1, c_i64]
  unfold S U
  rw [BitVec.toInt_eq_toNat_cond, BitVec.toNat_ofNat, Nat.mod_eq_of_lt (by omega), if_pos (by omega)]
theorem cv_u64 (n : Nat) (h : n < 2 ^ 63) : iConv .u64 (n : Int) = n := by
  have h1 : (n : Int) = S (BitVec.ofNat 64 n) := by
    unfold S
    rw [BitVec.toInt_eq_toNat_cond, BitVec.toNat_ofNat, Nat.mod_eq_of_lt (by omega), if_pos (by omega)]
  rw [h1, c_u64]
  unfold S U
  rw [BitVec.toInt_eq_toNat_cond, BitVec.toNat_ofNat, Nat.mod_eq_of_lt (by omega), if_pos (by omega)]
def orHi (w s : Nat) (sg a x : BitVec 64) : BitVec 64 := cond (!(a &&& sg == 0#64)) (x ||| hi w s) x
theorem sh30 (m : Nat) (hm : 9 ≤ m) (h : AH) (H : WF h) (w s : Nat) (hw : w ≤ 64) (hs : s ≤ w) (az ao sg z o : BitVec 64) :
    c30_0 m h w s ⟨h.next, 0, none⟩ ⟨h.next + 1, 0, none⟩ (U sg) ⟨h.next + 2, 0, none⟩ (loc h [[.int .u64 (U az), .int .u64 (U ao)], [.int .u64 0, .int .u64 0], [.int .u64 (U z), .int .u64 (U o)]]) =
      some (.agg #[.int .u64 (U z), .int .u64 (U (orHi w s sg ao o))], h) := by
  have hhi : ∀ (g : AH), runS Tryd.prog m 27 [.int .i64 w, .int .i64 s] g = some (.int .u64 (U (hi w s)), g) := fun g => by
    obtain ⟨n, rfl⟩ : ∃ n, m = n + 2 := ⟨m - 2, by omega⟩
    exact high n g w _ hw hs
  refine c30_0_ok ?_
  rw [c30_0_eq, cv_i64 s (by omega)]
  simp only [low_loc h, setLow_low, setLow_next, setLow_set, setLow_loc, setLow_self, hNew_loc, loc_next, loc_low, Nat.beq_refl, add_lit, List.nil_append, List.cons_append, List.length_cons, List.length_nil, Nat.zero_add, Nat.add_zero, Nat.reduceAdd, lrd H, lrd0 H, lst H, lst0 H, List.getElem?_cons_zero, List.getElem?_cons_succ, putAt0, putAt1, List.drop_succ_cons, List.drop_zero, List.drop_nil, List.set_cons_zero, List.set_cons_succ, List.append_nil, ble_self, ble12, gI_int, gB_bool, gS_str, gL_sl, gP_ptr, bindS, cond_true, cond_false, i_and, i_or, i_xor, i_andNot, i_not, i_add, i_sub, i_mulS, i_neg, i_eq, i_ne', i_lt, i_le, i_ne0]
  cases hc : (!(ao &&& sg == 0#64)) with
  | true =>
    rw [show orHi w s sg ao o = o ||| hi w s by unfold orHi; rw [hc, cond_true]]
    simp only [low_loc h, setLow_low, setLow_next, setLow_set, setLow_loc, setLow_self, hNew_loc, loc_next, loc_low, Nat.beq_refl, add_lit, List.nil_append, List.cons_append, List.length_cons, List.length_nil, Nat.zero_add, Nat.add_zero, Nat.reduceAdd, lrd H, lrd0 H, lst H, lst0 H, List.getElem?_cons_zero, List.getElem?_cons_succ, putAt0, putAt1, List.drop_succ_cons, List.drop_zero, List.drop_nil, List.set_cons_zero, List.set_cons_succ, List.append_nil, ble_self, ble12, gI_int, gB_bool, gS_str, gL_sl, gP_ptr, bindS, cond_true, cond_false, i_and, i_or, i_xor, i_andNot, i_not, i_add, i_sub, i_mulS, i_neg, i_eq, i_ne', i_lt, i_le, hhi]
    simp only [low_loc h, setLow_low, setLow_next, setLow_set, setLow_loc, setLow_self, hNew_loc, loc_next, loc_low, Nat.beq_refl, add_lit, List.nil_append, List.cons_append, List.length_cons, List.length_nil, Nat.zero_add, Nat.add_zero, Nat.reduceAdd, lrd H, lrd0 H, lst H, lst0 H, List.getElem?_cons_zero, List.getElem?_cons_succ, putAt0, putAt1, List.drop_succ_cons, List.drop_zero, List.drop_nil, List.set_cons_zero, List.set_cons_succ, List.append_nil, ble_self, ble12, gI_int, gB_bool, gS_str, gL_sl, gP_ptr, bindS, cond_true, cond_false, i_and, i_or, i_xor, i_andNot, i_not, i_add, i_sub, i_mulS, i_neg, i_eq, i_ne', i_lt, i_le, exitR_bool, exitR_int, exitR_ints, exitR_ii, exitR_ib]
  | false =>
    rw [show orHi w s sg ao o = o by unfold orHi; rw [hc, cond_false]]
    simp only [low_loc h, setLow_low, setLow_next, setLow_set, setLow_loc, setLow_self, hNew_loc, loc_next, loc_low, Nat.beq_refl, add_lit, List.nil_append, List.cons_append, List.length_cons, List.length_nil, Nat.zero_add, Nat.add_zero, Nat.reduceAdd, lrd H, lrd0 H, lst H, lst0 H, List.getElem?_cons_zero, List.getElem?_cons_succ, putAt0, putAt1, List.drop_succ_cons, List.drop_zero, List.drop_nil, List.set_cons_zero, List.set_cons_succ, List.append_nil, ble_self, ble12, gI_int, gB_bool, gS_str, gL_sl, gP_ptr, bindS, cond_true, cond_false, i_and, i_or, i_xor, i_andNot, i_not, i_add, i_sub, i_mulS, i_neg, i_eq, i_ne', i_lt, i_le, exitR_bool, exitR_int, exitR_ints, exitR_ii, exitR_ib]
end Go.Proofs.YtiadfnedbbkojaaDoor.Kb
namespace Go.Proofs.YtiadfnedbbkojaaDoor.Kb
open Go Go.Proofs Go.Proofs.YtiadfnedbbkojaaDoor.X Go.Proofs.YtiadfnedbbkojaaDoor.Bv
set_option linter.unusedSimpArgs false
set_option linter.unusedVariables false
theorem shr_nat (x : BitVec 64) (i : Nat) : iShr .u64 (U x) i = U (x >>> i) := i_shr x i (by omega)
theorem shl_nat (x : BitVec 64) (i : Nat) : iShl .u64 (U x) i = U (x <<< i) := i_shl x i (by omega)
theorem shl_one (i : Nat) : iShl .u64 1 i = U (1#64 <<< i) := shl_nat 1#64 i
def shIZ (op : Int) (w : Nat) (az : BitVec 64) (b : Nat) : BitVec 64 := if op = 14 then orHi w (min b (w - 1)) (1#64 <<< (w - 1)) az (az >>> (min b (w - 1))) else if w ≤ b then M w else if op = 12 then ((az <<< b) ||| M b) &&& M w else (az >>> b) ||| hi w b
def shIO (op : Int) (w : Nat) (ao : BitVec 64) (b : Nat) : BitVec 64 := if op = 14 then orHi w (min b (w - 1)) (1#64 <<< (w - 1)) ao (ao >>> (min b (w - 1))) else if w ≤ b then 0#64 else if op = 12 then (ao <<< b) &&& M w else ao >>> b
theorem shifted (N : Nat) (hN : 12 ≤ N) (h : AH) (H : WF h) (op : Int) (w b : Nat) (hw1 : 1 ≤ w) (hw : w ≤ 64) (az ao : BitVec 64) : runS Tryd.prog N 30 [.int .i64 op, .int .i64 w, .agg #[.int .u64 (U az), .int .u64 (U ao)], .int .u64 b] h =
    some (.agg #[.int .u64 (U (shIZ op w az b)), .int .u64 (U (shIO op w ao b))], h) := by
  obtain ⟨m, rfl, hm⟩ : ∃ m, N = m + 1 ∧ 9 ≤ m := ⟨N - 1, by omega, by omega⟩
  have hmk : ∀ (g : AH) (v : Int), runS Tryd.prog m 36 [.int .i64 v] g = some (.int .u64 (U (M v)), g) := fun g v => by
    obtain ⟨n, rfl⟩ : ∃ n, m = n + 1 := ⟨m - 1, by omega⟩
    exact mask n g v
  have hhi : ∀ (g : AH) (s : Nat), s ≤ w → runS Tryd.prog m 27 [.int .i64 w, .int .i64 s] g = some (.int .u64 (U (hi w s)), g) := fun g s hs => by
    obtain ⟨n, rfl⟩ : ∃ n, m = n + 2 := ⟨m - 2, by omega⟩
    exact high n g w _ hw hs
  refine t30_ok ?_
  rw [t30, iSub_i64 (by omega) (by omega), show (w : Int) - 1 = ((w - 1 : Nat) : Int) by omega, cv_u64 (w - 1) (by omega), cv_u64 w (by omega), iMin_nat]
  have hs : min b (w - 1) ≤ w := by omega
  generalize hsd : min b (w - 1) = s
  rw [hsd] at hs
  rw [cv_i64 s (by omega), iLt_false (by omega), iLt_false (y := 0) (x := (s : Int)) (by omega), iLt_false (y := 0) (x := (b : Int)) (by omega)]
  simp only [low_loc h, setLow_low, setLow_next, setLow_set, setLow_loc, setLow_self, hNew_loc, loc_next, loc_low, Nat.beq_refl, add_lit, List.nil_append, List.cons_append, List.length_cons, List.length_nil, Nat.zero_add, Nat.add_zero, Nat.reduceAdd, lrd H, lrd0 H, lst H, lst0 H, List.getElem?_cons_zero, List.getElem?_cons_succ, putAt0, putAt1, List.drop_succ_cons, List.drop_zero, List.drop_nil, List.set_cons_zero, List.set_cons_succ, List.append_nil, ble_self, ble12, gI_int, gB_bool, gS_str, gL_sl, gP_ptr, bindS, cond_true, cond_false, hmk]
  unfold shIZ shIO
  by_cases h1 : op = 14
  · rw [if_pos h1, if_pos h1, h1, show iEq 14 14 = true from rfl, hsd]
    simp only [low_loc h, setLow_low, setLow_next, setLow_set, setLow_loc, setLow_self, hNew_loc, loc_next, loc_low, Nat.beq_refl, add_lit, List.nil_append, List.cons_append, List.length_cons, List.length_nil, Nat.zero_add, Nat.add_zero, Nat.reduceAdd, lrd H, lrd0 H, lst H, lst0 H, List.getElem?_cons_zero, List.getElem?_cons_succ, putAt0, putAt1, List.drop_succ_cons, List.drop_zero, List.drop_nil, List.set_cons_zero, List.set_cons_succ, List.append_nil, ble_self, ble12, gI_int, gB_bool, gS_str, gL_sl, gP_ptr, bindS, cond_true, cond_false, i_and, i_or, i_xor, i_andNot, i_not, i_add, i_sub, i_mulS, i_neg, i_eq, i_ne', i_lt, i_le, shr_nat, shl_one, i_ne0]
    generalize 1#64 <<< (w - 1) = sg
    generalize az >>> s = z
    generalize ao >>> s = o
    cases hc : (!(az &&& sg == 0#64)) with
    | true =>
      rw [show orHi w s sg az z = z ||| hi w s by unfold orHi; rw [hc, cond_true]]
      simp only [low_loc h, setLow_low, setLow_next, setLow_set, setLow_loc, setLow_self, hNew_loc, loc_next, loc_low, Nat.beq_refl, add_lit, List.nil_append, List.cons_append, List.length_cons, List.length_nil, Nat.zero_add, Nat.add_zero, Nat.reduceAdd, lrd H, lrd0 H, lst H, lst0 H, List.getElem?_cons_zero, List.getElem?_cons_succ, putAt0, putAt1, List.drop_succ_cons, List.drop_zero, List.drop_nil, List.set_cons_zero, List.set_cons_succ, List.append_nil, ble_self, ble12, gI_int, gB_bool, gS_str, gL_sl, gP_ptr, bindS, cond_true, cond_false, i_and, i_or, i_xor, i_andNot, i_not, i_add, i_sub, i_mulS, i_neg, i_eq, i_ne', i_lt, i_le, hhi _ s hs]
      simp only [low_loc h, setLow_low, setLow_next, setLow_set, setLow_loc, setLow_self, hNew_loc, loc_next, loc_low, Nat.beq_refl, add_lit, List.nil_append, List.cons_append, List.length_cons, List.length_nil, Nat.zero_add, Nat.add_zero, Nat.reduceAdd, lrd H, lrd0 H, lst H, lst0 H, List.getElem?_cons_zero, List.getElem?_cons_succ, putAt0, putAt1, List.drop_succ_cons, List.drop_zero, List.drop_nil, List.set_cons_zero, List.set_cons_succ, List.append_nil, ble_self, ble12, gI_int, gB_bool, gS_str, gL_sl, gP_ptr, bindS, cond_true, cond_false, i_and, i_or, i_xor, i_andNot, i_not, i_add, i_sub, i_mulS, i_neg, i_eq, i_ne', i_lt, i_le, sh30 m hm h H w s hw hs]
    | false =>
      rw [show orHi w s sg az z = z by unfold orHi; rw [hc, cond_false]]
      simp only [low_loc h, setLow_low, setLow_next, setLow_set, setLow_loc, setLow_self, hNew_loc, loc_next, loc_low, Nat.beq_refl, add_lit, List.nil_append, List.cons_append, List.length_cons, List.length_nil, Nat.zero_add, Nat.add_zero, Nat.reduceAdd, lrd H, lrd0 H, lst H, lst0 H, List.getElem?_cons_zero, List.getElem?_cons_succ, putAt0, putAt1, List.drop_succ_cons, List.drop_zero, List.drop_nil, List.set_cons_zero, List.set_cons_succ, List.append_nil, ble_self, ble12, gI_int, gB_bool, gS_str, gL_sl, gP_ptr, bindS, cond_true, cond_false, i_and, i_or, i_xor, i_andNot, i_not, i_add, i_sub, i_mulS, i_neg, i_eq, i_ne', i_lt, i_le, sh30 m hm h H w s hw hs]
  · rw [if_neg h1, if_neg h1, show iEq op 14 = false from decide_eq_false h1]
    by_cases h2 : w ≤ b
    · rw [if_pos h2, if_pos h2, iLe_true (by omega)]
      simp only [low_loc h, setLow_low, setLow_next, setLow_set, setLow_loc, setLow_self, hNew_loc, loc_next, loc_low, Nat.beq_refl, add_lit, List.nil_append, List.cons_append, List.length_cons, List.length_nil, Nat.zero_add, Nat.add_zero, Nat.reduceAdd, lrd H, lrd0 H, lst H, lst0 H, List.getElem?_cons_zero, List.getElem?_cons_succ, putAt0, putAt1, List.drop_succ_cons, List.drop_zero, List.drop_nil, List.set_cons_zero, List.set_cons_succ, List.append_nil, ble_self, ble12, gI_int, gB_bool, gS_str, gL_sl, gP_ptr, bindS, cond_true, cond_false, i_and, i_or, i_xor, i_andNot, i_not, i_add, i_sub, i_mulS, i_neg, i_eq, i_ne', i_lt, i_le, exitR_bool, exitR_int, exitR_ints, exitR_ii, exitR_ib]
      rfl
    · rw [if_neg h2, if_neg h2, iLe_false (by omega), cv_i64 b (by omega)]
      by_cases h3 : op = 12
      · rw [if_pos h3, if_pos h3, h3, show iEq 12 12 = true from rfl]
        simp only [low_loc h, setLow_low, setLow_next, setLow_set, setLow_loc, setLow_self, hNew_loc, loc_next, loc_low, Nat.beq_refl, add_lit, List.nil_append, List.cons_append, List.length_cons, List.length_nil, Nat.zero_add, Nat.add_zero, Nat.reduceAdd, lrd H, lrd0 H, lst H, lst0 H, List.getElem?_cons_zero, List.getElem?_cons_succ, putAt0, putAt1, List.drop_succ_cons, List.drop_zero, List.drop_nil, List.set_cons_zero, List.set_cons_succ, List.append_nil, ble_self, ble12, gI_int, gB_bool, gS_str, gL_sl, gP_ptr, bindS, cond_true, cond_false, i_and, i_or, i_xor, i_andNot, i_not, i_add, i_sub, i_mulS, i_neg, i_eq, i_ne', i_lt, i_le, hmk, shl_nat]
        simp only [low_loc h, setLow_low, setLow_next, setLow_set, setLow_loc, setLow_self, hNew_loc, loc_next, loc_low, Nat.beq_refl, add_lit, List.nil_append, List.cons_append, List.length_cons, List.length_nil, Nat.zero_add, Nat.add_zero, Nat.reduceAdd, lrd H, lrd0 H, lst H, lst0 H, List.getElem?_cons_zero, List.getElem?_cons_succ, putAt0, putAt1, List.drop_succ_cons, List.drop_zero, List.drop_nil, List.set_cons_zero, List.set_cons_succ, List.append_nil, ble_self, ble12, gI_int, gB_bool, gS_str, gL_sl, gP_ptr, bindS, cond_true, cond_false, i_and, i_or, i_xor, i_andNot, i_not, i_add, i_sub, i_mulS, i_neg, i_eq, i_ne', i_lt, i_le, exitR_bool, exitR_int, exitR_ints, exitR_ii, exitR_ib]
      · rw [if_neg h3, if_neg h3, show iEq op 12 = false from decide_eq_false h3]
        simp only [low_loc h, setLow_low, setLow_next, setLow_set, setLow_loc, setLow_self, hNew_loc, loc_next, loc_low, Nat.beq_refl, add_lit, List.nil_append, List.cons_append, List.length_cons, List.length_nil, Nat.zero_add, Nat.add_zero, Nat.reduceAdd, lrd H, lrd0 H, lst H, lst0 H, List.getElem?_cons_zero, List.getElem?_cons_succ, putAt0, putAt1, List.drop_succ_cons, List.drop_zero, List.drop_nil, List.set_cons_zero, List.set_cons_succ, List.append_nil, ble_self, ble12, gI_int, gB_bool, gS_str, gL_sl, gP_ptr, bindS, cond_true, cond_false, i_and, i_or, i_xor, i_andNot, i_not, i_add, i_sub, i_mulS, i_neg, i_eq, i_ne', i_lt, i_le, hhi _ b (by omega), shr_nat]
        simp only [low_loc h, setLow_low, setLow_next, setLow_set, setLow_loc, setLow_self, hNew_loc, loc_next, loc_low, Nat.beq_refl, add_lit, List.nil_append, List.cons_append, List.length_cons, List.length_nil, Nat.zero_add, Nat.add_zero, Nat.reduceAdd, lrd H, lrd0 H, lst H, lst0 H, List.getElem?_cons_zero, List.getElem?_cons_succ, putAt0, putAt1, List.drop_succ_cons, List.drop_zero, List.drop_nil, List.set_cons_zero, List.set_cons_succ, List.append_nil, ble_self, ble12, gI_int, gB_bool, gS_str, gL_sl, gP_ptr, bindS, cond_true, cond_false, i_and, i_or, i_xor, i_andNot, i_not, i_add, i_sub, i_mulS, i_neg, i_eq, i_ne', i_lt, i_le, exitR_bool, exitR_int, exitR_ints, exitR_ii, exitR_ib]
end Go.Proofs.YtiadfnedbbkojaaDoor.Kb
namespace Go.Proofs.YtiadfnedbbkojaaDoor.Kb
open Go Go.Proofs Go.Proofs.YtiadfnedbbkojaaDoor.X Go.Proofs.YtiadfnedbbkojaaDoor.Bv
set_option linter.unusedSimpArgs false
set_option linter.unusedVariables false
def b1 (b : Bool) : BitVec 64 := cond b 1#64 0#64
def lsZ (w : Nat) (ao bz : BitVec 64) (eq : Bool) : Bool := cond (decide (M w &&& ~~~bz < ao)) true (cond (!eq) (ao == M w &&& ~~~bz) false)
def lsO (w : Nat) (az bo : BitVec 64) (eq : Bool) : Bool := cond (decide (M w &&& ~~~az < bo)) true (cond eq (M w &&& ~~~az == bo) false)
theorem less0 (m : Nat) (hm : 9 ≤ m) (h : AH) (H : WF h) (w : Nat) (eq yes : Bool) (az ao bz bo : BitVec 64) :
    c33_0 m h w eq ⟨h.next, 0, none⟩ ⟨h.next + 1, 0, none⟩ ⟨h.next + 2, 0, none⟩ yes (loc h [[.int .u64 (U az), .int .u64 (U ao)], [.int .u64 (U bz), .int .u64 (U bo)], [.int .u64 0, .int .u64 0]]) =
      some (.agg #[.int .u64 (U (b1 (lsZ w ao bz eq))), .int .u64 (U (b1 yes))], h) := by
  have hmo : ∀ (g : AH), WF g → ∀ z o : BitVec 64, runS Tryd.prog m 66 [.int .i64 w, .agg #[.int .u64 (U z), .int .u64 (U o)]] g = some (.int .u64 (U (M w &&& ~~~ z)), g) := fun g G z o => by
    obtain ⟨n, rfl⟩ : ∃ n, m = n + 2 := ⟨m - 2, by omega⟩
    exact most n g G w z o
  have hle : ∀ (g : AH), WF g → ∀ z o : BitVec 64, runS Tryd.prog m 67 [.agg #[.int .u64 (U z), .int .u64 (U o)]] g = some (.int .u64 (U o), g) := fun g G z o => by
    obtain ⟨n, rfl⟩ : ∃ n, m = n + 1 := ⟨m - 1, by omega⟩
    exact least n g G z o
  have h1 : ∀ (g : AH) (b : Bool), runS Tryd.prog m 32 [.bool b] g = some (.int .u64 (U (b1 b)), g) := fun g b => by
    obtain ⟨n, rfl⟩ : ∃ n, m = n + 1 := ⟨m - 1, by omega⟩
    exact one n g b
  have G1 : ∀ bs, WF (loc h bs) := fun bs => loc_wf H bs
  have G2 : ∀ bs x, WF (setLow (loc h bs) x) := fun bs x => wf_low (loc_wf H bs) x
  refine c33_0_ok ?_
  rw [c33_0_eq]
  simp only [low_loc h, setLow_low, setLow_next, setLow_set, setLow_loc, setLow_self, hNew_loc, loc_next, loc_low, Nat.beq_refl, add_lit, List.nil_append, List.cons_append, List.length_cons, List.length_nil, Nat.zero_add, Nat.add_zero, Nat.reduceAdd, lrd H, lrd0 H, lst H, lst0 H, List.getElem?_cons_zero, List.getElem?_cons_succ, putAt0, putAt1, List.drop_succ_cons, List.drop_zero, List.drop_nil, List.set_cons_zero, List.set_cons_succ, List.append_nil, ble_self, ble12, gI_int, gB_bool, gS_str, gL_sl, gP_ptr, bindS, cond_true, cond_false, hle _ (G2 _ _), hmo _ (G2 _ _), i_lt]
  generalize hmm : M w &&& ~~~bz = mb
  unfold lsZ
  rw [hmm]
  cases decide (mb < ao) with
  | true =>
    simp only [low_loc h, setLow_low, setLow_next, setLow_set, setLow_loc, setLow_self, hNew_loc, loc_next, loc_low, Nat.beq_refl, add_lit, List.nil_append, List.cons_append, List.length_cons, List.length_nil, Nat.zero_add, Nat.add_zero, Nat.reduceAdd, lrd H, lrd0 H, lst H, lst0 H, List.getElem?_cons_zero, List.getElem?_cons_succ, putAt0, putAt1, List.drop_succ_cons, List.drop_zero, List.drop_nil, List.set_cons_zero, List.set_cons_succ, List.append_nil, ble_self, ble12, gI_int, gB_bool, gS_str, gL_sl, gP_ptr, bindS, cond_true, cond_false, h1]
    simp only [low_loc h, setLow_low, setLow_next, setLow_set, setLow_loc, setLow_self, hNew_loc, loc_next, loc_low, Nat.beq_refl, add_lit, List.nil_append, List.cons_append, List.length_cons, List.length_nil, Nat.zero_add, Nat.add_zero, Nat.reduceAdd, lrd H, lrd0 H, lst H, lst0 H, List.getElem?_cons_zero, List.getElem?_cons_succ, putAt0, putAt1, List.drop_succ_cons, List.drop_zero, List.drop_nil, List.set_cons_zero, List.set_cons_succ, List.append_nil, ble_self, ble12, gI_int, gB_bool, gS_str, gL_sl, gP_ptr, bindS, cond_true, cond_false, exitR_bool, exitR_int, exitR_ints, exitR_ii, exitR_ib]
  | false =>
    cases eq with
    | false =>
      simp only [low_loc h, setLow_low, setLow_next, setLow_set, setLow_loc, setLow_self, hNew_loc, loc_next, loc_low, Nat.beq_refl, add_lit, List.nil_append, List.cons_append, List.length_cons, List.length_nil, Nat.zero_add, Nat.add_zero, Nat.reduceAdd, lrd H, lrd0 H, lst H, lst0 H, List.getElem?_cons_zero, List.getElem?_cons_succ, putAt0, putAt1, List.drop_succ_cons, List.drop_zero, List.drop_nil, List.set_cons_zero, List.set_cons_succ, List.append_nil, ble_self, ble12, gI_int, gB_bool, gS_str, gL_sl, gP_ptr, bindS, cond_true, cond_false, Bool.not_false, hle _ (G2 _ _), hmo _ (G1 _), hmm, i_eq, h1]
      simp only [low_loc h, setLow_low, setLow_next, setLow_set, setLow_loc, setLow_self, hNew_loc, loc_next, loc_low, Nat.beq_refl, add_lit, List.nil_append, List.cons_append, List.length_cons, List.length_nil, Nat.zero_add, Nat.add_zero, Nat.reduceAdd, lrd H, lrd0 H, lst H, lst0 H, List.getElem?_cons_zero, List.getElem?_cons_succ, putAt0, putAt1, List.drop_succ_cons, List.drop_zero, List.drop_nil, List.set_cons_zero, List.set_cons_succ, List.append_nil, ble_self, ble12, gI_int, gB_bool, gS_str, gL_sl, gP_ptr, bindS, cond_true, cond_false, exitR_bool, exitR_int, exitR_ints, exitR_ii, exitR_ib]
    | true =>
      simp only [low_loc h, setLow_low, setLow_next, setLow_set, setLow_loc, setLow_self, hNew_loc, loc_next, loc_low, Nat.beq_refl, add_lit, List.nil_append, List.cons_append, List.length_cons, List.length_nil, Nat.zero_add, Nat.add_zero, Nat.reduceAdd, lrd H, lrd0 H, lst H, lst0 H, List.getElem?_cons_zero, List.getElem?_cons_succ, putAt0, putAt1, List.drop_succ_cons, List.drop_zero, List.drop_nil, List.set_cons_zero, List.set_cons_succ, List.append_nil, ble_self, ble12, gI_int, gB_bool, gS_str, gL_sl, gP_ptr, bindS, cond_true, cond_false, Bool.not_true, h1]
      simp only [low_loc h, setLow_low, setLow_next, setLow_set, setLow_loc, setLow_self, hNew_loc, loc_next, loc_low, Nat.beq_refl, add_lit, List.nil_append, List.cons_append, List.length_cons, List.length_nil, Nat.zero_add, Nat.add_zero, Nat.reduceAdd, lrd H, lrd0 H, lst H, lst0 H, List.getElem?_cons_zero, List.getElem?_cons_succ, putAt0, putAt1, List.drop_succ_cons, List.drop_zero, List.drop_nil, List.set_cons_zero, List.set_cons_succ, List.append_nil, ble_self, ble12, gI_int, gB_bool, gS_str, gL_sl, gP_ptr, bindS, cond_true, cond_false, exitR_bool, exitR_int, exitR_ints, exitR_ii, exitR_ib]
theorem less (N : Nat) (hN : 12 ≤ N) (h : AH) (H : WF h) (w : Nat) (eq : Bool) (az ao bz bo : BitVec 64) : runS Tryd.prog N 33 [.int .i64 w, .agg #[.int .u64 (U az), .int .u64 (U ao)], .agg #[.int .u64 (U bz), .int .u64 (U bo)], .bool eq] h =
    some (.agg #[.int .u64 (U (b1 (lsZ w ao bz eq))), .int .u64 (U (b1 (lsO w az bo eq)))], h) := by
  obtain ⟨m, rfl, hm⟩ : ∃ m, N = m + 1 ∧ 9 ≤ m := ⟨N - 1, by omega, by omega⟩
  have hmo : ∀ (g : AH), WF g → ∀ z o : BitVec 64, runS Tryd.prog m 66 [.int .i64 w, .agg #[.int .u64 (U z), .int .u64 (U o)]] g = some (.int .u64 (U (M w &&& ~~~ z)), g) := fun g G z o => by
    obtain ⟨n, rfl⟩ : ∃ n, m = n + 2 := ⟨m - 2, by omega⟩
    exact most n g G w z o
  have hle : ∀ (g : AH), WF g → ∀ z o : BitVec 64, runS Tryd.prog m 67 [.agg #[.int .u64 (U z), .int .u64 (U o)]] g = some (.int .u64 (U o), g) := fun g G z o => by
    obtain ⟨n, rfl⟩ : ∃ n, m = n + 1 := ⟨m - 1, by omega⟩
    exact least n g G z o
  have G1 : ∀ bs, WF (loc h bs) := fun bs => loc_wf H bs
  have G2 : ∀ bs x, WF (setLow (loc h bs) x) := fun bs x => wf_low (loc_wf H bs) x
  refine t33_ok ?_
  rw [t33]
  simp only [low_loc h, setLow_low, setLow_next, setLow_set, setLow_loc, setLow_self, hNew_loc, loc_next, loc_low, Nat.beq_refl, add_lit, List.nil_append, List.cons_append, List.length_cons, List.length_nil, Nat.zero_add, Nat.add_zero, Nat.reduceAdd, lrd H, lrd0 H, lst H, lst0 H, List.getElem?_cons_zero, List.getElem?_cons_succ, putAt0, putAt1, List.drop_succ_cons, List.drop_zero, List.drop_nil, List.set_cons_zero, List.set_cons_succ, List.append_nil, ble_self, ble12, gI_int, gB_bool, gS_str, gL_sl, gP_ptr, bindS, cond_true, cond_false, hle _ (G2 _ _), hmo _ (G2 _ _), i_lt]
  generalize hmm : M w &&& ~~~az = ma
  unfold lsO
  rw [hmm]
  cases decide (ma < bo) with
  | true =>
    simp only [low_loc h, setLow_low, setLow_next, setLow_set, setLow_loc, setLow_self, hNew_loc, loc_next, loc_low, Nat.beq_refl, add_lit, List.nil_append, List.cons_append, List.length_cons, List.length_nil, Nat.zero_add, Nat.add_zero, Nat.reduceAdd, gI_int, gB_bool, gS_str, gL_sl, gP_ptr, bindS, cond_true, cond_false, less0 m hm h H w eq true az ao bz bo]
  | false =>
    cases eq with
    | false =>
      simp only [low_loc h, setLow_low, setLow_next, setLow_set, setLow_loc, setLow_self, hNew_loc, loc_next, loc_low, Nat.beq_refl, add_lit, List.nil_append, List.cons_append, List.length_cons, List.length_nil, Nat.zero_add, Nat.add_zero, Nat.reduceAdd, gI_int, gB_bool, gS_str, gL_sl, gP_ptr, bindS, cond_true, cond_false, less0 m hm h H w false false az ao bz bo]
    | true =>
      simp only [low_loc h, setLow_low, setLow_next, setLow_set, setLow_loc, setLow_self, hNew_loc, loc_next, loc_low, Nat.beq_refl, add_lit, List.nil_append, List.cons_append, List.length_cons, List.length_nil, Nat.zero_add, Nat.add_zero, Nat.reduceAdd, lrd H, lrd0 H, lst H, lst0 H, List.getElem?_cons_zero, List.getElem?_cons_succ, putAt0, putAt1, List.drop_succ_cons, List.drop_zero, List.drop_nil, List.set_cons_zero, List.set_cons_succ, List.append_nil, ble_self, ble12, gI_int, gB_bool, gS_str, gL_sl, gP_ptr, bindS, cond_true, cond_false, hle _ (G1 _), hmo _ (G2 _ _), hmm, i_eq]
      simp only [low_loc h, setLow_low, setLow_next, setLow_set, setLow_loc, setLow_self, hNew_loc, loc_next, loc_low, Nat.beq_refl, add_lit, List.nil_append, List.cons_append, List.length_cons, List.length_nil, Nat.zero_add, Nat.add_zero, Nat.reduceAdd, gI_int, gB_bool, gS_str, gL_sl, gP_ptr, bindS, cond_true, cond_false, less0 m hm h H w true _ az ao bz bo]
end Go.Proofs.YtiadfnedbbkojaaDoor.Kb
namespace Go.Proofs.YtiadfnedbbkojaaDoor.Kb
open Go Go.Proofs Go.Proofs.YtiadfnedbbkojaaDoor.X Go.Proofs.YtiadfnedbbkojaaDoor.Bv
set_option linter.unusedSimpArgs false
set_option linter.unusedVariables false
theorem iSub_one (x : BitVec 64) : iSub .u64 (U x) 1 = U (x - 1#64) := i_sub x 1#64
theorem rem0 (m : Nat) (hm : 9 ≤ m) (h : AH) (H : WF h) (w : Nat) (az ao bz bo z y : BitVec 64) :
    c29_0 m h w ⟨h.next, 0, none⟩ ⟨h.next + 2, 0, none⟩ ⟨h.next + 3, 0, none⟩ (U y) (loc h [[.int .u64 (U az), .int .u64 (U ao)], [.int .u64 (U bz), .int .u64 (U bo)], [.int .u64 0, .int .u64 0], [.int .u64 (U z), .int .u64 0]]) =
      some (.agg #[.int .u64 (U (z ||| ((M w &&& ~~~(y - 1#64)) ||| (az &&& (y - 1#64))))), .int .u64 (U (ao &&& (y - 1#64)))], h) := by
  have hmk : ∀ (g : AH) (v : Int), runS Tryd.prog m 36 [.int .i64 v] g = some (.int .u64 (U (M v)), g) := fun g v => by
    obtain ⟨n, rfl⟩ : ∃ n, m = n + 1 := ⟨m - 1, by omega⟩
    exact mask n g v
  refine c29_0_ok ?_
  rw [c29_0_eq, iSub_one]
  generalize y - 1#64 = y1
  simp only [low_loc h, setLow_low, setLow_next, setLow_set, setLow_loc, setLow_self, hNew_loc, loc_next, loc_low, Nat.beq_refl, add_lit, List.nil_append, List.cons_append, List.length_cons, List.length_nil, Nat.zero_add, Nat.add_zero, Nat.reduceAdd, lrd H, lrd0 H, lst H, lst0 H, List.getElem?_cons_zero, List.getElem?_cons_succ, putAt0, putAt1, List.drop_succ_cons, List.drop_zero, List.drop_nil, List.set_cons_zero, List.set_cons_succ, List.append_nil, ble_self, ble12, gI_int, gB_bool, gS_str, gL_sl, gP_ptr, bindS, cond_true, cond_false, i_and, i_or, i_xor, i_andNot, i_not, i_add, i_sub, i_mulS, i_neg, i_eq, i_ne', i_lt, i_le, hmk]
  simp only [low_loc h, setLow_low, setLow_next, setLow_set, setLow_loc, setLow_self, hNew_loc, loc_next, loc_low, Nat.beq_refl, add_lit, List.nil_append, List.cons_append, List.length_cons, List.length_nil, Nat.zero_add, Nat.add_zero, Nat.reduceAdd, lrd H, lrd0 H, lst H, lst0 H, List.getElem?_cons_zero, List.getElem?_cons_succ, putAt0, putAt1, List.drop_succ_cons, List.drop_zero, List.drop_nil, List.set_cons_zero, List.set_cons_succ, List.append_nil, ble_self, ble12, gI_int, gB_bool, gS_str, gL_sl, gP_ptr, bindS, cond_true, cond_false, i_and, i_or, i_xor, i_andNot, i_not, i_add, i_sub, i_mulS, i_neg, i_eq, i_ne', i_lt, i_le, exitR_bool, exitR_int, exitR_ints, exitR_ii, exitR_ib]
def rmZ (pc : BitVec 64 → Int) (w : Nat) (az bz bo : BitVec 64) : BitVec 64 := cond (exB w bz bo && decide (pc bo = 1)) (hi w (ld w az) ||| ((M w &&& ~~~(bo - 1#64)) ||| (az &&& (bo - 1#64)))) (hi w (ld w az))
def rmO (pc : BitVec 64 → Int) (w : Nat) (ao bz bo : BitVec 64) : BitVec 64 := cond (exB w bz bo && decide (pc bo = 1)) (ao &&& (bo - 1#64)) 0#64
theorem remainder (pc : BitVec 64 → Int) (m : Nat) (hm : 9 ≤ m) (hpc : ∀ (g : AH) (x : BitVec 64), runS Tryd.prog m 65 [.int .u64 (U x)] g = some (.int .i64 (pc x), g)) (h : AH) (H : WF h) (w : Nat) (hw : w ≤ 64) (az ao bz bo : BitVec 64) :
    runS Tryd.prog (m + 1) 29 [.int .i64 w, .agg #[.int .u64 (U az), .int .u64 (U ao)], .agg #[.int .u64 (U bz), .int .u64 (U bo)]] h =
    some (.agg #[.int .u64 (U (rmZ pc w az bz bo)), .int .u64 (U (rmO pc w ao bz bo))], h) := by
  have hld : ∀ (g : AH) (k : BitVec 64), runS Tryd.prog m 28 [.int .i64 w, .int .u64 (U k)] g = some (.int .i64 (ld w k : Int), g) := fun g k => by
    obtain ⟨n, rfl⟩ : ∃ n, m = n + 3 := ⟨m - 3, by omega⟩
    exact lead n g w hw k
  have hhi : ∀ (g : AH) (k : BitVec 64), runS Tryd.prog m 27 [.int .i64 w, .int .i64 (ld w k : Int)] g = some (.int .u64 (U (hi w (ld w k))), g) := fun g k => by
    obtain ⟨n, rfl⟩ : ∃ n, m = n + 2 := ⟨m - 2, by omega⟩
    exact high n g w _ hw (ld_le w hw k)
  have hex : ∀ (g : AH), WF g → runS Tryd.prog m 13 [.int .i64 w, .agg #[.int .u64 (U bz), .int .u64 (U bo)]] g = some (.tuple #[.int .u64 (U (cond (exB w bz bo) bo 0#64)), .bool (exB w bz bo)], g) := fun g G => by
    obtain ⟨n, rfl⟩ : ∃ n, m = n + 3 := ⟨m - 3, by omega⟩
    exact exact n g G w bz bo
  have G1 : ∀ bs, WF (loc h bs) := fun bs => loc_wf H bs
  refine t29_ok ?_
  rw [t29]
  simp only [low_loc h, setLow_low, setLow_next, setLow_set, setLow_loc, setLow_self, hNew_loc, loc_next, loc_low, Nat.beq_refl, add_lit, List.nil_append, List.cons_append, List.length_cons, List.length_nil, Nat.zero_add, Nat.add_zero, Nat.reduceAdd, lrd H, lrd0 H, lst H, lst0 H, List.getElem?_cons_zero, List.getElem?_cons_succ, putAt0, putAt1, List.drop_succ_cons, List.drop_zero, List.drop_nil, List.set_cons_zero, List.set_cons_succ, List.append_nil, ble_self, ble12, gI_int, gB_bool, gS_str, gL_sl, gP_ptr, bindS, cond_true, cond_false, hld, hhi, hex _ (G1 _)]
  unfold rmZ rmO
  generalize hi w (ld w az) = z
  cases exB w bz bo with
  | false =>
    simp only [low_loc h, setLow_low, setLow_next, setLow_set, setLow_loc, setLow_self, hNew_loc, loc_next, loc_low, Nat.beq_refl, add_lit, List.nil_append, List.cons_append, List.length_cons, List.length_nil, Nat.zero_add, Nat.add_zero, Nat.reduceAdd, lrd H, lrd0 H, lst H, lst0 H, List.getElem?_cons_zero, List.getElem?_cons_succ, putAt0, putAt1, List.drop_succ_cons, List.drop_zero, List.drop_nil, List.set_cons_zero, List.set_cons_succ, List.append_nil, ble_self, ble12, gI_int, gB_bool, gS_str, gL_sl, gP_ptr, bindS, cond_true, cond_false, tupIs2, tupC20, tupC21, aggIs2, aggC20, aggC21, Bool.false_and]
    simp only [low_loc h, setLow_low, setLow_next, setLow_set, setLow_loc, setLow_self, hNew_loc, loc_next, loc_low, Nat.beq_refl, add_lit, List.nil_append, List.cons_append, List.length_cons, List.length_nil, Nat.zero_add, Nat.add_zero, Nat.reduceAdd, lrd H, lrd0 H, lst H, lst0 H, List.getElem?_cons_zero, List.getElem?_cons_succ, putAt0, putAt1, List.drop_succ_cons, List.drop_zero, List.drop_nil, List.set_cons_zero, List.set_cons_succ, List.append_nil, ble_self, ble12, gI_int, gB_bool, gS_str, gL_sl, gP_ptr, bindS, cond_true, cond_false, exitR_bool, exitR_int, exitR_ints, exitR_ii, exitR_ib]
    rfl
  | true =>
    simp only [low_loc h, setLow_low, setLow_next, setLow_set, setLow_loc, setLow_self, hNew_loc, loc_next, loc_low, Nat.beq_refl, add_lit, List.nil_append, List.cons_append, List.length_cons, List.length_nil, Nat.zero_add, Nat.add_zero, Nat.reduceAdd, lrd H, lrd0 H, lst H, lst0 H, List.getElem?_cons_zero, List.getElem?_cons_succ, putAt0, putAt1, List.drop_succ_cons, List.drop_zero, List.drop_nil, List.set_cons_zero, List.set_cons_succ, List.append_nil, ble_self, ble12, gI_int, gB_bool, gS_str, gL_sl, gP_ptr, bindS, cond_true, cond_false, tupIs2, tupC20, tupC21, aggIs2, aggC20, aggC21, Bool.true_and, hpc, rem0 m hm h H w]
    by_cases h1 : pc bo = 1
    · rw [show iEq (pc bo) 1 = true from decide_eq_true h1, decide_eq_true h1]
      simp only [cond_true]
    · rw [show iEq (pc bo) 1 = false from decide_eq_false h1, decide_eq_false h1]
      simp only [low_loc h, setLow_low, setLow_next, setLow_set, setLow_loc, setLow_self, hNew_loc, loc_next, loc_low, Nat.beq_refl, add_lit, List.nil_append, List.cons_append, List.length_cons, List.length_nil, Nat.zero_add, Nat.add_zero, Nat.reduceAdd, lrd H, lrd0 H, lst H, lst0 H, List.getElem?_cons_zero, List.getElem?_cons_succ, putAt0, putAt1, List.drop_succ_cons, List.drop_zero, List.drop_nil, List.set_cons_zero, List.set_cons_succ, List.append_nil, ble_self, ble12, gI_int, gB_bool, gS_str, gL_sl, gP_ptr, bindS, cond_true, cond_false, exitR_bool, exitR_int, exitR_ints, exitR_ii, exitR_ib]
      rfl
end Go.Proofs.YtiadfnedbbkojaaDoor.Kb
namespace Go.Proofs.YtiadfnedbbkojaaDoor.Kb
open Go Go.Proofs Go.Proofs.YtiadfnedbbkojaaDoor.X Go.Proofs.YtiadfnedbbkojaaDoor.Bv
set_option linter.unusedSimpArgs false
set_option linter.unusedVariables false
def pcI (x : BitVec 64) : Int := (iAnd .i64 (iConv .i64 (iAdd .u64 (iAdd .u64 (iAdd .u64 (iAnd .u64 (iAdd .u64 (iShr .u64 (iAdd .u64 (iAnd .u64 (iShr .u64 (iAdd .u64 (iAnd .u64 (iShr .u64 (U x) 1) 6148914691236517205) (iAnd .u64 (U x) 6148914691236517205)) 2) 3689348814741910323) (iAnd .u64 (iAdd .u64 (iAnd .u64 (iShr .u64 (U x) 1) 6148914691236517205) (iAnd .u64 (U x) 6148914691236517205)) 3689348814741910323)) 4) (iAdd .u64 (iAnd .u64 (iShr .u64 (iAdd .u64 (iAnd .u64 (iShr .u64 (U x) 1) 6148914691236517205) (iAnd .u64 (U x) 6148914691236517205)) 2) 3689348814741910323) (iAnd .u64 (iAdd .u64 (iAnd .u64 (iShr .u64 (U x) 1) 6148914691236517205) (iAnd .u64 (U x) 6148914691236517205)) 3689348814741910323))) 1085102592571150095) (iShr .u64 (iAnd .u64 (iAdd .u64 (iShr .u64 (iAdd .u64 (iAnd .u64 (iShr .u64 (iAdd .u64 (iAnd .u64 (iShr .u64 (U x) 1) 6148914691236517205) (iAnd .u64 (U x) 6148914691236517205)) 2) 3689348814741910323) (iAnd .u64 (iAdd .u64 (iAnd .u64 (iShr .u64 (U x) 1) 6148914691236517205) (iAnd .u64 (U x) 6148914691236517205)) 3689348814741910323)) 4) (iAdd .u64 (iAnd .u64 (iShr .u64 (iAdd .u64 (iAnd .u64 (iShr .u64 (U x) 1) 6148914691236517205) (iAnd .u64 (U x) 6148914691236517205)) 2) 3689348814741910323) (iAnd .u64 (iAdd .u64 (iAnd .u64 (iShr .u64 (U x) 1) 6148914691236517205) (iAnd .u64 (U x) 6148914691236517205)) 3689348814741910323))) 1085102592571150095) 8)) (iShr .u64 (iAdd .u64 (iAnd .u64 (iAdd .u64 (iShr .u64 (iAdd .u64 (iAnd .u64 (iShr .u64 (iAdd .u64 (iAnd .u64 (iShr .u64 (U x) 1) 6148914691236517205) (iAnd .u64 (U x) 6148914691236517205)) 2) 3689348814741910323) (iAnd .u64 (iAdd .u64 (iAnd .u64 (iShr .u64 (U x) 1) 6148914691236517205) (iAnd .u64 (U x) 6148914691236517205)) 3689348814741910323)) 4) (iAdd .u64 (iAnd .u64 (iShr .u64 (iAdd .u64 (iAnd .u64 (iShr .u64 (U x) 1) 6148914691236517205) (iAnd .u64 (U x) 6148914691236517205)) 2) 3689348814741910323) (iAnd .u64 (iAdd .u64 (iAnd .u64 (iShr .u64 (U x) 1) 6148914691236517205) (iAnd .u64 (U x) 6148914691236517205)) 3689348814741910323))) 1085102592571150095) (iShr .u64 (iAnd .u64 (iAdd .u64 (iShr .u64 (iAdd .u64 (iAnd .u64 (iShr .u64 (iAdd .u64 (iAnd .u64 (iShr .u64 (U x) 1) 6148914691236517205) (iAnd .u64 (U x) 6148914691236517205)) 2) 3689348814741910323) (iAnd .u64 (iAdd .u64 (iAnd .u64 (iShr .u64 (U x) 1) 6148914691236517205) (iAnd .u64 (U x) 6148914691236517205)) 3689348814741910323)) 4) (iAdd .u64 (iAnd .u64 (iShr .u64 (iAdd .u64 (iAnd .u64 (iShr .u64 (U x) 1) 6148914691236517205) (iAnd .u64 (U x) 6148914691236517205)) 2) 3689348814741910323) (iAnd .u64 (iAdd .u64 (iAnd .u64 (iShr .u64 (U x) 1) 6148914691236517205) (iAnd .u64 (U x) 6148914691236517205)) 3689348814741910323))) 1085102592571150095) 8)) 16)) (iShr .u64 (iAdd .u64 (iAdd .u64 (iAnd .u64 (iAdd .u64 (iShr .u64 (iAdd .u64 (iAnd .u64 (iShr .u64 (iAdd .u64 (iAnd .u64 (iShr .u64 (U x) 1) 6148914691236517205) (iAnd .u64 (U x) 6148914691236517205)) 2) 3689348814741910323) (iAnd .u64 (iAdd .u64 (iAnd .u64 (iShr .u64 (U x) 1) 6148914691236517205) (iAnd .u64 (U x) 6148914691236517205)) 3689348814741910323)) 4) (iAdd .u64 (iAnd .u64 (iShr .u64 (iAdd .u64 (iAnd .u64 (iShr .u64 (U x) 1) 6148914691236517205) (iAnd .u64 (U x) 6148914691236517205)) 2) 3689348814741910323) (iAnd .u64 (iAdd .u64 (iAnd .u64 (iShr .u64 (U x) 1) 6148914691236517205) (iAnd .u64 (U x) 6148914691236517205)) 3689348814741910323))) 1085102592571150095) (iShr .u64 (iAnd .u64 (iAdd .u64 (iShr .u64 (iAdd .u64 (iAnd .u64 (iShr .u64 (iAdd .u64 (iAnd .u64 (iShr .u64 (U x) 1) 6148914691236517205) (iAnd .u64 (U x) 6148914691236517205)) 2) 3689348814741910323) (iAnd .u64 (iAdd .u64 (iAnd .u64 (iShr .u64 (U x) 1) 6148914691236517205) (iAnd .u64 (U x) 6148914691236517205)) 3689348814741910323)) 4) (iAdd .u64 (iAnd .u64 (iShr .u64 (iAdd .u64 (iAnd .u64 (iShr .u64 (U x) 1) 6148914691236517205) (iAnd .u64 (U x) 6148914691236517205)) 2) 3689348814741910323) (iAnd .u64 (iAdd .u64 (iAnd .u64 (iShr .u64 (U x) 1) 6148914691236517205) (iAnd .u64 (U x) 6148914691236517205)) 3689348814741910323))) 1085102592571150095) 8)) (iShr .u64 (iAdd .u64 (iAnd .u64 (iAdd .u64 (iShr .u64 (iAdd .u64 (iAnd .u64 (iShr .u64 (iAdd .u64 (iAnd .u64 (iShr .u64 (U x) 1) 6148914691236517205) (iAnd .u64 (U x) 6148914691236517205)) 2) 3689348814741910323) (iAnd .u64 (iAdd .u64 (iAnd .u64 (iShr .u64 (U x) 1) 6148914691236517205) (iAnd .u64 (U x) 6148914691236517205)) 3689348814741910323)) 4) (iAdd .u64 (iAnd .u64 (iShr .u64 (iAdd .u64 (iAnd .u64 (iShr .u64 (U x) 1) 6148914691236517205) (iAnd .u64 (U x) 6148914691236517205)) 2) 3689348814741910323) (iAnd .u64 (iAdd .u64 (iAnd .u64 (iShr .u64 (U x) 1) 6148914691236517205) (iAnd .u64 (U x) 6148914691236517205)) 3689348814741910323))) 1085102592571150095) (iShr .u64 (iAnd .u64 (iAdd .u64 (iShr .u64 (iAdd .u64 (iAnd .u64 (iShr .u64 (iAdd .u64 (iAnd .u64 (iShr .u64 (U x) 1) 6148914691236517205) (iAnd .u64 (U x) 6148914691236517205)) 2) 3689348814741910323) (iAnd .u64 (iAdd .u64 (iAnd .u64 (iShr .u64 (U x) 1) 6148914691236517205) (iAnd .u64 (U x) 6148914691236517205)) 3689348814741910323)) 4) (iAdd .u64 (iAnd .u64 (iShr .u64 (iAdd .u64 (iAnd .u64 (iShr .u64 (U x) 1) 6148914691236517205) (iAnd .u64 (U x) 6148914691236517205)) 2) 3689348814741910323) (iAnd .u64 (iAdd .u64 (iAnd .u64 (iShr .u64 (U x) 1) 6148914691236517205) (iAnd .u64 (U x) 6148914691236517205)) 3689348814741910323))) 1085102592571150095) 8)) 16)) 32))) 127)
theorem ones (n : Nat) (h : AH) (x : BitVec 64) : runS Tryd.prog (n + 1) 65 [.int .u64 (U x)] h = some (.int .i64 (pcI x), h) := by
  refine t65_ok ?_
  rw [t65, low_loc, exitR_int]
  unfold pcI
  exact Eq.refl _
end Go.Proofs.YtiadfnedbbkojaaDoor.Kb
namespace Go.Proofs.YtiadfnedbbkojaaDoor.Kb
open Go Go.Proofs Go.Proofs.YtiadfnedbbkojaaDoor.X Go.Proofs.YtiadfnedbbkojaaDoor.Bv
set_option linter.unusedSimpArgs false
set_option linter.unusedVariables false
theorem and_lo (x m : Nat) : (x &&& m) % 256 = (x % 256) &&& (m % 256) := Nat.and_mod_two_pow (n := 8)
theorem and_hi (x m : Nat) : (x &&& m) / 256 = (x / 256) &&& (m / 256) := by
  have := Nat.shiftRight_and_distrib (a := x) (b := m) (i := 8)
  rwa [Nat.shiftRight_eq_div_pow, Nat.shiftRight_eq_div_pow, Nat.shiftRight_eq_div_pow] at this
/-- One step on naturals: fields of k bits are added in pairs. -/
def stp (k m x : Nat) : Nat := ((x >>> k) &&& m) + (x &&& m)
theorem split256 (x m : Nat) : (x &&& m) = 256 * ((x / 256) &&& (m / 256)) + ((x % 256) &&& (m % 256)) := by
  rw [← and_lo, ← and_hi]
  omega
theorem shr_hi (x k : Nat) : (x >>> k) / 256 = (x / 256) >>> k := by
  rw [Nat.shiftRight_eq_div_pow, Nat.shiftRight_eq_div_pow, Nat.div_div_eq_div_mul, Nat.div_div_eq_div_mul, Nat.mul_comm]
theorem shr_lo (x k m : Nat) (hk : k ≤ 8) (hm : m % 256 < 2 ^ (8 - k)) : ((x >>> k) % 256) &&& (m % 256) = ((x % 256) >>> k) &&& (m % 256) := by
  apply Nat.eq_of_testBit_eq
  intro i
  rw [Nat.testBit_and, Nat.testBit_and]
  by_cases h : i < 8 - k
  · congr 1
    rw [show (256 : Nat) = 2 ^ 8 from rfl, Nat.testBit_mod_two_pow, Nat.testBit_shiftRight, Nat.testBit_shiftRight, Nat.testBit_mod_two_pow]
    rw [decide_eq_true (show i < 8 by omega), decide_eq_true (show k + i < 8 by omega)]
  · have h2 : (m % 256).testBit i = false := Nat.testBit_lt_two_pow (Nat.lt_of_lt_of_le hm (Nat.pow_le_pow_right (by omega) (by omega)))
    rw [h2, Bool.and_false, Bool.and_false]
theorem stp_split (k m x : Nat) (hk : k ≤ 8) (hm : m % 256 < 2 ^ (8 - k)) : stp k m x = 256 * stp k (m / 256) (x / 256) + stp k (m % 256) (x % 256) := by
  unfold stp
  rw [split256 (x >>> k) m, split256 x m, shr_hi, shr_lo x k m hk hm]
  omega
/-- f at each of n bytes. -/
def mapB (f : Nat → Nat) : Nat → Nat → Nat
  | 0, _ => 0
  | n + 1, x => 256 * mapB f n (x / 256) + f (x % 256)
theorem mapB_comp (f g : Nat → Nat) (hf : ∀ b, b < 256 → f b < 256) : ∀ n x, mapB g n (mapB f n x) = mapB (fun b => g (f b)) n x
  | 0, _ => rfl
  | n + 1, x => by
    have hb := hf (x % 256) (by omega)
    show 256 * mapB g n ((256 * mapB f n (x / 256) + f (x % 256)) / 256) + g ((256 * mapB f n (x / 256) + f (x % 256)) % 256) = 256 * mapB (fun b => g (f b)) n (x / 256) + g (f (x % 256))
    rw [show (256 * mapB f n (x / 256) + f (x % 256)) / 256 = mapB f n (x / 256) by omega, show (256 * mapB f n (x / 256) + f (x % 256)) % 256 = f (x % 256) by omega, mapB_comp f g hf n]
/-- The mask of n bytes c. -/
def rep (c : Nat) : Nat → Nat
  | 0 => 0
  | n + 1 => 256 * rep c n + c
theorem stp_mapB (k c : Nat) (hk : k ≤ 8) (hc : c < 2 ^ (8 - k)) (hc' : c < 256) : ∀ n x, stp k (rep c n) x = mapB (stp k c) n x
  | 0, x => by
    show ((x >>> k) &&& 0) + (x &&& 0) = 0
    rw [Nat.and_zero, Nat.and_zero]
  | n + 1, x => by
    have e1 : rep c (n + 1) = 256 * rep c n + c := rfl
    have e2 : rep c (n + 1) % 256 = c := by omega
    have e3 : rep c (n + 1) / 256 = rep c n := by omega
    rw [stp_split k (rep c (n + 1)) x hk (by rw [e2]; exact hc), e2, e3, stp_mapB k c hk hc hc' n]
    rfl
theorem mapB_low (f : Nat → Nat) (hf : ∀ b, b < 256 → f b < 256 ∧ f b % 16 ≤ 4 ∧ f b / 16 ≤ 4) : ∀ n y, mapB f n y % 16 ≤ 4
  | 0, _ => by show 0 % 16 ≤ 4; omega
  | n + 1, y => by
    have h := hf (y % 256) (by omega)
    show (256 * mapB f n (y / 256) + f (y % 256)) % 16 ≤ 4
    omega
theorem cnt3 (f : Nat → Nat) (hf : ∀ b, b < 256 → f b < 256 ∧ f b % 16 ≤ 4 ∧ f b / 16 ≤ 4) : ∀ n y, ((mapB f n y >>> 4) + mapB f n y) &&& rep 15 n = mapB (fun b => (f b / 16 + f b) % 16) n y
  | 0, y => Nat.and_zero _
  | n + 1, y => by
    have h := hf (y % 256) (by omega)
    have hl := mapB_low f hf n (y / 256)
    have ih := cnt3 f hf n (y / 256)
    show (((256 * mapB f n (y / 256) + f (y % 256)) >>> 4) + (256 * mapB f n (y / 256) + f (y % 256))) &&& (256 * rep 15 n + 15) = 256 * mapB (fun b => (f b / 16 + f b) % 16) n (y / 256) + (f (y % 256) / 16 + f (y % 256)) % 16
    rw [← ih]
    generalize mapB f n (y / 256) = X at hl ⊢
    generalize f (y % 256) = B at h ⊢
    rw [Nat.shiftRight_eq_div_pow, Nat.shiftRight_eq_div_pow, split256, show (256 * rep 15 n + 15) / 256 = rep 15 n by omega, show (256 * rep 15 n + 15) % 256 = 2 ^ 4 - 1 by omega, Nat.and_two_pow_sub_one_eq_mod]
    rw [show ((256 * X + B) / 2 ^ 4 + (256 * X + B)) / 256 = X / 2 ^ 4 + X by omega, show ((256 * X + B) / 2 ^ 4 + (256 * X + B)) % 256 % 2 ^ 4 = (B / 16 + B) % 16 by omega]
end Go.Proofs.YtiadfnedbbkojaaDoor.Kb
namespace Go.Proofs.YtiadfnedbbkojaaDoor.Kb
open Go Go.Proofs Go.Proofs.YtiadfnedbbkojaaDoor.X Go.Proofs.YtiadfnedbbkojaaDoor.Bv
set_option linter.unusedSimpArgs false
set_option linter.unusedVariables false
set_option maxRecDepth 100000
def f1 (b : Nat) : Nat := stp 1 85 b
def f2 (b : Nat) : Nat := stp 2 51 (f1 b)
def f3 (b : Nat) : Nat := (f2 b / 16 + f2 b) % 16
theorem f1_lt : ∀ b, b < 256 → f1 b < 256 := by decide +kernel
theorem f2_ok : ∀ b, b < 256 → f2 b < 256 ∧ f2 b % 16 ≤ 4 ∧ f2 b / 16 ≤ 4 := by decide +kernel
theorem f3_le : ∀ b, b < 256 → f3 b ≤ 8 := by decide +kernel
theorem f3_zero : ∀ b, b < 256 → f3 b = 0 → b = 0 := by decide +kernel
theorem f3_one : ∀ b, b < 256 → f3 b = 1 → ∃ i, i < 8 ∧ b = 2 ^ i := by decide +kernel
theorem mapB_lt (f : Nat → Nat) (hf : ∀ b, b < 256 → f b < 256) : ∀ n x, mapB f n x < 256 ^ n
  | 0, _ => by show 0 < 1; omega
  | n + 1, x => by
    have h := hf (x % 256) (by omega)
    have ih := mapB_lt f hf n (x / 256)
    show 256 * mapB f n (x / 256) + f (x % 256) < 256 ^ (n + 1)
    rw [Nat.pow_succ]
    omega
end Go.Proofs.YtiadfnedbbkojaaDoor.Kb
namespace Go.Proofs.YtiadfnedbbkojaaDoor.Kb
set_option linter.unusedVariables false
theorem dv (k q r n : Nat) (hr : r < k) (e : n = k * q + r) : n / k = q := by
  rw [e, Nat.mul_add_div (by omega), Nat.div_eq_of_lt hr, Nat.add_zero]
theorem sum8 (c0 c1 c2 c3 c4 c5 c6 c7 Y1 Y2 Y3 Y4 Y5 Y6 y : Nat) (h0 : c0 ≤ 8) (h1 : c1 ≤ 8) (h2 : c2 ≤ 8) (h3 : c3 ≤ 8) (h4 : c4 ≤ 8) (h5 : c5 ≤ 8) (h6 : c6 ≤ 8) (h7 : c7 ≤ 8)
    (g0 : y = 256 * Y1 + c0) (g1 : Y1 = 256 * Y2 + c1) (g2 : Y2 = 256 * Y3 + c2) (g3 : Y3 = 256 * Y4 + c3) (g4 : Y4 = 256 * Y5 + c4) (g5 : Y5 = 256 * Y6 + c5) (g6 : Y6 = 256 * c7 + c6) :
    y / 256 = Y1 ∧ (Y1 + y) / 65536 = Y2 + Y3 ∧ (Y2 + Y3 + (Y1 + y)) / 4294967296 = Y4 + Y5 + (Y6 + c7) := by
  refine ⟨dv 256 Y1 c0 y (by omega) (by omega), dv 65536 (Y2 + Y3) (256 * (c1 + c2) + (c0 + c1)) _ (by omega) (by omega), ?_⟩
  refine dv 4294967296 _ (16777216 * (c3 + c4 + (c5 + c6)) + 65536 * (c2 + c3 + (c4 + c5)) + 256 * (c1 + c2 + (c3 + c4)) + (c0 + c1 + (c2 + c3))) _ (by omega) (by omega)
end Go.Proofs.YtiadfnedbbkojaaDoor.Kb
namespace Go.Proofs.YtiadfnedbbkojaaDoor.Kb
open Go Go.Proofs Go.Proofs.YtiadfnedbbkojaaDoor.X Go.Proofs.YtiadfnedbbkojaaDoor.Bv
set_option linter.unusedSimpArgs false
set_option linter.unusedVariables false
theorem mkN {N : Nat} (hN : 67 ≤ N) (g : AH) (w : Nat) (h2 : w ≤ 64) : runS Tryd.prog N 14 [.int .i64 w] g = some (.int .u64 (U (M w)), g) := by
  obtain ⟨n, rfl⟩ : ∃ n, N = n + 66 := ⟨N - 66, by omega⟩
  exact rmask n g w (by omega) (by omega)
def rtl (w : Nat) (z o : BitVec 64) : Nat := up (fun j => iEq (kn z o j) 0) w
def rlw (w : Nat) (z o : BitVec 64) : Nat := up (fun j => iLe 0 (kn z o j)) w
def rld (w : Nat) (z o : BitVec 64) (v : Int) : Nat := up (fun j => iEq (kn z o (w - 1 - j)) v) w
def rpk (w : Nat) (az ao bz bo : BitVec 64) : Nat := min (rlw w az ao) (rlw w bz bo)
def rpt (w : Nat) (az ao bz bo : BitVec 64) : Nat := min w (rtl w az ao + rtl w bz bo)
def rpn (w : Nat) (az ao bz bo : BitVec 64) : BitVec 64 := (ao &&& M (rpk w az ao bz bo)) * (bo &&& M (rpk w az ao bz bo))
def rprZ (w : Nat) (az ao bz bo : BitVec 64) : BitVec 64 := bvN (zrf w (rpt w az ao bz bo) 0) w ||| bvN (fun j => !(rpn w az ao bz bo).getLsbD j) (rpk w az ao bz bo)
def rprO (w : Nat) (az ao bz bo : BitVec 64) : BitVec 64 := 0#64 ||| bvN (fun j => (rpn w az ao bz bo).getLsbD j) (rpk w az ao bz bo)
end Go.Proofs.YtiadfnedbbkojaaDoor.Kb
namespace Go.Proofs.YtiadfnedbbkojaaDoor.Kb
open Go Go.Proofs Go.Proofs.YtiadfnedbbkojaaDoor.X Go.Proofs.YtiadfnedbbkojaaDoor.Bv
set_option linter.unusedSimpArgs false
set_option linter.unusedVariables false
def slo (w : Nat) (z o : BitVec 64) : BitVec 64 := cond (iLt (kn z o (w - 1)) 0) (o ||| sgn w) o
def shi' (w : Nat) (z o : BitVec 64) : BitVec 64 := cond (iLt (kn z o (w - 1)) 0) ((M w &&& ~~~ z) &&& ~~~ sgn w) (M w &&& ~~~ z)
theorem rofN {N : Nat} (hN : 68 ≤ N) (g : AH) (G : WF g) (w : Nat) (h2 : w ≤ 64) (x : BitVec 64) : runS Tryd.prog N 39 [.int .i64 w, .int .u64 (U x)] g =
    some (.agg #[.int .u64 (U (M w &&& ~~~ x)), .int .u64 (U (x &&& M w))], g) := by
  obtain ⟨n, rfl⟩ : ∃ n, N = n + 67 := ⟨N - 67, by omega⟩
  exact rofs n g G w (by omega) (by omega) x
def dZ (yes no : Bool) : BitVec 64 := cond yes 0#64 (cond no 1#64 0#64)
def dO (yes : Bool) : BitVec 64 := cond yes 1#64 0#64
theorem decided {N : Nat} (hN : 69 ≤ N) (h : AH) (H : WF h) (yes no : Bool) : runS Tryd.prog N 73 [.bool yes, .bool no] h = some (.agg #[.int .u64 (U (dZ yes no)), .int .u64 (U (dO yes))], h) := by
  obtain ⟨m, rfl, hm⟩ : ∃ m, N = m + 1 ∧ 68 ≤ m := ⟨N - 1, by omega, by omega⟩
  have o1 : ∀ g, WF g → runS Tryd.prog m 39 [.int .i64 1, .int .u64 1] g = some (.agg #[.int .u64 (U 0#64), .int .u64 (U 1#64)], g) := fun g G => rofN hm g G 1 (by omega) 1#64
  have o0 : ∀ g, WF g → runS Tryd.prog m 39 [.int .i64 1, .int .u64 0] g = some (.agg #[.int .u64 (U 1#64), .int .u64 (U 0#64)], g) := fun g G => rofN hm g G 1 (by omega) 0#64
  refine t73_ok ?_
  rw [t73]
  cases yes with
  | true =>
    simp only [low_loc h, setLow_low, setLow_next, setLow_set, setLow_loc, setLow_self, hNew_loc, loc_next, loc_low, Nat.beq_refl, add_lit, List.nil_append, List.cons_append, List.length_cons, List.length_nil, Nat.zero_add, Nat.add_zero, Nat.reduceAdd, lrd H, lrd0 H, lst H, lst0 H, List.getElem?_cons_zero, List.getElem?_cons_succ, putAt0, putAt1, List.drop_succ_cons, List.drop_zero, List.drop_nil, List.set_cons_zero, List.set_cons_succ, List.append_nil, ble_self, ble12, gI_int, gB_bool, gS_str, gL_sl, gP_ptr, bindS, cond_true, cond_false, o1 _ (loc_wf H _), aggIs2, aggC20, aggC21]
    simp only [low_loc h, setLow_low, setLow_next, setLow_set, setLow_loc, setLow_self, hNew_loc, loc_next, loc_low, Nat.beq_refl, add_lit, List.nil_append, List.cons_append, List.length_cons, List.length_nil, Nat.zero_add, Nat.add_zero, Nat.reduceAdd, lrd H, lrd0 H, lst H, lst0 H, List.getElem?_cons_zero, List.getElem?_cons_succ, putAt0, putAt1, List.drop_succ_cons, List.drop_zero, List.drop_nil, List.set_cons_zero, List.set_cons_succ, List.append_nil, ble_self, ble12, gI_int, gB_bool, gS_str, gL_sl, gP_ptr, bindS, cond_true, cond_false, exitR_bool, exitR_int, exitR_ints, exitR_ii, exitR_ib]
    rfl
  | false =>
    cases no with
    | true =>
      simp only [low_loc h, setLow_low, setLow_next, setLow_set, setLow_loc, setLow_self, hNew_loc, loc_next, loc_low, Nat.beq_refl, add_lit, List.nil_append, List.cons_append, List.length_cons, List.length_nil, Nat.zero_add, Nat.add_zero, Nat.reduceAdd, lrd H, lrd0 H, lst H, lst0 H, List.getElem?_cons_zero, List.getElem?_cons_succ, putAt0, putAt1, List.drop_succ_cons, List.drop_zero, List.drop_nil, List.set_cons_zero, List.set_cons_succ, List.append_nil, ble_self, ble12, gI_int, gB_bool, gS_str, gL_sl, gP_ptr, bindS, cond_true, cond_false, o0 _ (loc_wf H _), aggIs2, aggC20, aggC21]
      simp only [low_loc h, setLow_low, setLow_next, setLow_set, setLow_loc, setLow_self, hNew_loc, loc_next, loc_low, Nat.beq_refl, add_lit, List.nil_append, List.cons_append, List.length_cons, List.length_nil, Nat.zero_add, Nat.add_zero, Nat.reduceAdd, lrd H, lrd0 H, lst H, lst0 H, List.getElem?_cons_zero, List.getElem?_cons_succ, putAt0, putAt1, List.drop_succ_cons, List.drop_zero, List.drop_nil, List.set_cons_zero, List.set_cons_succ, List.append_nil, ble_self, ble12, gI_int, gB_bool, gS_str, gL_sl, gP_ptr, bindS, cond_true, cond_false, exitR_bool, exitR_int, exitR_ints, exitR_ii, exitR_ib]
      rfl
    | false =>
      simp only [low_loc h, setLow_low, setLow_next, setLow_set, setLow_loc, setLow_self, hNew_loc, loc_next, loc_low, Nat.beq_refl, add_lit, List.nil_append, List.cons_append, List.length_cons, List.length_nil, Nat.zero_add, Nat.add_zero, Nat.reduceAdd, lrd H, lrd0 H, lst H, lst0 H, List.getElem?_cons_zero, List.getElem?_cons_succ, putAt0, putAt1, List.drop_succ_cons, List.drop_zero, List.drop_nil, List.set_cons_zero, List.set_cons_succ, List.append_nil, ble_self, ble12, gI_int, gB_bool, gS_str, gL_sl, gP_ptr, bindS, cond_true, cond_false]
      simp only [low_loc h, setLow_low, setLow_next, setLow_set, setLow_loc, setLow_self, hNew_loc, loc_next, loc_low, Nat.beq_refl, add_lit, List.nil_append, List.cons_append, List.length_cons, List.length_nil, Nat.zero_add, Nat.add_zero, Nat.reduceAdd, lrd H, lrd0 H, lst H, lst0 H, List.getElem?_cons_zero, List.getElem?_cons_succ, putAt0, putAt1, List.drop_succ_cons, List.drop_zero, List.drop_nil, List.set_cons_zero, List.set_cons_succ, List.append_nil, ble_self, ble12, gI_int, gB_bool, gS_str, gL_sl, gP_ptr, bindS, cond_true, cond_false, exitR_bool, exitR_int, exitR_ints, exitR_ii, exitR_ib]
      rfl
def cY (op : Int) (w : Nat) (az ao bz bo : BitVec 64) : Bool :=
  if op = 15 then false else if op = 16 then (!(ao &&& bz == 0#64) || !(az &&& bo == 0#64)) else if op = 17 then decide (M w &&& ~~~az < bo) else if op = 18 then decide (M w &&& ~~~az ≤ bo)
  else if op = 19 then (rsg w (shi' w az ao)).slt (rsg w (slo w bz bo)) else (rsg w (shi' w az ao)).sle (rsg w (slo w bz bo))
def cN (op : Int) (w : Nat) (az ao bz bo : BitVec 64) : Bool :=
  if op = 15 then (!(ao &&& bz == 0#64) || !(az &&& bo == 0#64)) else if op = 16 then false else if op = 17 then decide (M w &&& ~~~bz ≤ ao) else if op = 18 then decide (M w &&& ~~~bz < ao)
  else if op = 19 then (rsg w (shi' w bz bo)).sle (rsg w (slo w az ao)) else (rsg w (shi' w bz bo)).slt (rsg w (slo w az ao))
end Go.Proofs.YtiadfnedbbkojaaDoor.Kb
namespace Go.Proofs.YtiadfnedbbkojaaDoor.Kb
open Go Go.Proofs Go.Proofs.YtiadfnedbbkojaaDoor.X Go.Proofs.YtiadfnedbbkojaaDoor.Bv
set_option linter.unusedSimpArgs false
set_option linter.unusedVariables false
theorem bvN_zero (f : Nat → Bool) : ∀ n, (∀ j, j < n → f j = false) → bvN f n = 0#64
  | 0, _ => rfl
  | n + 1, h => by
    rw [bvN_no f n (h n (by omega)), bvN_zero f n fun j hj => h j (by omega)]
def hiF (lo : Nat) (s v : Int) (j : Nat) : Bool := decide (lo ≤ j) && iEq s v
def amt (w : Nat) (bo : BitVec 64) : Nat := if bo.toNat < w then bo.toNat else w
theorem amt_le (w : Nat) (bo : BitVec 64) : amt w bo ≤ w := by
  unfold amt
  split <;> omega
def rgV (op : Int) (w : Nat) (az ao bz bo : BitVec 64) (v : Int) : BitVec 64 :=
  if exB w bz bo then
    (if op = 12 then bvN (fun i => iEq (shv w az ao (-(amt w bo : Int)) 0 i) v) w
     else if op = 13 then bvN (fun i => iEq (shv w az ao (amt w bo) 0 i) v) w
     else bvN (fun i => iEq (shv w az ao (amt w bo) (kn az ao (w - 1)) i) v) w)
  else
    (if op = 12 then (if v = 0 then bvN (zrf w (rtl w az ao) 0) w else 0#64)
     else if op = 13 then (if v = 0 then bvN (zrf w 0 (rld w az ao 0)) w else 0#64)
     else if kn az ao (w - 1) < 0 then 0#64
     else bvN (hiF (w - rld w az ao (kn az ao (w - 1))) (kn az ao (w - 1)) v) w)
end Go.Proofs.YtiadfnedbbkojaaDoor.Kb
namespace Go.Proofs.YtiadfnedbbkojaaDoor.Kb
open Go Go.Proofs Go.Proofs.YtiadfnedbbkojaaDoor.X Go.Proofs.YtiadfnedbbkojaaDoor.Bv
set_option linter.unusedSimpArgs false
set_option linter.unusedVariables false
/-- One round of the loop: the element that k's power of two gives. -/
def rrF (w : Nat) (az ao bz bo : BitVec 64) (v : Int) (k : Nat) (x : BitVec 64) : BitVec 64 :=
  if exB w bz bo = true ∧ bo = 1#64 <<< k then (if v = 0 then bvN (zrf w 0 (w - k)) w else 0#64) ||| bvN (fun i => iEq (kn az ao i) v) k else x
def rrL (w : Nat) (az ao bz bo : BitVec 64) (v : Int) (x : BitVec 64) : Nat → BitVec 64
  | 0 => x
  | k + 1 => rrF w az ao bz bo v k (rrL w az ao bz bo v x k)
def rrV (w : Nat) (az ao bz bo : BitVec 64) (v : Int) : BitVec 64 := rrL w az ao bz bo v (if v = 0 then bvN (zrf w 0 (rld w az ao 0)) w else 0#64) w
end Go.Proofs.YtiadfnedbbkojaaDoor.Kb
namespace Go.Proofs.YtiadfnedbbkojaaDoor.Kb
open Go Go.Proofs Go.Proofs.YtiadfnedbbkojaaDoor.X Go.Proofs.YtiadfnedbbkojaaDoor.Bv
set_option linter.unusedSimpArgs false
set_option linter.unusedVariables false
/-- The words behind the code's formula. -/
def w1 (x : BitVec 64) : BitVec 64 := ((x >>> 1) &&& 6148914691236517205#64) + (x &&& 6148914691236517205#64)
def w2 (x : BitVec 64) : BitVec 64 := ((w1 x >>> 2) &&& 3689348814741910323#64) + (w1 x &&& 3689348814741910323#64)
def w3 (x : BitVec 64) : BitVec 64 := ((w2 x >>> 4) + w2 x) &&& 1085102592571150095#64
def w4 (x : BitVec 64) : BitVec 64 := w3 x + (w3 x >>> 8)
def w5 (x : BitVec 64) : BitVec 64 := w4 x + (w4 x >>> 16)
def w6 (x : BitVec 64) : BitVec 64 := w5 x + (w5 x >>> 32)
theorem n1 : (6148914691236517205 : Int) = U 6148914691236517205#64 := rfl
theorem n2 : (3689348814741910323 : Int) = U 3689348814741910323#64 := rfl
theorem n3 : (1085102592571150095 : Int) = U 1085102592571150095#64 := rfl
theorem iand_i64 (x : BitVec 64) : iAnd .i64 (iConv .i64 (U x)) 127 = ((x.toNat % 128 : Nat) : Int) := by
  have e : iAnd .i64 (S x) (S 127#64) = S (x &&& 127#64) := by
    unfold iAnd S
    show IntKind.i64.wrap (((BitVec.ofInt 64 x.toInt &&& BitVec.ofInt 64 (127#64).toInt).toNat : Nat) : Int) = _
    rw [BitVec.ofInt_toInt, BitVec.ofInt_toInt]
    exact c_i64 (x &&& 127#64)
  rw [c_i64, show (127 : Int) = S 127#64 from rfl, e]
  unfold S
  have h1 : (x &&& 127#64).toNat = x.toNat % 128 := by
    rw [BitVec.toNat_and]
    exact Nat.and_two_pow_sub_one_eq_mod x.toNat 7
  rw [BitVec.toInt_eq_toNat_cond, h1, if_pos (by omega)]
theorem pcI_w (x : BitVec 64) : pcI x = ((w6 x).toNat % 128 : Nat) := by
  have s1 : ∀ (y : BitVec 64) (k : Nat), iShr .u64 (U y) k = U (y >>> k) := shr_nat
  have t1 : ∀ y : BitVec 64, iShr .u64 (U y) 1 = U (y >>> 1) := fun y => s1 y 1
  have t2 : ∀ y : BitVec 64, iShr .u64 (U y) 2 = U (y >>> 2) := fun y => s1 y 2
  have t4 : ∀ y : BitVec 64, iShr .u64 (U y) 4 = U (y >>> 4) := fun y => s1 y 4
  have t8 : ∀ y : BitVec 64, iShr .u64 (U y) 8 = U (y >>> 8) := fun y => s1 y 8
  have t16 : ∀ y : BitVec 64, iShr .u64 (U y) 16 = U (y >>> 16) := fun y => s1 y 16
  have t32 : ∀ y : BitVec 64, iShr .u64 (U y) 32 = U (y >>> 32) := fun y => s1 y 32
  have e1 : iAdd .u64 (iAnd .u64 (iShr .u64 (U x) 1) 6148914691236517205) (iAnd .u64 (U x) 6148914691236517205) = U (w1 x) := by
    rw [n1, t1, i_and, i_and, i_add]
    rfl
  have e2 : ∀ y, iAdd .u64 (iAnd .u64 (iShr .u64 (U y) 2) 3689348814741910323) (iAnd .u64 (U y) 3689348814741910323) = U (((y >>> 2) &&& 3689348814741910323#64) + (y &&& 3689348814741910323#64)) := fun y => by
    rw [n2, t2, i_and, i_and, i_add]
  have e3 : ∀ y, iAnd .u64 (iAdd .u64 (iShr .u64 (U y) 4) (U y)) 1085102592571150095 = U (((y >>> 4) + y) &&& 1085102592571150095#64) := fun y => by
    rw [n3, t4, i_add, i_and]
  unfold pcI
  rw [e1, e2 (w1 x)]
  rw [show ((w1 x >>> 2) &&& 3689348814741910323#64) + (w1 x &&& 3689348814741910323#64) = w2 x from rfl, e3 (w2 x)]
  rw [show ((w2 x >>> 4) + w2 x) &&& 1085102592571150095#64 = w3 x from rfl, t8, i_add]
  rw [show w3 x + (w3 x >>> 8) = w4 x from rfl, t16, i_add]
  rw [show w4 x + (w4 x >>> 16) = w5 x from rfl, t32, i_add]
  exact iand_i64 _
theorem r8_85 : rep 85 8 = 6148914691236517205 := rfl
theorem r8_51 : rep 51 8 = 3689348814741910323 := rfl
theorem r8_15 : rep 15 8 = 1085102592571150095 := rfl
theorem w1_nat (x : BitVec 64) : (w1 x).toNat = mapB f1 8 x.toNat := by
  have h := mapB_lt f1 f1_lt 8 x.toNat
  have e := stp_mapB 1 85 (by omega) (by decide) (by omega) 8 x.toNat
  rw [r8_85] at e
  unfold w1
  rw [BitVec.toNat_add, BitVec.toNat_and, BitVec.toNat_and, BitVec.toNat_ushiftRight]
  have e' : (x.toNat >>> 1 &&& 6148914691236517205) + (x.toNat &&& 6148914691236517205) = mapB f1 8 x.toNat := e
  show ((x.toNat >>> 1 &&& 6148914691236517205) + (x.toNat &&& 6148914691236517205)) % 2 ^ 64 = _
  rw [e']
  exact Nat.mod_eq_of_lt h
theorem w2_nat (x : BitVec 64) : (w2 x).toNat = mapB f2 8 x.toNat := by
  have h := mapB_lt f2 (fun b hb => (f2_ok b hb).1) 8 x.toNat
  have e := stp_mapB 2 51 (by omega) (by decide) (by omega) 8 (mapB f1 8 x.toNat)
  rw [r8_51, mapB_comp f1 (stp 2 51) f1_lt 8 x.toNat] at e
  unfold w2
  rw [BitVec.toNat_add, BitVec.toNat_and, BitVec.toNat_and, BitVec.toNat_ushiftRight, w1_nat]
  have e' : (mapB f1 8 x.toNat >>> 2 &&& 3689348814741910323) + (mapB f1 8 x.toNat &&& 3689348814741910323) = mapB f2 8 x.toNat := e
  show ((mapB f1 8 x.toNat >>> 2 &&& 3689348814741910323) + (mapB f1 8 x.toNat &&& 3689348814741910323)) % 2 ^ 64 = _
  rw [e']
  exact Nat.mod_eq_of_lt h
theorem mapB_top (f : Nat → Nat) : ∀ n y, (∀ b, b < 256 → f b < 256 ∧ f b % 16 ≤ 4 ∧ f b / 16 ≤ 4) → mapB f n y + mapB f n y / 16 < 256 ^ n
  | 0, _, _ => by show 0 + 0 / 16 < 1; omega
  | n + 1, y, hf => by
    have h := hf (y % 256) (by omega)
    have ih := mapB_top f n (y / 256) hf
    show (256 * mapB f n (y / 256) + f (y % 256)) + (256 * mapB f n (y / 256) + f (y % 256)) / 16 < 256 ^ (n + 1)
    rw [Nat.pow_succ]
    have hl := mapB_low f hf n (y / 256)
    omega
theorem w3_nat (x : BitVec 64) : (w3 x).toNat = mapB f3 8 x.toNat := by
  have h := mapB_top f2 8 x.toNat f2_ok
  have e := cnt3 f2 f2_ok 8 x.toNat
  rw [r8_15] at e
  unfold w3
  rw [BitVec.toNat_and, BitVec.toNat_add, BitVec.toNat_ushiftRight, w2_nat]
  show ((mapB f2 8 x.toNat >>> 4 + mapB f2 8 x.toNat) % 2 ^ 64) &&& 1085102592571150095 = _
  rw [Nat.mod_eq_of_lt (by rw [Nat.shiftRight_eq_div_pow]; show mapB f2 8 x.toNat / 16 + _ < 256 ^ 8; omega)]
  exact e
theorem pow_of (i j n : Nat) (hi : i < 8) (hj : j < 8) (h : n = 256 ^ i * 2 ^ j) : ∃ k, k < 64 ∧ n = 2 ^ k := by
  refine ⟨8 * i + j, by omega, ?_⟩
  rw [h, show (256 : Nat) = 2 ^ 8 from rfl, ← Nat.pow_mul, ← Nat.pow_add]
theorem pc_one (x : BitVec 64) : pcI x = 1 ↔ ∃ k, k < 64 ∧ x = 1#64 <<< k := by
  constructor
  · intro h
    rw [pcI_w] at h
    have h : (w6 x).toNat % 128 = 1 := by omega
    have hx := x.isLt
    have e3 := w3_nat x
    generalize hn : x.toNat = n at hx e3
    -- the bytes
    have hb0 : n % 256 < 256 := by omega
    have hb1 : n / 256 % 256 < 256 := by omega
    have hb2 : n / 256 / 256 % 256 < 256 := by omega
    have hb3 : n / 256 / 256 / 256 % 256 < 256 := by omega
    have hb4 : n / 256 / 256 / 256 / 256 % 256 < 256 := by omega
    have hb5 : n / 256 / 256 / 256 / 256 / 256 % 256 < 256 := by omega
    have hb6 : n / 256 / 256 / 256 / 256 / 256 / 256 % 256 < 256 := by omega
    have hb7 : n / 256 / 256 / 256 / 256 / 256 / 256 / 256 % 256 < 256 := by omega
    have m1 : ∀ k z, mapB f3 (k + 1) z = 256 * mapB f3 k (z / 256) + f3 (z % 256) := fun _ _ => rfl
    have m0 : ∀ z, mapB f3 0 z = 0 := fun _ => rfl
    rw [m1, m1, m1, m1, m1, m1, m1, m1, m0] at e3
    have hnb : n = n % 256 + 256 * (n / 256 % 256) + 65536 * (n / 256 / 256 % 256) + 16777216 * (n / 256 / 256 / 256 % 256) + 4294967296 * (n / 256 / 256 / 256 / 256 % 256) + 1099511627776 * (n / 256 / 256 / 256 / 256 / 256 % 256) + 281474976710656 * (n / 256 / 256 / 256 / 256 / 256 / 256 % 256) + 72057594037927936 * (n / 256 / 256 / 256 / 256 / 256 / 256 / 256 % 256) := by omega
    generalize n / 256 / 256 / 256 / 256 / 256 / 256 / 256 % 256 = b7 at hb7 e3 hnb
    generalize n / 256 / 256 / 256 / 256 / 256 / 256 % 256 = b6 at hb6 e3 hnb
    generalize n / 256 / 256 / 256 / 256 / 256 % 256 = b5 at hb5 e3 hnb
    generalize n / 256 / 256 / 256 / 256 % 256 = b4 at hb4 e3 hnb
    generalize n / 256 / 256 / 256 % 256 = b3 at hb3 e3 hnb
    generalize n / 256 / 256 % 256 = b2 at hb2 e3 hnb
    generalize n / 256 % 256 = b1 at hb1 e3 hnb
    generalize n % 256 = b0 at hb0 e3 hnb
    have l0 := f3_le b0 hb0
    have l1 := f3_le b1 hb1
    have l2 := f3_le b2 hb2
    have l3 := f3_le b3 hb3
    have l4 := f3_le b4 hb4
    have l5 := f3_le b5 hb5
    have l6 := f3_le b6 hb6
    have l7 := f3_le b7 hb7
    have z0 := f3_zero b0 hb0
    have z1 := f3_zero b1 hb1
    have z2 := f3_zero b2 hb2
    have z3 := f3_zero b3 hb3
    have z4 := f3_zero b4 hb4
    have z5 := f3_zero b5 hb5
    have z6 := f3_zero b6 hb6
    have z7 := f3_zero b7 hb7
    have o0 := f3_one b0 hb0
    have o1 := f3_one b1 hb1
    have o2 := f3_one b2 hb2
    have o3 := f3_one b3 hb3
    have o4 := f3_one b4 hb4
    have o5 := f3_one b5 hb5
    have o6 := f3_one b6 hb6
    have o7 := f3_one b7 hb7
    generalize f3 b0 = c0 at *
    generalize f3 b1 = c1 at *
    generalize f3 b2 = c2 at *
    generalize f3 b3 = c3 at *
    generalize f3 b4 = c4 at *
    generalize f3 b5 = c5 at *
    generalize f3 b6 = c6 at *
    generalize f3 b7 = c7 at *
    obtain ⟨Y6, g6⟩ : ∃ Y6, Y6 = 256 * c7 + c6 := ⟨_, rfl⟩
    obtain ⟨Y5, g5⟩ : ∃ Y5, Y5 = 256 * Y6 + c5 := ⟨_, rfl⟩
    obtain ⟨Y4, g4⟩ : ∃ Y4, Y4 = 256 * Y5 + c4 := ⟨_, rfl⟩
    obtain ⟨Y3, g3⟩ : ∃ Y3, Y3 = 256 * Y4 + c3 := ⟨_, rfl⟩
    obtain ⟨Y2, g2⟩ : ∃ Y2, Y2 = 256 * Y3 + c2 := ⟨_, rfl⟩
    obtain ⟨Y1, g1⟩ : ∃ Y1, Y1 = 256 * Y2 + c1 := ⟨_, rfl⟩
    obtain ⟨y, g0⟩ : ∃ y, y = 256 * Y1 + c0 := ⟨_, rfl⟩
    have ey : (w3 x).toNat = y := by omega
    obtain ⟨q1, q2, q3⟩ := sum8 c0 c1 c2 c3 c4 c5 c6 c7 Y1 Y2 Y3 Y4 Y5 Y6 y l0 l1 l2 l3 l4 l5 l6 l7 g0 g1 g2 g3 g4 g5 g6
    have e4 : (w4 x).toNat = Y1 + y := by
      unfold w4
      rw [BitVec.toNat_add, BitVec.toNat_ushiftRight, Nat.shiftRight_eq_div_pow, ey, show (2 : Nat) ^ 8 = 256 from rfl, q1, Nat.mod_eq_of_lt (by omega)]
      omega
    have e5 : (w5 x).toNat = Y2 + Y3 + (Y1 + y) := by
      unfold w5
      rw [BitVec.toNat_add, BitVec.toNat_ushiftRight, Nat.shiftRight_eq_div_pow, e4, show (2 : Nat) ^ 16 = 65536 from rfl, q2, Nat.mod_eq_of_lt (by omega)]
      omega
    have e6 : (w6 x).toNat = Y4 + Y5 + (Y6 + c7) + (Y2 + Y3 + (Y1 + y)) := by
      unfold w6
      rw [BitVec.toNat_add, BitVec.toNat_ushiftRight, Nat.shiftRight_eq_div_pow, e5, show (2 : Nat) ^ 32 = 4294967296 from rfl, q3, Nat.mod_eq_of_lt (by omega)]
      omega
    rw [e6] at h
    have hsum : c0 + c1 + c2 + c3 + c4 + c5 + c6 + c7 = 1 := by omega
    have key : ∃ k, k < 64 ∧ n = 2 ^ k := by
      clear e3 e4 e5 e6 q1 q2 q3 g0 g1 g2 g3 g4 g5 g6 h ey
      rcases (show c0 = 1 ∨ c1 = 1 ∨ c2 = 1 ∨ c3 = 1 ∨ c4 = 1 ∨ c5 = 1 ∨ c6 = 1 ∨ c7 = 1 by omega) with hc | hc | hc | hc | hc | hc | hc | hc
      · obtain ⟨j, hj, e⟩ := o0 hc
        exact pow_of 0 j n (by omega) hj (by have := z1 (by omega); have := z2 (by omega); have := z3 (by omega); have := z4 (by omega); have := z5 (by omega); have := z6 (by omega); have := z7 (by omega); omega)
      · obtain ⟨j, hj, e⟩ := o1 hc
        exact pow_of 1 j n (by omega) hj (by have := z0 (by omega); have := z2 (by omega); have := z3 (by omega); have := z4 (by omega); have := z5 (by omega); have := z6 (by omega); have := z7 (by omega); omega)
      · obtain ⟨j, hj, e⟩ := o2 hc
        exact pow_of 2 j n (by omega) hj (by have := z0 (by omega); have := z1 (by omega); have := z3 (by omega); have := z4 (by omega); have := z5 (by omega); have := z6 (by omega); have := z7 (by omega); omega)
      · obtain ⟨j, hj, e⟩ := o3 hc
        exact pow_of 3 j n (by omega) hj (by have := z0 (by omega); have := z1 (by omega); have := z2 (by omega); have := z4 (by omega); have := z5 (by omega); have := z6 (by omega); have := z7 (by omega); omega)
      · obtain ⟨j, hj, e⟩ := o4 hc
        exact pow_of 4 j n (by omega) hj (by have := z0 (by omega); have := z1 (by omega); have := z2 (by omega); have := z3 (by omega); have := z5 (by omega); have := z6 (by omega); have := z7 (by omega); omega)
      · obtain ⟨j, hj, e⟩ := o5 hc
        exact pow_of 5 j n (by omega) hj (by have := z0 (by omega); have := z1 (by omega); have := z2 (by omega); have := z3 (by omega); have := z4 (by omega); have := z6 (by omega); have := z7 (by omega); omega)
      · obtain ⟨j, hj, e⟩ := o6 hc
        exact pow_of 6 j n (by omega) hj (by have := z0 (by omega); have := z1 (by omega); have := z2 (by omega); have := z3 (by omega); have := z4 (by omega); have := z5 (by omega); have := z7 (by omega); omega)
      · obtain ⟨j, hj, e⟩ := o7 hc
        exact pow_of 7 j n (by omega) hj (by have := z0 (by omega); have := z1 (by omega); have := z2 (by omega); have := z3 (by omega); have := z4 (by omega); have := z5 (by omega); have := z6 (by omega); omega)
    obtain ⟨k, hk, e⟩ := key
    refine ⟨k, hk, BitVec.eq_of_toNat_eq ?_⟩
    rw [hn, e, BitVec.toNat_shiftLeft, Nat.shiftLeft_eq, show (1#64).toNat = 1 from rfl, Nat.one_mul, Nat.mod_eq_of_lt (Nat.pow_lt_pow_right (by omega) hk)]
  · rintro ⟨k, hk, rfl⟩
    rw [pcI_w]
    have : ∀ i : Fin 64, (w6 (1#64 <<< i.val)).toNat % 128 = 1 := by decide +kernel
    rw [this ⟨k, hk⟩]
    rfl
end Go.Proofs.YtiadfnedbbkojaaDoor.Kb
namespace Go.Proofs.YtiadfnedbbkojaaDoor.Kb
open Go Go.Proofs Go.Proofs.YtiadfnedbbkojaaDoor.X Go.Proofs.YtiadfnedbbkojaaDoor.Bv
set_option linter.unusedSimpArgs false
set_option linter.unusedVariables false
theorem up_unique (p : Nat → Bool) (w n : Nat) (h1 : n ≤ w) (h2 : ∀ j, j < n → p j = true) (h3 : n < w → p n = false) : up p w = n := by
  obtain ⟨g1, g2, g3⟩ := up_spec p w
  rcases Nat.lt_trichotomy (up p w) n with h | h | h
  · have := h2 _ h
    rw [g3 (by omega)] at this
    cases this
  · exact h
  · have := g2 _ h
    rw [h3 (by omega)] at this
    cases this
theorem and_zero_bit {x y : BitVec 64} (h : x &&& y = 0#64) (i : Nat) : (x.getLsbD i && y.getLsbD i) = false := by
  rw [← BitVec.getLsbD_and, h, BitVec.getLsbD_zero]
theorem kn0 {z o : BitVec 64} (h : z &&& o = 0#64) (i : Nat) : iEq (kn z o i) 0 = z.getLsbD i := by
  have := and_zero_bit h i
  unfold kn
  revert this
  cases z.getLsbD i <;> cases o.getLsbD i <;> decide
theorem kn1 (z o : BitVec 64) (i : Nat) : iEq (kn z o i) 1 = o.getLsbD i := by
  unfold kn
  cases z.getLsbD i <;> cases o.getLsbD i <;> decide
theorem knp (z o : BitVec 64) (i : Nat) : iLe 0 (kn z o i) = (z ||| o).getLsbD i := by
  rw [BitVec.getLsbD_or]
  unfold kn
  cases z.getLsbD i <;> cases o.getLsbD i <;> decide
theorem tz_not (x : BitVec 64) : (∀ j, j < tz (~~~ x) → x.getLsbD j = true) ∧ (tz (~~~ x) < 64 → x.getLsbD (tz (~~~ x)) = false) := by
  by_cases h : ~~~ x = 0#64
  · have hx : x = BitVec.allOnes 64 := by
      rw [← BitVec.not_not (b := x), h]
      rfl
    have : tz (~~~ x) = 64 := by rw [h]; rfl
    rw [this]
    refine ⟨fun j hj => ?_, fun h => absurd h (by omega)⟩
    rw [hx, BitVec.getLsbD_allOnes, decide_eq_true hj]
  · obtain ⟨h1, h2, h3⟩ := tz_spec h
    refine ⟨fun j hj => ?_, fun _ => ?_⟩
    · have := h2 j hj
      rw [BitVec.getLsbD_not, decide_eq_true (by omega), Bool.true_and] at this
      cases e : x.getLsbD j with
      | true => rfl
      | false => rw [e] at this; cases this
    · rw [BitVec.getLsbD_not, decide_eq_true (by omega), Bool.true_and] at h3
      cases e : x.getLsbD (tz (~~~ x)) with
      | false => rfl
      | true => rw [e] at h3; cases h3
theorem up_bits (x : BitVec 64) (w : Nat) (hw : w ≤ 64) : up (fun j => x.getLsbD j) w = min (tz (~~~ x)) w := by
  obtain ⟨h1, h2⟩ := tz_not x
  refine up_unique _ _ _ (by omega) (fun j hj => h1 j (by omega)) fun h => ?_
  have : min (tz (~~~ x)) w = tz (~~~ x) := by omega
  rw [this]
  exact h2 (by omega)
theorem rtl_tz {z o : BitVec 64} (h : z &&& o = 0#64) (w : Nat) (hw : w ≤ 64) : rtl w z o = min (tz (~~~ z)) w := by
  unfold rtl
  rw [show (fun j => iEq (kn z o j) 0) = fun j => z.getLsbD j from funext fun j => kn0 h j]
  exact up_bits z w hw
theorem rlw_tz (z o : BitVec 64) (w : Nat) (hw : w ≤ 64) : rlw w z o = min (tz (~~~ (z ||| o))) w := by
  unfold rlw
  rw [show (fun j => iLe 0 (kn z o j)) = fun j => (z ||| o).getLsbD j from funext fun j => knp z o j]
  exact up_bits _ w hw
theorem ld_spec (w : Nat) (hw : w ≤ 64) (k : BitVec 64) : (∀ j, j < ld w k → k.getLsbD (w - 1 - j) = true) ∧ (ld w k < w → k.getLsbD (w - 1 - ld w k) = false) := by
  have hle := ld_le w hw k
  unfold ld lz at *
  generalize hy : ~~~ (k <<< (64 - w)) = y at *
  have hlen : lenN y.toNat ≤ 64 := (lenN_lt _ _).2 y.isLt
  have bit : ∀ j, j < w → y.getLsbD (63 - j) = !k.getLsbD (w - 1 - j) := fun j hj => by
    rw [← hy, BitVec.getLsbD_not, BitVec.getLsbD_shiftLeft]
    simp only [show 63 - j < 64 by omega, show ¬ (63 - j < 64 - w) by omega, decide_true, decide_false, Bool.not_false, Bool.true_and, show 63 - j - (64 - w) = w - 1 - j by omega]
  refine ⟨fun j hj => ?_, fun h => ?_⟩
  · have h1 := bit j (by omega)
    have h2 : y.getLsbD (63 - j) = false := by
      have h3 := (lenN_lt y.toNat (63 - j)).1 (by omega)
      exact Nat.testBit_lt_two_pow h3
    rw [h2] at h1
    cases e : k.getLsbD (w - 1 - j) with
    | true => rfl
    | false => rw [e] at h1; cases h1
  · generalize hL : lenN y.toNat = L at *
    have h1 := bit (64 - L) h
    have hn : ¬ y.toNat < 2 ^ (L - 1) := fun hh => by
      have := (lenN_lt y.toNat (L - 1)).2 hh
      omega
    have hlt : y.toNat < 2 ^ L := (lenN_lt _ _).1 (by omega)
    have h2 : y.getLsbD (63 - (64 - L)) = true := by
      rw [show 63 - (64 - L) = L - 1 by omega]
      show y.toNat.testBit (L - 1) = true
      have : y.toNat / 2 ^ (L - 1) = 1 := by
        have hp : 2 ^ L = 2 * 2 ^ (L - 1) := by
          rw [Nat.mul_comm, ← Nat.pow_succ]
          congr 1
          omega
        have := Nat.two_pow_pos (L - 1)
        exact Nat.div_eq_of_lt_le (by omega) (by omega)
      rw [Nat.testBit, Nat.shiftRight_eq_div_pow, this]
      rfl
    rw [h2] at h1
    cases e : k.getLsbD (w - 1 - (64 - L)) with
    | false => rfl
    | true => rw [e] at h1; cases h1
theorem up_ld (k : BitVec 64) (w : Nat) (hw : w ≤ 64) : up (fun j => k.getLsbD (w - 1 - j)) w = ld w k := by
  obtain ⟨h1, h2⟩ := ld_spec w hw k
  exact up_unique _ _ _ (ld_le w hw k) h1 h2
theorem rld_0 {z o : BitVec 64} (h : z &&& o = 0#64) (w : Nat) (hw : w ≤ 64) : rld w z o 0 = ld w z := by
  unfold rld
  rw [show (fun j => iEq (kn z o (w - 1 - j)) 0) = fun j => z.getLsbD (w - 1 - j) from funext fun j => kn0 h _]
  exact up_ld z w hw
theorem rld_1 (z o : BitVec 64) (w : Nat) (hw : w ≤ 64) : rld w z o 1 = ld w o := by
  unfold rld
  rw [show (fun j => iEq (kn z o (w - 1 - j)) 1) = fun j => o.getLsbD (w - 1 - j) from funext fun j => kn1 z o _]
  exact up_ld o w hw
theorem hi_bit (w m : Nat) (hw : w ≤ 64) (i : Nat) : (hi w m).getLsbD i = (decide (i < w) && decide (w - m ≤ i)) := by
  unfold hi
  rw [BitVec.getLsbD_and, BitVec.getLsbD_not, M_bit w hw, M_bit (w - m) (by omega)]
  by_cases h : i < w
  · rw [decide_eq_true h, decide_eq_true (show i < 64 by omega)]
    by_cases h2 : i < w - m
    · rw [decide_eq_true h2, decide_eq_false (show ¬ w - m ≤ i by omega)]
      rfl
    · rw [decide_eq_false h2, decide_eq_true (show w - m ≤ i by omega)]
      rfl
  · rw [decide_eq_false h, Bool.false_and, Bool.false_and]
theorem hi_zrf (w m : Nat) (hw : w ≤ 64) (hm : m ≤ w) : hi w m = bvN (zrf w 0 m) w := by
  apply BitVec.eq_of_getLsbD_eq
  intro i _
  rw [hi_bit w m hw, bvN_bit _ w hw]
  unfold zrf
  congr 1
  rw [decide_eq_false (Nat.not_lt_zero i), Bool.false_or]
  exact decide_eq_decide.2 (by omega)
theorem M_zrf (w m : Nat) (hw : w ≤ 64) (hm : m ≤ w) : M (m : Nat) = bvN (zrf w m 0) w := by
  apply BitVec.eq_of_getLsbD_eq
  intro i _
  rw [M_bit m (by omega), bvN_bit _ w hw]
  unfold zrf
  by_cases h : i < m
  · rw [decide_eq_true h, decide_eq_true (show i < w by omega)]
    rfl
  · rw [decide_eq_false h, Bool.false_or]
    by_cases h2 : i < w
    · rw [decide_eq_true h2, decide_eq_false (show ¬ w ≤ i + 0 by omega)]
      rfl
    · rw [decide_eq_false h2]
      rfl
/-- What an element's validity says. -/
structure Vd2 (w : Nat) (z o : BitVec 64) : Prop where
  dis : z &&& o = 0#64
  inM : ∀ i, w ≤ i → z.getLsbD i = false ∧ o.getLsbD i = false
theorem valB_iff {w : Nat} {z o : BitVec 64} (hw : w ≤ 64) (h : valB w z o = true) : 1 ≤ w ∧ Vd2 w z o := by
  unfold valB at h
  rw [Bool.and_eq_true, Bool.and_eq_true, beq_iff_eq, beq_iff_eq] at h
  obtain ⟨h1, h2, h3⟩ := h
  refine ⟨by have := (goodB_iff.1 h1).1; omega, h3, fun i hi => ?_⟩
  have hb : ((z ||| o) &&& ~~~ M w).getLsbD i = false := by rw [h2, BitVec.getLsbD_zero]
  by_cases h64 : i < 64
  · rw [BitVec.getLsbD_and, BitVec.getLsbD_or, BitVec.getLsbD_not, M_bit w hw, decide_eq_true h64, decide_eq_false (show ¬ i < w by omega)] at hb
    revert hb
    cases z.getLsbD i <;> cases o.getLsbD i <;> decide
  · exact ⟨BitVec.getLsbD_of_ge _ _ (by omega), BitVec.getLsbD_of_ge _ _ (by omega)⟩
end Go.Proofs.YtiadfnedbbkojaaDoor.Kb
