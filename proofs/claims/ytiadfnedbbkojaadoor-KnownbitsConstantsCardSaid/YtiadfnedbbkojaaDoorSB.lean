/- Words: the two values of an operator are one. No program. -/
import Derived.Test.YtiadfnedbbkojaaDoorSA
import Derived.Test.YtiadfnedbbkojaaDoorYA
import Derived.Test.YtiadfnedbbkojaaDoorHC
namespace Go.Proofs.YtiadfnedbbkojaaDoor.Kb
open Go Go.Proofs Go.Proofs.YtiadfnedbbkojaaDoor.X Go.Proofs.YtiadfnedbbkojaaDoor.Bv
set_option linter.unusedVariables false
/-- A word of a width. -/
def Vd (w : Nat) (a : BitVec 64) : Prop := a &&& M w = a
theorem Vd.bit {w : Nat} (hw : w ≤ 64) {a : BitVec 64} (h : Vd w a) {i : Nat} (hi : w ≤ i) : a.getLsbD i = false := by
  rw [← h, BitVec.getLsbD_and, M_bit w hw, decide_eq_false (by omega), Bool.and_false]
theorem Vd.of {w : Nat} (hw : w ≤ 64) {a : BitVec 64} (h : ∀ i, w ≤ i → a.getLsbD i = false) : Vd w a := by
  unfold Vd
  apply BitVec.eq_of_getLsbD_eq
  intro i hi
  rw [BitVec.getLsbD_and, M_bit w hw]
  by_cases h' : i < w
  · rw [decide_eq_true h', Bool.and_true]
  · rw [decide_eq_false h', Bool.and_false, h i (by omega)]
theorem Vd.lt {w : Nat} (hw : w ≤ 64) {a : BitVec 64} (h : Vd w a) : a.toNat < 2 ^ w := by
  have e : a.toNat = (a &&& M w).toNat := by rw [h]
  rw [BitVec.toNat_and, M_nat w hw] at e
  rw [e, Nat.and_two_pow_sub_one_eq_mod]
  exact Nat.mod_lt _ (Nat.two_pow_pos w)
theorem Vd.of_lt {w : Nat} (hw : w ≤ 64) {a : BitVec 64} (h : a.toNat < 2 ^ w) : Vd w a := by
  unfold Vd
  apply BitVec.eq_of_toNat_eq
  rw [BitVec.toNat_and, M_nat w hw, Nat.and_two_pow_sub_one_eq_mod]
  exact Nat.mod_eq_of_lt h
theorem Vd.mono {v w : Nat} (hw : w ≤ 64) (hv : v ≤ w) {a : BitVec 64} (h : Vd v a) : Vd w a := Vd.of_lt hw (Nat.lt_of_lt_of_le (h.lt (by omega)) (Nat.pow_le_pow_right (by decide) hv))
theorem Vd.mask {w : Nat} (a : BitVec 64) : Vd w (a &&& M w) := by
  unfold Vd
  rw [BitVec.and_assoc, BitVec.and_self]
theorem isg_bit {w : Nat} (h1 : 1 ≤ w) (hw : w ≤ 64) (a : BitVec 64) {i : Nat} (hi : i < 64) : (isg w a).getLsbD i = if i < w then a.getLsbD i else a.getLsbD (w - 1) := by
  unfold isg
  rw [BitVec.getLsbD_sshiftRight]
  have e : decide (64 ≤ i) = false := decide_eq_false (by omega)
  rw [e, Bool.not_false, Bool.true_and]
  by_cases h : i < w
  · rw [if_pos (by omega), if_pos h, BitVec.getLsbD_shiftLeft, decide_eq_true (by omega), decide_eq_false (by omega)]
    simp only [Bool.true_and, Bool.not_false]
    congr 1
    omega
  · rw [if_neg (by omega), if_neg h, BitVec.msb_eq_getLsbD_last, BitVec.getLsbD_shiftLeft, decide_eq_true (by omega), decide_eq_false (by omega)]
    simp only [Bool.true_and, Bool.not_false]
    congr 1
    omega
theorem rsg_bit {w : Nat} (h1 : 1 ≤ w) (hw : w ≤ 64) {a : BitVec 64} (h : Vd w a) {i : Nat} (hi : i < 64) : (rsg w a).getLsbD i = if i < w then a.getLsbD i else a.getLsbD (w - 1) := by
  unfold rsg
  cases hs : a.getLsbD (w - 1) with
  | true =>
    rw [cond_true, BitVec.getLsbD_or, BitVec.getLsbD_not, M_bit w hw, decide_eq_true hi, Bool.true_and]
    by_cases h' : i < w
    · rw [decide_eq_true h', if_pos h', Bool.not_true, Bool.or_false]
    · rw [decide_eq_false h', if_neg h', Bool.not_false, Bool.or_true]
  | false =>
    rw [cond_false]
    by_cases h' : i < w
    · rw [if_pos h']
    · rw [if_neg h', h.bit hw (by omega)]
theorem isg_rsg {w : Nat} (h1 : 1 ≤ w) (hw : w ≤ 64) {a : BitVec 64} (h : Vd w a) : isg w a = rsg w a := by
  apply BitVec.eq_of_getLsbD_eq
  intro i hi
  rw [isg_bit h1 hw a hi, rsg_bit h1 hw h hi]
theorem isg_0 {w : Nat} (h1 : 1 ≤ w) (hw : w ≤ 64) {a : BitVec 64} (h : Vd w a) (h0 : isg w a = 0#64) : a = 0#64 := by
  apply BitVec.eq_of_getLsbD_eq
  intro i hi
  by_cases h' : i < w
  · have := isg_bit h1 hw a hi
    rw [h0, if_pos h'] at this
    exact this.symm
  · rw [h.bit hw (by omega), BitVec.getLsbD_zero]
theorem rsg_0 (w : Nat) : rsg w 0#64 = 0#64 := by
  unfold rsg
  rw [BitVec.getLsbD_zero]
  rfl
theorem M_self (w : Nat) : M w &&& M w = M w := BitVec.and_self
theorem zero_M (w : Nat) : 0#64 &&& M w = 0#64 := BitVec.zero_and
theorem bool_M {w : Nat} (h1 : 1 ≤ w) (hw : w ≤ 64) (b : Bool) : cond b 1#64 0#64 &&& M w = cond b 1#64 0#64 := by
  cases b with
  | false => exact zero_M w
  | true => exact Vd.of_lt hw (Nat.one_lt_two_pow (by omega))
theorem dv_q {w : Nat} (h1 : 1 ≤ w) (hw : w ≤ 64) {a b : BitVec 64} (ha : Vd w a) (hb : Vd w b) : dvi 7 w a b &&& M w = dvq w a b := by
  unfold dvi dvq
  rw [← isg_rsg h1 hw ha, ← isg_rsg h1 hw hb]
  by_cases h0 : b = 0#64
  · subst h0
    simp only [isg0, and_true, or_true, reduceIte, Int.reduceEq, M_self]
  · have h0' : isg w b ≠ 0#64 := fun h => h0 (isg_0 h1 hw hb h)
    rw [if_neg h0', if_neg (fun h => h0 h.2), if_neg h0]
    simp only [Int.reduceEq, reduceIte, and_true]
    by_cases hm : isg w b = BitVec.allOnes 64
    · rw [if_pos hm, if_pos hm, BitVec.zero_sub]
    · rw [if_neg hm, if_neg hm, if_neg hm]
theorem dv_r {w : Nat} (h1 : 1 ≤ w) (hw : w ≤ 64) {a b : BitVec 64} (ha : Vd w a) (hb : Vd w b) : dvi 8 w a b &&& M w = dvr w a b := by
  unfold dvi dvr
  rw [← isg_rsg h1 hw ha, ← isg_rsg h1 hw hb]
  by_cases h0 : b = 0#64
  · subst h0
    simp only [isg0, reduceIte, Int.reduceEq, or_self, false_and]
    exact ha
  · have h0' : isg w b ≠ 0#64 := fun h => h0 (isg_0 h1 hw hb h)
    rw [if_neg h0', if_neg (fun h => h0 h.2), if_neg h0]
    simp only [Int.reduceEq, reduceIte, and_false]
    by_cases hm : isg w b = BitVec.allOnes 64
    · rw [if_pos hm, if_pos hm, zero_M]
    · rw [if_neg hm, if_neg hm]
theorem sh_r {w : Nat} (h1 : 1 ≤ w) (hw : w ≤ 64) {a b : BitVec 64} (ha : Vd w a) : shi 13 w a b &&& M w = bvN (shf w a b false) w := by
  apply BitVec.eq_of_getLsbD_eq
  intro i hi
  rw [bvN_bit _ w hw, BitVec.getLsbD_and, M_bit w hw]
  unfold shi shf
  simp only [Int.reduceEq, reduceIte]
  by_cases hb : w ≤ b.toNat
  · rw [if_pos hb, BitVec.getLsbD_zero, decide_eq_false (p := b.toNat < w) (by omega)]
    simp only [Bool.false_and, cond_false, Bool.and_false]
  · rw [if_neg hb, BitVec.getLsbD_ushiftRight, decide_eq_true (p := b.toNat < w) (by omega), Bool.true_and, Bool.and_comm]
    congr 1
    by_cases hj : i + b.toNat < w
    · rw [decide_eq_true hj, cond_true, Nat.add_comm]
    · rw [decide_eq_false hj, cond_false]
      exact ha.bit hw (by omega)
theorem sh_a {w : Nat} (h1 : 1 ≤ w) (hw : w ≤ 64) {a b : BitVec 64} (_ha : Vd w a) : shi 14 w a b &&& M w = bvN (shf w a b (a.getLsbD (w - 1))) w := by
  apply BitVec.eq_of_getLsbD_eq
  intro i hi
  rw [bvN_bit _ w hw, BitVec.getLsbD_and, M_bit w hw, Bool.and_comm]
  by_cases hiw : i < w
  · rw [decide_eq_true hiw, Bool.true_and, Bool.true_and]
    unfold shi shf
    simp only [reduceIte]
    rw [BitVec.getLsbD_sshiftRight, decide_eq_false (p := 64 ≤ i) (by omega), Bool.not_false, Bool.true_and]
    have msb : (isg w a).msb = a.getLsbD (w - 1) := by
      rw [BitVec.msb_eq_getLsbD_last, isg_bit h1 hw a (by omega)]
      split
      · congr 1
        omega
      · rfl
    by_cases hb : b.toNat < w
    · rw [decide_eq_true hb, Bool.true_and, Nat.min_eq_left (by omega)]
      by_cases hj : i + b.toNat < w
      · rw [decide_eq_true hj, cond_true, if_pos (by omega), isg_bit h1 hw a (by omega), if_pos (by omega), Nat.add_comm]
      · rw [decide_eq_false hj, cond_false]
        split
        · rw [isg_bit h1 hw a (by omega), if_neg (by omega)]
        · exact msb
    · rw [decide_eq_false hb, Bool.false_and, cond_false, Nat.min_eq_right (by omega)]
      split
      · rw [isg_bit h1 hw a (by omega)]
        split
        · congr 1
          omega
        · rfl
      · exact msb
  · rw [decide_eq_false hiw, Bool.false_and, Bool.false_and]
theorem vl_ev {op : Int} (ho : 2 ≤ op ∧ op ≤ 20) {w w0 : Nat} (h1 : 1 ≤ w) (hw : w ≤ 64) (g1 : 1 ≤ w0) (gw : w0 ≤ 64) (hs : op ≤ 14 → w0 = w) {a b : BitVec 64} (ha : Vd w0 a) (hb : Vd w0 b) : vl2 op w w0 a b &&& M w = ev2 op w w0 a b := by
  unfold vl2 ev2
  have hop : op = 2 ∨ op = 3 ∨ op = 4 ∨ op = 5 ∨ op = 6 ∨ op = 7 ∨ op = 8 ∨ op = 9 ∨ op = 10 ∨ op = 11 ∨ op = 12 ∨ op = 13 ∨ op = 14 ∨ op = 15 ∨ op = 16 ∨ op = 17 ∨ op = 18 ∨ op = 19 ∨ op = 20 := by omega
  rcases hop with rfl | rfl | rfl | rfl | rfl | rfl | rfl | rfl | rfl | rfl | rfl | rfl | rfl | rfl | rfl | rfl | rfl | rfl | rfl
  · simp only [reduceIte]
  · simp only [Int.reduceEq, reduceIte]
  · simp only [Int.reduceEq, reduceIte]
  · obtain rfl := hs (by decide)
    simp only [Int.reduceEq, Int.reduceLE, reduceIte]
    unfold dvi
    by_cases h0 : b = 0#64
    · rw [if_pos ⟨.inl rfl, h0⟩, if_pos h0, M_self]
    · rw [if_neg (fun h => h0 h.2), if_neg h0, if_neg h0, if_pos rfl]
      refine Vd.of_lt hw ?_
      rw [BitVec.toNat_udiv]
      exact Nat.lt_of_le_of_lt (Nat.div_le_self _ _) (ha.lt hw)
  · obtain rfl := hs (by decide)
    simp only [Int.reduceEq, Int.reduceLE, reduceIte]
    unfold dvi
    simp only [Int.reduceEq, or_self, false_and, reduceIte]
    by_cases h0 : b = 0#64
    · rw [if_pos h0]
      exact ha
    · rw [if_neg h0]
      refine Vd.of_lt hw ?_
      rw [BitVec.toNat_umod]
      exact Nat.lt_of_le_of_lt (Nat.mod_le _ _) (ha.lt hw)
  · obtain rfl := hs (by decide)
    simp only [Int.reduceEq, Int.reduceLE, reduceIte]
    exact dv_q h1 hw ha hb
  · obtain rfl := hs (by decide)
    simp only [Int.reduceEq, Int.reduceLE, reduceIte]
    exact dv_r h1 hw ha hb
  · obtain rfl := hs (by decide)
    simp only [Int.reduceEq, Int.reduceLE, reduceIte]
    rw [BitVec.and_assoc, hb]
  · obtain rfl := hs (by decide)
    simp only [Int.reduceEq, Int.reduceLE, reduceIte]
    refine Vd.of hw fun i hi => ?_
    rw [BitVec.getLsbD_or, ha.bit hw hi, hb.bit hw hi, Bool.or_false]
  · obtain rfl := hs (by decide)
    simp only [Int.reduceEq, Int.reduceLE, reduceIte]
    refine Vd.of hw fun i hi => ?_
    rw [BitVec.getLsbD_xor, ha.bit hw hi, hb.bit hw hi]
    rfl
  · obtain rfl := hs (by decide)
    simp only [Int.reduceEq, Int.reduceLE, reduceIte]
    unfold shi
    simp only [Int.reduceEq, reduceIte]
    split
    · exact zero_M _
    · rfl
  · obtain rfl := hs (by decide)
    simp only [Int.reduceEq, Int.reduceLE, reduceIte]
    exact sh_r h1 hw ha
  · obtain rfl := hs (by decide)
    simp only [Int.reduceEq, Int.reduceLE, reduceIte]
    exact sh_a h1 hw ha
  all_goals
    simp only [Int.reduceEq, Int.reduceLE, reduceIte]
    rw [bool_M h1 hw]
    unfold cmpB
    simp only [Int.reduceEq, reduceIte]
  · rw [isg_rsg g1 gw ha, isg_rsg g1 gw hb]
  · rw [isg_rsg g1 gw ha, isg_rsg g1 gw hb]
end Go.Proofs.YtiadfnedbbkojaaDoor.Kb
/- What knownbits.Apply does with its operands: the loop. -/
namespace Go.Proofs.YtiadfnedbbkojaaDoor.Kb
open Go Go.Proofs Go.Proofs.YtiadfnedbbkojaaDoor.X Go.Proofs.YtiadfnedbbkojaaDoor.Bv
set_option linter.unusedSimpArgs false
set_option linter.unusedVariables false
/-- An operand: its width, and what is known about it. -/
abbrev Opd := Int × BitVec 64 × BitVec 64
def Opd.v (q : Opd) : Bool := valB q.1 q.2.1 q.2.2
def Opd.e (q : Opd) : Bool := exB q.1 q.2.1 q.2.2
def Opd.x (q : Opd) : BitVec 64 := cond q.e q.2.2 0#64
def els (Z : List Opd) : List (Int × Int) := Z.map fun q => (U q.2.1, U q.2.2)
def wid (Z : List Opd) : List Int := Z.map fun q => q.1
def row1 (A : List (BitVec 64)) : List Value := (wds A).map fun n => .int .u64 n
theorem row1_snoc (A : List (BitVec 64)) (x : BitVec 64) : row1 (A ++ [x]) = row1 A ++ [.int .u64 (U x)] := by
  unfold row1 wds
  simp
theorem apL (n : Nat) (h b : AH) (B : WF b) (hbl : b.low = h.next) (hbn : b.next = h.next + 1) (hO : Own b h.next [.int .u64 0, .int .u64 0]) (op w : Int) (num : Int) (Z : List Opd) (hZ : Z.length ≤ 20)
    (wa ea : Option Addr) (wn wc en ec : Nat) (SW : Sl b wa ((wid Z).map fun n => .int .i64 n)) (hwn : wn = Z.length) (SE : Sl b ea (prs (els Z))) (hen : en = Z.length) (exf : Bool) (r : Value × AH)
    (hfin : ∀ (m' : Nat) (g' : AH) (a' : Option Addr) (ac' G' : Nat), Kp b g' → Row g' a' Z.length ac' 1 G' (row1 (Z.map Opd.x)) →
      c10_1 (n + 3) (m' + 1) h op w wa wn wc ea en ec num ⟨h.next, 0, none⟩ exf a' Z.length ac' ea en ec (Int.ofNat en) Z.length g' = some r) :
    ∀ (k i m0 : Nat) (g : AH) (a : Option Addr) (ac G : Nat) (ex : Bool), k < m0 → i + k = Z.length → Kp b g → Row g a i ac 1 G (row1 ((Z.take i).map Opd.x)) → b.next ≤ G → G ≤ g.next → (ex && (Z.drop i).all Opd.e) = exf →
      c10_1 (n + 3) m0 h op w wa wn wc ea en ec num ⟨h.next, 0, none⟩ ex a i ac ea en ec (Int.ofNat en) i g = some (if (Z.drop i).all Opd.v then r else (.agg #[.int .u64 0, .int .u64 0], h)) := by
  intro k
  induction k with
  | zero =>
    intro i m0 g a ac G ex hm hi K R hG1 hG2 hex
    obtain ⟨m0, rfl⟩ : ∃ g, m0 = g + 1 := ⟨m0 - 1, by omega⟩
    obtain rfl : i = Z.length := by omega
    rw [List.drop_length, List.all_nil, Bool.and_true] at hex
    subst hex
    rw [List.drop_length, List.all_nil, if_pos rfl]
    rw [List.take_length] at R
    exact hfin m0 g a ac G K R
  | succ k ih =>
    intro i m0 g a ac G ex hm hi K R hG1 hG2 hex
    obtain ⟨m0, rfl⟩ : ∃ g, m0 = g + 1 := ⟨m0 - 1, by omega⟩
    have hil : i < Z.length := by omega
    have hq : Z[i]? = some Z[i] := List.getElem?_eq_getElem hil
    generalize hqe : Z[i] = q at hq
    have hE : (els Z)[i]? = some (U q.2.1, U q.2.2) := by
      unfold els
      rw [List.getElem?_map, hq]
      rfl
    have hW : (wid Z)[i]? = some q.1 := by
      unfold wid
      rw [List.getElem?_map, hq]
      rfl
    have hlow : b.low ≤ b.next := by omega
    have hel : en = (els Z).length := by
      unfold els
      rw [List.length_map, hen]
    have hwl : wn = (wid Z).length := by
      unfold wid
      rw [List.length_map, hwn]
    obtain ⟨g1, e1, K1, F1, O1, n1⟩ := K.new [.int .u64 0, .int .u64 0] 0
    obtain ⟨g2, e2, K2, F2, O2, n2⟩ := K1.st hlow (o := 0) (vs := [.int .u64 (U q.2.1), .int .u64 (U q.2.2)]) O1 K.nxt (Nat.le_refl _)
    rw [putAt0] at O2
    simp only [List.length_cons, List.length_nil, List.drop_succ_cons, List.drop_nil, List.append_nil] at O2
    have SW2 := SW.kp B K2
    have hval := valid (n + 1) g2 K2.wf q.1 q.2.1 q.2.2
    have hexa := exact n (setLow g2 g2.next) (K2.wf.setLow _) q.1 q.2.1 q.2.2
    have hdrop : Z.drop i = q :: Z.drop (i + 1) := by
      rw [List.drop_eq_getElem_cons hil, hqe]
    refine c10_1_ok ?_
    rw [c10_1_eq, iLt_true (by rw [hen]; exact Int.ofNat_lt.2 hil), cond_true]
    simp only [Int.toNat_natCast]
    rw [rowp (SE.kp B K) hel i _ hE]
    simp only [e1, e2, Option.bind_some]
    rw [row_at' SW2 hwl i q.1 hW]
    simp only [O2.rd, Nat.zero_add, Nat.add_zero, List.getElem?_cons_zero, List.getElem?_cons_succ, gI_int, gB_bool, gS_str, gL_sl, gP_ptr, Option.bind_some, cond_true, cond_false, hval]
    rw [show (goodB q.1 && (((q.2.1 ||| q.2.2) &&& ~~~ M q.1) == 0#64 && (q.2.1 &&& q.2.2) == 0#64)) = q.v from rfl, hdrop, List.all_cons]
    rw [hdrop, List.all_cons] at hex
    cases hv : q.v with
    | false =>
      obtain ⟨g3, e3, F3, O3, l3, n3⟩ := st_ok K2.wf (o := 0) (vs := [.int .u64 0, .int .u64 0]) (hO.kp B K2) (by rw [K2.low]; omega) (Nat.le_refl _)
      rw [putAt0] at O3
      simp only [List.length_cons, List.length_nil, List.drop_succ_cons, List.drop_nil, List.append_nil] at O3
      simp only [Bool.not_false, e3, gI_int, gB_bool, gS_str, gL_sl, gP_ptr, Option.bind_some, cond_true, cond_false, O3.rd, Nat.zero_add, List.getElem?_cons_zero, List.getElem?_cons_succ, Bool.false_and, if_neg Bool.false_ne_true]
      rw [exit_low (by rw [l3, K2.low, hbl]) rfl]
    | true =>
      simp only [Bool.not_true, gI_int, gB_bool, gS_str, gL_sl, gP_ptr, Option.bind_some, cond_true, cond_false]
      rw [row_at' SW2 hwl i q.1 hW]
      simp only [O2.rd, Nat.zero_add, Nat.add_zero, List.getElem?_cons_zero, List.getElem?_cons_succ, gI_int, gB_bool, gS_str, gL_sl, gP_ptr, Option.bind_some, cond_true, cond_false, hexa, setLow_low, Nat.beq_refl, setLow_set, setLow_self, tupIs2, tupC20, tupC21]
      have R2 : Row g2 a i ac 1 G (row1 ((Z.take i).map Opd.x)) := by
        rcases R with R | ⟨β, e, r1, r2, r3, r4, r5, r6⟩
        · exact .inl R
        · exact Row.fr (.inr ⟨β, e, r1, r2, r3, r4, r5, r6⟩) (F1.trans F2) (fun hx => by simp only [List.mem_append, List.mem_singleton, or_self] at hx; omega) fun β' e' hx => by
            rw [e] at e'
            injection e' with e'
            injection e' with e'
            simp only [List.mem_append, List.mem_singleton, or_self] at hx
            omega
      obtain ⟨g3, g4, a', G', e3, e4, R4, K4, hG', hG4, _, _, _⟩ := K2.app (by_ := 8) hlow R2 hG1 (by omega) (vs := [.int .u64 (U q.x)]) rfl (by decide) (by omega)
      have htk : Z.take (i + 1) = Z.take i ++ [q] := by
        rw [List.take_add_one, hq]
        rfl
      rw [← row1_snoc, ← List.map_singleton (f := Opd.x), ← List.map_append, ← htk] at R4
      have e3' : hNew g2 [.int .u64 (U (cond (exB q.1 q.2.1 q.2.2) q.2.2 0#64))] 1 = some (g2.next, g3) := e3
      have ih := fun ex => ih (i + 1) m0 g4 a' OPEN G' ex (by omega) (by omega) K4 R4 hG' hG4
      rw [show ((i + 1 : Nat) : Int) = (i : Int) + 1 by omega] at ih
      simp only [e3', e4, gI_int, gB_bool, gS_str, gL_sl, gP_ptr, Option.bind_some, cond_true, cond_false]
      rw [iAdd_i64 (by omega) (by omega)]
      cases ex with
      | true =>
        rw [cond_true, ih _ (by rw [Bool.true_and] at hex; exact hex)]
        simp only [Bool.true_and]
      | false =>
        rw [cond_false, ih false (by rw [Bool.false_and] at hex ⊢; exact hex)]
        simp only [Bool.true_and]
end Go.Proofs.YtiadfnedbbkojaaDoor.Kb
/- knownbits.Apply on exact operands; the two values of any operator of a right shape. -/
namespace Go.Proofs.YtiadfnedbbkojaaDoor.Kb
open Go Go.Proofs Go.Proofs.YtiadfnedbbkojaaDoor.X Go.Proofs.YtiadfnedbbkojaaDoor.Bv
set_option linter.unusedSimpArgs false
set_option linter.unusedVariables false
theorem goodB_iff {w : Int} : goodB w = true ↔ 1 ≤ w ∧ w ≤ 64 := by
  unfold goodB iLe
  rw [Bool.and_eq_true, decide_eq_true_iff, decide_eq_true_iff]
theorem iEq_true {x y : Int} (h : iEq x y = true) : x = y := beq_iff_eq.1 h
theorem iLe_iff {x y : Int} : iLe x y = true ↔ x ≤ y := decide_eq_true_iff
/-- What a right shape is. -/
theorem shp_cases {op w : Int} {L : List Int} (h : shp op w L = true) : (1 ≤ w ∧ w ≤ 64) ∧ (∀ x ∈ L, 1 ≤ x ∧ x ≤ 64) ∧
    ((op = 1 ∧ L = []) ∨ ((2 ≤ op ∧ op ≤ 14) ∧ L = [w, w]) ∨ ((15 ≤ op ∧ op ≤ 20) ∧ w = 1 ∧ ∃ x, L = [x, x]) ∨ (op = 21 ∧ L = [1, w, w]) ∨ ((op = 22 ∨ op = 23) ∧ ∃ x, x ≤ w ∧ L = [x]) ∨ (op = 24 ∧ ∃ x, w ≤ x ∧ L = [x])) := by
  unfold shp at h
  rw [Bool.and_eq_true, Bool.and_eq_true] at h
  obtain ⟨h1, h2, h3⟩ := h
  refine ⟨goodB_iff.1 h1, fun x hx => goodB_iff.1 (List.all_eq_true.1 h2 x hx), ?_⟩
  unfold shO at h3
  cases e1 : iEq op 1 with
  | true =>
    rw [e1, cond_true] at h3
    have := Int.ofNat.inj (iEq_true h3)
    exact .inl ⟨iEq_true e1, List.eq_nil_of_length_eq_zero this⟩
  | false =>
    rw [e1, cond_false] at h3
    cases e2 : (iLe 2 op && iLe op 14) with
    | true =>
      rw [e2, cond_true] at h3
      rw [Bool.and_eq_true, iLe_iff, iLe_iff] at e2
      by_cases hl : L.length = 2
      · obtain ⟨x, y, rfl⟩ := len2 hl
        have h3 : (iEq x w && iEq y w) = true := h3
        rw [Bool.and_eq_true] at h3
        rw [iEq_true h3.1, iEq_true h3.2]
        exact .inr (.inl ⟨e2, rfl⟩)
      · rw [sh2_ne w hl] at h3
        cases h3
    | false =>
      rw [e2, cond_false] at h3
      cases e3 : (iLe 15 op && iLe op 20) with
      | true =>
        rw [e3, cond_true] at h3
        rw [Bool.and_eq_true, iLe_iff, iLe_iff] at e3
        by_cases hl : L.length = 2
        · obtain ⟨x, y, rfl⟩ := len2 hl
          have h3 : (iEq x y && iEq w 1) = true := h3
          rw [Bool.and_eq_true] at h3
          rw [← iEq_true h3.1]
          exact .inr (.inr (.inl ⟨e3, iEq_true h3.2, x, rfl⟩))
        · rw [shc_ne w hl] at h3
          cases h3
      | false =>
        rw [e3, cond_false] at h3
        cases e4 : iEq op 21 with
        | true =>
          rw [e4, cond_true] at h3
          by_cases hl : L.length = 3
          · obtain ⟨x, y, z, rfl⟩ := len3 hl
            have h3 : (iEq x 1 && (iEq y w && iEq z w)) = true := h3
            rw [Bool.and_eq_true, Bool.and_eq_true] at h3
            rw [iEq_true h3.1, iEq_true h3.2.1, iEq_true h3.2.2]
            exact .inr (.inr (.inr (.inl ⟨iEq_true e4, rfl⟩)))
          · rw [sh3_ne w hl] at h3
            cases h3
        | false =>
          rw [e4, cond_false] at h3
          cases e5 : (iEq op 22 || iEq op 23) with
          | true =>
            rw [e5, cond_true] at h3
            rw [Bool.or_eq_true] at e5
            by_cases hl : L.length = 1
            · obtain ⟨x, rfl⟩ := len1 hl
              have h3 : iLe x w = true := h3
              exact .inr (.inr (.inr (.inr (.inl ⟨e5.imp iEq_true iEq_true, x, iLe_iff.1 h3, rfl⟩))))
            · rw [she_ne w hl] at h3
              cases h3
          | false =>
            rw [e5, cond_false] at h3
            cases e6 : iEq op 24 with
            | true =>
              rw [e6, cond_true] at h3
              by_cases hl : L.length = 1
              · obtain ⟨x, rfl⟩ := len1 hl
                have h3 : iLe w x = true := h3
                exact .inr (.inr (.inr (.inr (.inr ⟨iEq_true e6, x, iLe_iff.1 h3, rfl⟩))))
              · rw [sht_ne w hl] at h3
                cases h3
            | false =>
              rw [e6] at h3
              cases h3
theorem apply_exact (n : Nat) (h : AH) (H : WF h) (op w : Int) (num : BitVec 64) (Z : List Opd) (hZ : Z.length ≤ 20) (wa ea : Option Addr) (wn wc en ec : Nat) (SW : Sl h wa ((wid Z).map fun n => .int .i64 n)) (hwn : wn = Z.length)
    (SE : Sl h ea (prs (els Z))) (hen : en = Z.length) (hs : shp op w (wid Z) = true) (hv : Z.all Opd.v = true) (he : Z.all Opd.e = true) (V : BitVec 64)
    (hval : ∀ (g : AH) (na : Option Addr) (nc : Nat), WF g → Sl g wa ((wid Z).map fun n => .int .i64 n) → Sl g na (row1 (Z.map Opd.x)) → run Tryd.prog (n + 30) 24 [.int .i64 op, .int .i64 w, .slice wa wn wc, .slice na Z.length nc, .int .u64 (U num)] g = some (.int .u64 (U V), g)) :
    run Tryd.prog (n + 31) 10 [.int .i64 op, .int .i64 w, .slice wa wn wc, .slice ea en ec, .int .u64 (U num)] h = some (.agg #[.int .u64 (U (~~~ V &&& M w)), .int .u64 (U (V &&& M w))], h) := by
  obtain ⟨hw, _, _⟩ := shp_cases hs
  have hwl : wn = (wid Z).length := by
    unfold wid
    rw [List.length_map, hwn]
  obtain ⟨g1, e1, K1, F1, O1, n1⟩ := (Kp.start H).new [.int .u64 0, .int .u64 0] 0
  have S0W : Sl (setLow h h.next) wa ((wid Z).map fun n => .int .i64 n) := SW
  have S0E : Sl (setLow h h.next) ea (prs (els Z)) := SE
  have SW1 := S0W.kp (H.setLow _) K1
  have SE1 := S0E.kp (H.setLow _) K1
  have hsh := shaped n g1 K1.wf op w wa wn wc (wid Z) SW1 hwl (by unfold wid; rw [List.length_map]; exact hZ)
  have hl : g1.low = h.next := K1.low
  have hnn : g1.next = h.next + 1 := n1
  have hfin : ∀ (m' : Nat) (g' : AH) (a' : Option Addr) (ac' G' : Nat), Kp g1 g' → Row g' a' Z.length ac' 1 G' (row1 (Z.map Opd.x)) →
      c10_1 (n + 27 + 3) (m' + 1) h op w wa wn wc ea en ec (U num) ⟨h.next, 0, none⟩ true a' Z.length ac' ea en ec (Int.ofNat en) Z.length g' = some (.agg #[.int .u64 (U (~~~ V &&& M w)), .int .u64 (U (V &&& M w))], h) := fun m' g' a' ac' G' K R => by
    have hv := hval g' a' ac' K.wf (SW1.kp K1.wf K) R.sl
    have ho := ofs (n + 28) g' K.wf w V
    have O' : Own g' h.next [.int .u64 0, .int .u64 0] := O1.kp K1.wf K
    obtain ⟨g3, e3, F3, O3, l3, n3⟩ := st_ok K.wf (o := 0) (vs := [.int .u64 (U (~~~ V &&& M w)), .int .u64 (U (V &&& M w))]) O' (by rw [K.low, hl]; exact Nat.le_refl _) (Nat.le_refl _)
    rw [putAt0] at O3
    simp only [List.length_cons, List.length_nil, List.drop_succ_cons, List.drop_nil, List.append_nil] at O3
    refine c10_1_ok ?_
    rw [c10_1_eq, iLt_false (by rw [hen]; exact Int.le_refl _), cond_false, cond_true, hv]
    simp only [gI_int, gB_bool, gS_str, gL_sl, gP_ptr, Option.bind_some, cond_true, cond_false, ho, goodB_iff.2 hw, aggIs2, aggC20, aggC21, e3, O3.rd, Nat.zero_add, List.getElem?_cons_zero, List.getElem?_cons_succ]
    rw [exit_low (by rw [l3, K.low, hl]) rfl]
  have hloop := apL (n + 27) h g1 K1.wf hl hnn O1 op w (U num) Z hZ wa ea wn wc en ec SW1 hwn SE1 hen true _ hfin Z.length 0 (n + 30) g1 none 0 g1.next true (by omega) (by omega) (Kp.refl K1.wf) (Row.nil _ _ _) (Nat.le_refl _) (Nat.le_refl _) (by rw [List.drop_zero, he]; rfl)
  rw [List.drop_zero, hv, if_pos rfl] at hloop
  refine t10_ok ?_
  rw [t10]
  simp only [e1, gI_int, gB_bool, gS_str, gL_sl, gP_ptr, Option.bind_some, cond_true, cond_false, hsh, hs, Bool.not_true]
  rw [show iNe (Int.ofNat en) (Int.ofNat wn) = false from by rw [hen, hwn]; exact bne_self_eq_false _, cond_false]
  refine c10_0_ok ?_
  rw [c10_0_eq]
  exact hloop
end Go.Proofs.YtiadfnedbbkojaaDoor.Kb
/- The two values of an operator of a right shape. -/
namespace Go.Proofs.YtiadfnedbbkojaaDoor.Kb
open Go Go.Proofs Go.Proofs.YtiadfnedbbkojaaDoor.X Go.Proofs.YtiadfnedbbkojaaDoor.Bv
set_option linter.unusedSimpArgs false
set_option linter.unusedVariables false
theorem wds_len (A : List (BitVec 64)) : (wds A).length = A.length := List.length_map _
/-- V: what the implementation computes; its lowest bits are what the reference computes. -/
theorem ops {op w : Int} {L : List Int} (hs : shp op w L = true) (A : List (BitVec 64)) (hA : A.length = L.length) (hv : ∀ (i : Nat) (x : Int) (a : BitVec 64), L[i]? = some x → A[i]? = some a → Vd x.toNat a) (num : BitVec 64) :
    ∃ V : BitVec 64,
      (∀ (n : Nat) (g : AH) (wa na : Option Addr) (wn wc nn nc : Nat), WF g → Sl g wa (L.map fun n => .int .i64 n) → Sl g na (row1 A) → wn = L.length → nn = A.length →
        run Tryd.prog (n + 3) 24 [.int .i64 op, .int .i64 w, .slice wa wn wc, .slice na nn nc, .int .u64 (U num)] g = some (.int .u64 (U V), g)) ∧
      (∀ (n : Nat) (g : AH) (wa na : Option Addr) (wn wc nn nc : Nat), WF g → Sl g wa (L.map fun n => .int .i64 n) → Sl g na (row1 A) → wn = L.length → nn = A.length →
        run Tryd.prog (n + 70) 16 [.int .i64 op, .int .i64 w, .slice wa wn wc, .slice na nn nc, .int .u64 (U num)] g = some (.int .u64 (U (V &&& M w)), g)) := by
  obtain ⟨⟨h1, hw⟩, hL, hc⟩ := shp_cases hs
  obtain ⟨w, rfl⟩ : ∃ v : Nat, w = v := ⟨w.toNat, by omega⟩
  have h1' : 1 ≤ w := by omega
  have hw' : w ≤ 64 := by omega
  rcases hc with ⟨rfl, rfl⟩ | ⟨ho, rfl⟩ | ⟨ho, e1, x, rfl⟩ | ⟨rfl, rfl⟩ | ⟨ho, x, hx, rfl⟩ | ⟨rfl, x, hx, rfl⟩
  · refine ⟨num, fun n g wa na wn wc nn nc G SW SA hwn hnn => ?_, fun n g wa na wn wc nn nc G SW SA hwn hnn => ?_⟩
    · exact value0 (n + 2) g G w 1 h1' hw' (by decide) wa wn wc [] SW hwn na nn nc A SA (by rw [wds_len]; exact hnn) num
    · exact eval0 n g G w 1 h1' hw' (by decide) (by decide) wa wn wc [] SW hwn na nn nc A SA (by rw [wds_len]; exact hnn) num
  · match A, hA with
    | [a, b], _ =>
      have ha : Vd w a := hv 0 _ a rfl rfl
      have hb : Vd w b := hv 1 _ b rfl rfl
      refine ⟨vl2 op w w a b, fun n g wa na wn wc nn nc G SW SA hwn hnn => ?_, fun n g wa na wn wc nn nc G SW SA hwn hnn => ?_⟩
      · exact value2 n g G w w h1' hw' hw' wa wn wc _ SW hwn na nn nc [a, b] SA (by rw [wds_len]; exact hnn) num op (by omega) a b rfl rfl fun _ _ hb0 h0 => hb0 (isg_0 h1' hw' hb h0)
      · rw [vl_ev (by omega) h1' hw' h1' hw' (fun _ => rfl) ha hb]
        exact eval2 n g G w w h1' hw' h1' hw' wa wn wc _ SW hwn na nn nc [a, b] SA (by rw [wds_len]; exact hnn) num op (by omega) a b rfl rfl rfl
  · have hx := hL x (List.mem_cons_self ..)
    obtain ⟨x, rfl⟩ : ∃ v : Nat, x = v := ⟨x.toNat, by omega⟩
    match A, hA with
    | [a, b], _ =>
      have ha : Vd x a := hv 0 _ a rfl rfl
      have hb : Vd x b := hv 1 _ b rfl rfl
      refine ⟨vl2 op w x a b, fun n g wa na wn wc nn nc G SW SA hwn hnn => ?_, fun n g wa na wn wc nn nc G SW SA hwn hnn => ?_⟩
      · exact value2 n g G w x h1' hw' (by omega) wa wn wc _ SW hwn na nn nc [a, b] SA (by rw [wds_len]; exact hnn) num op (by omega) a b rfl rfl fun _ h8 => absurd h8 (by omega)
      · rw [vl_ev (by omega) h1' hw' (by omega) (by omega) (fun h => by omega) ha hb]
        exact eval2 n g G w x h1' hw' (by omega) (by omega) wa wn wc _ SW hwn na nn nc [a, b] SA (by rw [wds_len]; exact hnn) num op (by omega) a b rfl rfl rfl
  · match A, hA with
    | [a, b, c], _ =>
      have hb : Vd w b := hv 1 _ b rfl rfl
      have hc : Vd w c := hv 2 _ c rfl rfl
      refine ⟨if a = 1#64 then b else c, fun n g wa na wn wc nn nc G SW SA hwn hnn => ?_, fun n g wa na wn wc nn nc G SW SA hwn hnn => ?_⟩
      · exact value3 n g G w 1 h1' hw' (by decide) wa wn wc _ SW hwn na nn nc [a, b, c] SA (by rw [wds_len]; exact hnn) num a b c rfl
      · have : (if a = 1#64 then b else c) &&& M w = if a = 1#64 then b else c := by
          split
          · exact hb
          · exact hc
        rw [this]
        exact eval3 n g G w 1 h1' hw' (by decide) (by decide) wa wn wc _ SW hwn na nn nc [a, b, c] SA (by rw [wds_len]; exact hnn) num a b c rfl
  · have hx2 := hL x (List.mem_cons_self ..)
    obtain ⟨x, rfl⟩ : ∃ v : Nat, x = v := ⟨x.toNat, by omega⟩
    match A, hA with
    | [a], _ =>
      have ha : Vd x a := hv 0 _ a rfl rfl
      refine ⟨if op = 23 then isg x a else a, fun n g wa na wn wc nn nc G SW SA hwn hnn => ?_, fun n g wa na wn wc nn nc G SW SA hwn hnn => ?_⟩
      · exact value1 n g G w x h1' hw' (by omega) wa wn wc _ SW hwn na nn nc [a] SA (by rw [wds_len]; exact hnn) num op (by omega) a rfl rfl
      · rw [isg_rsg (by omega) (by omega) ha]
        exact eval1 n g G w x h1' hw' (by omega) (by omega) wa wn wc _ SW hwn na nn nc [a] SA (by rw [wds_len]; exact hnn) num op (by omega) a rfl rfl
  · have hx2 := hL x (List.mem_cons_self ..)
    obtain ⟨x, rfl⟩ : ∃ v : Nat, x = v := ⟨x.toNat, by omega⟩
    match A, hA with
    | [a], _ =>
      have ha : Vd x a := hv 0 _ a rfl rfl
      refine ⟨a, fun n g wa na wn wc nn nc G SW SA hwn hnn => ?_, fun n g wa na wn wc nn nc G SW SA hwn hnn => ?_⟩
      · have := value1 n g G w x h1' hw' (by omega) wa wn wc _ SW hwn na nn nc [a] SA (by rw [wds_len]; exact hnn) num 24 (by decide) a rfl rfl
        rwa [if_neg (by decide)] at this
      · have := eval1 n g G w x h1' hw' (by omega) (by omega) wa wn wc _ SW hwn na nn nc [a] SA (by rw [wds_len]; exact hnn) num 24 (by decide) a rfl rfl
        rwa [if_neg (by decide)] at this
end Go.Proofs.YtiadfnedbbkojaaDoor.Kb
/- The law KnownbitsConstants: what its loops do. -/
namespace Go.Proofs.YtiadfnedbbkojaaDoor.Kb
open Go Go.Proofs Go.Proofs.YtiadfnedbbkojaaDoor.X Go.Proofs.YtiadfnedbbkojaaDoor.Bv
set_option linter.unusedSimpArgs false
set_option linter.unusedVariables false
theorem exit_bool_low {h g : AH} (e : g.low = h.next) (b : Bool) : exitR h g (.bool b) = (.bool b, h) := exit_low e rfl
theorem aw1 : goodB 4 = true := rfl
theorem aw2 : ~~~ 10#64 &&& M 4 = 5#64 := by decide +kernel
theorem aw3 : 10#64 &&& M 4 = 10#64 := by decide +kernel
theorem aw4 : (((5#64 ||| 10#64) &&& ~~~ M 4) == 0#64 && (5#64 &&& 10#64) == 0#64) = true := by decide +kernel
theorem aw5 : iEq (U 5#64) 5 = true := rfl
theorem aw6 : iEq (U 10#64) 10 = true := rfl
theorem aw7 : U 10#64 = 10 := rfl
theorem aw8 : iEq 10 10 = true := rfl
theorem awake2 (n : Nat) (h : AH) (a : run Tryd.prog (n + 2) 18 [.int .i64 4, .int .u64 10] (loc h []) = some (.agg #[.int .u64 (U 5#64), .int .u64 10], loc h []))
    (b : run Tryd.prog (n + 2) 19 [.int .i64 4, .agg #[.int .u64 (U 5#64), .int .u64 10]] (loc h []) = some (.bool true, loc h [])) : t8Y hNew (n + 2) h = some (.bool true, h) := by
  rw [t8, low_loc, a, Option.bind_some]
  simp only []
  rw [aggIs2, aggC20, aggC21, gI_int, gI_int, Option.bind_some, Option.bind_some, cond_true, aw5, aw8, a, cond_true, cond_true]
  rw [Option.bind_some]
  simp only []
  rw [aggIs2, aggC20, aggC21, gI_int, gI_int, Option.bind_some, Option.bind_some, cond_true, b, Option.bind_some, gB_bool, Option.bind_some, exitR_bool]
theorem awake (n : Nat) (h : AH) (H : WF h) : run Tryd.prog (n + 3) 8 [] h = some (.bool true, h) := by
  refine t8_ok ?_
  have a := ofs n (loc h []) (loc_wf H []) 4 10#64
  have b := valid n (loc h []) (loc_wf H []) 4 5#64 10#64
  rw [aw1, aw2, aw3, cond_true, cond_true] at a
  rw [aw1, aw4] at b
  rw [aw7] at a
  rw [aw7] at b
  exact awake2 n h a b
/-- The element of a word. -/
def ofO (k : Int) (x : BitVec 64) : Opd := (k, ~~~ x &&& M k, x &&& M k)
theorem ofO_e (k : Int) (hk : 1 ≤ k ∧ k ≤ 64) (x : BitVec 64) : (ofO k x).v = true ∧ (ofO k x).e = true ∧ (ofO k x).x = x &&& M k := by
  have or_ : (~~~ x &&& M k) ||| (x &&& M k) = M k := by
    apply BitVec.eq_of_getLsbD_eq
    intro i hi
    rw [BitVec.getLsbD_or, BitVec.getLsbD_and, BitVec.getLsbD_and, BitVec.getLsbD_not, decide_eq_true hi]
    cases x.getLsbD i <;> cases (M k).getLsbD i <;> rfl
  have an : (~~~ x &&& M k) &&& (x &&& M k) = 0#64 := by
    apply BitVec.eq_of_getLsbD_eq
    intro i hi
    rw [BitVec.getLsbD_and, BitVec.getLsbD_and, BitVec.getLsbD_and, BitVec.getLsbD_not, decide_eq_true hi, BitVec.getLsbD_zero]
    cases x.getLsbD i <;> cases (M k).getLsbD i <;> rfl
  have nn : M k &&& ~~~ M k = 0#64 := by
    apply BitVec.eq_of_getLsbD_eq
    intro i hi
    rw [BitVec.getLsbD_and, BitVec.getLsbD_not, decide_eq_true hi, BitVec.getLsbD_zero]
    cases (M k).getLsbD i <;> rfl
  have v : valB k (~~~ x &&& M k) (x &&& M k) = true := by
    unfold valB
    rw [goodB_iff.2 hk, or_, an, nn]
    rfl
  have e : exB k (~~~ x &&& M k) (x &&& M k) = true := by
    unfold exB
    rw [v, or_]
    simp
  refine ⟨v, e, ?_⟩
  unfold Opd.x
  rw [show (ofO k x).e = true from e]
  rfl
end Go.Proofs.YtiadfnedbbkojaaDoor.Kb
/- The law KnownbitsConstants: the operands of one shape. -/
namespace Go.Proofs.YtiadfnedbbkojaaDoor.Kb
open Go Go.Proofs Go.Proofs.YtiadfnedbbkojaaDoor.X Go.Proofs.YtiadfnedbbkojaaDoor.Bv
set_option linter.unusedSimpArgs false
set_option linter.unusedVariables false
def zOf (L : List Int) (X : List (BitVec 64)) : List Opd := List.zipWith ofO L X
theorem c51 (N : Nat) (hN : 66 ≤ N) (h b : AH) (B : WF b) (hbl : b.low ≤ b.next) (op w : Int) (β5 : Nat) (X : List (BitVec 64)) (hX : X.length = 4) (hO : Own b β5 (row1 X)) (wa : Option Addr) (wn wc : Nat) (L : List Int) (hL : L.length ≤ 3) (hg : ∀ x ∈ L, 1 ≤ x ∧ x ≤ 64)
    (SW : Sl b wa (L.map fun n => .int .i64 n)) (hwn : wn = L.length) (ta : Option Addr) (tn tc : Nat) (tl ti : Int) (m1 : Nat) (r : Value × AH)
    (hfin : ∀ (m' : Nat) (g' : AH) (a' v' : Option Addr) (ac vc Ga Gv : Nat), Kp b g' → Row g' a' L.length ac 2 Ga (prs (els (zOf L X))) → Row g' v' L.length vc 1 Gv (row1 ((zOf L X).map Opd.x)) →
      c5_1 N (m' + 1) m1 h op w ⟨β5, 0, none⟩ wa wn wc a' L.length ac v' L.length vc ta tn tc tl ti wa wn wc (Int.ofNat wn) L.length g' = some r) :
    ∀ (k i m0 : Nat) (g : AH) (a v : Option Addr) (ac vc Ga Gv : Nat), k < m0 → i + k = L.length → Kp b g → Row g a i ac 2 Ga (prs (els ((zOf L X).take i))) → Row g v i vc 1 Gv (row1 (((zOf L X).take i).map Opd.x)) →
      b.next ≤ Ga → Ga ≤ g.next → b.next ≤ Gv → Gv ≤ g.next → ((a = none ∧ v = none) ∨ (a ≠ none ∧ v ≠ none ∧ Ga ≠ Gv ∧ rb a ≠ Gv ∧ rb v ≠ Ga)) →
      c5_1 N m0 m1 h op w ⟨β5, 0, none⟩ wa wn wc a i ac v i vc ta tn tc tl ti wa wn wc (Int.ofNat wn) i g = some r := by
  have hZl : (zOf L X).length = L.length := by
    unfold zOf
    rw [List.length_zipWith]
    omega
  intro k
  induction k with
  | zero =>
    intro i m0 g a v ac vc Ga Gv hm hi K R1 R2 _ _ _ _ _
    obtain ⟨m0, rfl⟩ : ∃ g, m0 = g + 1 := ⟨m0 - 1, by omega⟩
    obtain rfl : i = L.length := by omega
    rw [← hZl, List.take_length] at R1 R2
    rw [hZl] at R1 R2
    exact hfin m0 g a v ac vc Ga Gv K R1 R2
  | succ k ih =>
    intro i m0 g a v ac vc Ga Gv hm hi K R1 R2 hA1 hA2 hV1 hV2 hd
    obtain ⟨m0, rfl⟩ : ∃ g, m0 = g + 1 := ⟨m0 - 1, by omega⟩
    have hil : i < L.length := by omega
    have hiX : i < X.length := by omega
    have hx : L[i]? = some L[i] := List.getElem?_eq_getElem hil
    have hX' : X[i]? = some X[i] := List.getElem?_eq_getElem hiX
    have hgx := hg L[i] (List.getElem_mem hil)
    have hz : (zOf L X)[i]? = some (ofO L[i] X[i]) := by
      unfold zOf
      rw [List.getElem?_zipWith, hx, hX']
    have htk : (zOf L X).take (i + 1) = (zOf L X).take i ++ [ofO L[i] X[i]] := by
      rw [List.take_add_one, hz]
      rfl
    have O := hO.kp B K
    have rX : ∀ g', Kp b g' → gI .u64 (rdC g' ⟨β5, i, none⟩ 0) = some (U X[i]) := fun g' K' => by
      rw [(hO.kp B K').rd]
      unfold row1 wds
      rw [Nat.add_zero, List.getElem?_map, List.getElem?_map, hX']
      exact gI_int _ _
    have hm : run Tryd.prog N 14 [.int .i64 L[i]] (setLow g g.next) = some (.int .u64 (U (M L[i])), setLow g g.next) := by
      obtain ⟨n, rfl⟩ : ∃ n, N = n + 66 := ⟨N - 66, by omega⟩
      exact rmask n (setLow g g.next) L[i] (by omega) hgx.2
    obtain ⟨g1, g2, v', Gv', e1, e2, Rv, K2, hv1, hv2, hv3, hv4, Fv, hn2, γ, hγ, hγ2⟩ := K.app (by_ := 8) hbl R2 hV1 hV2 (vs := [.int .u64 (U (X[i] &&& M L[i]))]) rfl (by decide) (by omega)
    have Ra : Row g2 a i ac 2 Ga (prs (els ((zOf L X).take i))) := R1.kept Fv (by
      rcases hd with ⟨h1, _⟩ | ⟨_, _, h1, h2, _⟩
      · exact .inl h1
      · exact .inr ⟨h1, h2⟩)
    have hof : run Tryd.prog N 18 [.int .i64 L[i], .int .u64 (U X[i])] g2 = some (.agg #[.int .u64 (U (~~~ X[i] &&& M L[i])), .int .u64 (U (X[i] &&& M L[i]))], g2) := by
      obtain ⟨n, rfl⟩ : ∃ n, N = n + 66 := ⟨N - 66, by omega⟩
      have hof := ofs (n + 64) g2 K2.wf L[i] X[i]
      rw [goodB_iff.2 hgx, cond_true, cond_true] at hof
      exact hof
    have hvn : v' ≠ none := by
      rw [hγ]
      exact fun h => by cases h
    have hvb := Rv.bnd hvn
    rw [hγ] at hvb
    have hvb : Gv' ≤ γ ∧ γ < g2.next := hvb
    obtain ⟨G0, Ra0, h01, h02, h03, h04⟩ : ∃ G0, Row g2 a i ac 2 G0 (prs (els ((zOf L X).take i))) ∧ b.next ≤ G0 ∧ G0 ≤ g2.next ∧ (Gv' ≠ G0 ∧ γ ≠ G0) ∧ (a ≠ none → G0 = Ga) := by
      rcases hd with ⟨h1, h2⟩ | ⟨h0, h0', h1, h2, h3⟩
      · refine ⟨g2.next, ?_, K2.nxt, Nat.le_refl _, ⟨by omega, by omega⟩, fun h => absurd h1 h⟩
        rcases Ra with R | ⟨β, e, _⟩
        · exact .inl R
        · rw [h1] at e
          cases e
      · refine ⟨Ga, Ra, hA1, by omega, ⟨?_, ?_⟩, fun _ => rfl⟩
        · rw [hv3 h0']
          exact fun h => h1 h.symm
        · have := R1.bnd h0
          omega
    obtain ⟨g3, g4, a', Ga', e3, e4, Ra', K4, ha1, ha2, ha3, ha4, Fa, hn4, δ, hδ, hδ2⟩ := K2.app (by_ := 16) hbl Ra0 h01 h02 (vs := [.int .u64 (U (~~~ X[i] &&& M L[i])), .int .u64 (U (X[i] &&& M L[i]))]) rfl (by decide) (by omega)
    have Rv' : Row g4 v' (i + 1) OPEN 1 Gv' (row1 (((zOf L X).take i).map Opd.x) ++ [.int .u64 (U (X[i] &&& M L[i]))]) := Rv.kept Fa (.inr (by
      rw [hγ]
      exact h03))
    have han : a' ≠ none := by
      rw [hδ]
      exact fun h => by cases h
    have hab := Ra'.bnd han
    rw [hδ] at hab
    have hab : Ga' ≤ δ ∧ δ < g4.next := hab
    have hGa : Ga' = G0 ∨ g2.next ≤ Ga' := by
      cases hae : a with
      | none => exact .inr (ha4 hae)
      | some q => exact .inl (ha3 (by rw [hae]; exact fun h => by cases h))
    have hd' : (a' = none ∧ v' = none) ∨ (a' ≠ none ∧ v' ≠ none ∧ Ga' ≠ Gv' ∧ rb a' ≠ Gv' ∧ rb v' ≠ Ga') := by
      refine .inr ⟨han, hvn, ?_, ?_, ?_⟩
      · rcases hGa with h | h
        · rw [h]
          exact fun h => h03.1 h.symm
        · omega
      · rw [hδ]
        show δ ≠ Gv'
        omega
      · rw [hγ]
        show γ ≠ Ga'
        rcases hGa with h | h
        · rw [h]
          exact h03.2
        · omega
    have hxx := (ofO_e L[i] hgx X[i]).2.2
    rw [← hxx, ← row1_snoc, ← List.map_singleton (f := Opd.x), ← List.map_append, ← htk] at Rv'
    have hpr : prs (els ((zOf L X).take i)) ++ [.int .u64 (U (~~~ X[i] &&& M L[i])), .int .u64 (U (X[i] &&& M L[i]))] = prs (els ((zOf L X).take (i + 1))) := by
      rw [htk]
      unfold els prs
      simp [ofO]
    rw [hpr] at Ra'
    have ih := ih (i + 1) m0 g4 a' v' OPEN OPEN Ga' Gv' (by omega) (by omega) K4 Ra' Rv' ha1 ha2 hv1 (by omega) hd'
    rw [show ((i + 1 : Nat) : Int) = (i : Int) + 1 by omega] at ih
    refine c5_1_ok ?_
    rw [c5_1_eq, iLt_true (by rw [hwn]; exact Int.ofNat_lt.2 hil), cond_true]
    simp only [Int.toNat_natCast]
    rw [row_at' (SW.kp B K) hwn i L[i] hx]
    rw [inB_lt (n := 4) (Int.natCast_nonneg i) (by simp only [Int.toNat_natCast]; omega), cond_true]
    simp only [add_lit, Nat.zero_add, Nat.mul_one, rX g K, rX g2 K2, Option.bind_some, hm, gI_int, setLow_low, Nat.beq_refl, cond_true, setLow_set, setLow_self, i_and, e1, e2, hof, aggIs2, aggC20, aggC21, e3, e4]
    rw [iAdd_i64 (by omega) (by omega)]
    exact ih
end Go.Proofs.YtiadfnedbbkojaaDoor.Kb
/- The law KnownbitsConstants answers true. -/
namespace Go.Proofs.YtiadfnedbbkojaaDoor.Kb
open Go Go.Proofs Go.Proofs.YtiadfnedbbkojaaDoor.X Go.Proofs.YtiadfnedbbkojaaDoor.Bv
set_option linter.unusedSimpArgs false
set_option linter.unusedVariables false
theorem zOf_wid : ∀ (L : List Int) (X : List (BitVec 64)), L.length ≤ X.length → wid (zOf L X) = L
  | [], _, _ => rfl
  | l :: L, [], h => by cases h
  | l :: L, x :: X, h => by
    show l :: wid (zOf L X) = _
    rw [zOf_wid L X (Nat.le_of_succ_le_succ h)]
theorem zOf_all (p : Opd → Bool) (hp : ∀ k x, (1 ≤ k ∧ k ≤ 64) → p (ofO k x) = true) : ∀ (L : List Int) (X : List (BitVec 64)), (∀ x ∈ L, 1 ≤ x ∧ x ≤ 64) → (zOf L X).all p = true
  | [], _, _ => rfl
  | _ :: _, [], _ => rfl
  | l :: L, x :: X, h => by
    show (p (ofO l x) && (zOf L X).all p) = true
    rw [hp l x (h l (List.mem_cons_self ..)), zOf_all p hp L X fun y hy => h y (List.mem_cons_of_mem _ hy)]
    rfl
theorem zOf_vd (L : List Int) (X : List (BitVec 64)) (hg : ∀ x ∈ L, 1 ≤ x ∧ x ≤ 64) (i : Nat) (x : Int) (a : BitVec 64) (h1 : L[i]? = some x) (h2 : ((zOf L X).map Opd.x)[i]? = some a) : Vd x.toNat a := by
  unfold zOf at h2
  rw [List.getElem?_map, List.getElem?_zipWith, h1] at h2
  cases h3 : X[i]? with
  | none =>
    rw [h3] at h2
    cases h2
  | some y =>
    rw [h3] at h2
    injection h2 with h2
    have hx := hg x (List.mem_of_getElem? h1)
    rw [(ofO_e x hx y).2.2] at h2
    rw [← h2, show M x = M x.toNat by rw [Int.toNat_of_nonneg (by omega)]]
    exact Vd.mask _
theorem mask_not (V : BitVec 64) (w : Int) : (~~~ V &&& M w) = ~~~ (V &&& M w) &&& M w := by
  apply BitVec.eq_of_getLsbD_eq
  intro i hi
  rw [BitVec.getLsbD_and, BitVec.getLsbD_and, BitVec.getLsbD_not, BitVec.getLsbD_not, BitVec.getLsbD_and, decide_eq_true hi]
  cases V.getLsbD i <;> cases (M w).getLsbD i <;> rfl
theorem c50 (N : Nat) (hN : 70 ≤ N) (h b : AH) (B : WF b) (hbl : b.low = h.next) (hbn : b.low ≤ b.next) (op w : Int) (β5 βt : Nat) (X : List (BitVec 64)) (hX : X.length = 4) (hO : Own b β5 (row1 X)) (Ts : List (Nat × List Int)) (hT : Ts.length ≤ 20)
    (hOt : Own b βt (Ts.map fun t => .slice (some ⟨t.1, 0, none⟩) t.2.length t.2.length)) (hTs : ∀ t ∈ Ts, t.2.length ≤ 3 ∧ Sl b (some ⟨t.1, 0, none⟩) (t.2.map fun n => .int .i64 n)) (tc : Nat) :
    ∀ (k i m0 : Nat) (g : AH), k < m0 → i + k = Ts.length → Kp b g → c5_0 N m0 h op w ⟨β5, 0, none⟩ (some ⟨βt, 0, none⟩) Ts.length tc (Int.ofNat Ts.length) i g = some (.bool true, h) := by
  intro k
  induction k with
  | zero =>
    intro i m0 g hm hi K
    obtain ⟨m0, rfl⟩ : ∃ g, m0 = g + 1 := ⟨m0 - 1, by omega⟩
    refine c5_0_ok ?_
    rw [c5_0_eq, show iLt (i : Int) (Int.ofNat Ts.length) = false from iLt_false (Int.ofNat_le.2 (by omega)), cond_false, exit_low (by rw [K.low, hbl]) rfl]
  | succ k ih =>
    intro i m0 g hm hi K
    obtain ⟨m0, rfl⟩ : ∃ g, m0 = g + 1 := ⟨m0 - 1, by omega⟩
    have hil : i < Ts.length := by omega
    have ht : Ts[i]? = some Ts[i] := List.getElem?_eq_getElem hil
    have htm : Ts[i] ∈ Ts := List.getElem_mem hil
    generalize Ts[i] = t at ht htm
    obtain ⟨βl, L⟩ := t
    obtain ⟨hl3, hS⟩ := hTs _ htm
    have hl3 : L.length ≤ 3 := hl3
    have hSg : Sl g (some ⟨βl, 0, none⟩) (L.map fun n => .int .i64 n) := hS.kp B K
    have rt : gL (rdC g ⟨βt, i, none⟩ 0) = some (some ⟨βl, 0, none⟩, L.length, L.length) := by
      rw [(hOt.kp B K).rd, Nat.add_zero, List.getElem?_map, ht]
      rfl
    have hsh : run Tryd.prog N 17 [.int .i64 op, .int .i64 w, .slice (some ⟨βl, 0, none⟩) L.length L.length] g = some (.bool (shp op w L), g) := by
      obtain ⟨n, rfl⟩ : ∃ n, N = n + 70 := ⟨N - 70, by omega⟩
      exact rshape (n + 40) g K.wf op w (some ⟨βl, 0, none⟩) L.length L.length L hSg rfl (by omega)
    have next : ∀ g', Kp b g' → c5_0 N m0 h op w ⟨β5, 0, none⟩ (some ⟨βt, 0, none⟩) Ts.length tc (Int.ofNat Ts.length) ((i : Int) + 1) g' = some (.bool true, h) := fun g' K' => by
      have := ih (i + 1) m0 g' (by omega) (by omega) K'
      rwa [show ((i + 1 : Nat) : Int) = (i : Int) + 1 by omega] at this
    refine c5_0_ok ?_
    rw [c5_0_eq, show iLt (i : Int) (Int.ofNat Ts.length) = true from iLt_true (Int.ofNat_lt.2 hil), cond_true, Option.bind_some, inB_lt (Int.natCast_nonneg i) (by simpa using hil), cond_true]
    simp only [Int.toNat_natCast, add_lit, Nat.zero_add, Nat.mul_one, rt, Option.bind_some, hsh, gB_bool]
    rw [iAdd_i64 (by omega) (by omega)]
    cases hs : shp op w L with
    | false =>
      simp only [Bool.not_false, cond_true]
      exact next g K
    | true =>
      simp only [Bool.not_true, cond_false]
      obtain ⟨hw, hg, _⟩ := shp_cases hs
      have hZw : wid (zOf L X) = L := zOf_wid L X (by omega)
      have hZl : (zOf L X).length = L.length := by
        unfold zOf
        rw [List.length_zipWith]
        omega
      have hl : g.low ≤ g.next := by
        rw [K.low]
        exact Nat.le_trans hbn K.nxt
      have hX3 : X[3]? = some X[3] := List.getElem?_eq_getElem (by omega)
      obtain ⟨V, hV1, hV2⟩ := ops hs ((zOf L X).map Opd.x) (by rw [List.length_map, hZl]) (zOf_vd L X hg) X[3]
      refine c51 N (by omega) h g K.wf hl op w β5 X hX (hO.kp B K) (some ⟨βl, 0, none⟩) L.length L.length L hl3 hg hSg rfl (some ⟨βt, 0, none⟩) Ts.length tc (Int.ofNat Ts.length) i m0 (.bool true, h) ?_ L.length 0 N g none none 0 0 g.next g.next (by omega) (by omega) (Kp.refl K.wf) (Row.nil _ _ _) (Row.nil _ _ _) (Nat.le_refl _) (Nat.le_refl _) (Nat.le_refl _) (Nat.le_refl _) (.inl ⟨rfl, rfl⟩)
      intro m' g' a' v' ac vc Ga Gv K' Ra Rv
      have rX : gI .u64 (rdC g' ⟨β5, 3, none⟩ 0) = some (U X[3]) := by
        rw [((hO.kp B K).kp K.wf K').rd]
        unfold row1 wds
        rw [Nat.add_zero, List.getElem?_map, List.getElem?_map, hX3]
        exact gI_int _ _
      have hSg' := hSg.kp K.wf K'
      have hap : run Tryd.prog N 10 [.int .i64 op, .int .i64 w, .slice (some ⟨βl, 0, none⟩) L.length L.length, .slice a' L.length ac, .int .u64 (U X[3])] g' = some (.agg #[.int .u64 (U (~~~ V &&& M w)), .int .u64 (U (V &&& M w))], g') := by
        obtain ⟨n, rfl⟩ : ∃ n, N = n + 70 := ⟨N - 70, by omega⟩
        exact apply_exact (n + 39) g' K'.wf op w X[3] (zOf L X) (by omega) (some ⟨βl, 0, none⟩) a' L.length L.length L.length ac (by rw [hZw]; exact hSg') hZl.symm Ra.sl hZl.symm (by rw [hZw]; exact hs)
          (zOf_all Opd.v (fun k x hk => (ofO_e k hk x).1) L X hg) (zOf_all Opd.e (fun k x hk => (ofO_e k hk x).2.1) L X hg) V fun g2 na nc G2 SW2 SA2 => hV1 (n + 66) g2 _ na _ _ _ nc G2 (by rw [hZw] at SW2; exact SW2) SA2 rfl (by rw [List.length_map])
      have hex : run Tryd.prog N 13 [.int .i64 w, .agg #[.int .u64 (U (~~~ V &&& M w)), .int .u64 (U (V &&& M w))]] g' = some (.tuple #[.int .u64 (U (cond (exB w (~~~ V &&& M w) (V &&& M w)) (V &&& M w) 0#64)), .bool (exB w (~~~ V &&& M w) (V &&& M w))], g') := by
        obtain ⟨n, rfl⟩ : ∃ n, N = n + 70 := ⟨N - 70, by omega⟩
        exact exact (n + 67) g' K'.wf w (~~~ V &&& M w) (V &&& M w)
      have hee := ofO_e w hw (V &&& M w)
      have hmm : V &&& M w &&& M w = V &&& M w := by rw [BitVec.and_assoc, BitVec.and_self]
      have he1 : exB w (~~~ V &&& M w) (V &&& M w) = true := by
        have := hee.2.1
        unfold Opd.e ofO at this
        simp only at this
        rwa [← mask_not, hmm] at this
      rw [he1, cond_true] at hex
      have hev : run Tryd.prog N 16 [.int .i64 op, .int .i64 w, .slice (some ⟨βl, 0, none⟩) L.length L.length, .slice v' L.length vc, .int .u64 (U X[3])] g' = some (.int .u64 (U (V &&& M w)), g') := by
        obtain ⟨n, rfl⟩ : ∃ n, N = n + 70 := ⟨N - 70, by omega⟩
        exact hV2 n g' (some ⟨βl, 0, none⟩) v' L.length L.length L.length vc K'.wf hSg' Rv.sl rfl (by rw [List.length_map, hZl])
      refine c5_1_ok ?_
      rw [c5_1_eq, show iLt (L.length : Int) (Int.ofNat L.length) = false from iLt_false (Int.le_refl _), cond_false]
      simp only [add_lit, Nat.zero_add, rX, Option.bind_some, hap, aggIs2, cond_true, aggC20, aggC21, gI_int, hex, tupIs2, tupC20, tupC21, gB_bool, Bool.not_true, cond_false, hev]
      rw [i_ne', show (V &&& M w == V &&& M w) = true from beq_self_eq_true _]
      simp only [Bool.not_true, cond_false]
      rw [iAdd_i64 (by omega) (by omega)]
      exact next g' (K.trans K')
end Go.Proofs.YtiadfnedbbkojaaDoor.Kb
