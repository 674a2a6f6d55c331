/- Joined texts: SB. -/
import Derived.Test.YtiadfnedbbkojaaDoorSA
import Derived.Test.YtiadfnedbbkojaaDoorYA
import Derived.Test.YtiadfnedbbkojaaDoorHC
namespace Go.Proofs.YtiadfnedbbkojaaDoor.Kb
open Go Go.Proofs Go.Proofs.YtiadfnedbbkojaaDoor.X Go.Proofs.YtiadfnedbbkojaaDoor.Bv
set_option linter.unusedVariables false
/-- A word of a width. -/
def Vd (w : Nat) (a : BitVec 64) : Prop := a &&& M w = a
theorem Vd.bit {w : Nat} (hw : w ≤ 64) {a : BitVec 64} (h : Vd w a) {i : Nat} (hi : w ≤ i) : a.getLsbD i = false := by
  rw [← h, BitVec.getLsbD_and, M_bit w hw, decide_eq_false (by omega), Bool.and_false]
theorem Vd.of {w : Nat} (hw : w ≤ 64) {a : BitVec 64} (h : ∀ i, w ≤ i → a.getLsbD i = false) : Vd w a := by
  unfold Vd
  apply BitVec.eq_of_getLsbD_eq
  intro i hi
  rw [BitVec.getLsbD_and, M_bit w hw]
  by_cases h' : i < w
  · rw [decide_eq_true h', Bool.and_true]
  · rw [decide_eq_false h', Bool.and_false, h i (by omega)]
theorem Vd.lt {w : Nat} (hw : w ≤ 64) {a : BitVec 64} (h : Vd w a) : a.toNat < 2 ^ w := by
  have e : a.toNat = (a &&& M w).toNat := by rw [h]
  rw [BitVec.toNat_and, M_nat w hw] at e
  rw [e, Nat.and_two_pow_sub_one_eq_mod]
  exact Nat.mod_lt _ (Nat.two_pow_pos w)
theorem Vd.of_lt {w : Nat} (hw : w ≤ 64) {a : BitVec 64} (h : a.toNat < 2 ^ w) : Vd w a := by
  unfold Vd
  apply BitVec.eq_of_toNat_eq
  rw [BitVec.toNat_and, M_nat w hw, Nat.and_two_pow_sub_one_eq_mod]
  exact Nat.mod_eq_of_lt h
theorem Vd.mono {v w : Nat} (hw : w ≤ 64) (hv : v ≤ w) {a : BitVec 64} (h : Vd v a) : Vd w a := Vd.of_lt hw (Nat.lt_of_lt_of_le (h.lt (by omega)) (Nat.pow_le_pow_right (by decide) hv))
theorem Vd.mask {w : Nat} (a : BitVec 64) : Vd w (a &&& M w) := by
  unfold Vd
  rw [BitVec.and_assoc, BitVec.and_self]
theorem isg_bit {w : Nat} (h1 : 1 ≤ w) (hw : w ≤ 64) (a : BitVec 64) {i : Nat} (hi : i < 64) : (isg w a).getLsbD i = if i < w then a.getLsbD i else a.getLsbD (w - 1) := by
  unfold isg
  rw [BitVec.getLsbD_sshiftRight]
  have e : decide (64 ≤ i) = false := decide_eq_false (by omega)
  rw [e, Bool.not_false, Bool.true_and]
  by_cases h : i < w
  · rw [if_pos (by omega), if_pos h, BitVec.getLsbD_shiftLeft, decide_eq_true (by omega), decide_eq_false (by omega)]
    simp only [Bool.true_and, Bool.not_false]
    congr 1
    omega
  · rw [if_neg (by omega), if_neg h, BitVec.msb_eq_getLsbD_last, BitVec.getLsbD_shiftLeft, decide_eq_true (by omega), decide_eq_false (by omega)]
    simp only [Bool.true_and, Bool.not_false]
    congr 1
    omega
theorem rsg_bit {w : Nat} (h1 : 1 ≤ w) (hw : w ≤ 64) {a : BitVec 64} (h : Vd w a) {i : Nat} (hi : i < 64) : (rsg w a).getLsbD i = if i < w then a.getLsbD i else a.getLsbD (w - 1) := by
  unfold rsg
  cases hs : a.getLsbD (w - 1) with
  | true =>
    rw [cond_true, BitVec.getLsbD_or, BitVec.getLsbD_not, M_bit w hw, decide_eq_true hi, Bool.true_and]
    by_cases h' : i < w
    · rw [decide_eq_true h', if_pos h', Bool.not_true, Bool.or_false]
    · rw [decide_eq_false h', if_neg h', Bool.not_false, Bool.or_true]
  | false =>
    rw [cond_false]
    by_cases h' : i < w
    · rw [if_pos h']
    · rw [if_neg h', h.bit hw (by omega)]
theorem isg_rsg {w : Nat} (h1 : 1 ≤ w) (hw : w ≤ 64) {a : BitVec 64} (h : Vd w a) : isg w a = rsg w a := by
  apply BitVec.eq_of_getLsbD_eq
  intro i hi
  rw [isg_bit h1 hw a hi, rsg_bit h1 hw h hi]
theorem isg_0 {w : Nat} (h1 : 1 ≤ w) (hw : w ≤ 64) {a : BitVec 64} (h : Vd w a) (h0 : isg w a = 0#64) : a = 0#64 := by
  apply BitVec.eq_of_getLsbD_eq
  intro i hi
  by_cases h' : i < w
  · have := isg_bit h1 hw a hi
    rw [h0, if_pos h'] at this
    exact this.symm
  · rw [h.bit hw (by omega), BitVec.getLsbD_zero]
theorem M_self (w : Nat) : M w &&& M w = M w := BitVec.and_self
theorem zero_M (w : Nat) : 0#64 &&& M w = 0#64 := BitVec.zero_and
theorem bool_M {w : Nat} (h1 : 1 ≤ w) (hw : w ≤ 64) (b : Bool) : cond b 1#64 0#64 &&& M w = cond b 1#64 0#64 := by
  cases b with
  | false => exact zero_M w
  | true => exact Vd.of_lt hw (Nat.one_lt_two_pow (by omega))
theorem dv_q {w : Nat} (h1 : 1 ≤ w) (hw : w ≤ 64) {a b : BitVec 64} (ha : Vd w a) (hb : Vd w b) : dvi 7 w a b &&& M w = dvq w a b := by
  unfold dvi dvq
  rw [← isg_rsg h1 hw ha, ← isg_rsg h1 hw hb]
  by_cases h0 : b = 0#64
  · subst h0
    simp only [isg0, and_true, or_true, reduceIte, Int.reduceEq, M_self]
  · have h0' : isg w b ≠ 0#64 := fun h => h0 (isg_0 h1 hw hb h)
    rw [if_neg h0', if_neg (fun h => h0 h.2), if_neg h0]
    simp only [Int.reduceEq, reduceIte, and_true]
    by_cases hm : isg w b = BitVec.allOnes 64
    · rw [if_pos hm, if_pos hm, BitVec.zero_sub]
    · rw [if_neg hm, if_neg hm, if_neg hm]
theorem dv_r {w : Nat} (h1 : 1 ≤ w) (hw : w ≤ 64) {a b : BitVec 64} (ha : Vd w a) (hb : Vd w b) : dvi 8 w a b &&& M w = dvr w a b := by
  unfold dvi dvr
  rw [← isg_rsg h1 hw ha, ← isg_rsg h1 hw hb]
  by_cases h0 : b = 0#64
  · subst h0
    simp only [isg0, reduceIte, Int.reduceEq, or_self, false_and]
    exact ha
  · have h0' : isg w b ≠ 0#64 := fun h => h0 (isg_0 h1 hw hb h)
    rw [if_neg h0', if_neg (fun h => h0 h.2), if_neg h0]
    simp only [Int.reduceEq, reduceIte, and_false]
    by_cases hm : isg w b = BitVec.allOnes 64
    · rw [if_pos hm, if_pos hm, zero_M]
    · rw [if_neg hm, if_neg hm]
theorem sh_r {w : Nat} (h1 : 1 ≤ w) (hw : w ≤ 64) {a b : BitVec 64} (ha : Vd w a) : shi 13 w a b &&& M w = bvN (shf w a b false) w := by
  apply BitVec.eq_of_getLsbD_eq
  intro i hi
  rw [bvN_bit _ w hw, BitVec.getLsbD_and, M_bit w hw]
  unfold shi shf
  simp only [Int.reduceEq, reduceIte]
  by_cases hb : w ≤ b.toNat
  · rw [if_pos hb, BitVec.getLsbD_zero, decide_eq_false (p := b.toNat < w) (by omega)]
    simp only [Bool.false_and, cond_false, Bool.and_false]
  · rw [if_neg hb, BitVec.getLsbD_ushiftRight, decide_eq_true (p := b.toNat < w) (by omega), Bool.true_and, Bool.and_comm]
    congr 1
    by_cases hj : i + b.toNat < w
    · rw [decide_eq_true hj, cond_true, Nat.add_comm]
    · rw [decide_eq_false hj, cond_false]
      exact ha.bit hw (by omega)
theorem sh_a {w : Nat} (h1 : 1 ≤ w) (hw : w ≤ 64) {a b : BitVec 64} (_ha : Vd w a) : shi 14 w a b &&& M w = bvN (shf w a b (a.getLsbD (w - 1))) w := by
  apply BitVec.eq_of_getLsbD_eq
  intro i hi
  rw [bvN_bit _ w hw, BitVec.getLsbD_and, M_bit w hw, Bool.and_comm]
  by_cases hiw : i < w
  · rw [decide_eq_true hiw, Bool.true_and, Bool.true_and]
    unfold shi shf
    simp only [reduceIte]
    rw [BitVec.getLsbD_sshiftRight, decide_eq_false (p := 64 ≤ i) (by omega), Bool.not_false, Bool.true_and]
    have msb : (isg w a).msb = a.getLsbD (w - 1) := by
      rw [BitVec.msb_eq_getLsbD_last, isg_bit h1 hw a (by omega)]
      split
      · congr 1
        omega
      · rfl
    by_cases hb : b.toNat < w
    · rw [decide_eq_true hb, Bool.true_and, Nat.min_eq_left (by omega)]
      by_cases hj : i + b.toNat < w
      · rw [decide_eq_true hj, cond_true, if_pos (by omega), isg_bit h1 hw a (by omega), if_pos (by omega), Nat.add_comm]
      · rw [decide_eq_false hj, cond_false]
        split
        · rw [isg_bit h1 hw a (by omega), if_neg (by omega)]
        · exact msb
    · rw [decide_eq_false hb, Bool.false_and, cond_false, Nat.min_eq_right (by omega)]
      split
      · rw [isg_bit h1 hw a (by omega)]
        split
        · congr 1
          omega
        · rfl
      · exact msb
  · rw [decide_eq_false hiw, Bool.false_and, Bool.false_and]
theorem vl_ev {op : Int} (ho : 2 ≤ op ∧ op ≤ 20) {w w0 : Nat} (h1 : 1 ≤ w) (hw : w ≤ 64) (g1 : 1 ≤ w0) (gw : w0 ≤ 64) (hs : op ≤ 14 → w0 = w) {a b : BitVec 64} (ha : Vd w0 a) (hb : Vd w0 b) : vl2 op w w0 a b &&& M w = ev2 op w w0 a b := by
  unfold vl2 ev2
  have hop : op = 2 ∨ op = 3 ∨ op = 4 ∨ op = 5 ∨ op = 6 ∨ op = 7 ∨ op = 8 ∨ op = 9 ∨ op = 10 ∨ op = 11 ∨ op = 12 ∨ op = 13 ∨ op = 14 ∨ op = 15 ∨ op = 16 ∨ op = 17 ∨ op = 18 ∨ op = 19 ∨ op = 20 := by omega
  rcases hop with rfl | rfl | rfl | rfl | rfl | rfl | rfl | rfl | rfl | rfl | rfl | rfl | rfl | rfl | rfl | rfl | rfl | rfl | rfl
  · simp only [reduceIte]
  · simp only [Int.reduceEq, reduceIte]
  · simp only [Int.reduceEq, reduceIte]
  · obtain rfl := hs (by decide)
    simp only [Int.reduceEq, Int.reduceLE, reduceIte]
    unfold dvi
    by_cases h0 : b = 0#64
    · rw [if_pos ⟨.inl rfl, h0⟩, if_pos h0, M_self]
    · rw [if_neg (fun h => h0 h.2), if_neg h0, if_neg h0, if_pos rfl]
      refine Vd.of_lt hw ?_
      rw [BitVec.toNat_udiv]
      exact Nat.lt_of_le_of_lt (Nat.div_le_self _ _) (ha.lt hw)
  · obtain rfl := hs (by decide)
    simp only [Int.reduceEq, Int.reduceLE, reduceIte]
    unfold dvi
    simp only [Int.reduceEq, or_self, false_and, reduceIte]
    by_cases h0 : b = 0#64
    · rw [if_pos h0]
      exact ha
    · rw [if_neg h0]
      refine Vd.of_lt hw ?_
      rw [BitVec.toNat_umod]
      exact Nat.lt_of_le_of_lt (Nat.mod_le _ _) (ha.lt hw)
  · obtain rfl := hs (by decide)
    simp only [Int.reduceEq, Int.reduceLE, reduceIte]
    exact dv_q h1 hw ha hb
  · obtain rfl := hs (by decide)
    simp only [Int.reduceEq, Int.reduceLE, reduceIte]
    exact dv_r h1 hw ha hb
  · obtain rfl := hs (by decide)
    simp only [Int.reduceEq, Int.reduceLE, reduceIte]
    rw [BitVec.and_assoc, hb]
  · obtain rfl := hs (by decide)
    simp only [Int.reduceEq, Int.reduceLE, reduceIte]
    refine Vd.of hw fun i hi => ?_
    rw [BitVec.getLsbD_or, ha.bit hw hi, hb.bit hw hi, Bool.or_false]
  · obtain rfl := hs (by decide)
    simp only [Int.reduceEq, Int.reduceLE, reduceIte]
    refine Vd.of hw fun i hi => ?_
    rw [BitVec.getLsbD_xor, ha.bit hw hi, hb.bit hw hi]
    rfl
  · obtain rfl := hs (by decide)
    simp only [Int.reduceEq, Int.reduceLE, reduceIte]
    unfold shi
    simp only [Int.reduceEq, reduceIte]
    split
    · exact zero_M _
    · rfl
  · obtain rfl := hs (by decide)
    simp only [Int.reduceEq, Int.reduceLE, reduceIte]
    exact sh_r h1 hw ha
  · obtain rfl := hs (by decide)
    simp only [Int.reduceEq, Int.reduceLE, reduceIte]
    exact sh_a h1 hw ha
  all_goals
    simp only [Int.reduceEq, Int.reduceLE, reduceIte]
    rw [bool_M h1 hw]
    unfold cmpB
    simp only [Int.reduceEq, reduceIte]
  · rw [isg_rsg g1 gw ha, isg_rsg g1 gw hb]
  · rw [isg_rsg g1 gw ha, isg_rsg g1 gw hb]
end Go.Proofs.YtiadfnedbbkojaaDoor.Kb
namespace Go.Proofs.YtiadfnedbbkojaaDoor.Kb
open Go Go.Proofs Go.Proofs.YtiadfnedbbkojaaDoor.X Go.Proofs.YtiadfnedbbkojaaDoor.Bv
set_option linter.unusedSimpArgs false
set_option linter.unusedVariables false
/-- An operand: its width, and what is known about it. -/
abbrev Opd := Int × BitVec 64 × BitVec 64
def Opd.v (q : Opd) : Bool := valB q.1 q.2.1 q.2.2
def Opd.e (q : Opd) : Bool := exB q.1 q.2.1 q.2.2
def Opd.x (q : Opd) : BitVec 64 := cond q.e q.2.2 0#64
def els (Z : List Opd) : List (Int × Int) := Z.map fun q => (U q.2.1, U q.2.2)
def wid (Z : List Opd) : List Int := Z.map fun q => q.1
def row1 (A : List (BitVec 64)) : List Value := (wds A).map fun n => .int .u64 n
theorem row1_snoc (A : List (BitVec 64)) (x : BitVec 64) : row1 (A ++ [x]) = row1 A ++ [.int .u64 (U x)] := by
  unfold row1 wds
  simp
theorem apL (n : Nat) (h b : AH) (B : WF b) (hbl : b.low = h.next) (hbn : b.next = h.next + 1) (hO : Own b h.next [.int .u64 0, .int .u64 0]) (op w : Int) (num : Int) (Z : List Opd) (hZ : Z.length ≤ 20)
    (wa ea : Option Addr) (wn wc en ec : Nat) (SW : Sl b wa ((wid Z).map fun n => .int .i64 n)) (hwn : wn = Z.length) (SE : Sl b ea (prs (els Z))) (hen : en = Z.length) (exf : Bool) (r : Value × AH)
    (hfin : Z.all Opd.v = true → ∀ (m' : Nat) (g' : AH) (a' : Option Addr) (ac' G' : Nat), Kp b g' → Row g' a' Z.length ac' 1 G' (row1 (Z.map Opd.x)) →
      c10_1 (n + 3) (m' + 1) h op w wa wn wc ea en ec num ⟨h.next, 0, none⟩ exf a' Z.length ac' ea en ec (Int.ofNat en) Z.length g' = some r) :
    ∀ (k i m0 : Nat) (g : AH) (a : Option Addr) (ac G : Nat) (ex : Bool), k < m0 → i + k = Z.length → (Z.take i).all Opd.v = true → Kp b g → Row g a i ac 1 G (row1 ((Z.take i).map Opd.x)) → b.next ≤ G → G ≤ g.next → (ex && (Z.drop i).all Opd.e) = exf →
      c10_1 (n + 3) m0 h op w wa wn wc ea en ec num ⟨h.next, 0, none⟩ ex a i ac ea en ec (Int.ofNat en) i g = some (if (Z.drop i).all Opd.v then r else (.agg #[.int .u64 0, .int .u64 0], h)) := by
  intro k
  induction k with
  | zero =>
    intro i m0 g a ac G ex hm hi hav K R hG1 hG2 hex
    obtain ⟨m0, rfl⟩ : ∃ g, m0 = g + 1 := ⟨m0 - 1, by omega⟩
    obtain rfl : i = Z.length := by omega
    rw [List.drop_length, List.all_nil, Bool.and_true] at hex
    subst hex
    rw [List.drop_length, List.all_nil, if_pos rfl]
    rw [List.take_length] at R hav
    exact hfin hav m0 g a ac G K R
  | succ k ih =>
    intro i m0 g a ac G ex hm hi hav K R hG1 hG2 hex
    obtain ⟨m0, rfl⟩ : ∃ g, m0 = g + 1 := ⟨m0 - 1, by omega⟩
    have hil : i < Z.length := by omega
    have hq : Z[i]? = some Z[i] := List.getElem?_eq_getElem hil
    generalize hqe : Z[i] = q at hq
    have hE : (els Z)[i]? = some (U q.2.1, U q.2.2) := by
      unfold els
      rw [List.getElem?_map, hq]
      rfl
    have hW : (wid Z)[i]? = some q.1 := by
      unfold wid
      rw [List.getElem?_map, hq]
      rfl
    have hlow : b.low ≤ b.next := by omega
    have hel : en = (els Z).length := by
      unfold els
      rw [List.length_map, hen]
    have hwl : wn = (wid Z).length := by
      unfold wid
      rw [List.length_map, hwn]
    obtain ⟨g1, e1, K1, F1, O1, n1⟩ := K.new [.int .u64 0, .int .u64 0] 0
    obtain ⟨g2, e2, K2, F2, O2, n2⟩ := K1.st hlow (o := 0) (vs := [.int .u64 (U q.2.1), .int .u64 (U q.2.2)]) O1 K.nxt (Nat.le_refl _)
    rw [putAt0] at O2
    simp only [List.length_cons, List.length_nil, List.drop_succ_cons, List.drop_nil, List.append_nil] at O2
    have SW2 := SW.kp B K2
    have hval := valid (n + 1) g2 K2.wf q.1 q.2.1 q.2.2
    have hexa := exact n (setLow g2 g2.next) (K2.wf.setLow _) q.1 q.2.1 q.2.2
    have hdrop : Z.drop i = q :: Z.drop (i + 1) := by
      rw [List.drop_eq_getElem_cons hil, hqe]
    refine c10_1_ok ?_
    rw [c10_1_eq, iLt_true (by rw [hen]; exact Int.ofNat_lt.2 hil), cond_true]
    simp only [Int.toNat_natCast]
    rw [rowp (SE.kp B K) hel i _ hE]
    simp only [e1, e2, Option.bind_some]
    rw [row_at' SW2 hwl i q.1 hW]
    simp only [O2.rd, Nat.zero_add, Nat.add_zero, List.getElem?_cons_zero, List.getElem?_cons_succ, gI_int, gB_bool, gS_str, gL_sl, gP_ptr, Option.bind_some, cond_true, cond_false, hval]
    rw [show (goodB q.1 && (((q.2.1 ||| q.2.2) &&& ~~~ M q.1) == 0#64 && (q.2.1 &&& q.2.2) == 0#64)) = q.v from rfl, hdrop, List.all_cons]
    rw [hdrop, List.all_cons] at hex
    cases hv : q.v with
    | false =>
      obtain ⟨g3, e3, F3, O3, l3, n3⟩ := st_ok K2.wf (o := 0) (vs := [.int .u64 0, .int .u64 0]) (hO.kp B K2) (by rw [K2.low]; omega) (Nat.le_refl _)
      rw [putAt0] at O3
      simp only [List.length_cons, List.length_nil, List.drop_succ_cons, List.drop_nil, List.append_nil] at O3
      simp only [Bool.not_false, e3, gI_int, gB_bool, gS_str, gL_sl, gP_ptr, Option.bind_some, cond_true, cond_false, O3.rd, Nat.zero_add, List.getElem?_cons_zero, List.getElem?_cons_succ, Bool.false_and, if_neg Bool.false_ne_true]
      rw [exit_low (by rw [l3, K2.low, hbl]) rfl]
    | true =>
      simp only [Bool.not_true, gI_int, gB_bool, gS_str, gL_sl, gP_ptr, Option.bind_some, cond_true, cond_false]
      rw [row_at' SW2 hwl i q.1 hW]
      simp only [O2.rd, Nat.zero_add, Nat.add_zero, List.getElem?_cons_zero, List.getElem?_cons_succ, gI_int, gB_bool, gS_str, gL_sl, gP_ptr, Option.bind_some, cond_true, cond_false, hexa, setLow_low, Nat.beq_refl, setLow_set, setLow_self, tupIs2, tupC20, tupC21]
      have R2 : Row g2 a i ac 1 G (row1 ((Z.take i).map Opd.x)) := by
        rcases R with R | ⟨β, e, r1, r2, r3, r4, r5, r6⟩
        · exact .inl R
        · exact Row.fr (.inr ⟨β, e, r1, r2, r3, r4, r5, r6⟩) (F1.trans F2) (fun hx => by simp only [List.mem_append, List.mem_singleton, or_self] at hx; omega) fun β' e' hx => by
            rw [e] at e'
            injection e' with e'
            injection e' with e'
            simp only [List.mem_append, List.mem_singleton, or_self] at hx
            omega
      obtain ⟨g3, g4, a', G', e3, e4, R4, K4, hG', hG4, _, _, _⟩ := K2.app (by_ := 8) hlow R2 hG1 (by omega) (vs := [.int .u64 (U q.x)]) rfl (by decide) (by omega)
      have htk : Z.take (i + 1) = Z.take i ++ [q] := by
        rw [List.take_add_one, hq]
        rfl
      rw [← row1_snoc, ← List.map_singleton (f := Opd.x), ← List.map_append, ← htk] at R4
      have e3' : hNew g2 [.int .u64 (U (cond (exB q.1 q.2.1 q.2.2) q.2.2 0#64))] 1 = some (g2.next, g3) := e3
      have ih := fun ex => ih (i + 1) m0 g4 a' OPEN G' ex (by omega) (by omega) (by rw [htk, List.all_append, hav, List.all_cons, hv]; rfl) K4 R4 hG' hG4
      rw [show ((i + 1 : Nat) : Int) = (i : Int) + 1 by omega] at ih
      simp only [e3', e4, gI_int, gB_bool, gS_str, gL_sl, gP_ptr, Option.bind_some, cond_true, cond_false]
      rw [iAdd_i64 (by omega) (by omega)]
      cases ex with
      | true =>
        rw [cond_true, ih _ (by rw [Bool.true_and] at hex; exact hex)]
        simp only [Bool.true_and]
      | false =>
        rw [cond_false, ih false (by rw [Bool.false_and] at hex ⊢; exact hex)]
        simp only [Bool.true_and]
end Go.Proofs.YtiadfnedbbkojaaDoor.Kb
namespace Go.Proofs.YtiadfnedbbkojaaDoor.Kb
open Go Go.Proofs Go.Proofs.YtiadfnedbbkojaaDoor.X Go.Proofs.YtiadfnedbbkojaaDoor.Bv
set_option linter.unusedSimpArgs false
set_option linter.unusedVariables false
theorem goodB_iff {w : Int} : goodB w = true ↔ 1 ≤ w ∧ w ≤ 64 := by
  unfold goodB iLe
  rw [Bool.and_eq_true, decide_eq_true_iff, decide_eq_true_iff]
theorem iEq_true {x y : Int} (h : iEq x y = true) : x = y := beq_iff_eq.1 h
theorem iLe_iff {x y : Int} : iLe x y = true ↔ x ≤ y := decide_eq_true_iff
/-- What a right shape is. -/
theorem shp_cases {op w : Int} {L : List Int} (h : shp op w L = true) : (1 ≤ w ∧ w ≤ 64) ∧ (∀ x ∈ L, 1 ≤ x ∧ x ≤ 64) ∧
    ((op = 1 ∧ L = []) ∨ ((2 ≤ op ∧ op ≤ 14) ∧ L = [w, w]) ∨ ((15 ≤ op ∧ op ≤ 20) ∧ w = 1 ∧ ∃ x, L = [x, x]) ∨ (op = 21 ∧ L = [1, w, w]) ∨ ((op = 22 ∨ op = 23) ∧ ∃ x, x ≤ w ∧ L = [x]) ∨ (op = 24 ∧ ∃ x, w ≤ x ∧ L = [x])) := by
  unfold shp at h
  rw [Bool.and_eq_true, Bool.and_eq_true] at h
  obtain ⟨h1, h2, h3⟩ := h
  refine ⟨goodB_iff.1 h1, fun x hx => goodB_iff.1 (List.all_eq_true.1 h2 x hx), ?_⟩
  unfold shO at h3
  cases e1 : iEq op 1 with
  | true =>
    rw [e1, cond_true] at h3
    have := Int.ofNat.inj (iEq_true h3)
    exact .inl ⟨iEq_true e1, List.eq_nil_of_length_eq_zero this⟩
  | false =>
    rw [e1, cond_false] at h3
    cases e2 : (iLe 2 op && iLe op 14) with
    | true =>
      rw [e2, cond_true] at h3
      rw [Bool.and_eq_true, iLe_iff, iLe_iff] at e2
      by_cases hl : L.length = 2
      · obtain ⟨x, y, rfl⟩ := len2 hl
        have h3 : (iEq x w && iEq y w) = true := h3
        rw [Bool.and_eq_true] at h3
        rw [iEq_true h3.1, iEq_true h3.2]
        exact .inr (.inl ⟨e2, rfl⟩)
      · rw [sh2_ne w hl] at h3
        cases h3
    | false =>
      rw [e2, cond_false] at h3
      cases e3 : (iLe 15 op && iLe op 20) with
      | true =>
        rw [e3, cond_true] at h3
        rw [Bool.and_eq_true, iLe_iff, iLe_iff] at e3
        by_cases hl : L.length = 2
        · obtain ⟨x, y, rfl⟩ := len2 hl
          have h3 : (iEq x y && iEq w 1) = true := h3
          rw [Bool.and_eq_true] at h3
          rw [← iEq_true h3.1]
          exact .inr (.inr (.inl ⟨e3, iEq_true h3.2, x, rfl⟩))
        · rw [shc_ne w hl] at h3
          cases h3
      | false =>
        rw [e3, cond_false] at h3
        cases e4 : iEq op 21 with
        | true =>
          rw [e4, cond_true] at h3
          by_cases hl : L.length = 3
          · obtain ⟨x, y, z, rfl⟩ := len3 hl
            have h3 : (iEq x 1 && (iEq y w && iEq z w)) = true := h3
            rw [Bool.and_eq_true, Bool.and_eq_true] at h3
            rw [iEq_true h3.1, iEq_true h3.2.1, iEq_true h3.2.2]
            exact .inr (.inr (.inr (.inl ⟨iEq_true e4, rfl⟩)))
          · rw [sh3_ne w hl] at h3
            cases h3
        | false =>
          rw [e4, cond_false] at h3
          cases e5 : (iEq op 22 || iEq op 23) with
          | true =>
            rw [e5, cond_true] at h3
            rw [Bool.or_eq_true] at e5
            by_cases hl : L.length = 1
            · obtain ⟨x, rfl⟩ := len1 hl
              have h3 : iLe x w = true := h3
              exact .inr (.inr (.inr (.inr (.inl ⟨e5.imp iEq_true iEq_true, x, iLe_iff.1 h3, rfl⟩))))
            · rw [she_ne w hl] at h3
              cases h3
          | false =>
            rw [e5, cond_false] at h3
            cases e6 : iEq op 24 with
            | true =>
              rw [e6, cond_true] at h3
              by_cases hl : L.length = 1
              · obtain ⟨x, rfl⟩ := len1 hl
                have h3 : iLe w x = true := h3
                exact .inr (.inr (.inr (.inr (.inr ⟨iEq_true e6, x, iLe_iff.1 h3, rfl⟩))))
              · rw [sht_ne w hl] at h3
                cases h3
            | false =>
              rw [e6] at h3
              cases h3
theorem apply_exact (n : Nat) (h : AH) (H : WF h) (op w : Int) (num : BitVec 64) (Z : List Opd) (hZ : Z.length ≤ 20) (wa ea : Option Addr) (wn wc en ec : Nat) (SW : Sl h wa ((wid Z).map fun n => .int .i64 n)) (hwn : wn = Z.length)
    (SE : Sl h ea (prs (els Z))) (hen : en = Z.length) (hs : shp op w (wid Z) = true) (hv : Z.all Opd.v = true) (he : Z.all Opd.e = true) (V : BitVec 64)
    (hval : ∀ (g : AH) (na : Option Addr) (nc : Nat), WF g → Sl g wa ((wid Z).map fun n => .int .i64 n) → Sl g na (row1 (Z.map Opd.x)) → runS Tryd.prog (n + 30) 24 [.int .i64 op, .int .i64 w, .slice wa wn wc, .slice na Z.length nc, .int .u64 (U num)] g = some (.int .u64 (U V), g)) :
    runS Tryd.prog (n + 31) 10 [.int .i64 op, .int .i64 w, .slice wa wn wc, .slice ea en ec, .int .u64 (U num)] h = some (.agg #[.int .u64 (U (~~~ V &&& M w)), .int .u64 (U (V &&& M w))], h) := by
  obtain ⟨hw, _, _⟩ := shp_cases hs
  have hwl : wn = (wid Z).length := by
    unfold wid
    rw [List.length_map, hwn]
  obtain ⟨g1, e1, K1, F1, O1, n1⟩ := (Kp.start H).new [.int .u64 0, .int .u64 0] 0
  have S0W : Sl (setLow h h.next) wa ((wid Z).map fun n => .int .i64 n) := SW
  have S0E : Sl (setLow h h.next) ea (prs (els Z)) := SE
  have SW1 := S0W.kp (H.setLow _) K1
  have SE1 := S0E.kp (H.setLow _) K1
  have hsh := shaped n g1 K1.wf op w wa wn wc (wid Z) SW1 hwl (by unfold wid; rw [List.length_map]; exact hZ)
  have hl : g1.low = h.next := K1.low
  have hnn : g1.next = h.next + 1 := n1
  have hfin : ∀ (m' : Nat) (g' : AH) (a' : Option Addr) (ac' G' : Nat), Kp g1 g' → Row g' a' Z.length ac' 1 G' (row1 (Z.map Opd.x)) →
      c10_1 (n + 27 + 3) (m' + 1) h op w wa wn wc ea en ec (U num) ⟨h.next, 0, none⟩ true a' Z.length ac' ea en ec (Int.ofNat en) Z.length g' = some (.agg #[.int .u64 (U (~~~ V &&& M w)), .int .u64 (U (V &&& M w))], h) := fun m' g' a' ac' G' K R => by
    have hv := hval g' a' ac' K.wf (SW1.kp K1.wf K) R.sl
    have ho := ofs (n + 28) g' K.wf w V
    have O' : Own g' h.next [.int .u64 0, .int .u64 0] := O1.kp K1.wf K
    obtain ⟨g3, e3, F3, O3, l3, n3⟩ := st_ok K.wf (o := 0) (vs := [.int .u64 (U (~~~ V &&& M w)), .int .u64 (U (V &&& M w))]) O' (by rw [K.low, hl]; exact Nat.le_refl _) (Nat.le_refl _)
    rw [putAt0] at O3
    simp only [List.length_cons, List.length_nil, List.drop_succ_cons, List.drop_nil, List.append_nil] at O3
    refine c10_1_ok ?_
    rw [c10_1_eq, iLt_false (by rw [hen]; exact Int.le_refl _), cond_false, cond_true, hv]
    simp only [gI_int, gB_bool, gS_str, gL_sl, gP_ptr, Option.bind_some, cond_true, cond_false, ho, goodB_iff.2 hw, aggIs2, aggC20, aggC21, e3, O3.rd, Nat.zero_add, List.getElem?_cons_zero, List.getElem?_cons_succ]
    rw [exit_low (by rw [l3, K.low, hl]) rfl]
  have hloop := apL (n + 27) h g1 K1.wf hl hnn O1 op w (U num) Z hZ wa ea wn wc en ec SW1 hwn SE1 hen true _ (fun _ => hfin) Z.length 0 (n + 30) g1 none 0 g1.next true (by omega) (by omega) rfl (Kp.refl K1.wf) (Row.nil _ _ _) (Nat.le_refl _) (Nat.le_refl _) (by rw [List.drop_zero, he]; rfl)
  rw [List.drop_zero, hv, if_pos rfl] at hloop
  refine t10_ok ?_
  rw [t10]
  simp only [e1, gI_int, gB_bool, gS_str, gL_sl, gP_ptr, Option.bind_some, cond_true, cond_false, hsh, hs, Bool.not_true]
  rw [show iNe (Int.ofNat en) (Int.ofNat wn) = false from by rw [hen, hwn]; exact bne_self_eq_false _, cond_false]
  refine c10_0_ok ?_
  rw [c10_0_eq]
  exact hloop
end Go.Proofs.YtiadfnedbbkojaaDoor.Kb
namespace Go.Proofs.YtiadfnedbbkojaaDoor.Kb
open Go Go.Proofs Go.Proofs.YtiadfnedbbkojaaDoor.X Go.Proofs.YtiadfnedbbkojaaDoor.Bv
set_option linter.unusedSimpArgs false
set_option linter.unusedVariables false
theorem wds_len (A : List (BitVec 64)) : (wds A).length = A.length := List.length_map _
/-- V: what the implementation computes; its lowest bits are what the reference computes. -/
theorem ops {op w : Int} {L : List Int} (hs : shp op w L = true) (A : List (BitVec 64)) (hA : A.length = L.length) (hv : ∀ (i : Nat) (x : Int) (a : BitVec 64), L[i]? = some x → A[i]? = some a → Vd x.toNat a) (num : BitVec 64) :
    ∃ V : BitVec 64,
      (∀ (n : Nat) (g : AH) (wa na : Option Addr) (wn wc nn nc : Nat), WF g → Sl g wa (L.map fun n => .int .i64 n) → Sl g na (row1 A) → wn = L.length → nn = A.length →
        runS Tryd.prog (n + 3) 24 [.int .i64 op, .int .i64 w, .slice wa wn wc, .slice na nn nc, .int .u64 (U num)] g = some (.int .u64 (U V), g)) ∧
      (∀ (n : Nat) (g : AH) (wa na : Option Addr) (wn wc nn nc : Nat), WF g → Sl g wa (L.map fun n => .int .i64 n) → Sl g na (row1 A) → wn = L.length → nn = A.length →
        runS Tryd.prog (n + 70) 16 [.int .i64 op, .int .i64 w, .slice wa wn wc, .slice na nn nc, .int .u64 (U num)] g = some (.int .u64 (U (V &&& M w)), g)) := by
  obtain ⟨⟨h1, hw⟩, hL, hc⟩ := shp_cases hs
  obtain ⟨w, rfl⟩ : ∃ v : Nat, w = v := ⟨w.toNat, by omega⟩
  have h1' : 1 ≤ w := by omega
  have hw' : w ≤ 64 := by omega
  rcases hc with ⟨rfl, rfl⟩ | ⟨ho, rfl⟩ | ⟨ho, e1, x, rfl⟩ | ⟨rfl, rfl⟩ | ⟨ho, x, hx, rfl⟩ | ⟨rfl, x, hx, rfl⟩
  · refine ⟨num, fun n g wa na wn wc nn nc G SW SA hwn hnn => ?_, fun n g wa na wn wc nn nc G SW SA hwn hnn => ?_⟩
    · exact value0 (n + 2) g G w 1 h1' hw' (by decide) wa wn wc [] SW hwn na nn nc A SA (by rw [wds_len]; exact hnn) num
    · exact eval0 n g G w 1 h1' hw' (by decide) (by decide) wa wn wc [] SW hwn na nn nc A SA (by rw [wds_len]; exact hnn) num
  · match A, hA with
    | [a, b], _ =>
      have ha : Vd w a := hv 0 _ a rfl rfl
      have hb : Vd w b := hv 1 _ b rfl rfl
      refine ⟨vl2 op w w a b, fun n g wa na wn wc nn nc G SW SA hwn hnn => ?_, fun n g wa na wn wc nn nc G SW SA hwn hnn => ?_⟩
      · exact value2 n g G w w h1' hw' hw' wa wn wc _ SW hwn na nn nc [a, b] SA (by rw [wds_len]; exact hnn) num op (by omega) a b rfl rfl fun _ _ hb0 h0 => hb0 (isg_0 h1' hw' hb h0)
      · rw [vl_ev (by omega) h1' hw' h1' hw' (fun _ => rfl) ha hb]
        exact eval2 n g G w w h1' hw' h1' hw' wa wn wc _ SW hwn na nn nc [a, b] SA (by rw [wds_len]; exact hnn) num op (by omega) a b rfl rfl rfl
  · have hx := hL x (List.mem_cons_self ..)
    obtain ⟨x, rfl⟩ : ∃ v : Nat, x = v := ⟨x.toNat, by omega⟩
    match A, hA with
    | [a, b], _ =>
      have ha : Vd x a := hv 0 _ a rfl rfl
      have hb : Vd x b := hv 1 _ b rfl rfl
      refine ⟨vl2 op w x a b, fun n g wa na wn wc nn nc G SW SA hwn hnn => ?_, fun n g wa na wn wc nn nc G SW SA hwn hnn => ?_⟩
      · exact value2 n g G w x h1' hw' (by omega) wa wn wc _ SW hwn na nn nc [a, b] SA (by rw [wds_len]; exact hnn) num op (by omega) a b rfl rfl fun _ h8 => absurd h8 (by omega)
      · rw [vl_ev (by omega) h1' hw' (by omega) (by omega) (fun h => by omega) ha hb]
        exact eval2 n g G w x h1' hw' (by omega) (by omega) wa wn wc _ SW hwn na nn nc [a, b] SA (by rw [wds_len]; exact hnn) num op (by omega) a b rfl rfl rfl
  · match A, hA with
    | [a, b, c], _ =>
      have hb : Vd w b := hv 1 _ b rfl rfl
      have hc : Vd w c := hv 2 _ c rfl rfl
      refine ⟨if a = 1#64 then b else c, fun n g wa na wn wc nn nc G SW SA hwn hnn => ?_, fun n g wa na wn wc nn nc G SW SA hwn hnn => ?_⟩
      · exact value3 n g G w 1 h1' hw' (by decide) wa wn wc _ SW hwn na nn nc [a, b, c] SA (by rw [wds_len]; exact hnn) num a b c rfl
      · have : (if a = 1#64 then b else c) &&& M w = if a = 1#64 then b else c := by
          split
          · exact hb
          · exact hc
        rw [this]
        exact eval3 n g G w 1 h1' hw' (by decide) (by decide) wa wn wc _ SW hwn na nn nc [a, b, c] SA (by rw [wds_len]; exact hnn) num a b c rfl
  · have hx2 := hL x (List.mem_cons_self ..)
    obtain ⟨x, rfl⟩ : ∃ v : Nat, x = v := ⟨x.toNat, by omega⟩
    match A, hA with
    | [a], _ =>
      have ha : Vd x a := hv 0 _ a rfl rfl
      refine ⟨if op = 23 then isg x a else a, fun n g wa na wn wc nn nc G SW SA hwn hnn => ?_, fun n g wa na wn wc nn nc G SW SA hwn hnn => ?_⟩
      · exact value1 n g G w x h1' hw' (by omega) wa wn wc _ SW hwn na nn nc [a] SA (by rw [wds_len]; exact hnn) num op (by omega) a rfl rfl
      · rw [isg_rsg (by omega) (by omega) ha]
        exact eval1 n g G w x h1' hw' (by omega) (by omega) wa wn wc _ SW hwn na nn nc [a] SA (by rw [wds_len]; exact hnn) num op (by omega) a rfl rfl
  · have hx2 := hL x (List.mem_cons_self ..)
    obtain ⟨x, rfl⟩ : ∃ v : Nat, x = v := ⟨x.toNat, by omega⟩
    match A, hA with
    | [a], _ =>
      have ha : Vd x a := hv 0 _ a rfl rfl
      refine ⟨a, fun n g wa na wn wc nn nc G SW SA hwn hnn => ?_, fun n g wa na wn wc nn nc G SW SA hwn hnn => ?_⟩
      · have := value1 n g G w x h1' hw' (by omega) wa wn wc _ SW hwn na nn nc [a] SA (by rw [wds_len]; exact hnn) num 24 (by decide) a rfl rfl
        rwa [if_neg (by decide)] at this
      · have := eval1 n g G w x h1' hw' (by omega) (by omega) wa wn wc _ SW hwn na nn nc [a] SA (by rw [wds_len]; exact hnn) num 24 (by decide) a rfl rfl
        rwa [if_neg (by decide)] at this
end Go.Proofs.YtiadfnedbbkojaaDoor.Kb
namespace Go.Proofs.YtiadfnedbbkojaaDoor.Kb
open Go Go.Proofs Go.Proofs.YtiadfnedbbkojaaDoor.X Go.Proofs.YtiadfnedbbkojaaDoor.Bv
set_option linter.unusedSimpArgs false
set_option linter.unusedVariables false
theorem aw1 : goodB 4 = true := rfl
theorem aw2 : ~~~ 10#64 &&& M 4 = 5#64 := by decide +kernel
theorem aw3 : 10#64 &&& M 4 = 10#64 := by decide +kernel
theorem aw4 : (((5#64 ||| 10#64) &&& ~~~ M 4) == 0#64 && (5#64 &&& 10#64) == 0#64) = true := by decide +kernel
theorem aw5 : iEq (U 5#64) 5 = true := rfl
theorem aw7 : U 10#64 = 10 := rfl
theorem aw8 : iEq 10 10 = true := rfl
theorem awake2 (n : Nat) (h : AH) (a : runS Tryd.prog (n + 2) 18 [.int .i64 4, .int .u64 10] (loc h []) = some (.agg #[.int .u64 (U 5#64), .int .u64 10], loc h []))
    (b : runS Tryd.prog (n + 2) 19 [.int .i64 4, .agg #[.int .u64 (U 5#64), .int .u64 10]] (loc h []) = some (.bool true, loc h [])) : t8Y hNew (n + 2) h = some (.bool true, h) := by
  rw [t8, low_loc, a, Option.bind_some]
  simp only []
  rw [aggIs2, aggC20, aggC21, gI_int, gI_int, Option.bind_some, Option.bind_some, cond_true, aw5, aw8, a, cond_true, cond_true]
  rw [Option.bind_some]
  simp only []
  rw [aggIs2, aggC20, aggC21, gI_int, gI_int, Option.bind_some, Option.bind_some, cond_true, b, Option.bind_some, gB_bool, Option.bind_some, exitR_bool]
theorem awake (n : Nat) (h : AH) (H : WF h) : runS Tryd.prog (n + 3) 8 [] h = some (.bool true, h) := by
  refine t8_ok ?_
  have a := ofs n (loc h []) (loc_wf H []) 4 10#64
  have b := valid n (loc h []) (loc_wf H []) 4 5#64 10#64
  rw [aw1, aw2, aw3, cond_true, cond_true] at a
  rw [aw1, aw4] at b
  rw [aw7] at a
  rw [aw7] at b
  exact awake2 n h a b
end Go.Proofs.YtiadfnedbbkojaaDoor.Kb
