/- Leq, Join and Meet of the program are those of the reference, the join lies above both, and the meet contains a word exactly if both contain it: the statement over numbers. No conditions beyond the kinds of the arguments. -/
import Derived.Test.YtiadfnedbbkojaaBv
import Derived.Test.YtiadfnedbbkojaaRKnownbitsLatticex3
namespace Go.Proofs.Ytiadfnedbbkojaa.PureLa
open Go.RowKit Go.Proofs.Ytiadfnedbbkojaa.Bv Go.Proofs.Ytiadfnedbbkojaa.RKnownbitsLattice Go.Proofs.YtiadfnedbbkojaaW.PrintWords

theorem beq_U (x y : BitVec 64) : (U x == U y) = decide (x = y) := by
  rw [Bool.eq_iff_iff, beq_iff_eq, decide_eq_true_iff, U_inj]
theorem beq_U0 (x : BitVec 64) : (U x == 0) = decide (x = 0#64) := beq_U x 0#64
def cont (z o n : BitVec 64) : Bool := decide (n &&& z = 0#64) && decide (n &&& o = o)
theorem contains_tells (z o n : BitVec 64) : knownbits_Contains.f (U z) (U o) (U n) = some (cont z o n) := by
  unfold knownbits_Contains.f cont
  simp only [b_and, U_eq0, beq_U]
  by_cases h2 : n &&& z = 0#64
  · rw [if_pos h2, decide_eq_true h2]
    rfl
  · rw [if_neg h2, decide_eq_false h2]
    rfl
def leq (az ao bz bo : BitVec 64) : Bool := decide (bz &&& ~~~ az = 0#64) && decide (bo &&& ~~~ ao = 0#64)
theorem leq_tells (az ao bz bo : BitVec 64) : knownbits_Leq.f (U az) (U ao) (U bz) (U bo) = some (leq az ao bz bo) := by
  unfold knownbits_Leq.f leq
  simp only [b_andNot, U_eq0, beq_U0]
  by_cases h2 : bz &&& ~~~ az = 0#64
  · rw [if_pos h2, decide_eq_true h2]
    rfl
  · rw [if_neg h2, decide_eq_false h2]
    rfl
theorem leq_r (az ao bz bo : BitVec 64) : jacquardref12_Leq.f (U az) (U ao) (U bz) (U bo) = some (leq az ao bz bo) := by
  unfold jacquardref12_Leq.f leq
  simp only [b_andNot, U_eq0, beq_U0]
  by_cases h2 : bz &&& ~~~ az = 0#64
  · rw [if_pos h2, decide_eq_true h2]
    rfl
  · rw [if_neg h2, decide_eq_false h2]
    rfl
theorem and_self (x y : BitVec 64) : x &&& y &&& ~~~ x = 0#64 := by
  ext i hi
  simp only [BitVec.getElem_and, BitVec.getElem_not, BitVec.getElem_zero]
  cases x[i] <;> cases y[i] <;> rfl
theorem and_self' (x y : BitVec 64) : x &&& y &&& ~~~ y = 0#64 := by
  ext i hi
  simp only [BitVec.getElem_and, BitVec.getElem_not, BitVec.getElem_zero]
  cases x[i] <;> cases y[i] <;> rfl
theorem part1 (c : Bool) (a b : Int) : (if c = true then (a, b, true) else (0, 0, false)).1 = if c = true then a else 0 := by cases c <;> rfl
theorem part2 (c : Bool) (a b : Int) : (if c = true then (a, b, true) else (0, 0, false)).2.1 = if c = true then b else 0 := by cases c <;> rfl
theorem part3 (c : Bool) (a b : Int) : (if c = true then (a, b, true) else (0, 0, false)).2.2 = c := by cases c <;> rfl
theorem awake_tells : jacquardlaw12_awake.f = some true := by decide +kernel
/-- Does the meet disagree? -/
def clash (az ao bz bo : BitVec 64) : Bool := decide ((az ||| bz) &&& (ao ||| bo) = 0#64)
theorem cont_iff (z o n : BitVec 64) : cont z o n = true ↔ ∀ i, i < 64 → (n.getLsbD i = true → z.getLsbD i = false) ∧ (o.getLsbD i = true → n.getLsbD i = true) := by
  unfold cont
  rw [Bool.and_eq_true, decide_eq_true_iff, decide_eq_true_iff]
  constructor
  · rintro ⟨h1, h2⟩ i hi
    have g1 := congrArg (fun x => x.getLsbD i) h1
    have g2 := congrArg (fun x => x.getLsbD i) h2
    simp only [BitVec.getLsbD_and, BitVec.getLsbD_zero] at g1 g2
    revert g1 g2
    cases n.getLsbD i <;> cases z.getLsbD i <;> cases o.getLsbD i <;> decide
  · intro h
    constructor
    · apply BitVec.eq_of_getLsbD_eq
      intro i hi
      have g := h i hi
      simp only [BitVec.getLsbD_and, BitVec.getLsbD_zero]
      revert g
      cases n.getLsbD i <;> cases z.getLsbD i <;> cases o.getLsbD i <;> decide
    · apply BitVec.eq_of_getLsbD_eq
      intro i hi
      have g := h i hi
      simp only [BitVec.getLsbD_and]
      revert g
      cases n.getLsbD i <;> cases z.getLsbD i <;> cases o.getLsbD i <;> decide
/-- What both contain: the elements agree, and the meet and the join contain it. -/
theorem both (az ao bz bo n : BitVec 64) (h1 : cont az ao n = true) (h2 : cont bz bo n = true) : clash az ao bz bo = true ∧ cont (az ||| bz) (ao ||| bo) n = true ∧ cont (az &&& bz) (ao &&& bo) n = true := by
  rw [cont_iff] at h1 h2
  refine ⟨?_, ?_, ?_⟩
  · unfold clash
    rw [decide_eq_true_iff]
    apply BitVec.eq_of_getLsbD_eq
    intro i hi
    have g1 := h1 i hi
    have g2 := h2 i hi
    simp only [BitVec.getLsbD_and, BitVec.getLsbD_or, BitVec.getLsbD_zero]
    revert g1 g2
    cases n.getLsbD i <;> cases az.getLsbD i <;> cases ao.getLsbD i <;> cases bz.getLsbD i <;> cases bo.getLsbD i <;> decide
  · rw [cont_iff]
    intro i hi
    have g1 := h1 i hi
    have g2 := h2 i hi
    simp only [BitVec.getLsbD_or]
    revert g1 g2
    cases n.getLsbD i <;> cases az.getLsbD i <;> cases ao.getLsbD i <;> cases bz.getLsbD i <;> cases bo.getLsbD i <;> decide
  · rw [cont_iff]
    intro i hi
    have g1 := h1 i hi
    have g2 := h2 i hi
    simp only [BitVec.getLsbD_and]
    revert g1 g2
    cases n.getLsbD i <;> cases az.getLsbD i <;> cases ao.getLsbD i <;> cases bz.getLsbD i <;> cases bo.getLsbD i <;> decide
theorem meet_both (az ao bz bo n : BitVec 64) (h : cont (az ||| bz) (ao ||| bo) n = true) : cont az ao n = true ∧ cont bz bo n = true := by
  rw [cont_iff] at h
  rw [cont_iff, cont_iff]
  refine ⟨fun i hi => ?_, fun i hi => ?_⟩
  · have g := h i hi
    simp only [BitVec.getLsbD_or] at g
    revert g
    cases n.getLsbD i <;> cases az.getLsbD i <;> cases ao.getLsbD i <;> cases bz.getLsbD i <;> cases bo.getLsbD i <;> decide
  · have g := h i hi
    simp only [BitVec.getLsbD_or] at g
    revert g
    cases n.getLsbD i <;> cases az.getLsbD i <;> cases ao.getLsbD i <;> cases bz.getLsbD i <;> cases bo.getLsbD i <;> decide

theorem pure (az ao bz bo n : BitVec 64) : jacquardlaw12_KnownbitsLattice.f 100 (U az) (U ao) (U bz) (U bo) (U n) = some true := by
  have l1 : leq az ao (az &&& bz) (ao &&& bo) = true := by
    unfold leq
    rw [and_self, and_self]
    rfl
  have l2 : leq bz bo (az &&& bz) (ao &&& bo) = true := by
    unfold leq
    rw [and_self', and_self']
    rfl
  have hm : knownbits_Meet.f (U az) (U ao) (U bz) (U bo) = some (if clash az ao bz bo = true then (U (az ||| bz), U (ao ||| bo), true) else (0, 0, false)) := by
    unfold knownbits_Meet.f clash
    simp only [b_and, b_or, U_eq0, decide_eq_true_eq]
    by_cases h : (az ||| bz) &&& (ao ||| bo) = 0#64
    · rw [if_pos h, if_pos h]
    · rw [if_neg h, if_neg h]
  unfold jacquardlaw12_KnownbitsLattice.f
  rw [awake_tells]
  simp only [Option.bind_some, if_true, hm, leq_tells, leq_r, bne_self_eq_false, knownbits_Join.f, jacquardref12_Join.f, b_and, beq_self_eq_true]
  have j3 : jacquardlaw12_KnownbitsLattice.j2 98 (U n) (clash az ao bz bo) false (U az) (U ao) (U bz) (U bo) (U (az &&& bz)) (U (ao &&& bo)) (if clash az ao bz bo = true then U (az ||| bz) else 0) (if clash az ao bz bo = true then U (ao ||| bo) else 0) = some true := by
    rw [jacquardlaw12_KnownbitsLattice.j2, if_neg (by decide), contains_tells]
    simp only [Option.bind_some]
    have g : ∀ b, b = (cont az ao n && cont bz bo n) → jacquardlaw12_KnownbitsLattice.j3 97 (U n) (clash az ao bz bo) b (U (az &&& bz)) (U (ao &&& bo)) (if clash az ao bz bo = true then U (az ||| bz) else 0) (if clash az ao bz bo = true then U (ao ||| bo) else 0) = some true := by
      intro b hb
      rw [jacquardlaw12_KnownbitsLattice.j3]
      cases b with
      | true =>
        obtain ⟨g1, g2⟩ := Bool.and_eq_true_iff.1 hb.symm
        obtain ⟨g3, g4, g5⟩ := both az ao bz bo n g1 g2
        rw [if_pos rfl, g3, if_pos rfl, if_pos rfl, if_pos rfl, contains_tells, g4]
        simp only [Option.bind_some, if_true, contains_tells, g5]
      | false =>
        rw [if_neg (by decide)]
        cases g3 : clash az ao bz bo with
        | false => rfl
        | true =>
          rw [if_pos rfl, if_pos rfl, if_pos rfl, contains_tells]
          simp only [Option.bind_some]
          cases g4 : cont (az ||| bz) (ao ||| bo) n with
          | false => rfl
          | true =>
            obtain ⟨g1, g2⟩ := meet_both az ao bz bo n g4
            rw [g1, g2] at hb
            cases hb
    cases h1 : cont az ao n with
    | true =>
      rw [if_pos rfl, contains_tells]
      simp only [Option.bind_some]
      exact g _ (by rw [h1]; rfl)
    | false =>
      rw [if_neg (by decide)]
      exact g _ (by rw [h1]; rfl)
  have j1 : jacquardlaw12_KnownbitsLattice.j1 99 (U n) (clash az ao bz bo) false (U az) (U ao) (U bz) (U bo) (U (az &&& bz)) (U (ao &&& bo)) (if clash az ao bz bo = true then U (az ||| bz) else 0) (if clash az ao bz bo = true then U (ao ||| bo) else 0) = some true := by
    rw [jacquardlaw12_KnownbitsLattice.j1, if_neg (by decide), leq_tells, leq_tells, l1, l2]
    simp only [Option.bind_some, if_true, Bool.not_true]
    exact j3
  rw [if_neg (by decide), part1, part2, part3]
  show jacquardlaw12_KnownbitsLattice.j0 (99 + 1) _ _ _ _ _ _ _ _ _ _ _ = _
  rw [jacquardlaw12_KnownbitsLattice.j0, if_neg (by decide)]
  have hc : (Go.bits .and .u64 (Go.bits .or .u64 (U az) (U bz)) (Go.bits .or .u64 (U ao) (U bo)) == 0) = clash az ao bz bo := by
    rw [b_or, b_or, b_and, beq_U0]
    rfl
  rw [hc]
  revert j1
  cases clash az ao bz bo with
  | true =>
    intro j1
    simp only [bne_self_eq_false, b_or, beq_self_eq_true, if_true] at j1 ⊢
    exact j1
  | false =>
    intro j1
    simp only [bne_self_eq_false, if_false, Bool.false_eq_true] at j1 ⊢
    exact j1
end Go.Proofs.Ytiadfnedbbkojaa.PureLa
