/- Joined texts: VA. -/
import Derived.Test.YtiadfnedbbkojaaDoorUA
namespace Go.Proofs.YtiadfnedbbkojaaDoor.Kb
open Go Go.Proofs Go.Proofs.YtiadfnedbbkojaaDoor.X Go.Proofs.YtiadfnedbbkojaaDoor.Bv
set_option linter.unusedSimpArgs false
set_option linter.unusedVariables false
/-- The second element knows what the first one knows. -/
structure Rf (z o z' o' : BitVec 64) : Prop where
  zer : ∀ i, z.getLsbD i = true → z'.getLsbD i = true
  one : ∀ i, o.getLsbD i = true → o'.getLsbD i = true
theorem Rf.of {z o z' o' : BitVec 64} (h : ∀ i, i < 64 → (z.getLsbD i = true → z'.getLsbD i = true) ∧ (o.getLsbD i = true → o'.getLsbD i = true)) : Rf z o z' o' :=
  ⟨fun i hz => by
    by_cases hi : i < 64
    · exact (h i hi).1 hz
    · rw [out64 _ hi] at hz
      exact absurd hz Bool.false_ne_true, fun i ho => by
    by_cases hi : i < 64
    · exact (h i hi).2 ho
    · rw [out64 _ hi] at ho
      cases ho⟩
theorem Rf.zero (z' o' : BitVec 64) : Rf 0#64 0#64 z' o' := ⟨fun i h => by rw [BitVec.getLsbD_zero] at h; exact absurd h Bool.false_ne_true, fun i h => by rw [BitVec.getLsbD_zero] at h; cases h⟩
theorem exact_ref {w : Nat} (hw : w ≤ 64) {z o z' o' : BitVec 64} (he : exB w z o = true) (V : Vd2 w z' o') (R : Rf z o z' o') : z' = z ∧ o' = o := by
  unfold exB at he
  rw [Bool.and_eq_true, beq_iff_eq] at he
  obtain ⟨_, A⟩ := valB_iff hw he.1
  have key : ∀ i, z'.getLsbD i = z.getLsbD i ∧ o'.getLsbD i = o.getLsbD i := fun i => by
    rcases Nat.lt_or_ge i w with hl | hl
    · have hb : (z ||| o).getLsbD i = true := by rw [he.2, M_bit w hw, decide_eq_true hl]
      have h1 := R.zer i
      have h2 := R.one i
      have h3 := and_zero_bit V.dis i
      rw [BitVec.getLsbD_or] at hb
      revert hb h1 h2 h3
      cases z.getLsbD i <;> cases o.getLsbD i <;> cases z'.getLsbD i <;> cases o'.getLsbD i <;> decide
    · rw [(A.inM i hl).1, (A.inM i hl).2, (V.inM i hl).1, (V.inM i hl).2]
      exact ⟨rfl, rfl⟩
  exact ⟨BitVec.eq_of_getLsbD_eq fun i _ => (key i).1, BitVec.eq_of_getLsbD_eq fun i _ => (key i).2⟩
end Go.Proofs.YtiadfnedbbkojaaDoor.Kb
namespace Go.Proofs.YtiadfnedbbkojaaDoor.Kb
open Go Go.Proofs Go.Proofs.YtiadfnedbbkojaaDoor.X Go.Proofs.YtiadfnedbbkojaaDoor.Bv
set_option linter.unusedSimpArgs false
set_option linter.unusedVariables false
theorem Rf.refl (z o : BitVec 64) : Rf z o z o := ⟨fun _ h => h, fun _ h => h⟩
theorem in_self {w : Nat} {z o : BitVec 64} (V : Vd2 w z o) : In w z o o := ⟨fun i h => by
  have := and_zero_bit V.dis i
  rw [h, Bool.true_and] at this
  exact this, fun _ h => h, fun i hi => (V.inM i hi).2⟩
end Go.Proofs.YtiadfnedbbkojaaDoor.Kb
namespace Go.Proofs.YtiadfnedbbkojaaDoor.Kb
open Go Go.Proofs Go.Proofs.YtiadfnedbbkojaaDoor.X Go.Proofs.YtiadfnedbbkojaaDoor.Bv
set_option linter.unusedSimpArgs false
set_option linter.unusedVariables false
/-- The operands know more, one by one. -/
def AllRf : List Int → List El → List El → Prop
  | x :: L, e :: E, e' :: E' => (valB x e'.1 e'.2 = true ∧ Rf e.1 e.2 e'.1 e'.2) ∧ AllRf L E E'
  | [], [], [] => True
  | _, _, _ => False
theorem AllRf.len : ∀ {L : List Int} {E E' : List El}, AllRf L E E' → L.length = E'.length
  | [], [], [], _ => rfl
  | x :: L, e :: E, e' :: E', ⟨_, h⟩ => congrArg Nat.succ h.len
  | [], _ :: _, _, h => by cases h
  | _ :: _, [], _, h => by cases h
  | [], [], _ :: _, h => by cases h
  | _ :: _, _ :: _, [], h => by cases h
theorem AllRf.val : ∀ {L : List Int} {E E' : List El}, AllRf L E E' → (L.zip E').all Opd.v = true
  | [], [], [], _ => rfl
  | x :: L, e :: E, e' :: E', ⟨h1, h⟩ => by
    show (valB x e'.1 e'.2 && (L.zip E').all Opd.v) = true
    rw [h1.1, h.val]
    rfl
  | [], _ :: _, _, h => by cases h
  | _ :: _, [], _, h => by cases h
  | [], [], _ :: _, h => by cases h
  | _ :: _, _ :: _, [], h => by cases h
theorem valB_nat {x : Int} {z o : BitVec 64} (h : valB x z o = true) : ∃ v : Nat, x = v ∧ 1 ≤ v ∧ v ≤ 64 := by
  have hg : goodB x = true := by
    unfold valB at h
    rw [Bool.and_eq_true] at h
    exact h.1
  have := goodB_iff.1 hg
  exact ⟨x.toNat, by omega, by omega, by omega⟩
theorem AllRf.exact : ∀ {L : List Int} {E E' : List El}, AllRf L E E' → (L.zip E).all Opd.e = true → (L.zip E').all Opd.e = true
  | [], [], [], _, _ => rfl
  | x :: L, e :: E, e' :: E', ⟨h1, h⟩, he => by
    have he : (exB x e.1 e.2 && (L.zip E).all Opd.e) = true := he
    rw [Bool.and_eq_true] at he
    show (exB x e'.1 e'.2 && (L.zip E').all Opd.e) = true
    obtain ⟨v, rfl, _, hv⟩ := valB_nat h1.1
    have V := vd2_of h1.1
    rw [Int.toNat_natCast] at V
    obtain ⟨e1, e2⟩ := exact_ref hv he.1 V h1.2
    rw [e1, e2, he.1, h.exact he.2]
    rfl
  | [], _ :: _, _, h, _ => by cases h
  | _ :: _, [], _, h, _ => by cases h
  | [], [], _ :: _, h, _ => by cases h
  | _ :: _, _ :: _, [], h, _ => by cases h
/-- The ones of the second operands lie in the first. -/
theorem AllRf.ones : ∀ {L : List Int} {E E' : List El}, AllRf L E E' → AllIn L E ((L.zip E').map Opd.o)
  | [], [], [], _ => trivial
  | x :: L, e :: E, e' :: E', ⟨h1, h⟩ => by
    refine ⟨?_, h.ones⟩
    have V := vd2_of h1.1
    have I := in_self V
    exact ⟨fun i hi => I.zer i (h1.2.zer i hi), fun i hi => I.one i (h1.2.one i hi), I.out⟩
  | [], _ :: _, _, h => by cases h
  | _ :: _, [], _, h => by cases h
  | [], [], _ :: _, h => by cases h
  | _ :: _, _ :: _, [], h => by cases h
/-- There is a heap in which two rows lie. -/
theorem two_rows (L : List Int) (X : List (BitVec 64)) : ∃ (g : AH) (wa na : Option Addr), WF g ∧ Sl g wa (L.map fun n => .int .i64 n) ∧ Sl g na (row1 X) := by
  obtain ⟨K, S⟩ := newRo_kp hTab_wf (L.map fun n => .int .i64 n) 1
  obtain ⟨K2, S2⟩ := newRo_kp K.wf (row1 X) 1
  exact ⟨_, _, _, K2.wf, S.kp K.wf K2, S2⟩
end Go.Proofs.YtiadfnedbbkojaaDoor.Kb
namespace Go.Proofs.YtiadfnedbbkojaaDoor.Kb
open Go Go.Proofs Go.Proofs.YtiadfnedbbkojaaDoor.X Go.Proofs.YtiadfnedbbkojaaDoor.Bv
set_option linter.unusedSimpArgs false
set_option linter.unusedVariables false
end Go.Proofs.YtiadfnedbbkojaaDoor.Kb
