/- Joined texts: LawKnownbitsBest. -/
import Derived.Test.YtiadfnedbbkojaaDoorWA
namespace Go.Proofs.YtiadfnedbbkojaaDoor.knownbitsBest
open Go.Proofs.YtiadfnedbbkojaaDoor.X Go.Proofs.YtiadfnedbbkojaaDoor
set_option maxRecDepth 100000
theorem lifted (os : Os) (started : os.Started) (H : Type) (enc : TypeId × Value → H) :
    ReturnsInHanded {} Tryd.checked os 4 .any (fun w args => (Rows.knownbitsBestSpec.pre enc Tryd.prog Tryd.f4 [] false w args ∧ laidMetH Tryd.prog laid w) ∧ sizedMet enc Tryd.prog Tryd.f4 (OpenSpec.ofChange Rows.knownbitsBestSpec) false w args)
      (Rows.knownbitsBestSpec.post enc Tryd.prog Tryd.f4 false true false false) := by
  refine returnsInHanded_of_change_and (C := Tryd.checked) (X := fun w _ => laidMetH Tryd.prog laid w) (fun _ _ _ hh h => h.of_heap hh) own started (by kernel_rfl) Tryd.func4
    (ChangeSpec.witness_at (enc := enc) (C := Tryd.checked) (os := os) (X := fun w _ => laidMetH Tryd.prog laid w) false (laidWorld os) #[.agg #[.int .i64 0, .int .i64 0, .slice none 0 0, .slice none 0 0, .int .u64 0]] 8 rfl (by kernel_rfl) (by kernel_rfl) (by kernel_rfl) (by kernel_rfl) (by kernel_rfl) (laidWorld_met os _)) ?_
  intro W b args ds gs before hval hW _ _ hL _
  obtain ⟨qs, hL⟩ := laid_plain hL
  exact contract_true (C := Tryd.checked) static (vars := laid) rfl vars (tb := 4) (by kernel_rfl) (by kernel_rfl) (by kernel_rfl) rfl
    (fun ds hd => by
      have hd : ds.length = 1 := hd
      match ds, hd with
      | [a], _ => rfl)
    (fun ds hd => Kb.pure_best ds hd) W b args ds gs before hval hW hL
theorem over : Rows.KnownbitsBestSaid :=
  OpenClaim.holds_of_wide 4 Tryd.f4 rfl rfl rfl rfl rfl rfl rfl ⟨rfl, rfl, rfl, rfl, rfl⟩ rfl rfl rfl rfl rfl (by kernel_rfl) Tryd.func4 (by kernel_rfl)
    (of_decide_eq_true (by kernel_rfl)) (by unfold Func.isWrapper; first | (rw [if_pos (by decide +kernel)]; kernel_rfl) | (rw [if_neg (by decide +kernel)]; exact ⟨rfl, rfl⟩))
    (fun os started H enc _ => lifted os started H enc)
end Go.Proofs.YtiadfnedbbkojaaDoor.knownbitsBest
namespace Go.Proofs.YtiadfnedbbkojaaDoor
open Go
/-- The given statement. -/
theorem knownbitsBest_holds : Rows.KnownbitsBestCardSaid :=
  Claim7.holds_tied_plain_at .later [] [.data] true (true, "ab5544d77be4aab375a227b3d4b3c44a18d4f53030711363bca861586b7358e3") false
    knownbitsBest.over (fun _ h => by cases h) (by kernel_rfl) (fun _ h => by cases h) knownbitsBest_row_tie rfl ⟨rfl, rfl⟩ (by kernel_rfl) rfl
    (fun f fn hf hfn => by
      obtain rfl : f = 4 := Option.some.inj ((show Tryd.prog.funcNamed "jacquard/jacquardlaw12.KnownbitsBest" = some 4 by kernel_rfl).symm.trans hf) |>.symm
      obtain rfl : fn = Tryd.f4 := (Option.some.inj (Tryd.func4.symm.trans hfn)).symm
      exact ⟨by kernel_rfl, fun j t ht => by
        have hall : (Tryd.f4.params.toList.all fun t => !(Tryd.prog.wantsStandIn t)) = true := by kernel_rfl
        rw [← Array.getElem?_toList] at ht
        have := List.all_eq_true.1 hall t (List.mem_of_getElem? ht)
        have h2 : Tryd.prog.wantsStandIn t = false := by simpa using this
        exact h2⟩)
    (by kernel_rfl)
#print axioms knownbitsBest_holds
end Go.Proofs.YtiadfnedbbkojaaDoor
