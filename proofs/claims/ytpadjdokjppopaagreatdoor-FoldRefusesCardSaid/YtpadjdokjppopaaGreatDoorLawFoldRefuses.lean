/- Joined texts: LawFoldRefuses. -/
import Derived.Test.YtpadjdokjppopaaGreatDoorJE
import Derived.Test.YtpadjdokjppopaaGreatDoorRD
namespace Go.Proofs.YtpadjdokjppopaaGreatDoor.foldRefuses
open Go.Proofs.YtpadjdokjppopaaGreatDoor.X Go.Proofs.YtpadjdokjppopaaGreatDoor
set_option maxRecDepth 100000
theorem calls (hro : RoAll hTab) (hw : WF hTab) (hn : hTab.next = 1) : CallsOK Tryz.prog 1 Kb.CF:=by
 obtain ⟨h',e⟩:=awake1
 exact run1_sound static.orders static.names static.prog (withA_ok (run_sound static.orders static.names static.prog _) (run2_sound static.orders static.names static.prog 300) hro Kb.hTab_plain hw hn e) (withA_body (run_body _) ⟨_,Tryz.func4,by kernel_rfl⟩) (withA_mild (run_mild _)) _
theorem vars6 : layVars Tryz.prog 6 laid hNil = some hTab:=by kernel_rfl
theorem lifted (os : Os) (started : os.Started) (H : Type) (enc : TypeId × Value → H) :
  ReturnsInHanded {} Tryz.checked os 3 .any (fun w args => (Rows.foldRefusesSpec.pre enc Tryz.prog Tryz.f3 [] false w args ∧ laidMetH Tryz.prog laid w) ∧ sizedMet enc Tryz.prog Tryz.f3 (OpenSpec.ofChange Rows.foldRefusesSpec) false w args)
   (Rows.foldRefusesSpec.post enc Tryz.prog Tryz.f3 false true false false):=by
 refine returnsInHanded_of_change_and (C:=Tryz.checked) (X:=fun w _ => laidMetH Tryz.prog laid w) (fun _ _ _ hh h => h.of_heap hh) own started (by kernel_rfl) Tryz.func3
  (ChangeSpec.witness_at (enc:=enc) (C:=Tryz.checked) (os:=os) (X:=fun w _ => laidMetH Tryz.prog laid w) false (laidWorld os) #[.agg #[.slice none 0 0,.slice none 0 0],.int .u8 0,.int .u16 0] 8 rfl (by kernel_rfl) (by kernel_rfl) (by kernel_rfl) (by kernel_rfl) (by kernel_rfl) (laidWorld_met os _)) ?_
 intro W b args ds gs before hval hW _ _ hL _
 obtain ⟨qs,hL⟩:=laid_plain hL
 exact contract_trueC (C:=Tryz.checked) static (vars:=laid) rfl calls vars6 (tb:=4) (by kernel_rfl) (by kernel_rfl) (by kernel_rfl) rfl
  (fun ds hd => by
   have hd : ds.length = 3:=hd
   match ds,hd with
   | [a,b,c],_ => rfl)
  (fun ds hd => Kb.pure_refuses ds hd) W b args ds gs before hval hW hL
theorem over : Rows.FoldRefusesSaid :=
 OpenClaim.holds_of_wide 3 Tryz.f3 rfl rfl rfl rfl rfl rfl rfl ⟨rfl,rfl,rfl,rfl,rfl⟩ rfl rfl rfl rfl rfl (by kernel_rfl) Tryz.func3 (by kernel_rfl)
  (of_decide_eq_true (by kernel_rfl)) (by unfold Func.isWrapper; first | (rw [if_pos (by decide +kernel)]; kernel_rfl) | (rw [if_neg (by decide +kernel)]; exact ⟨rfl,rfl⟩))
  (fun os started H enc _ => lifted os started H enc)
end Go.Proofs.YtpadjdokjppopaaGreatDoor.foldRefuses
namespace Go.Proofs.YtpadjdokjppopaaGreatDoor
open Go
theorem foldRefuses_holds : Rows.FoldRefusesCardSaid :=
 Claim7.holds_tied_plain_at .later [] [.data] true (true,"880fbe986c5c74b612dd9e6b65d493805973e94c43cba27ef4398240611843d4") false
  foldRefuses.over (fun _ h => by cases h) (by kernel_rfl) (fun _ h => by cases h) foldRefuses_row_tie rfl ⟨rfl,rfl⟩ (by kernel_rfl) rfl
  (fun f fn hf hfn => by
   obtain rfl : f = 3:=Option.some.inj ((show Tryz.prog.funcNamed "jacquard/jacquardlaw16.FoldRefuses" = some 3 by kernel_rfl).symm.trans hf) |>.symm
   obtain rfl : fn = Tryz.f3:=(Option.some.inj (Tryz.func3.symm.trans hfn)).symm
   exact ⟨by kernel_rfl,fun j t ht => by
    have hall : (Tryz.f3.params.toList.all fun t => !(Tryz.prog.wantsStandIn t)) = true:=by kernel_rfl
    rw [← Array.getElem?_toList] at ht
    have:=List.all_eq_true.1 hall t (List.mem_of_getElem? ht)
    have h2 : Tryz.prog.wantsStandIn t = false:=by simpa using this
    exact h2⟩)
  (by kernel_rfl)
#print axioms foldRefuses_holds
end Go.Proofs.YtpadjdokjppopaaGreatDoor
