/- Joined texts: LawStrengthRefuses. -/
import Derived.Test.YtjdomdndflfjdaaGreatDoorJE
import Derived.Test.YtjdomdndflfjdaaGreatDoorRD
namespace Go.Proofs.YtjdomdndflfjdaaGreatDoor.strengthRefuses
open Go.Proofs.YtjdomdndflfjdaaGreatDoor.X Go.Proofs.YtjdomdndflfjdaaGreatDoor
set_option maxRecDepth 100000
theorem LL (hro : fp gd) (hw : WF gd) (hn : gd.next = 1) : bA Tryz.prog 1 Kb.CF:=by
 obtain ⟨h',e⟩:=JI
 exact mV gu.orders gu.names gu.prog (zx (oM gu.orders gu.names gu.prog _) (nf gu.orders gu.names gu.prog xK 300) hro Kb.JJ hw hn e) (uI (rf _) ⟨_,Tryz.func4,by kernel_rfl⟩) (uJ (mD _)) _
theorem LM : iY Tryz.prog 6 laid rj = some gd:=by kernel_rfl
theorem JK (os : Os) (started : os.Started) (H : Type) (enc : TypeId × Value → H) :
  ReturnsInHanded {} Tryz.checked os 3 .any (fun w args => (Rows.strengthRefusesSpec.pre enc Tryz.prog Tryz.f3 [] false w args ∧ laidMetH Tryz.prog laid w) ∧ sizedMet enc Tryz.prog Tryz.f3 (OpenSpec.ofChange Rows.strengthRefusesSpec) false w args)
   (Rows.strengthRefusesSpec.post enc Tryz.prog Tryz.f3 false true false false):=by
 refine returnsInHanded_of_change_and (C:=Tryz.checked) (X:=fun w _ => laidMetH Tryz.prog laid w) (fun _ _ _ hh h => h.of_heap hh) own started (by kernel_rfl) Tryz.func3
  (ChangeSpec.witness_at (enc:=enc) (C:=Tryz.checked) (os:=os) (X:=fun w _ => laidMetH Tryz.prog laid w) false (pq os) #[.agg #[.slice none 0 0,.slice none 0 0],.int .u8 0,.int .u16 0] 8 rfl (by kernel_rfl) (by kernel_rfl) (by kernel_rfl) (by kernel_rfl) (by kernel_rfl) (ot os _)) ?_
 intro W b args ds gs before hval hW _ _ hL _
 obtain ⟨qs,hL⟩:=vv hL
 exact m5 (C:=Tryz.checked) gu (vars:=laid) rfl LL LM (tb:=4) (by kernel_rfl) (by kernel_rfl) (by kernel_rfl) rfl
  (fun ds hd => by
   have hd : ds.length = 3:=hd
   match ds,hd with
   | [a,b,c],_ => rfl)
  (fun ds hd => Kb.GI ds hd) W b args ds gs before hval hW hL
theorem over : Rows.StrengthRefusesSaid :=
 OpenClaim.holds_of_wide 3 Tryz.f3 rfl rfl rfl rfl rfl rfl rfl ⟨rfl,rfl,rfl,rfl,rfl⟩ rfl rfl rfl rfl rfl (by kernel_rfl) Tryz.func3 (by kernel_rfl)
  (of_decide_eq_true (by kernel_rfl)) (by unfold Func.isWrapper; first | (rw [if_pos (by decide +kernel)]; kernel_rfl) | (rw [if_neg (by decide +kernel)]; exact ⟨rfl,rfl⟩))
  (fun os started H enc _ => JK os started H enc)
end Go.Proofs.YtjdomdndflfjdaaGreatDoor.strengthRefuses
namespace Go.Proofs.YtjdomdndflfjdaaGreatDoor
open Go
theorem strengthRefuses_holds : Rows.StrengthRefusesCardSaid :=
 Claim7.holds_tied_plain_at .later [] [.data] true (true,"e3c97ecd4290dbea6df49ee1fdace3714819f434155052ed3ab7a3333db206ab") false
  strengthRefuses.over (fun _ h => by cases h) (by kernel_rfl) (fun _ h => by cases h) strengthRefuses_row_tie rfl ⟨rfl,rfl⟩ (by kernel_rfl) rfl
  (fun f fn hf hfn => by
   obtain rfl : f = 3:=Option.some.inj ((show Tryz.prog.funcNamed "jacquard/jacquardlaw21.StrengthRefuses" = some 3 by kernel_rfl).symm.trans hf) |>.symm
   obtain rfl : fn = Tryz.f3:=(Option.some.inj (Tryz.func3.symm.trans hfn)).symm
   exact ⟨by kernel_rfl,fun j t ht => by
    have hall : (Tryz.f3.params.toList.all fun t => !(Tryz.prog.wantsStandIn t)) = true:=by kernel_rfl
    rw [← Array.getElem?_toList] at ht
    have:=List.all_eq_true.1 hall t (List.mem_of_getElem? ht)
    have h2 : Tryz.prog.wantsStandIn t = false:=by simpa using this
    exact h2⟩)
  (by kernel_rfl)
#print axioms strengthRefuses_holds
end Go.Proofs.YtjdomdndflfjdaaGreatDoor
