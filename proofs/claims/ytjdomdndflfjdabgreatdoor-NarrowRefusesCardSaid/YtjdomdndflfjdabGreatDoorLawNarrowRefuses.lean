/- Joined texts: LawNarrowRefuses. -/
import Derived.Test.YtjdomdndflfjdabGreatDoorJE
import Derived.Test.YtjdomdndflfjdabGreatDoorRD
namespace Go.Proofs.YtjdomdndflfjdabGreatDoor.narrowRefuses
open Go.Proofs.YtjdomdndflfjdabGreatDoor.X Go.Proofs.YtjdomdndflfjdabGreatDoor
set_option maxRecDepth 100000
theorem IH (hro : ft gi) (hw : WF gi) (hn : gi.next = 1) : bw Tryz.prog 1 Kb.CF:=by
 obtain ⟨h',e⟩:=Hs
 exact nC aC.orders aC.names aC.prog (zS (pu aC.orders aC.names aC.prog _) (aL aC.orders aC.names aC.prog side_ok 300) hro Kb.Ht hw hn e) (u0 (sm _) ⟨_,Tryz.func4,by kernel_rfl⟩) (u6 (mW _)) _
theorem II : je Tryz.prog 6 laid su = some gi:=by kernel_rfl
theorem Hu (os : Os) (started : os.Started) (H : Type) (enc : TypeId × Value → H) :
  ReturnsInHanded {} Tryz.checked os 3 .any (fun w args => (Rows.narrowRefusesSpec.pre enc Tryz.prog Tryz.f3 [] false w args ∧ laidMetH Tryz.prog laid w) ∧ sizedMet enc Tryz.prog Tryz.f3 (OpenSpec.ofChange Rows.narrowRefusesSpec) false w args)
   (Rows.narrowRefusesSpec.post enc Tryz.prog Tryz.f3 false true false false):=by
 refine returnsInHanded_of_change_and (C:=Tryz.checked) (X:=fun w _ => laidMetH Tryz.prog laid w) (fun _ _ _ hh h => h.of_heap hh) own started (by kernel_rfl) Tryz.func3
  (ChangeSpec.witness_at (enc:=enc) (C:=Tryz.checked) (os:=os) (X:=fun w _ => laidMetH Tryz.prog laid w) false (qd os) #[.agg #[.slice none 0 0,.slice none 0 0],.int .u8 0,.int .u16 0] 8 rfl (by kernel_rfl) (by kernel_rfl) (by kernel_rfl) (by kernel_rfl) (by kernel_rfl) (oS os _)) ?_
 intro W b args ds gs before hval hW _ _ hL _
 obtain ⟨qs,hL⟩:=vS hL
 exact nI (C:=Tryz.checked) aC (vars:=laid) rfl IH II (tb:=4) (by kernel_rfl) (by kernel_rfl) (by kernel_rfl) rfl
  (fun ds hd => by
   have hd : ds.length = 3:=hd
   match ds,hd with
   | [a,b,c],_ => rfl)
  (fun ds hd => Kb.Ew ds hd) W b args ds gs before hval hW hL
theorem Kr {a b : Bool} (ha : a = true) (hb : b = true) : (a && b) = true:=by rw [ha,hb]; rfl
set_option maxHeartbeats 0 in
theorem Hv : joinedFacts Tryz.checked.prog 3 Tryz.f3 Rows.narrowRefusesSpec Rows.narrowRefusesRow = true:=by
 unfold joinedFacts
 repeat' with_reducible apply Kr
 all_goals as_aux_lemma => kernel_rfl
theorem IJ : Tryz.checked.prog.funcNamed Rows.narrowRefusesRow.func = some 3:=by kernel_rfl
theorem over : Rows.NarrowRefusesSaid :=
 OpenClaim.holds_of_wide 3 Tryz.f3 rfl rfl rfl rfl rfl rfl rfl ⟨rfl,rfl,rfl,rfl,rfl⟩ rfl rfl rfl rfl rfl IJ Tryz.func3 Hv
  (of_decide_eq_true (by kernel_rfl)) (by unfold Func.isWrapper; first | (rw [if_pos (by decide +kernel)]; kernel_rfl) | (rw [if_neg (by decide +kernel)]; exact ⟨rfl,rfl⟩))
  (fun os started H enc _ => Hu os started H enc)
end Go.Proofs.YtjdomdndflfjdabGreatDoor.narrowRefuses
namespace Go.Proofs.YtjdomdndflfjdabGreatDoor
open Go
theorem narrowRefuses_holds : Rows.NarrowRefusesCardSaid :=
 Claim7.holds_tied_plain_at .later [] [.data] true (true,"54a93ef8b723b50bff02fd4313bcf86ec3d58a8037037a438c840a8cbe99a9f6") false
  narrowRefuses.over (fun _ h => by cases h) (by kernel_rfl) (fun _ h => by cases h) narrowRefuses_row_tie rfl ⟨rfl,rfl⟩ (by kernel_rfl) rfl
  (fun f fn hf hfn => by
   obtain rfl : f = 3:=Option.some.inj ((show Tryz.prog.funcNamed "jacquard/jacquardlaw22.NarrowRefuses" = some 3 by kernel_rfl).symm.trans hf) |>.symm
   obtain rfl : fn = Tryz.f3:=(Option.some.inj (Tryz.func3.symm.trans hfn)).symm
   exact ⟨by kernel_rfl,fun j t ht => by
    have hall : (Tryz.f3.params.toList.all fun t => !(Tryz.prog.wantsStandIn t)) = true:=by kernel_rfl
    rw [← Array.getElem?_toList] at ht
    have:=List.all_eq_true.1 hall t (List.mem_of_getElem? ht)
    have h2 : Tryz.prog.wantsStandIn t = false:=by simpa using this
    exact h2⟩)
  (by kernel_rfl)
#print axioms narrowRefuses_holds
end Go.Proofs.YtjdomdndflfjdabGreatDoor
