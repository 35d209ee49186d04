/- Each site of each statement has its own number, rising from 0 on, and there are so many. No condition. -/
import Derived.Test.YtakhpkklopagmaaGreatDoorV21
import Derived.Test.YtakhpkklopagmaaGreatDoorHZ
import Derived.Test.YtakhpkklopagmaaGreatDoorCards
import Derived.Test.YtakhpkklopagmaaGreatDoorTie
import Derived.LaidMore
import Derived.OpenShut
import Derived.SevenTiedAt

set_option linter.unusedSimpArgs false
set_option linter.unusedVariables false
namespace Go.Proofs.YtakhpkklopagmaaGreatDoor
open Go Go.ChangeShapes Go.WideShapes Go.ChangeAt Go.RowKit Go.Proofs.Hk
theorem Tryz.own:ownKnob Tryz.prog.godebug=none:=by kernel_rfl
theorem Tryz.laidOut:laidOutB Tryz.prog=true:=by kernel_rfl
/-- The door's own heap is laid as the row says. -/
theorem door_met (os:Os) (args:Array Value):laidMetH Tryz.prog Rows.scopeNumbersRow.laid ((World.doorLaid Tryz.prog 400 os).forCall (fun _ _=>0) ⟨#[],args,[]⟩).memory:=
 laidMetH_of_parts3 (fuel:=8) (laidMet_of_run' 8 (by kernel_rfl) (by kernel_rfl)) (by kernel_rfl) (by kernel_rfl)
set_option maxRecDepth 100000 in
theorem scopeNumbers_lifted (os:Os) (started:os.Started) (H:Type) (enc:TypeId × Value→H) :
  ReturnsInHanded {} Tryz.checked os 9 .any (fun w args=>(Rows.scopeNumbersSpec.pre enc Tryz.prog Tryz.f9 [] false w args∧laidMetH Tryz.prog Rows.scopeNumbersRow.laid w)∧sizedMet enc Tryz.prog Tryz.f9 (OpenSpec.ofChange Rows.scopeNumbersSpec) false w args) (Rows.scopeNumbersSpec.post enc Tryz.prog Tryz.f9 false true false false):=by
 refine returnsInHanded_of_change_and (C:=Tryz.checked) (X:=fun w _=>laidMetH Tryz.prog Rows.scopeNumbersRow.laid w) (fun _ _ _ hh h=>h.of_heap hh) Tryz.own started (by kernel_rfl) Tryz.func9
  (ChangeSpec.witness_shaped (enc:=enc) (C:=Tryz.checked) (os:=os) (X:=fun w _=>laidMetH Tryz.prog Rows.scopeNumbersRow.laid w) false (World.doorLaid Tryz.prog 400 os) #[.agg #[.slice none 0 0]] 8 rfl (World.shaped_of_RefB (by kernel_rfl) (by kernel_rfl)) (by kernel_rfl) (by kernel_rfl) (by kernel_rfl) (door_met os _)) ?_
 intro W base args ds gs before hval0 hW _ _ hL _
 have hval:∀ (j:Nat) t v,Tryz.f9.params[j]? = some t→args[j]? = some v→Value.okWide Tryz.prog W .any base t v:=hval0
 have hW':=hW
 obtain ⟨p,q,hA0,hV,rfl,hfz,hnd⟩:=hW
 have hA:DataW.TrodAll enc Tryz.prog W 0 (fun _=>true) true Tryz.f9.params.toList args.toList ds p:=hA0
 rw [Tryz.params9] at hA hval
 obtain ⟨v0,vs0,d0,ds0,p0,q0,hargs0,rfl,rfl,h0,hA0⟩:=trodAll_cons hA
 obtain ⟨hargsN,rfl,rfl⟩:=trodAll_nil hA0
 subst hargsN
 obtain ⟨args⟩:=args
 have hargs0:args=_:=hargs0
 subst hargs0
 obtain ⟨rfl,rfl⟩:=trodVars_none hV
 obtain ⟨f0,h0⟩:=h0
 obtain ⟨a0,w0,r0⟩:=opProg.2 _ _ _ h0
 clear hA0 hval0
 refine ((ScopeNumbers_args a0 w0).below (w:=W) (vs:=#[v0]) ?_).mono fun e W' ⟨he,hw⟩=>?_
 ·show relVs _ [encPr a0] [v0]
  simp only [relVs_cons,relVs]
  exact ⟨_,_,rfl,rel_struct Tryz.underlying24 rfl (hval 0 24 v0 rfl rfl) r0,rfl⟩
 subst he
 exact ⟨_,rfl,law_post Tryz.laidOut (by kernel_rfl) rfl hW' hw rfl rfl rfl (by kernel_rfl) Tryz.underlying4⟩
theorem scopeNumbers_holds:Rows.ScopeNumbersSaid:=
 OpenClaim.holds_of_wide 9 Tryz.f9 rfl rfl rfl rfl rfl rfl rfl ⟨rfl,rfl,rfl,rfl,rfl⟩ rfl rfl rfl rfl rfl (by kernel_rfl) Tryz.func9 (by kernel_rfl)
  (of_decide_eq_true (by kernel_rfl)) (by unfold Func.isWrapper;first|(rw [if_pos (by decide +kernel)];kernel_rfl)|(rw [if_neg (by decide +kernel)];exact ⟨rfl,rfl⟩))
  (fun os started H enc _=>scopeNumbers_lifted os started H enc)
theorem scopeNumbers_card_holds:Rows.ScopeNumbersCardSaid:=
 Claim7.holds_tied_plain_at .later [] [.data,.data,.data,.sentinel,.sentinel] true (true,"3707631ec64c425b09ad11c54353d8e9b536ea55c2888c5cdcbe26ca48cd1ca8") true
  scopeNumbers_holds (fun _ h=>by cases h) (by kernel_rfl) (fun _ h=>by cases h) scopeNumbers_row_tie rfl ⟨rfl,rfl⟩ (by kernel_rfl) rfl
  (fun f fn hf hfn=>by
   obtain rfl:f=9:=Option.some.inj ((show Tryz.prog.funcNamed "escarpment/escarpmentlaw10.ScopeNumbers" = some 9 by kernel_rfl).symm.trans hf)|>.symm
   obtain rfl:fn=Tryz.f9:=(Option.some.inj (Tryz.func9.symm.trans hfn)).symm
   exact ⟨by kernel_rfl,fun j t ht=>by
    rw [Tryz.params9] at ht
    have hm:t∈[24]:=by simpa using Array.mem_of_getElem? ht
    have hall:([24].all fun u=>!Tryz.prog.wantsStandIn u)=true:=by kernel_rfl
    exact (show Tryz.prog.wantsStandIn t=false by simpa using List.all_eq_true.1 hall t hm)⟩)
  (by kernel_rfl)
end Go.Proofs.YtakhpkklopagmaaGreatDoor
