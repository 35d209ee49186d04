/- Whether any two trees are one is the document's; so is a tree and itself, and one without a statement. No condition. -/
import Derived.Test.YtoaccdmeojjdjaaGreatDoorY8
import Derived.Test.YtoaccdmeojjdjaaGreatDoorHZ
import Derived.Test.YtoaccdmeojjdjaaGreatDoorCards
import Derived.Test.YtoaccdmeojjdjaaGreatDoorTie
import Derived.LaidMore
import Derived.OpenShut
import Derived.SevenTiedAt

set_option linter.unusedSimpArgs false
set_option linter.unusedVariables false
namespace Go.Proofs.YtoaccdmeojjdjaaGreatDoor
open Go Go.ChangeShapes Go.WideShapes Go.ChangeAt Go.RowKit Go.Proofs.Hk
theorem Tryz.own:ownKnob Tryz.prog.godebug=none:=by kernel_rfl
theorem Tryz.laidOut:laidOutB Tryz.prog=true:=by kernel_rfl
/-- The door's own heap is laid as the row says. -/
theorem door_met (os:Os) (args:Array Value):laidMetH Tryz.prog Rows.showSamesRow.laid ((World.doorLaid Tryz.prog 400 os).forCall (fun _ _=>0) ⟨#[],args,[]⟩).memory:=
 laidMetH_of_parts3 (fuel:=8) (laidMet_of_run' 8 (by kernel_rfl) (by kernel_rfl)) (by kernel_rfl) (by kernel_rfl)
set_option maxRecDepth 100000 in
theorem showSames_lifted (os:Os) (started:os.Started) (H:Type) (enc:TypeId × Value→H) :
  ReturnsInHanded {} Tryz.checked os 10 .any (fun w args=>(Rows.showSamesSpec.pre enc Tryz.prog Tryz.f10 [] false w args∧laidMetH Tryz.prog Rows.showSamesRow.laid w)∧sizedMet enc Tryz.prog Tryz.f10 (OpenSpec.ofChange Rows.showSamesSpec) false w args) (Rows.showSamesSpec.post enc Tryz.prog Tryz.f10 false true false false):=by
 refine returnsInHanded_of_change_and (C:=Tryz.checked) (X:=fun w _=>laidMetH Tryz.prog Rows.showSamesRow.laid w) (fun _ _ _ hh h=>h.of_heap hh) Tryz.own started (by kernel_rfl) Tryz.func10
  (ChangeSpec.witness_shaped (enc:=enc) (C:=Tryz.checked) (os:=os) (X:=fun w _=>laidMetH Tryz.prog Rows.showSamesRow.laid w) false (World.doorLaid Tryz.prog 400 os) #[.agg #[.slice none 0 0],.agg #[.slice none 0 0]] 8 rfl (World.shaped_of_RefB (by kernel_rfl) (by kernel_rfl)) (by kernel_rfl) (by kernel_rfl) (by kernel_rfl) (door_met os _)) ?_
 intro W base args ds gs before hval0 hW _ _ hL _
 have hval:∀ (j:Nat) t v,Tryz.f10.params[j]? = some t→args[j]? = some v→Value.okWide Tryz.prog W .any base t v:=hval0
 have hW':=hW
 obtain ⟨p,q,hA0,hV,rfl,hfz,hnd⟩:=hW
 have hA:DataW.TrodAll enc Tryz.prog W 0 (fun _=>true) true Tryz.f10.params.toList args.toList ds p:=hA0
 rw [Tryz.params10] at hA hval
 obtain ⟨v0,vs0,d0,ds0,p0,q0,hargs0,rfl,rfl,h0,hA0⟩:=trodAll_cons hA
 obtain ⟨v1,vs1,d1,ds1,p1,q1,hargs1,rfl,rfl,h1,hA1⟩:=trodAll_cons hA0
 obtain ⟨hargsN,rfl,rfl⟩:=trodAll_nil hA1
 subst hargsN
 subst hargs1
 obtain ⟨args⟩:=args
 have hargs0:args=_:=hargs0
 subst hargs0
 obtain ⟨rfl,rfl⟩:=trodVars_none hV
 obtain ⟨f0,h0⟩:=h0
 obtain ⟨a0,w0,r0⟩:=opProg.2 _ _ _ h0
 obtain ⟨f1,h1⟩:=h1
 obtain ⟨a1,w1,r1⟩:=opProg.2 _ _ _ h1
 clear hA0 hval0
 refine ((ShowSames_args a0 w0 a1 w1).below (w:=W) (vs:=#[v0,v1]) ?_).mono fun e W' ⟨he,hw⟩=>?_
 ·show relVs _ [encPr a0,encPr a1] [v0,v1]
  simp only [relVs_cons,relVs]
  exact ⟨_,_,rfl,rel_struct Tryz.underlying46 rfl (hval 0 46 v0 rfl rfl) r0,⟨_,_,rfl,rel_struct Tryz.underlying46 rfl (hval 1 46 v1 rfl rfl) r1,rfl⟩⟩
 subst he
 exact ⟨_,rfl,law_post Tryz.laidOut (by kernel_rfl) rfl hW' hw rfl rfl rfl (by kernel_rfl) Tryz.underlying4⟩
theorem showSames_holds:Rows.ShowSamesSaid:=
 OpenClaim.holds_of_wide 10 Tryz.f10 rfl rfl rfl rfl rfl rfl rfl ⟨rfl,rfl,rfl,rfl,rfl⟩ rfl rfl rfl rfl rfl (by kernel_rfl) Tryz.func10 (by kernel_rfl)
  (of_decide_eq_true (by kernel_rfl)) (by unfold Func.isWrapper;first|(rw [if_pos (by decide +kernel)];kernel_rfl)|(rw [if_neg (by decide +kernel)];exact ⟨rfl,rfl⟩))
  (fun os started H enc _=>showSames_lifted os started H enc)
theorem showSames_card_holds:Rows.ShowSamesCardSaid:=
 Claim7.holds_tied_plain_at .later [] [.data,.data,.data,.sentinel,.sentinel] true (true,"f295c77786cc26f15d2162f6662251d4dda4b5b0c2cf6e933f55cd2d3dcba958") true
  showSames_holds (fun _ h=>by cases h) (by kernel_rfl) (fun _ h=>by cases h) showSames_row_tie rfl ⟨rfl,rfl⟩ (by kernel_rfl) rfl
  (fun f fn hf hfn=>by
   obtain rfl:f=10:=Option.some.inj ((show Tryz.prog.funcNamed "escarpment/escarpmentlaw9.ShowSames" = some 10 by kernel_rfl).symm.trans hf)|>.symm
   obtain rfl:fn=Tryz.f10:=(Option.some.inj (Tryz.func10.symm.trans hfn)).symm
   exact ⟨by kernel_rfl,fun j t ht=>by
    rw [Tryz.params10] at ht
    have hm:t∈[46,46]:=by simpa using Array.mem_of_getElem? ht
    have hall:([46,46].all fun u=>!Tryz.prog.wantsStandIn u)=true:=by kernel_rfl
    exact (show Tryz.prog.wantsStandIn t=false by simpa using List.all_eq_true.1 hall t hm)⟩)
  (by kernel_rfl)
end Go.Proofs.YtoaccdmeojjdjaaGreatDoor
