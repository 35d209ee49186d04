/- ScopeSites: How many sites and points any program has, and the number of any site, are the document's. No condition. -/
import Derived.Test.YtakhpkklopagmaaGreatDoorV17
import Derived.Test.YtakhpkklopagmaaGreatDoorHZ
import Derived.Test.YtakhpkklopagmaaGreatDoorCards
import Derived.Test.YtakhpkklopagmaaGreatDoorTie
import Derived.LaidMore
import Derived.OpenShut
import Derived.SevenTiedAt

set_option linter.unusedSimpArgs false
set_option linter.unusedVariables false
namespace Go.Proofs.YtakhpkklopagmaaGreatDoor
open Go Go.ChangeShapes Go.WideShapes Go.ChangeAt Go.RowKit Go.Proofs.Hk
theorem Tryz.own:ownKnob Tryz.prog.godebug=none:=by kernel_rfl
theorem Tryz.laidOut:laidOutB Tryz.prog=true:=by kernel_rfl
/-- The door's own heap is laid as the row says. -/
theorem door_met (os:Os) (args:Array Value):laidMetH Tryz.prog Rows.scopeSitesRow.laid ((World.doorLaid Tryz.prog 400 os).forCall (fun _ _=>0) ⟨#[],args,[]⟩).memory:=
 laidMetH_of_parts3 (fuel:=8) (laidMet_of_run' 8 (by kernel_rfl) (by kernel_rfl)) (by kernel_rfl) (by kernel_rfl)
set_option maxRecDepth 100000 in
theorem scopeSites_lifted (os:Os) (started:os.Started) (H:Type) (enc:TypeId × Value→H) :
  ReturnsInHanded {} Tryz.checked os 8 .any (fun w args=>(Rows.scopeSitesSpec.pre enc Tryz.prog Tryz.f8 [] false w args∧laidMetH Tryz.prog Rows.scopeSitesRow.laid w)∧sizedMet enc Tryz.prog Tryz.f8 (OpenSpec.ofChange Rows.scopeSitesSpec) false w args) (Rows.scopeSitesSpec.post enc Tryz.prog Tryz.f8 false true false false):=by
 refine returnsInHanded_of_change_and (C:=Tryz.checked) (X:=fun w _=>laidMetH Tryz.prog Rows.scopeSitesRow.laid w) (fun _ _ _ hh h=>h.of_heap hh) Tryz.own started (by kernel_rfl) Tryz.func8
  (ChangeSpec.witness_shaped (enc:=enc) (C:=Tryz.checked) (os:=os) (X:=fun w _=>laidMetH Tryz.prog Rows.scopeSitesRow.laid w) false (World.doorLaid Tryz.prog 400 os) #[.agg #[.slice none 0 0],.int .i64 0,.int .i64 0,.int .i64 0] 8 rfl (World.shaped_of_RefB (by kernel_rfl) (by kernel_rfl)) (by kernel_rfl) (by kernel_rfl) (by kernel_rfl) (door_met os _)) ?_
 intro W base args ds gs before hval0 hW _ _ hL _
 have hval:∀ (j:Nat) t v,Tryz.f8.params[j]? = some t→args[j]? = some v→Value.okWide Tryz.prog W .any base t v:=hval0
 have hW':=hW
 obtain ⟨p,q,hA0,hV,rfl,hfz,hnd⟩:=hW
 have hA:DataW.TrodAll enc Tryz.prog W 0 (fun _=>true) true Tryz.f8.params.toList args.toList ds p:=hA0
 rw [Tryz.params8] at hA hval
 obtain ⟨v0,vs0,d0,ds0,p0,q0,hargs0,rfl,rfl,h0,hA0⟩:=trodAll_cons hA
 obtain ⟨v1,vs1,d1,ds1,p1,q1,hargs1,rfl,rfl,h1,hA1⟩:=trodAll_cons hA0
 obtain ⟨v2,vs2,d2,ds2,p2,q2,hargs2,rfl,rfl,h2,hA2⟩:=trodAll_cons hA1
 obtain ⟨v3,vs3,d3,ds3,p3,q3,hargs3,rfl,rfl,h3,hA3⟩:=trodAll_cons hA2
 obtain ⟨hargsN,rfl,rfl⟩:=trodAll_nil hA3
 subst hargsN
 subst hargs3
 subst hargs2
 subst hargs1
 obtain ⟨args⟩:=args
 have hargs0:args=_:=hargs0
 subst hargs0
 obtain ⟨rfl,rfl⟩:=trodVars_none hV
 obtain ⟨f0,h0⟩:=h0
 obtain ⟨a0,w0,r0⟩:=opProg.2 _ _ _ h0
 obtain ⟨a1,rfl,rfl,rfl,w1⟩:=open_int Tryz.underlying3 (hval 1 3 v1 rfl rfl) h1
 obtain ⟨a2,rfl,rfl,rfl,w2⟩:=open_int Tryz.underlying3 (hval 2 3 v2 rfl rfl) h2
 obtain ⟨a3,rfl,rfl,rfl,w3⟩:=open_int Tryz.underlying3 (hval 3 3 v3 rfl rfl) h3
 clear hA0 hval0
 refine ((ScopeSites_args a0 w0 a1 w1 a2 w2 a3 w3).below (w:=W) (vs:=#[v0,.int .i64 a1,.int .i64 a2,.int .i64 a3]) ?_).mono fun e W' ⟨he,hw⟩=>?_
 ·show relVs _ [encPr a0,.v (.int .i64 a1),.v (.int .i64 a2),.v (.int .i64 a3)] [v0,.int .i64 a1,.int .i64 a2,.int .i64 a3]
  simp only [relVs_cons,relVs]
  exact ⟨_,_,rfl,rel_struct Tryz.underlying24 rfl (hval 0 24 v0 rfl rfl) r0,⟨_,_,rfl,rel_v _,⟨_,_,rfl,rel_v _,⟨_,_,rfl,rel_v _,rfl⟩⟩⟩⟩
 subst he
 exact ⟨_,rfl,law_post Tryz.laidOut (by kernel_rfl) rfl hW' hw rfl rfl rfl (by kernel_rfl) Tryz.underlying4⟩
theorem scopeSites_holds:Rows.ScopeSitesSaid:=
 OpenClaim.holds_of_wide 8 Tryz.f8 rfl rfl rfl rfl rfl rfl rfl ⟨rfl,rfl,rfl,rfl,rfl⟩ rfl rfl rfl rfl rfl (by kernel_rfl) Tryz.func8 (by kernel_rfl)
  (of_decide_eq_true (by kernel_rfl)) (by unfold Func.isWrapper;first|(rw [if_pos (by decide +kernel)];kernel_rfl)|(rw [if_neg (by decide +kernel)];exact ⟨rfl,rfl⟩))
  (fun os started H enc _=>scopeSites_lifted os started H enc)
theorem scopeSites_card_holds:Rows.ScopeSitesCardSaid:=
 Claim7.holds_tied_plain_at .later [] [.data,.data,.data,.sentinel,.sentinel] true (true,"3707631ec64c425b09ad11c54353d8e9b536ea55c2888c5cdcbe26ca48cd1ca8") true
  scopeSites_holds (fun _ h=>by cases h) (by kernel_rfl) (fun _ h=>by cases h) scopeSites_row_tie rfl ⟨rfl,rfl⟩ (by kernel_rfl) rfl
  (fun f fn hf hfn=>by
   obtain rfl:f=8:=Option.some.inj ((show Tryz.prog.funcNamed "escarpment/escarpmentlaw10.ScopeSites" = some 8 by kernel_rfl).symm.trans hf)|>.symm
   obtain rfl:fn=Tryz.f8:=(Option.some.inj (Tryz.func8.symm.trans hfn)).symm
   exact ⟨by kernel_rfl,fun j t ht=>by
    rw [Tryz.params8] at ht
    have hm:t∈[24,3,3,3]:=by simpa using Array.mem_of_getElem? ht
    have hall:([24,3,3,3].all fun u=>!Tryz.prog.wantsStandIn u)=true:=by kernel_rfl
    exact (show Tryz.prog.wantsStandIn t=false by simpa using List.all_eq_true.1 hall t hm)⟩)
  (by kernel_rfl)
end Go.Proofs.YtakhpkklopagmaaGreatDoor
