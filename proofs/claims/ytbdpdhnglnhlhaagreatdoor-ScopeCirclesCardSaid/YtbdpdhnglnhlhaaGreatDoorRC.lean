/- ScopeCircles: procedures that call one another in a ring may not be run, in a row they may: the law returns true at any arguments. No condition. -/
import Derived.Test.YtbdpdhnglnhlhaaGreatDoorCCM
import Derived.Test.YtbdpdhnglnhlhaaGreatDoorE12
import Derived.Test.YtbdpdhnglnhlhaaGreatDoorCards
import Derived.Test.YtbdpdhnglnhlhaaGreatDoorTie
import Derived.LaidMore
import Derived.OpenShut
import Derived.SevenTiedAt
set_option linter.unusedSimpArgs false
set_option linter.unusedVariables false

set_option linter.unusedSimpArgs false
set_option linter.unusedVariables false
namespace Go.Proofs.YtbdpdhnglnhlhaaGreatDoor
open Go Go.ChangeShapes Go.WideShapes Go.ChangeAt Go.RowKit Go.Proofs.Hk
theorem Tryz.own:ownKnob Tryz.prog.godebug=none:=by kernel_rfl
theorem Tryz.laidOut:laidOutB Tryz.prog=true:=by kernel_rfl
/-- The door's own heap is laid as the row says. -/
theorem door_met (os:Os) (args:Array Value):laidMetH Tryz.prog Rows.scopeCirclesRow.laid ((World.doorLaid Tryz.prog 400 os).forCall (fun _ _=>0) ⟨#[],args,[]⟩).memory:=
 laidMetH_of_parts3 (fuel:=8) (laidMet_of_run' 8 (by kernel_rfl) (by kernel_rfl)) (by kernel_rfl) (by kernel_rfl)
set_option maxRecDepth 100000 in
theorem scopeCircles_lifted (os:Os) (started:os.Started) (H:Type) (enc:TypeId × Value→H) :
  ReturnsInHanded {} Tryz.checked os 3 .any (fun w args=>(Rows.scopeCirclesSpec.pre enc Tryz.prog Tryz.f3 [] false w args∧laidMetH Tryz.prog Rows.scopeCirclesRow.laid w)∧sizedMet enc Tryz.prog Tryz.f3 (OpenSpec.ofChange Rows.scopeCirclesSpec) false w args) (Rows.scopeCirclesSpec.post enc Tryz.prog Tryz.f3 false true false false):=by
 refine returnsInHanded_of_change_and (C:=Tryz.checked) (X:=fun w _=>laidMetH Tryz.prog Rows.scopeCirclesRow.laid w) (fun _ _ _ hh h=>h.of_heap hh) Tryz.own started (by kernel_rfl) Tryz.func3
  (ChangeSpec.witness_shaped (enc:=enc) (C:=Tryz.checked) (os:=os) (X:=fun w _=>laidMetH Tryz.prog Rows.scopeCirclesRow.laid w) false (World.doorLaid Tryz.prog 400 os) #[.int .u8 0,.int .u8 0] 8 rfl (World.shaped_of_RefB (by kernel_rfl) (by kernel_rfl)) (by kernel_rfl) (by kernel_rfl) (by kernel_rfl) (door_met os _)) ?_
 intro W base args ds gs before hval0 hW _ _ hL _
 have hval:∀ (j:Nat) t v,Tryz.f3.params[j]? = some t→args[j]? = some v→Value.okWide Tryz.prog W .any base t v:=hval0
 have hW':=hW
 obtain ⟨p,q,hA0,hV,rfl,hfz,hnd⟩:=hW
 have hA:DataW.TrodAll enc Tryz.prog W 0 (fun _=>true) true Tryz.f3.params.toList args.toList ds p:=hA0
 rw [Tryz.params3] at hA hval
 obtain ⟨v0,vs0,d0,ds0,p0,q0,hargs0,rfl,rfl,h0,hA0⟩:=trodAll_cons hA
 obtain ⟨v1,vs1,d1,ds1,p1,q1,hargs1,rfl,rfl,h1,hA1⟩:=trodAll_cons hA0
 obtain ⟨hargsN,rfl,rfl⟩:=trodAll_nil hA1
 subst hargsN
 subst hargs1
 obtain ⟨args⟩:=args
 have hargs0:args=_:=hargs0
 subst hargs0
 obtain ⟨rfl,rfl⟩:=trodVars_none hV
 obtain ⟨a0,rfl,rfl,rfl,w0⟩:=open_int Tryz.underlying5 (hval 0 5 v0 rfl rfl) h0
 obtain ⟨a1,rfl,rfl,rfl,w1⟩:=open_int Tryz.underlying5 (hval 1 5 v1 rfl rfl) h1
 clear hA0 hval0
 refine ((ScopeCircles_spec a0 w0 a1 w1).below (w:=W) (vs:=#[.int .u8 a0,.int .u8 a1]) ?_).mono fun e W' ⟨he,hw⟩=>?_
 ·show relVs _ [.v (.int .u8 a0),.v (.int .u8 a1)] [.int .u8 a0,.int .u8 a1]
  simp only [relVs_cons,relVs]
  exact ⟨_,_,rfl,rel_v _,⟨_,_,rfl,rel_v _,rfl⟩⟩
 subst he
 exact ⟨_,rfl,law_post Tryz.laidOut (by kernel_rfl) rfl hW' hw rfl rfl rfl (by kernel_rfl) Tryz.underlying4⟩
theorem scopeCircles_holds:Rows.ScopeCirclesSaid:=
 OpenClaim.holds_of_wide 3 Tryz.f3 rfl rfl rfl rfl rfl rfl rfl ⟨rfl,rfl,rfl,rfl,rfl⟩ rfl rfl rfl rfl rfl (by kernel_rfl) Tryz.func3 (by kernel_rfl)
  (of_decide_eq_true (by kernel_rfl)) (by unfold Func.isWrapper;first|(rw [if_pos (by decide +kernel)];kernel_rfl)|(rw [if_neg (by decide +kernel)];exact ⟨rfl,rfl⟩))
  (fun os started H enc _=>scopeCircles_lifted os started H enc)
theorem scopeCircles_card_holds:Rows.ScopeCirclesCardSaid:=
 Claim7.holds_tied_plain_at .later [] [.data,.data,.data,.sentinel,.sentinel] true (true,"eb844d2924577d2858197904009b5aaef916244f046f943a534f87240d9be069") true
  scopeCircles_holds (fun _ h=>by cases h) (by kernel_rfl) (fun _ h=>by cases h) scopeCircles_row_tie rfl ⟨rfl,rfl⟩ (by kernel_rfl) rfl
  (fun f fn hf hfn=>by
   obtain rfl:f=3:=Option.some.inj ((show Tryz.prog.funcNamed "escarpment/escarpmentlaw10.ScopeCircles" = some 3 by kernel_rfl).symm.trans hf)|>.symm
   obtain rfl:fn=Tryz.f3:=(Option.some.inj (Tryz.func3.symm.trans hfn)).symm
   exact ⟨by kernel_rfl,fun j t ht=>by
    rw [Tryz.params3] at ht
    have hm:t∈[5,5]:=by simpa using Array.mem_of_getElem? ht
    have hall:([5,5].all fun u=>!Tryz.prog.wantsStandIn u)=true:=by kernel_rfl
    exact (show Tryz.prog.wantsStandIn t=false by simpa using List.all_eq_true.1 hall t hm)⟩)
  (by kernel_rfl)
end Go.Proofs.YtbdpdhnglnhlhaaGreatDoor
