import Derived.Test.YtoaccdmeojjdjaaGreatDoorH20
import Derived.ProofKit
import Derived.Below
import Derived.ChangeSame
import Derived.Carry
set_option linter.unusedSimpArgs false
set_option linter.unusedVariables false
namespace Go.Proofs.Hk
noncomputable section
open Go Go.Proofs Go.RowKit Go.WideShapes Go.ChangeShapes
/-- What is known at the entry. -/
def entryG (w:World):Ghost:={ K:=fun b o=>w.cell? ⟨b,o,none⟩,om:=fun _=>none,top:=fun _=>none,role:=fun _=>none,lim:=0}
theorem entry_srel (w:World):SRel (entryG w) [] w:=
 ⟨fun _ _ _ e=>e,by simp [keys],fun _ _ h=>by simp at h,fun _ _=>⟨rfl,rfl⟩,fun _ _ e=>by simp [entryG] at e⟩
theorem Ext.below {G G':Ghost} {w w':World} (h:Ext [] G w G' w'):Below w.heap.size w w':=
 ⟨h.os,h.tape,h.output,h.size,fun k hk=>(h.blocks k hk (fun _ _=>by simp [keys])).1⟩
/-- A pure function that comes to a plain value, called from any world. -/
theorem Pur.below {c:Cx} {f:FuncId} {xs:List HV} {x:Value} (h:Pur c f xs (.v x)) {w:World} {vs:Array Value} (ha:relVs (entryG w) xs vs.toList):Calls c.P f vs w fun e w'=>e = .returned x∧Below w.heap.size w w':=
 (h.out.out (entryG w) w vs (entry_srel w) ha).mono fun e w' ⟨he,s',G',⟨h1,h2⟩,h3,h4⟩=>by
  subst h1
  cases e<;>first|exact h3.elim|skip
  exact ⟨by rw [rel_v_eq h3],h4.ext.below⟩
open Go Go.ChangeShapes Go.WideShapes Go.ChangeAt Go.RowKit
section
variable {H:Type} {enc:TypeId × Value→H} {P:Program}
theorem post_of_below {f:Func} {s:ChangeSpec} {apart fresh handsOn again:Bool} {W W':World} {args:Array Value} {v:Value} {ds gs:List (DataW H)} {before pa pv:List MemPlace}
  (hW:DataW.Whole enc P f.params.toList s.vars apart W args.toList ds gs before)
  (hres:∀ (b:Nat) (sp:Nat→Bool) (hd:Bool),DataW.TrodAll enc P W' b sp hd f.resultTypes.toList (v.resultList f.resultTypes.size) (s.fn H (ds ++ gs)).results [])
  (hargs:∀ sp:Nat→Bool,(∀ p∈before,sp p.block=true)→DataW.TrodAll enc P W' 0 sp true f.params.toList args.toList (s.fn H (ds ++ gs)).args pa)
  (hvars:∀ sp:Nat→Bool,(∀ p∈before,sp p.block=true)→DataW.TrodVars enc P W' sp s.vars (s.fn H (ds ++ gs)).vars pv)
  (hps:before=pa ++ pv) (hb:Below W.heap.size W W')
  (hok:∀ (j:Nat) (t:TypeId) (r:Value),f.resultTypes[j]? = some t→(v.resultList f.resultTypes.size)[j]? = some r→Value.okWide P W' .any 0 t r) :
  s.post enc P f apart fresh handsOn again W args v W':=by
 have hlt:∀ p∈before,p.block < W.heap.size:=fun p hp=>hW.lt p hp
 have hold:∀ p∈before,(fun b=>decide (b < W.heap.size)) p.block=true:=fun p hp=>by simpa using hlt p hp
 refine ⟨ds,gs,before,[],pa,pv,hW,hres _ _ _,hargs _ hold,hvars _ hold,World.keptBut_mono (fun p hp=>⟨hp,?_⟩) (hb.frame (·∈before)),fun _=>?_⟩
 ·rw [hps,List.mem_append] at hp
  exact Or.inr hp
 ·obtain ⟨_,_,_,_,_,hz,hn⟩:=hW
  refine ⟨hok,_,_,([] ++ pa) ++ pv,⟨[] ++ pa,pv,trodAll_append (hargs _ (fun _ _=>rfl)) (hres _ _ _),hvars _ (fun _ _=>rfl),rfl,?_,?_⟩,?_⟩
  ·intro b off hp
   have hin:MemPlace.cell b off∈before:=by rw [hps];simpa using hp
   rw [hb.frozen (hlt _ hin)]
   exact hz b off hin
  ·intro ha
   have:=hn ha
   rw [hps] at this
   simpa using this
  ·intro p hp _
   rw [hps]
   simpa using hp
end
section
variable {H:Type} {enc:TypeId × Value→H} {P:Program}
theorem trodAll_stays (hl:laidOutB P=true) {W W':World} (hb:Below W.heap.size W W'):∀ {ts:List TypeId} {vs:List Value} {ds:List (DataW H)} {ps:List MemPlace},(ts.all fun t=>P.readableRec t && decide (t < P.types.size))=true→DataW.TrodAll enc P W 0 (fun _=>true) true ts vs ds ps→(∀ x∈ps,x.block < W.heap.size)→∀ sp:Nat→Bool,(∀ x∈ps,sp x.block=true)→DataW.TrodAll enc P W' 0 sp true ts vs ds ps
 |[],vs,ds,ps,_,h,_,sp,_=>by
  obtain ⟨rfl,rfl,rfl⟩:=trodAll_nil h
  rfl
 |t::ts,vs,ds,ps,hr,h,hlt,sp,hs=>by
  obtain ⟨v,vs,d,ds,p,q,rfl,rfl,rfl,hd,hrest⟩:=trodAll_cons h
  simp only [List.all_cons,Bool.and_eq_true,decide_eq_true_eq] at hr
  refine ⟨p,q,WideElems.Trod_stays hl hr.1.1 hr.1.2 hd (fun x hx=>hb.same (hlt x (by simp [hx]))) (fun x hx=>hs x (by simp [hx])),trodAll_stays hl hb (by simpa using hr.2) hrest (fun x hx=>hlt x (by simp [hx])) sp (fun x hx=>hs x (by simp [hx])),rfl⟩
theorem law_post {f:Func} {s:ChangeSpec} {W W':World} {args:Array Value} {ds gs:List (DataW H)} {before:List MemPlace} {tb:TypeId} (hl:laidOutB P=true) (hro:(f.params.toList.all fun t=>P.readableRec t && decide (t < P.types.size))=true) (hvs:s.vars=[])
  (hW:DataW.Whole enc P f.params.toList s.vars false W args.toList ds gs before) (hb:Below W.heap.size W W') (hres:(s.fn H (ds ++ gs)).results=[.lit (.bool true)]) (hargs:(s.fn H (ds ++ gs)).args=ds) (hv:(s.fn H (ds ++ gs)).vars=[]) (ht:f.resultTypes = #[tb]) (hu:P.underlying tb=some .bool) :
  s.post enc P f false true false false W args (.bool true) W':=by
 have hlt:∀ p∈before,p.block < W.heap.size:=fun p hp=>hW.lt p hp
 have hW':=hW
 obtain ⟨p,q,hA,hV,rfl,_,_⟩:=hW
 rw [hvs] at hV
 obtain ⟨rfl,rfl⟩:=trodVars_none hV
 refine post_of_below (pa:=p) (pv:=[]) hW' (fun b sp hd=>?_) (fun sp hs=>?_) (fun sp hs=>?_) rfl hb (ok_one ht rfl (okWide_bool_mk hu true))
 ·rw [hres,ht]
  exact trodAll_mk1 (shut_bool hu true)
 ·rw [hargs]
  exact trodAll_stays hl hb hro hA (fun x hx=>hlt x (by simpa using hx)) sp (fun x hx=>hs x (by simpa using hx))
 ·rw [hv,hvs];rfl
end
end
end Go.Proofs.Hk
