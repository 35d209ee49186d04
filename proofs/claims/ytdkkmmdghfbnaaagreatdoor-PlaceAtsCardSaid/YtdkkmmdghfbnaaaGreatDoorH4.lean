import Derived.Laws.StructEq
import Derived.Calls
import Derived.Laws.Sem
import Derived.Laws.Cells
import Derived.Laws.Entries
import Derived.ChangeKeysEq
import Derived.Laws.Cover3
import Derived.Test.YtdkkmmdghfbnaaaGreatDoorH0
import Derived.Laws.CopyRow
import Derived.Laws.AppendOwn
set_option linter.unusedSimpArgs false
set_option linter.unusedVariables false
namespace Go.Proofs.Hk
noncomputable section
open Go
/-! What an operation's answer says of the machine. -/
def Yields (r:Result Next) (u:Value) (w':World):Prop:=r = .ok (.value u) w'∨(r = .ok .skip w'∧u=undef)
def Gives (s:HS) (G:Ghost) (w:World) (r:Result Next) (x:HV) (s':HS):Prop:=
 ∃ u w' G',Yields r u w'∧rel G' x u∧Post s G w s' G' w'
def ResOK (P:Program) (s:HS) (G:Ghost) (w:World) (r:Result Next):OpRes→Prop
 |.bad=>True
 |.pure x=>Gives s G w r x s
 |.val φ x=>φ→Gives s G w r x s
 |.call φ f xs=>φ→∃ vs:Array Value,r = .ok (.enter f vs) w∧relVs G xs vs.toList
 |.pan φ x=>φ→∃ u,r = .halt (.panic u) w∧rel G x u
 |.eff W=>∀ K,W K→∃ x s',K x s'∧Gives s G w r x s'
 |.look q k=>∀ x,hget s q=some x→ResOK P s G w r (k x)
theorem ResOK.need {P:Program} {s:HS} {G:Ghost} {w:World} {r:Result Next} {φ:Prop} {q:OpRes} (h:φ→ResOK P s G w r q):ResOK P s G w r (q.need φ):=by
 induction q with
 |bad=>trivial
 |pure x=>exact h
 |val ψ x=>exact fun k=>h k.1 k.2
 |call ψ f xs=>exact fun k=>h k.1 k.2
 |pan ψ x=>exact fun k=>h k.1 k.2
 |eff W=>exact fun K hK=>h hK.1 K hK.2
 |look q k ih=>exact fun x hx=>ih x fun hφ=>h hφ x hx
theorem rel_v (G:Ghost) {x:Value} (h:vkd x = .one:=by rfl):rel G (.v x) x:=by
 refine ⟨h.symm,?_⟩
 simp only [relC]
 refine ⟨?_,h⟩
 cases x<;>first|rfl|cases h
theorem relCs_map_v (G:Ghost):∀ (cs:List Value),(∀ u∈cs,vkd u = .one)→relCs G (cs.map .v) cs
 |[],_=>by simp [relCs]
 |u::us,h=>by
  simp only [List.map_cons,relCs]
  refine ⟨u,us,rfl,⟨rfl,?_⟩,relCs_map_v G us fun v hv=>h v (by simp [hv])⟩
  simp only [relC]
  exact ⟨trivial,h u (by simp)⟩
theorem ev_ok {G:Ghost} {n:Nat} {a:Fr} {ra:Act} (hf:FRel G n a ra) {x:Operand} {g:Tag} {v:HV} (h:ev a x=some (g,v)):tagRel G g v (ra.eval x):=by
 cases x with
 |tmp t=>exact (hf.slots t g v h).2
 |const u=>
  cases u<;>simp only [ev,Option.some.injEq,Prod.mk.injEq,reduceCtorEq] at h<;>(obtain ⟨rfl,rfl⟩:=h;exact rel_v G)
 |func f=>
  simp only [ev,Option.some.injEq,Prod.mk.injEq] at h
  obtain ⟨rfl,rfl⟩:=h
  refine ⟨rfl,?_⟩
  simp only [relC,Act.eval,Value.cells]
  exact ⟨#[],#[],rfl,by simp [relVs],by simp [relVs]⟩
 |global g=>simp [ev] at h
theorem arg_ok {P:Program} {s:HS} {G:Ghost} {w:World} {n:Nat} {a:Fr} {ra:Act} (hf:FRel G n a ra) {r:Result Next} {x:Operand} {k:HV→OpRes}
  (h:∀ v,rel G v (ra.eval x)→ResOK P s G w r (k v)):ResOK P s G w r (arg a x k):=by
 unfold arg
 split
 ·trivial
 ·rename_i v e;exact h v (ev_ok hf e)
 ·rename_i b v e;exact ResOK.need fun hb=>h v ((ev_ok hf e).1 hb)
theorem argsM_ok {P:Program} {s:HS} {G:Ghost} {w:World} {n:Nat} {a:Fr} {ra:Act} (hf:FRel G n a ra) {r:Result Next} : ∀ {xs:List Operand} {k:List HV→OpRes},
  (∀ vs,relVs G vs (xs.map ra.eval)→ResOK P s G w r (k vs))→ResOK P s G w r (argsM a xs k)
 |[],k,h=>h [] (by simp [relVs])
 |x::xs,k,h=>arg_ok hf fun v hv=>argsM_ok hf fun vs hvs=>h (v::vs) (by rw [relVs_cons];exact ⟨_,_,rfl,hv,hvs⟩)
theorem argO_ok {P:Program} {s:HS} {G:Ghost} {w:World} {n:Nat} {a:Fr} {ra:Act} (hf:FRel G n a ra) {r:Result Next} {x:Option Operand} {k:Option HV→OpRes}
  (h:∀ v,(match v,x.map ra.eval with|none,none=>True|some v,some u=>rel G v u|_,_=>False)→ResOK P s G w r (k v)):ResOK P s G w r (argO a x k):=by
 cases x with
 |none=>exact h none trivial
 |some x=>exact arg_ok hf fun v hv=>h (some v) hv
theorem gives_pure {s:HS} {G:Ghost} {w:World} {x:HV} {u:Value} (hs:SRel G s w) (h:rel G x u):Gives s G w (.ok (.value u) w) x s:=⟨u,w,G,.inl rfl,h,.refl hs⟩
theorem ResOK.gives {P:Program} {s:HS} {G:Ghost} {w:World} {r:Result Next} {x:HV} {φ:Prop} (h:φ→Gives s G w r x s):ResOK P s G w r (.val φ x):=h
theorem vkd_one {u:Value} (h:vkd u = .one):u.cells.toList=[u]:=by cases u<;>first|rfl|cases h
theorem vkd_oneCell {u:Value} (h:vkd u = .one):u.oneCell'=true:=by cases u<;>first|rfl|cases h
theorem leaf_of {G:Ghost} {x:HV} {u:Value} (h:rel G x u) (hx:x.kd = .one):relC G x [u]∧vkd u = .one:=by
 obtain ⟨h1,h2⟩:=h
 have hu:vkd u = .one:=by rw [←h1,hx]
 rw [vkd_one hu] at h2
 exact ⟨h2,hu⟩
theorem relC_one {G:Ghost} {x:HV} {cs:List Value} (h:relC G x cs) (hx:x.kd = .one):∃ u,cs=[u]∧vkd u = .one:=by
 cases x<;>simp only [relC] at h<;>first|cases hx|skip
 ·exact ⟨_,h⟩
 ·rcases h with ⟨_,e,_⟩|⟨b,o,c,e,_⟩|⟨_,_,a,e⟩<;>exact ⟨_,e,rfl⟩
 ·obtain ⟨b,_,e⟩:=h;exact ⟨_,e,rfl⟩
 ·obtain ⟨b,o,xs,e,_⟩:=h;exact ⟨_,e,rfl⟩
 ·obtain ⟨a,b,e,_⟩:=h;exact ⟨_,e,rfl⟩
 ·obtain ⟨b,_,e⟩:=h;exact ⟨_,e,rfl⟩
 ·obtain ⟨b,_,e⟩:=h;exact ⟨_,e,rfl⟩
 ·obtain ⟨u,e,_⟩:=h;exact ⟨_,e,rfl⟩
 ·obtain ⟨b,_,e⟩:=h;exact ⟨_,e,rfl⟩
 ·obtain ⟨b,c,_,_,_,e⟩:=h;exact ⟨_,e,rfl⟩
theorem rel_leaf {G:Ghost} {x:HV} {u:Value} (h:relC G x [u]) (hx:x.kd = .one):rel G x u:=by
 obtain ⟨u',e,hu⟩:=relC_one h hx
 simp only [List.cons.injEq,and_true] at e
 subst e
 exact ⟨by rw [hx,hu],by rw [vkd_one hu];exact h⟩
theorem rel_v_eq {G:Ghost} {x u:Value} (h:rel G (.v x) u):u=x:=by
 obtain ⟨h1,h2⟩:=leaf_of h rfl
 simp only [relC] at h1
 simpa using h1.1
theorem rel_int {G:Ghost} {k:IntKind} {n:Int} {u:Value} (h:rel G (.v (.int k n)) u):u = .int k n:=rel_v_eq h
theorem rel_bool {G:Ghost} {b:Bool} {u:Value} (h:rel G (.v (.bool b)) u):u = .bool b:=rel_v_eq h
section
variable (c:Cx) (s:HS) (G:Ghost) (w:World)
theorem rel_agg_inv4 {G:Ghost} {l:List HV} {u:Value} (h:rel G (.agg l) u):∃ us:Array Value,u = .agg us∧relCs G l us.toList:=by
 obtain ⟨h1,h2⟩:=h
 cases u<;>first|cases h1|skip
 rename_i cs
 exact ⟨cs,rfl,by simpa [relC,Value.cells] using h2⟩
theorem binOp_ok (hs:SRel G s w) (op:BinOp) (t:TypeId) (xo yo:Operand) (x y:HV) (u v:Value) (hx:rel G x u) (hy:rel G y v) :
  ResOK c.P s G w ((do pure (Next.value (←(do eqGuard op t xo yo u v;binOp op t u v))):Sem Next).run c.P w) (hbin op x y):=by
 unfold hbin
 split
 ·rename_i k a k' b
  have hu:=rel_v_eq hx
  have hv:=rel_v_eq hy
  subst hu hv
  split
  ·intro hb
   have e:¬ b < 0:=by omega
   exact ⟨_,w,G,.inl (by simp [eqGuard,binOp,Op.shift,e]),rel_v G,.refl hs⟩
  ·intro hb
   have e:¬ b < 0:=by omega
   exact ⟨_,w,G,.inl (by simp [eqGuard,binOp,Op.shift,e]),rel_v G,.refl hs⟩
  ·rename_i h1 h2
   split
   ·rename_i hk
    have hk:=kindEq_eq hk
    subst hk
    cases op<;>simp only [hint]<;>first|trivial|skip
    all_goals first
     |(intro hb;exact ⟨_,w,G,.inl (by simp [eqGuard,binOp,Op.intDiv,hb]),rel_v G,.refl hs⟩)
     |exact ⟨_,w,G,.inl (by simp [eqGuard,binOp,Op.intArith,Op.intBits,Op.intCmp]),rel_v G,.refl hs⟩
   ·trivial
 ·rename_i a b
  have hu:=rel_v_eq hx
  have hv:=rel_v_eq hy
  subst hu hv
  cases op<;>simp only [hstr]<;>first|trivial|skip
  case add=>
   intro hb
   have e:¬ ((a.size+b.size:Nat):Int) > IntKind.i64.max:=by simp [IntKind.max,IntKind.signed,IntKind.bits];omega
   have e2:¬ ((a.size:Int)+(b.size:Int) > IntKind.i64.max):=by simpa using e
   exact ⟨_,w,G,.inl (by simp [eqGuard,binOp,Op.stringOp,e2];omega),rel_v G,.refl hs⟩
  all_goals exact ⟨_,w,G,.inl (by simp [eqGuard,binOp,Op.stringOp,strEq]),rel_v G,.refl hs⟩
 ·trivial
theorem relCs_get4 {G:Ghost} : ∀ {l:List HV} {us:List Value},relCs G l us→∀ (o:Nat) (x:HV),l[o]? = some x→∃ u,us[o]? = some u∧x.kd = .one∧relC G x [u]
 |[],_,_,o,x,e=>by simp at e
 |y::l,us,h,o,x,e=>by
  simp only [relCs] at h
  obtain ⟨u,us',rfl,h1,h2⟩:=h
  cases o with
  |zero=>
   simp only [List.getElem?_cons_zero,Option.some.injEq] at e
   subst e
   exact ⟨u,by simp,h1⟩
  |succ o=>
   obtain ⟨u',e1,h3⟩:=relCs_get4 h2 o x (by simpa using e)
   exact ⟨u',by simpa using e1,h3⟩
theorem leaf_v {G:Ghost} {x u:Value} (h:relC G (.v x) [u]):u=x:=by
 simp only [relC] at h
 simpa using h.1
theorem run_isAgg_no {P:Program} {w:World} {t:TypeId} {u:TypeDesc} (hu:P.underlying t=some u) {k:PK} (hk:pkOf u k=true):(isAgg t).run P w = .ok false w:=by
 unfold Go.isAgg
 rw [Sem.run_bind,run_underlying hu,Result.andThen_ok]
 cases u<;>cases k<;>first|rfl|simp [pkOf] at hk
theorem run_eqLeaf {P:Program} {w:World} {d:Nat} {t:TypeId} {u:TypeDesc} (hu:P.underlying t=some u) {k:PK} (hk:pkOf u k=true) {x y:HV} {r:Bool} (hr:leafEqV k x y=some r) {a b:Value} (ha:relC G x [a]) (hb:relC G y [b]) :
  (Op.equalIn (d+1) t a b).run P w = .ok r w:=by
 unfold leafEqV at hr
 split at hr
 ·rename_i k1 a' k2 b'
  split at hr
  ·rename_i hkk
   have:=kindEq_eq hkk
   subst this
   cases hr
   rw [leaf_v ha,leaf_v hb]
   cases u<;>first|exact run_equalIn_int w d t _ _ _ _ hu|simp [pkOf] at hk
  ·cases hr
 ·cases hr
  rw [leaf_v ha,leaf_v hb]
  cases u<;>first|exact run_equalIn_bool' w d t _ _ hu|simp [pkOf] at hk
 ·cases hr
  rw [leaf_v ha,leaf_v hb]
  cases u<;>first|exact run_equalIn_string w d t _ _ hu|simp [pkOf] at hk
 ·cases hr
theorem run_part {P:Program} {w:World} {t:TypeId} {cs:Array Value} {o:Nat} {v:Value} (ht:(isAgg t).run P w = .ok false w) (hv:cs.toList[o]? = some v):(Go.part t cs o).run P w = .ok v w:=by
 unfold Go.part
 rw [Sem.run_bind,ht,Result.andThen_ok]
 have:cs[o]? = some v:=by simpa using hv
 simp [this]
theorem run_eqFields {P:Program} {w:World} {d:Nat} {xs ys:Array Value} {l l':List HV} (hx:relCs G l xs.toList) (hy:relCs G l' ys.toList) :
  ∀ {fs:List Field} {e:List (Nat × PK)} {r:Bool},eqFsB P fs e=true→fieldsV l l' e=some r→(Op.eqFields (d+1) xs ys fs).run P w = .ok r w
 |[],[],r,_,h=>by
  simp only [fieldsV,Option.some.injEq] at h
  subst h
  rfl
 |[],_::_,_,h,_=>by cases h
 |_::_,[],_,h,_=>by cases h
 |f::fs,(o,k)::e,r,h,hr=>by
  simp only [eqFsB,Bool.and_eq_true,bne_iff_ne,beq_iff_eq] at h
  obtain ⟨⟨⟨h1,h2⟩,h3⟩,h4⟩:=h
  cases hu:P.underlying f.type with
  |none=>rw [hu] at h3;cases h3
  |some u=>
   rw [hu] at h3
   have h3:pkOf u k=true:=h3
   simp only [fieldsV] at hr
   split at hr
   ·rename_i x y ex ey
    split at hr
    ·rename_i b1 b2 hb1 hb2
     cases hr
     obtain ⟨a,ea,_,ra⟩:=relCs_get4 hx o x ex
     obtain ⟨b,eb,_,rb⟩:=relCs_get4 hy o y ey
     have hag:=run_isAgg_no (w:=w) hu h3
     have key:∀ (K:Sem Bool),(do
       let a ←Go.part f.type xs f.offset
       let b ←Go.part f.type ys f.offset
       let r ←Op.equalIn (d+1) f.type a b
       if (!r)=true then pure false else K:Sem Bool).run P w=if (!b1)=true then .ok false w else K.run P w:=by
      intro K
      rw [Sem.run_bind,h2,run_part hag ea,Result.andThen_ok,Sem.run_bind,run_part hag eb,Result.andThen_ok,Sem.run_bind,run_eqLeaf G hu h3 hb1 ra rb,Result.andThen_ok]
      cases b1<;>rfl
     simp only [Op.eqFields]
     rw [if_pos h1,key,run_eqFields hx hy h4 hb2]
     cases b1<;>rfl
    ·cases hr
   ·cases hr
theorem binT_ok (hs:SRel G s w) (op:BinOp) (t:TypeId) (xo yo:Operand) (x y:HV) (u v:Value) (hx:rel G x u) (hy:rel G y v) :
  ResOK c.P s G w ((do pure (Next.value (←(do eqGuard op t xo yo u v;binOp op t u v))):Sem Next).run c.P w) (hbinT c s op t x y):=by
 have nilOK:∀ (e:Prop) (a:Option Addr) (n m:Nat),u = .slice a n m→v = .slice none 0 0→(a=none→e)→ResOK c.P s G w ((do pure (Next.value (←(do eqGuard op t xo yo u v;binOp op t u v))):Sem Next).run c.P w) (hnil c s op t e):=by
  rintro e a n m rfl rfl he
  unfold hnil
  split
  ·trivial
  ·rename_i el hel
   have hud:c.P.underlying t=some (.slice el):=by
    unfold sliceElemT at hel
    split at hel
    ·rename_i e' hd
     cases hel
     obtain ⟨i,ud,_,hud,_,_,_,_,hsh,_⟩:=c.ty_ok _ _ hd
     cases ud<;>simp only [shOK] at hsh
     subst hsh
     exact hud
    ·cases hel
   have eq:(Op.equalIn 10000 t (.slice a n m) (.slice none 0 0)).run c.P w = .ok a.isNone w:=run_equalIn_slice_nil (w:=w) (d:=9999) (t:=t) (e:=el) a n m hud
   split
   ·intro K hK
    refine ⟨_,_,hK a.isNone (fun h=>he (by simpa using h)),_,w,G,.inl ?_,rel_v G,.refl hs⟩
    simp [eqGuard,binOp,Op.equal,Op.maxDepth,eq]
   ·intro K hK
    refine ⟨_,_,hK (!a.isNone) (fun h=>he (by simpa using h)),_,w,G,.inl ?_,rel_v G,.refl hs⟩
    simp [eqGuard,binOp,Op.equal,Op.maxDepth,eq]
   ·trivial
 unfold hbinT
 split
 ·rename_i tk sz l
  have hv:=rel_v_eq hy
  obtain ⟨h1,_⟩:=leaf_of hx rfl
  simp only [relC] at h1
  rcases h1 with ⟨e0,e1,_⟩|⟨b,o,cp,e1,_⟩|⟨e0,_,a,e1⟩
  ·exact nilOK _ _ _ _ (by simpa using e1) hv (fun _=>e0)
  ·exact nilOK _ _ _ _ (by simpa using e1) hv (fun h=>by cases h)
  ·exact nilOK _ _ _ _ (by simpa using e1) hv (fun _=>e0)
 ·have hv:=rel_v_eq hy
  obtain ⟨h1,_⟩:=leaf_of hx rfl
  simp only [relC] at h1
  obtain ⟨b,_,e1⟩:=h1
  exact nilOK _ _ _ _ (by simpa using e1) hv (fun h=>by cases h)
 ·exact nilOK _ _ _ _ (rel_v_eq hx) (rel_v_eq hy) (fun _=>trivial)
 ·rename_i xs ys
  unfold hstructEq
  split
  ·trivial
  ·rename_i l hl
   split
   ·trivial
   ·rename_i r hr
    obtain ⟨h1,h2,fs,h3,h4⟩:=c.eq_ok t l hl
    obtain ⟨us,rfl,hus⟩:=rel_agg_inv4 hx
    obtain ⟨vs,rfl,hvs⟩:=rel_agg_inv4 hy
    have hf:c.P.fieldsOf t=fs:=by unfold Program.fieldsOf;rw [h3]
    have e:(Op.equalIn 10000 t (.agg us) (.agg vs)).run c.P w = .ok r w:=by
     rw [run_equalIn_agg w 9999 t us vs (by rw [hf];exact h3) h1,hf]
     exact run_eqFields (d:=9998) G hus hvs h4 hr
    cases op<;>first|trivial|skip
    all_goals refine ⟨_,w,G,.inl ?_,rel_v G,.refl hs⟩
    ·simp only [Sem.run_bind,run_eqGuard_agg w .eql t xo yo us vs h2,Result.andThen_ok,run_eql_struct,e]
     rfl
    ·simp only [Sem.run_bind,run_eqGuard_agg w .neq t xo yo us vs h2,Result.andThen_ok,run_neq_struct,e]
     rfl
 ·rename_i a b
  have hu:=rel_v_eq hx
  have hv:=rel_v_eq hy
  subst hu hv
  split
  ·rename_i e
   obtain ⟨i,ud,_,hud,_,_,_,_,hsh,_⟩:=c.ty_ok _ _ e
   have hud:c.P.underlying t=some .bool:=by
    cases ud<;>simp only [shOK] at hsh
    exact hud
   have eq:(Op.equalIn 10000 t (.bool a) (.bool b)).run c.P w = .ok (a == b) w:=run_equalIn_bool' w 9999 t a b hud
   cases op<;>first|trivial|skip
   all_goals refine ⟨_,w,G,.inl ?_,rel_v G,.refl hs⟩
   ·simp [eqGuard,binOp,Op.equal,Op.maxDepth,eq]
   ·simp [eqGuard,binOp,Op.equal,Op.maxDepth,eq]
    cases a<;>cases b<;>rfl
  ·trivial
 ·exact binOp_ok c s G w hs op t xo yo x y u v hx hy
end
end
end Go.Proofs.Hk

namespace Go.Proofs.Hk
noncomputable section
open Go
theorem relCs_length {G:Ghost} : ∀ {l:List HV} {us:List Value},relCs G l us→us.length=l.length
 |[],us,h=>by simp only [relCs] at h;simp [h]
 |x::xs,us,h=>by
  simp only [relCs] at h
  obtain ⟨u,us',rfl,_,h⟩:=h
  simp [relCs_length h]
theorem relCs_get {G:Ghost} : ∀ {l:List HV} {us:List Value},relCs G l us→∀ (i:Nat) (x:HV),l[i]? = some x→∃ u,us[i]? = some u∧x.kd = .one∧relC G x [u]
 |[],us,h,i,x,e=>by simp at e
 |y::ys,us,h,i,x,e=>by
  simp only [relCs] at h
  obtain ⟨u,us',rfl,⟨h0,h1⟩,h2⟩:=h
  cases i with
  |zero=>simp only [List.getElem?_cons_zero,Option.some.injEq] at e;subst e;exact ⟨u,by simp,h0,h1⟩
  |succ i=>simpa using relCs_get h2 i x (by simpa using e)
theorem relCs_one {G:Ghost} : ∀ {l:List HV} {us:List Value},relCs G l us→∀ u∈us,vkd u = .one
 |[],us,h,u,hu=>by simp only [relCs] at h;simp [h] at hu
 |x::xs,us,h,u,hu=>by
  simp only [relCs] at h
  obtain ⟨v,us',rfl,⟨h0,h1⟩,h2⟩:=h
  rcases List.mem_cons.1 hu with rfl|hu
  ·obtain ⟨u',e,hk⟩:=relC_one h1 h0
   simp only [List.cons.injEq,and_true] at e
   rw [e];exact hk
  ·exact relCs_one h2 u hu
theorem relCs_append {G:Ghost} : ∀ {l m:List HV} {us vs:List Value},relCs G l us→relCs G m vs→relCs G (l ++ m) (us ++ vs)
 |[],m,us,vs,h,k=>by simp only [relCs] at h;subst h;exact k
 |x::xs,m,us,vs,h,k=>by
  simp only [relCs] at h
  obtain ⟨u,us',rfl,h1,h2⟩:=h
  simp only [List.cons_append,relCs]
  exact ⟨u,us' ++ vs,rfl,h1,relCs_append h2 k⟩
theorem relCs_take {G:Ghost} : ∀ {l:List HV} {us:List Value} (k:Nat),relCs G l us→relCs G (l.take k) (us.take k)
 |[],us,k,h=>by simp only [relCs] at h;subst h;simp [relCs]
 |x::xs,us,0,h=>by simp [relCs]
 |x::xs,us,k+1,h=>by
  simp only [relCs] at h
  obtain ⟨u,us',rfl,h1,h2⟩:=h
  simp only [List.take_succ_cons,relCs]
  exact ⟨u,_,rfl,h1,relCs_take k h2⟩
theorem relCs_drop {G:Ghost} : ∀ {l:List HV} {us:List Value} (k:Nat),relCs G l us→relCs G (l.drop k) (us.drop k)
 |[],us,k,h=>by simp only [relCs] at h;subst h;simp [relCs]
 |x::xs,us,0,h=>by simpa using h
 |x::xs,us,k+1,h=>by
  simp only [relCs] at h
  obtain ⟨u,us',rfl,h1,h2⟩:=h
  simpa using relCs_drop k h2
/-- The cells of a value that is no tuple. -/
theorem rel_cells {G:Ghost} {x:HV} {u:Value} (h:rel G x u) (hx:x.kd≠.tup):relCs G x.cells u.cells.toList:=by
 obtain ⟨h1,h2⟩:=h
 by_cases ho:x.kd = .one
 ·obtain ⟨v,e,hv⟩:=relC_one h2 ho
  have:x.cells=[x]:=by cases x<;>first|rfl|cases ho
  rw [this,e]
  simp only [relCs]
  exact ⟨v,[],rfl,⟨ho,by rw [←e];exact h2⟩,rfl⟩
 ·cases x<;>first|exact absurd rfl ho|exact absurd rfl hx|skip
  simpa only [relC,HV.cells] using h2
theorem rel_agg {G:Ghost} {l:List HV} {us:List Value} (h:relCs G l us):rel G (.agg l) (.agg us.toArray):=⟨rfl,by simpa [relC,Value.cells] using h⟩
theorem rel_agg_inv {G:Ghost} {l:List HV} {u:Value} (h:rel G (.agg l) u):∃ us:Array Value,u = .agg us∧relCs G l us.toList:=by
 obtain ⟨h1,h2⟩:=h
 cases u<;>first|cases h1|skip
 rename_i cs
 exact ⟨cs,rfl,by simpa [relC,Value.cells] using h2⟩
/-! Types. -/
section
variable {P:Program} {t:TypeId} {d:TyD} {w:World}
theorem TyOK.isAgg (h:TyOK P t d):(isAgg t).run P w = .ok d.isAgg w:=by
 obtain ⟨i,u,hi,hu,h1,h2,h3,h4,h5,_⟩:=h
 unfold Go.isAgg
 rw [Sem.run_bind,run_underlying hu,Result.andThen_ok]
 rw [←h4]
 cases u<;>rfl
theorem TyOK.sizeOf (h:TyOK P t d):(sizeOf t).run P w = .ok d.size w:=by
 obtain ⟨i,u,hi,hu,h1,_⟩:=h
 rw [run_sizeOf _ hi]
 simp [Program.cellsOf,hi,h1]
theorem TyOK.info (h:TyOK P t d):∃ i,(typeInfo t).run P w = .ok i w∧i.size=d.size∧i.bytes=d.bytes∧i.zero=some d.zero:=by
 obtain ⟨i,u,hi,hu,h1,h2,h3,_⟩:=h
 exact ⟨i,run_typeInfo _ hi,h1,h2,h3⟩
theorem TyOK.zero (h:TyOK P t d):(zeroValue t).run P w = .ok d.zero w:=by
 obtain ⟨i,hi,_,_,hz⟩:=h.info (w:=w)
 unfold zeroValue
 rw [Sem.run_bind,hi,Result.andThen_ok]
 simp [hz]
theorem TyOK.zsize (h:TyOK P t d):d.zero.cells.size=d.size:=by
 obtain ⟨i,u,hi,hu,h1,h2,h3,h4,h5,h6⟩:=h
 exact h6
theorem TyOK.und (h:TyOK P t d):∃ u,(underlying t).run P w = .ok u w∧shOK P u d.sh∧descAgg u=d.isAgg:=by
 obtain ⟨i,u,hi,hu,h1,h2,h3,h4,h5,_⟩:=h
 exact ⟨u,run_underlying hu w,h5,h4⟩
theorem TyOK.slice {e:TypeId} (h:TyOK P t d) (hs:d.sh = .slice e):(underlying t).run P w = .ok (.slice e) w:=by
 obtain ⟨u,hu,hsh,_⟩:=h.und (w:=w)
 rw [hs] at hsh
 cases u<;>simp only [shOK] at hsh
 subst hsh
 exact hu
theorem TyOK.string (h:TyOK P t d) (hs:d.sh = .string):(underlying t).run P w = .ok .string w:=by
 obtain ⟨u,hu,hsh,_⟩:=h.und (w:=w)
 rw [hs] at hsh
 cases u<;>simp only [shOK] at hsh
 exact hu
theorem TyOK.int {k:IntKind} (h:TyOK P t d) (hs:d.sh = .int k):(underlying t).run P w = .ok (.int k) w:=by
 obtain ⟨u,hu,hsh,_⟩:=h.und (w:=w)
 rw [hs] at hsh
 cases u<;>simp only [shOK] at hsh
 subst hsh
 exact hu
theorem TyOK.struct {l:List (Nat × Nat × Bool)} {eq:Bool} (h:TyOK P t d) (hs:d.sh = .struct l eq):∃ fs,(underlying t).run P w = .ok (.struct fs) w∧fieldsOK P fs.toList l∧(eq=true→fieldsEq P fs.toList=true):=by
 obtain ⟨u,hu,hsh,_⟩:=h.und (w:=w)
 rw [hs] at hsh
 cases u<;>simp only [shOK] at hsh
 exact ⟨_,hu,hsh⟩
end
theorem fieldsOK_get {P:Program} : ∀ {fs:List Field} {l:List (Nat × Nat × Bool)},fieldsOK P fs l→∀ (i o s:Nat) (b:Bool),l[i]? = some (o,s,b)→
  ∃ f:Field,fs[i]? = some f∧f.offset=o∧∀ w,(sizeOf f.type).run P w = .ok s w∧(isAgg f.type).run P w = .ok b w
 |[],l,h,i,o,s,b,e=>by simp only [fieldsOK] at h;subst h;simp at e
 |f::fs,l,h,i,o,s,b,e=>by
  simp only [fieldsOK] at h
  obtain ⟨o',s',b',l',rfl,ho,⟨inf,u,hi,hu,hs,hb⟩,h2⟩:=h
  cases i with
  |zero=>
   simp only [List.getElem?_cons_zero,Option.some.injEq,Prod.mk.injEq] at e
   obtain ⟨rfl,rfl,rfl⟩:=e
   refine ⟨f,by simp,ho,fun w=>⟨by rw [run_sizeOf _ hi];simp [Program.cellsOf,hi,hs],?_⟩⟩
   unfold Go.isAgg
   rw [Sem.run_bind,run_underlying hu,Result.andThen_ok,←hb]
   cases u<;>rfl
  |succ i=>simpa using fieldsOK_get h2 i o s b (by simpa using e)
theorem add_plain (b o j:Nat):(⟨b,o,none⟩:Addr).add j=⟨b,o+j,none⟩:=by unfold Addr.add;split<;>simp_all
/-! Loads. -/
theorem run_cells {P:Program} {w:World} {b o:Nat} {xs:List Value} (h:∀ j,j < xs.length→w.cell? ⟨b,o+j,none⟩=xs[j]?):(loadCells ⟨b,o,none⟩ xs.length).run P w = .ok xs.toArray w:=
 run_loadCells_list w ⟨b,o,none⟩ xs fun j v e=>by
  rw [add_plain,h j (List.getElem?_eq_some_iff.1 e).1,e]
theorem run_loadVar_agg {P:Program} {t:TypeId} {d:TyD} {w:World} {b o:Nat} {xs:List Value} (ht:TyOK P t d) (ha:d.isAgg=true) (hl:xs.length=d.size) (h:∀ j,j < xs.length→w.cell? ⟨b,o+j,none⟩=xs[j]?) :
  (loadVar t ⟨b,o,none⟩).run P w = .ok (.agg xs.toArray) w:=by
 unfold loadVar
 rw [Sem.run_bind,ht.isAgg,Result.andThen_ok,ha]
 simp only [if_true]
 rw [Sem.run_bind,ht.sizeOf,Result.andThen_ok,Sem.run_bind,←hl,run_cells h]
 rfl
theorem run_loadVar_one {P:Program} {t:TypeId} {d:TyD} {w:World} {b o:Nat} {u:Value} (ht:TyOK P t d) (ha:d.isAgg=false) (h:w.cell? ⟨b,o,none⟩=some u) :
  (loadVar t ⟨b,o,none⟩).run P w = .ok u w:=by
 unfold loadVar
 rw [Sem.run_bind,ht.isAgg,Result.andThen_ok,ha]
 simp only [Bool.false_eq_true,if_false]
 rw [run_load]
 simp [h]
theorem relC_length {G:Ghost} {x:HV} {cs:List Value} (h:relC G x cs) (hx:x.kd≠.tup):cs.length=x.cells.length:=by
 by_cases ho:x.kd = .one
 ·obtain ⟨u,rfl,_⟩:=relC_one h ho
  have:x.cells=[x]:=by cases x<;>first|rfl|cases ho
  rw [this];rfl
 ·cases x<;>first|exact absurd rfl ho|exact absurd rfl hx|skip
  simp only [relC] at h
  exact relCs_length h
theorem rel_of_cells {G:Ghost} {x:HV} {cs:List Value} (h:relC G x cs) (hx:x.kd = .agg):rel G x (.agg cs.toArray):=by
 cases x<;>first|cases hx|skip
 simp only [relC] at h
 exact rel_agg h
theorem hget_mem {s:HS} {r:Nat} {x:Res} (h:hget s r=some x):(r,x)∈s:=by
 induction s with
 |nil=>simp [hget_nil] at h
 |cons p s ih=>
  obtain ⟨q,y⟩:=p
  simp only [hget_cons] at h
  split at h
  ·rename_i e;subst e;simp only [Option.some.injEq] at h;subst h;exact List.mem_cons_self
  ·exact List.mem_cons_of_mem _ (ih h)
theorem rel_ptr {G:Ghost} {r off:Nat} {u:Value} (h:rel G (.ptr r off) u):∃ b,G.om r=some b∧u = .pointer (some ⟨b,off,none⟩):=by
 obtain ⟨h1,_⟩:=leaf_of h rfl
 simp only [relC] at h1
 obtain ⟨b,e,hb⟩:=h1
 exact ⟨b,e,by simpa using hb⟩
theorem ptr_rel {G:Ghost} {r off b:Nat} (h:G.om r=some b):rel G (.ptr r off) (.pointer (some ⟨b,off,none⟩)):=
 rel_leaf (by simp only [relC];exact ⟨b,h,rfl⟩) rfl
theorem load_ok (c:Cx) {s:HS} {G:Ghost} {w:World} (hs:SRel G s w) (t:TypeId) {p:HV} {u:Value} (hp:rel G p u) :
  ResOK c.P s G w ((do pure (Next.value (←Instr.loadAt t u)):Sem Next).run c.P w) (hload c t p):=by
 have key:∀ {a:Addr} {x:HV} {v:Value},u = .pointer (some a)→(loadVar t a).run c.P w = .ok v w→rel G x v→Gives s G w ((do pure (Next.value (←Instr.loadAt t u)):Sem Next).run c.P w) x s:=by
  intro a x v e h hx
  subst e
  exact ⟨v,w,G,.inl (by simp [Instr.loadAt,Instr.sureAddr,h]),hx,.refl hs⟩
 unfold hload
 split
 ·trivial
 ·rename_i d hd
  have ht:=c.ty_ok t d hd
  split
  ·rename_i x
   obtain ⟨h1,_⟩:=leaf_of hp rfl
   simp only [relC] at h1
   obtain ⟨b,o,xs,e,hk,hK,hx⟩:=h1
   have e:u = .pointer (some ⟨b,o,none⟩):=by simpa using e
   have hcell:∀ j,j < xs.length→w.cell? ⟨b,o+j,none⟩=xs[j]?:=fun j hj=>by
    have:=hK j hj
    rw [List.getElem?_eq_getElem hj] at this ⊢
    exact hs.kw _ _ _ this
   split
   ·rename_i ha
    intro hb
    simp only [Bool.and_eq_true,Nat.beq_eq] at hb
    obtain ⟨hkd,hl⟩:=hb
    have hkd:=kdAgg_eq hkd
    exact key e (run_loadVar_agg ht ha (by rw [relC_length hx hk,hl]) hcell) (rel_of_cells hx hkd)
   ·rename_i ha
    intro hkd
    have hkd:=kdOne_eq hkd
    obtain ⟨v,rfl,hv⟩:=relC_one hx hkd
    exact key e (run_loadVar_one ht ha (by simpa using hcell 0 (by simp))) (rel_leaf hx hkd)
  ·rename_i r off
   obtain ⟨b,ho,e⟩:=rel_ptr hp
   intro rx hg
   cases rx with
   |cells cs t'=>
    have hh:=hs.holds r _ (hget_mem hg)
    obtain ⟨b',vs,ho',ro,hb,hcs,hK⟩:=hh
    rw [ho] at ho'
    cases ho'
    simp only []
    split
    ·rename_i ha
     split
     case h_2=>trivial
     rename_i hl
     have hl:off+d.size≤cs.length:=Nat.le_of_ble_eq_true hl
     rw [forceL_eq]
     have hlen:=relCs_length hcs
     have hseg:=relCs_take d.size (relCs_drop off hcs)
     refine key e (run_loadVar_agg (xs:=(vs.toList.drop off).take d.size) ht ha ?_ ?_) (rel_agg hseg)
     ·simp only [List.length_take,List.length_drop];omega
     ·intro j hj
      have hj':j < d.size:=by simp only [List.length_take] at hj;omega
      simp only [World.cell?,hb,Option.isSome_none,Bool.false_eq_true,if_false]
      rw [List.getElem?_take_of_lt hj',List.getElem?_drop,Array.getElem?_toList]
    ·rename_i ha
     split
     ·rename_i x hx
      intro hkd
      have hkd:=kdOne_eq hkd
      obtain ⟨v,hv,_,hr⟩:=relCs_get hcs off x hx
      exact key e (run_loadVar_one ht ha (by simp only [World.cell?,hb,Option.isSome_none,Bool.false_eq_true,if_false];rw [←Array.getElem?_toList];exact hv)) (rel_leaf hr hkd)
     ·trivial
   |map es=>trivial
   |tok n=>trivial
   |void=>trivial
   |loop L=>trivial
   |row cs' sz' t''=>trivial
  ·trivial
end
end Go.Proofs.Hk

namespace Go.Proofs.Hk
noncomputable section
open Go
/-! New blocks. -/
def World.pushed (w:World) (o:Obj):World:={ w with heap:=w.heap.push o}
theorem pushed_lt (w:World) (o:Obj) {b:Nat} (h:b < w.heap.size):(World.pushed w o).heap[b]? = w.heap[b]?:=by
 simp only [World.pushed,Array.getElem?_push]
 rw [if_neg (by omega)]
theorem pushed_new (w:World) (o:Obj):(World.pushed w o).heap[w.heap.size]? = some o:=by
 show (w.heap.push o)[w.heap.size]? = some o
 exact Array.getElem?_push_size
theorem pushed_cell (w:World) (o:Obj) {b off:Nat} {v:Value} (h:w.cell? ⟨b,off,none⟩=some v):(World.pushed w o).cell? ⟨b,off,none⟩=some v:=by
 have hb:b < w.heap.size:=World.block_lt_of_cell? w ⟨b,off,none⟩ h
 simp only [World.cell?] at h ⊢
 rw [pushed_lt w o hb];exact h
theorem SRel.K_lt {G:Ghost} {s:HS} {w:World} (h:SRel G s w) {b o:Nat} {v:Value} (e:G.K b o=some v):b < w.heap.size:=World.block_lt_of_cell? w ⟨b,o,none⟩ (h.kw b o v e)
theorem SRel.K_new {G:Ghost} {s:HS} {w:World} (h:SRel G s w) {b:Nat} (hb:w.heap.size≤b) (o:Nat):G.K b o=none:=by
 cases e:G.K b o with
 |none=>rfl
 |some v=>have:=h.K_lt e;omega
theorem SRel.role_new {G:Ghost} {s:HS} {w:World} (h:SRel G s w) {b:Nat} (hb:w.heap.size≤b):G.role b=none:=by
 cases e:G.role b with
 |none=>rfl
 |some r=>have:=(h.role b r e).1;omega
def Res.big:Res→Bool
 |.loop _=>true
 |.row _ _ _=>true
 |_=>false
theorem holds.move {G G':Ghost} {w w':World} {q:Nat} {y:Res} (hy:y.big=true) (le:G.Le0 G') (hb:∀ b,G.role b=some q→w'.heap[b]? = w.heap[b]?∧G'.role b=some q∧∀ o,G'.K b o=G.K b o) (k:holds G w q y):holds G' w' q y:=by
 cases y with
 |cells cs t=>cases hy
 |map es=>cases hy
 |tok n=>cases hy
 |void=>cases hy
 |loop L=>
  obtain ⟨b,D,fid,tmps,bD,e,ro,hh,hc,hD,hd,hK,hK'⟩:=k
  obtain ⟨h1,h2,h3⟩:=hb b ro
  obtain ⟨g1,g2,g3⟩:=hb D hD
  exact ⟨b,D,fid,tmps,bD,le.om q b e,h2,h1.trans hh,hc.mono0 le,g2,g1.trans hd,fun o=>(h3 o).trans (hK o),fun o=>(g3 o).trans (hK' o)⟩
 |row cs sz t=>
  obtain ⟨b,c,vs,e,e',ro,hh,q1,q2,hc,hK⟩:=k
  obtain ⟨h1,h2,h3⟩:=hb b ro
  exact ⟨b,c,vs,le.om q b e,le.om _ c e',h2,h1.trans hh,q1,q2,relCs.mono0 le _ _ hc,fun o=>(h3 o).trans (hK o)⟩
theorem holds.agree1 {s:HS} {G G':Ghost} {w w':World} (h:SRel G s w) (le:G.Le G')
  (hb:∀ b,b < w.heap.size→w'.heap[b]? = w.heap[b]?∧G'.role b=G.role b∧∀ o,G'.K b o=G.K b o)
  (ht:∀ r tp,G.top r=some tp→G'.top r=some tp) {r:Nat} {x:Res} (hv:r < G.lim→G.om r=none→G.top r=none→(∀ b,G.role b≠some r)→r < G'.lim∧G'.om r=none∧G'.top r=none∧∀ b,G'.role b≠some r) (k:holds G w r x):holds G' w' r x:=by
 cases x with
 |cells cs t=>
  obtain ⟨b,vs,e,ro,hh,hc,hK⟩:=k
  obtain ⟨h1,h2,h3⟩:=hb b (h.role b r ro).1
  exact ⟨b,vs,le.om r b e,h2.trans ro,h1.trans hh,relCs.mono le _ _ hc,fun o=>(h3 o).trans (hK o)⟩
 |map es=>
  obtain ⟨b,ents,cl,e,ro,hh,hc⟩:=k
  obtain ⟨h1,h2,h3⟩:=hb b (h.role b r ro).1
  exact ⟨b,ents,cl,le.om r b e,h2.trans ro,h1.trans hh,relMap.mono le _ _ hc⟩
 |tok n=>
  obtain ⟨tp,e,hn,hq⟩:=k
  refine ⟨tp,ht r tp e,hn,fun hlt=>?_⟩
  obtain ⟨ro,vs,t,hh,hce,hK⟩:=hq hlt
  obtain ⟨h1,h2,h3⟩:=hb tp.b (h.role _ r ro).1
  exact ⟨h2.trans ro,vs,t,h1.trans hh,hce,fun o ho=>(h3 o).trans (hK o ho)⟩
 |void=>
  obtain ⟨a,b,c,d⟩:=k
  exact hv a b c d
 |loop L=>
  obtain ⟨b,D,fid,tmps,bD,e,ro,hh,hc,hD,hd,hK,hK'⟩:=k
  obtain ⟨h1,h2,h3⟩:=hb b (h.role b r ro).1
  obtain ⟨g1,g2,g3⟩:=hb D (h.role D r hD).1
  exact ⟨b,D,fid,tmps,bD,le.om r b e,h2.trans ro,h1.trans hh,hc.mono0 le.to0,g2.trans hD,g1.trans hd,fun o=>(h3 o).trans (hK o),fun o=>(g3 o).trans (hK' o)⟩
 |row cs sz t=>
  obtain ⟨b,c,vs,e,e',ro,hh,q1,q2,hc,hK⟩:=k
  obtain ⟨h1,h2,h3⟩:=hb b (h.role b r ro).1
  exact ⟨b,c,vs,le.om r b e,le.om _ c e',h2.trans ro,h1.trans hh,q1,q2,relCs.mono le _ _ hc,fun o=>(h3 o).trans (hK o)⟩
theorem holds.agree {s:HS} {G G':Ghost} {w w':World} (h:SRel G s w) (le:G.Le G')
  (hb:∀ b,b < w.heap.size→w'.heap[b]? = w.heap[b]?∧G'.role b=G.role b∧∀ o,G'.K b o=G.K b o)
  (ht:∀ r tp,G.top r=some tp→G'.top r=some tp) (hv:∀ r,r < G.lim→G.om r=none→G.top r=none→(∀ b,G.role b≠some r)→r < G'.lim∧G'.om r=none∧G'.top r=none∧∀ b,G'.role b≠some r) {r:Nat} {x:Res} (k:holds G w r x):holds G' w' r x:=
 k.agree1 h le hb ht (hv r)
/-- A new object. -/
def Ghost.newObj (G:Ghost) (b:Nat):Ghost:=
 {G with om:=fun r=>if r=G.lim then some b else G.om r,role:=fun b'=>if b'=b then some G.lim else G.role b',lim:=G.lim+1}
theorem Ghost.newObj_le {G:Ghost} {s:HS} {w:World} (h:SRel G s w) (b:Nat):G.Le (G.newObj b):=
 ⟨fun _ _ _ e=>e,fun r b' e=>by
  have:=h.lt_om e
  simp only [Ghost.newObj]
  rw [if_neg (by omega)];exact e,fun _ t e=>⟨t,e,Nat.le_refl _,fun _=>rfl⟩,rfl⟩
theorem Ghost.newObj_voids (G:Ghost) (b:Nat) (r:Nat) (h0:r < G.lim) (h1:G.om r=none) (h2:G.top r=none) (h3:∀ b,G.role b≠some r):r < (G.newObj b).lim∧(G.newObj b).om r=none∧(G.newObj b).top r=none∧∀ b',(G.newObj b).role b'≠some r:=by
 simp only [Ghost.newObj]
 refine ⟨by omega,by rw [if_neg (by omega)];exact h1,h2,fun b'=>?_⟩
 split
 ·simp;omega
 ·exact h3 b'
theorem post_newObj {G:Ghost} {s:HS} {w:World} (h:SRel G s w) (o:Obj) (x:Res) (hx:holds (G.newObj w.heap.size) (World.pushed w o) G.lim x) :
  Post s G w ((G.lim,x)::s) (G.newObj w.heap.size) (World.pushed w o):=by
 have le:=Ghost.newObj_le h w.heap.size
 have hb:∀ b,b < w.heap.size→(World.pushed w o).heap[b]? = w.heap[b]?∧(G.newObj w.heap.size).role b=G.role b∧∀ o,(G.newObj w.heap.size).K b o=G.K b o:=fun b hb=>
  ⟨pushed_lt w o hb,by simp only [Ghost.newObj];rw [if_neg (by omega)],fun _=>rfl⟩
 refine ⟨⟨fun b off v e=>pushed_cell w o (h.kw b off v e),?_,fun r y hy=>?_,fun r hr=>?_,fun b r e=>?_⟩,⟨le,by simp [World.pushed],fun b hlt _=>hb b hlt,fun r tp e _=>e,by simp [Ghost.newObj],rfl,rfl,rfl,fun r h0 _ h1 h2 h3=>(Ghost.newObj_voids G _ r h0 h1 h2 h3).2⟩,fun r hr=>?_⟩
 ·simp only [keys,List.map_cons,List.nodup_cons]
  exact ⟨fun hm=>by have:=h.lt_key hm;omega,h.keys⟩
 ·rcases List.mem_cons.1 hy with hy|hy
  ·cases hy;exact hx
  ·exact (h.holds r y hy).agree h le hb (fun _ _ e=>e) (Ghost.newObj_voids G _)
 ·simp only [Ghost.newObj] at hr ⊢
  rw [if_neg (by omega)]
  exact h.fresh r (by omega)
 ·simp only [Ghost.newObj,World.pushed,Array.size_push] at e ⊢
  split at e
  ·rename_i hb;subst hb;cases e;omega
  ·have:=h.role b r e;omega
 ·simp only [keys,List.map_cons,List.mem_cons] at hr
  rcases hr with rfl|hr
  ·exact .inr (Nat.le_refl _)
  ·exact .inl hr
theorem new_ok (P:Program) {s:HS} {G:Ghost} {w:World} (hs:SRel G s w) (t:TypeId) {x:HV} {u:Value} (hx:rel G x u) :
  ResOK P s G w ((do pure (Next.value (←(do pure (Value.pointer (some (←newVar t u)))))):Sem Next).run P w) (hnew s t x):=by
 unfold hnew
 split
 case h_2=>trivial
 rename_i hk
 have hk:=kdOk_ne hk
 rw [forceL_eq]
 intro K hK
 have hc:=rel_cells hx hk
 refine ⟨.ptr G.lim 0,(G.lim,.cells x.cells t)::s,hK G.lim (fun hm=>by have:=hs.lt_key hm;omega),?_⟩
 refine ⟨.pointer (some ⟨w.heap.size,0,none⟩),World.pushed w (.cells u.cells t),G.newObj w.heap.size,.inl ?_,ptr_rel (by simp [Ghost.newObj]),?_⟩
 ·simp [newVar,newRow,Go.newObj,Sem.run,World.pushed]
 ·refine post_newObj hs _ _ ⟨w.heap.size,u.cells,by simp [Ghost.newObj],by simp [Ghost.newObj],pushed_new w _,relCs.mono (Ghost.newObj_le hs _) _ _ hc,fun o=>?_⟩
  exact hs.K_new (Nat.le_refl _) o
/-! Stores. -/
theorem hset_keys (s:HS) (r:Nat) (y:Res):keys (hset s r y)=keys s:=by
 induction s with
 |nil=>simp only [hset_nil]
 |cons p s ih=>
  obtain ⟨q,x⟩:=p
  simp only [hset_cons]
  split
  ·rfl
  ·simp only [keys,List.map_cons] at ih ⊢;rw [ih]
theorem hset_mem {s:HS} {r:Nat} {y:Res} (hn:(keys s).Nodup):∀ {q:Nat} {x:Res},(q,x)∈hset s r y→(q=r∧x=y)∨(q≠r∧(q,x)∈s):=by
 induction s with
 |nil=>intro q x h;simp [hset_nil] at h
 |cons p s ih=>
  obtain ⟨q',x'⟩:=p
  simp only [keys,List.map_cons,List.nodup_cons] at hn
  intro q x h
  simp only [hset_cons] at h
  split at h
  ·rename_i e
   subst e
   rcases List.mem_cons.1 h with h|h
   ·cases h;exact .inl ⟨rfl,rfl⟩
   ·exact .inr ⟨fun e=>hn.1 (List.mem_map.2 ⟨_,h,by rw [e]⟩),List.mem_cons_of_mem _ h⟩
  ·rename_i e
   rcases List.mem_cons.1 h with h|h
   ·cases h;exact .inr ⟨e,List.mem_cons_self⟩
   ·rcases ih hn.2 h with ⟨h1,h2⟩|⟨h1,h2⟩
    ·exact .inl ⟨h1,h2⟩
    ·exact .inr ⟨h1,List.mem_cons_of_mem _ h2⟩
theorem setRow_get (w:World) (g:Nat) (cur cur':Array Value) (t:TypeId) (h:w.heap[g]? = some (.cells cur t (0,0))) (b:Nat):(w.setRow g cur').heap[b]? = if b=g then some (.cells cur' t (0,0)) else w.heap[b]?:=by
 by_cases e:b=g
 ·subst e;rw [if_pos rfl];exact setRow_heap w b cur cur' t _ h
 ·rw [if_neg e];simp [World.setRow,Array.getElem?_modify,Ne.symm e]
/-- A block of an owner is written; what is told of its cells may come to be told. -/
theorem post_write {G G':Ghost} {s:HS} {w:World} (h:SRel G s w) {b r:Nat} {cur cur':Array Value} {t:TypeId} {x:Res} (hb:w.heap[b]? = some (.cells cur t (0,0))) (ro:G.role b=some r) (hr:r∈keys s)
  (hx:holds G' (w.setRow b cur') r x) (le:G.Le G') (hK:∀ b',b'≠b→∀ o,G'.K b' o=G.K b' o) (hKb:∀ o v,G'.K b o=some v→cur'[o]? = some v)
  (hrole:G'.role=G.role) (hom:G'.om=G.om) (htop:∀ q,q≠r→G'.top q=G.top q) (hlim:G'.lim=G.lim) (hsz:(w.setRow b cur').heap.size=w.heap.size) :
  Post s G w (hset s r x) G' (w.setRow b cur'):=by
 have get:=setRow_get w b cur cur' t hb
 refine ⟨⟨fun b' o v e=>?_,?_,fun q y hy=>?_,fun q hq=>?_,fun b' q e=>?_⟩,⟨le,by rw [hsz];exact Nat.le_refl _,fun b' hlt hq=>?_,fun q tp e hq=>?_,by rw [hlim];exact Nat.le_refl _,rfl,rfl,rfl,fun q _ hk h1 h2 h3=>⟨by rw [hom];exact h1,by rw [htop q (fun e=>hk (e ▸ hr))];exact h2,fun b'=>by rw [hrole];exact h3 b'⟩⟩,fun q hq=>?_⟩
 ·by_cases e':b'=b
  ·subst e'
   simp only [World.cell?,get,if_true,Option.isSome_none,Bool.false_eq_true,if_false]
   exact hKb o v e
  ·rw [hK b' e'] at e
   have:=h.kw b' o v e
   simp only [World.cell?,get,if_neg e'] at this ⊢
   exact this
 ·rw [hset_keys];exact h.keys
 ·rcases hset_mem h.keys hy with ⟨rfl,rfl⟩|⟨hne,hm⟩
  ·exact hx
  ·have ho:=h.holds q y hm
   have other:∀ b',G.role b'=some q→b'≠b:=fun b' e e'=>by subst e';rw [ro] at e;cases e;exact hne rfl
   cases y with
   |cells cs t'=>
    obtain ⟨b',vs,e,ro',hh,hc,hk⟩:=ho
    have:=other b' ro'
    exact ⟨b',vs,by rw [hom];exact e,by rw [hrole];exact ro',by rw [get,if_neg this];exact hh,relCs.mono le _ _ hc,fun o=>by rw [hK b' this];exact hk o⟩
   |map es=>
    obtain ⟨b',ents,cl,e,ro',hh,hc⟩:=ho
    have:=other b' ro'
    exact ⟨b',ents,cl,by rw [hom];exact e,by rw [hrole];exact ro',by rw [get,if_neg this];exact hh,relMap.mono le _ _ hc⟩
   |tok n=>
    obtain ⟨tp,e,hn,hq⟩:=ho
    refine ⟨tp,by rw [htop q hne];exact e,hn,fun hlt=>?_⟩
    obtain ⟨ro',vs,t',hh,hce,hk⟩:=hq hlt
    have:=other tp.b ro'
    exact ⟨by rw [hrole];exact ro',vs,t',by rw [get,if_neg this];exact hh,hce,fun o ho=>by rw [hK _ this];exact hk o ho⟩
   |void=>
    obtain ⟨a,b',c,d⟩:=ho
    exact ⟨by rw [hlim];exact a,by rw [hom];exact b',by rw [htop q hne];exact c,fun b'=>by rw [hrole];exact d b'⟩
   |loop L=>exact ho.move rfl le.to0 (fun b' hr=>⟨by rw [get,if_neg (other b' hr)],by rw [hrole];exact hr,fun o=>by rw [hK b' (other b' hr)]⟩)
   |row cs' sz' t''=>exact ho.move rfl le.to0 (fun b' hr=>⟨by rw [get,if_neg (other b' hr)],by rw [hrole];exact hr,fun o=>by rw [hK b' (other b' hr)]⟩)
 ·rw [hlim] at hq
  have:=h.fresh q hq
  refine ⟨by rw [hom];exact this.1,?_⟩
  have hne:q≠r:=fun e=>by have:=h.lt_key hr;omega
  rw [htop q hne];exact this.2
 ·rw [hrole] at e
  have:=h.role b' q e
  rw [hsz,hlim];exact this
 ·have hne:b'≠b:=fun e=>by subst e;exact hq r ro hr
  exact ⟨by rw [get,if_neg hne],by rw [hrole],hK b' hne⟩
 ·rw [htop q (fun e=>hq (e ▸ hr))];exact e
 ·rw [hset_keys] at hq;exact .inl hq
theorem setRow_size (w:World) (g:Nat) (cs:Array Value):(w.setRow g cs).heap.size=w.heap.size:=by simp [World.setRow]
theorem store_ok (c:Cx) {s:HS} {G:Ghost} {w:World} (hs:SRel G s w) (t:TypeId) {p x:HV} {u v:Value} (hp:rel G p u) (hx:rel G x v) :
  ResOK c.P s G w ((do Instr.storeAt t u v;pure Next.skip:Sem Next).run c.P w) (hstore c s t p x):=by
 unfold hstore
 split
 ·trivial
 ·rename_i d hd
  have ht:=c.ty_ok t d hd
  split
  ·rename_i r off
   obtain ⟨b,ho,e⟩:=rel_ptr hp
   subst e
   intro rx hg
   cases rx with
   |cells cs t'=>
    simp only []
    split
    case h_2=>trivial
    rename_i hchk
    simp only [Bool.and_eq_true,Nat.beq_eq] at hchk
    obtain ⟨hk,hl⟩:=hchk
    have hk:=kdOk_ne hk
    rintro K ⟨hlen,hK⟩
    have hm:=hget_mem hg
    obtain ⟨b',vs,ho',ro,hb,hcs,hKn⟩:=hs.holds r _ hm
    rw [ho] at ho'
    cases ho'
    have hxc:=rel_cells hx hk
    have hvl:v.cells.toList.length=d.size:=by rw [relCs_length hxc,hl]
    have hvs:vs.toList.length=cs.length:=relCs_length hcs
    have run:=run_storeCells_at c.P b off t' v.cells.toList 0 vs w hb (by simp only [Nat.add_zero];rw [hvl];simp at hvs;omega) (fun x hx=>vkd_oneCell (relCs_one hxc x hx))
    refine ⟨_,_,hK,undef,w.setRow b (vs.toList.take off ++ v.cells.toList ++ vs.toList.drop (off+d.size)).toArray,G,.inr ⟨?_,rfl⟩,⟨rfl,?_⟩,?_⟩
    ·have hsz:¬ v.cells.size≠d.size:=by simp only [Array.length_toList] at hvl;omega
     simp only [Instr.storeAt,Instr.sureAddr,storeVar,Sem.run_bind,pure_bind,ht.sizeOf,Result.andThen_ok,hsz,if_false,run,Nat.add_zero,hvl]
     rfl
    ·simp only [relC];exact ⟨#[],rfl,by simp [relVs]⟩
    ·refine post_write hs hb ro (List.mem_map.2 ⟨_,hm,rfl⟩) ?_ (.refl G) (fun _ _ _=>rfl) (fun o v e=>by rw [hKn] at e;cases e) rfl rfl (fun _ _=>rfl) rfl (setRow_size ..)
     refine ⟨b,_,ho,ro,setRow_heap w b vs _ t' _ hb,?_,hKn⟩
     exact relCs_append (relCs_append (relCs_take off hcs) hxc) (relCs_drop _ hcs)
   |map es=>trivial
   |tok n=>trivial
   |void=>trivial
   |loop L=>trivial
   |row cs' sz' t''=>trivial
  ·trivial
end
end Go.Proofs.Hk

namespace Go.Proofs.Hk
noncomputable section
open Go
/-! Structs. -/
theorem kd_ok {x:HV} (h:kdOk x=true):x.kd≠.tup:=kdOk_ne h
theorem foldl_set (off:Nat):∀ (vs:List Value) (k:Nat) (cells:Array Value),off+k+vs.length≤cells.size→
  ((vs.zipIdx k).foldl (fun cs (c,j)=>cs.setIfInBounds (off+j) c) cells)=(cells.toList.take (off+k) ++ vs ++ cells.toList.drop (off+k+vs.length)).toArray
 |[],k,cells,h=>by simp
 |v::vs,k,cells,h=>by
  simp only [List.zipIdx_cons,List.foldl_cons]
  simp only [List.length_cons] at h
  rw [foldl_set off vs (k+1) (cells.setIfInBounds (off+k) v) (by simp;omega)]
  have e:=list_seg_step cells.toList (off+k) v vs (by simp;omega)
  simpa [Array.toList_setIfInBounds,Nat.add_assoc] using e
theorem foldl_set' (off:Nat) (vs:Array Value) (cells:Array Value) (h:off+vs.size≤cells.size) :
  (vs.zipIdx.foldl (fun cs (c,j)=>cs.setIfInBounds (off+j) c) cells)=(cells.toList.take off ++ vs.toList ++ cells.toList.drop (off+vs.size)).toArray:=by
 have:=foldl_set off vs.toList 0 cells (by simpa using h)
 rw [←Array.foldl_toList,Array.toList_zipIdx]
 simpa using this
theorem run_mapM_places {P:Program} {w:World} : ∀ {fs:List Field} {l:List (Nat × Nat × Bool)},fieldsOK P fs l→
  (fs.mapM fun f=>do pure (f.offset,←sizeOf f.type):Sem (List (Nat × Nat))).run P w = .ok (l.map fun x=>(x.1,x.2.1)) w
 |[],l,h=>by simp only [fieldsOK] at h;subst h;rfl
 |f::fs,l,h=>by
  simp only [fieldsOK] at h
  obtain ⟨o,s,b,l',rfl,ho,⟨inf,u,hi,hu,hs,hb⟩,h2⟩:=h
  simp only [List.mapM_cons,Sem.run_bind,bind_assoc,pure_bind,run_sizeOf _ hi,Result.andThen_ok,run_mapM_places h2]
  simp [Program.cellsOf,hi,hs,ho,Sem.run]
theorem fill_ok {G:Ghost} {fs:List (Nat × Nat × Bool)} : ∀ {parts:List (Nat × HV)} {us:List Value} {l l':List HV} {cells:Array Value},
  relVs G (parts.map (·.2)) us→relCs G l cells.toList→hfill fs parts l=some l'→
  ∃ cells',Instr.fill (((fs.map fun x=>(x.1,x.2.1)).toArray)[·]?) cells ((parts.map (·.1)).zip us)=some cells'∧relCs G l' cells'.toList
 |[],us,l,l',cells,h,hc,e=>by
  simp only [List.map_nil,relVs] at h
  subst h
  simp only [hfill,Option.some.injEq] at e
  subst e
  exact ⟨cells,rfl,hc⟩
 |(i,x)::rest,us,l,l',cells,h,hc,e=>by
  simp only [List.map_cons,relVs_cons] at h
  obtain ⟨u,us',rfl,hx,h2⟩:=h
  simp only [hfill] at e
  split at e
  ·cases e
  ·rename_i o s b hf
   split at e
   ·cases e
   ·rename_i hs
    split at e
    ·rename_i hk
     split at e
     ·rename_i hbnd
      have hs:x.cells.length=s:=by simpa using hs
      have hk:x.kd≠.tup:=kd_ok hk
      have hxc:=rel_cells hx hk
      have hul:u.cells.size=s:=by have:=relCs_length hxc;simp at this;omega
      have hbnd:o+s≤l.length:=by simpa using hbnd
      have hcl:cells.size=l.length:=by have:=relCs_length hc;simpa using this
      have fs':=foldl_set' o u.cells cells (by omega)
      obtain ⟨cells',e1,e2⟩:=fill_ok (cells:=u.cells.zipIdx.foldl (fun cs (c,j)=>cs.setIfInBounds (o+j) c) cells) h2 (by
       rw [fs']
       exact relCs_append (relCs_append (relCs_take o hc) hxc) (by rw [hul];exact relCs_drop _ hc)) e
      refine ⟨cells',?_,e2⟩
      simp only [List.map_cons,List.zip_cons_cons,Instr.fill]
      have:((fs.map fun x=>(x.1,x.2.1)).toArray)[i]? = some (o,s):=by simp [hf]
      rw [this]
      simp only []
      rw [if_neg (by simp;omega)]
      exact e1
     ·cases e
    ·cases e
theorem build_ok (c:Cx) {s:HS} {G:Ghost} {w:World} (hs:SRel G s w) (t:TypeId) {ns:List Nat} {vs:List HV} {us:List Value} (hn:ns.length=vs.length) (hx:relVs G vs us) :
  ResOK c.P s G w ((do pure (Next.value (←Instr.build t (ns.zip us).toArray)):Sem Next).run c.P w) (hbuild c t (ns.zip vs)):=by
 unfold hbuild
 split
 ·rename_i size bytes ag cs fs eq hd
  have ht:=c.ty_ok t _ hd
  split
  ·rename_i l hl
   rw [forceL_eq]
   obtain ⟨F,hu,hF,_⟩:=ht.struct (w:=w) rfl
   split at hl
   ·rename_i hone
    have hz:=ht.zero (w:=w)
    have hc0:relCs G (cs.toList.map .v) cs.toList:=relCs_map_v G cs.toList fun u hu=>by
     have:=(List.all_eq_true.1 hone) u hu
     cases u<;>first|rfl|cases this
    have e1:(ns.zip vs).map (·.2)=vs:=by simp [List.map_snd_zip,hn]
    have e2:(ns.zip vs).map (·.1)=ns:=by simp [List.map_fst_zip,hn]
    obtain ⟨cells',h1,h2⟩:=fill_ok (by rw [e1];exact hx) hc0 hl
    rw [e2] at h1
    refine ⟨.agg cells',w,G,.inl ?_,by simpa using rel_agg h2,.refl hs⟩
    have hm:=run_mapM_places (w:=w) hF
    have hm':(F.mapM fun f=>do pure (f.offset,←sizeOf f.type):Sem (Array (Nat × Nat))).run c.P w = .ok (fs.map fun x=>(x.1,x.2.1)).toArray w:=by
     rw [←Array.toArray_toList (xs:=F),List.mapM_toArray]
     simp only [Sem.run_map,hm,Result.andThen_ok]
    simp only [Instr.build,Sem.run_bind,hz,Result.andThen_ok,hu,hm']
    have h1':Instr.fill (fun x=>(fs.map fun x=>(x.1,x.2.1)).toArray[x]?) (Value.agg cs).cells (ns.zip us)=some cells':=h1
    rw [h1']
    rfl
   ·cases hl
  ·trivial
 ·trivial
end
end Go.Proofs.Hk

namespace Go.Proofs.Hk
noncomputable section
open Go
/-! Rows that never change. -/
def Ghost.commit (G:Ghost) (b:Nat) (vs:Array Value):Ghost:={ G with K:=fun b' o=>if b'=b then vs[o]? else G.K b' o}
theorem Ghost.commit_le {G:Ghost} {s:HS} {w:World} (h:SRel G s w) (vs:Array Value):G.Le (G.commit w.heap.size vs):=
 ⟨fun b o v e=>by
  have:=h.K_lt e
  simp only [Ghost.commit]
  rw [if_neg (by omega)];exact e,fun _ _ e=>e,fun _ t e=>⟨t,e,Nat.le_refl _,fun _=>rfl⟩,rfl⟩
theorem post_commit {G:Ghost} {s:HS} {w:World} (h:SRel G s w) (vs:Array Value) (t:TypeId) :
  Post s G w s (G.commit w.heap.size vs) (World.pushed w (.cells vs t)):=by
 have le:=Ghost.commit_le h vs
 have hb:∀ b,b < w.heap.size→(World.pushed w (.cells vs t)).heap[b]? = w.heap[b]?∧(G.commit w.heap.size vs).role b=G.role b∧∀ o,(G.commit w.heap.size vs).K b o=G.K b o:=fun b hb=>
  ⟨pushed_lt w _ hb,rfl,fun o=>by simp only [Ghost.commit];rw [if_neg (by omega)]⟩
 refine ⟨⟨fun b off v e=>?_,h.keys,fun r y hy=>(h.holds r y hy).agree h le hb (fun _ _ e=>e) (fun _ a b c d=>⟨a,b,c,d⟩),h.fresh,fun b r e=>?_⟩,⟨le,by simp [World.pushed],fun b hlt _=>hb b hlt,fun r tp e _=>e,Nat.le_refl _,rfl,rfl,rfl,fun _ _ _ b c d=>⟨b,c,d⟩⟩,fun r hr=>.inl hr⟩
 ·simp only [Ghost.commit] at e
  split at e
  ·rename_i hb;subst hb
   simp only [World.cell?,pushed_new,Option.isSome_none,Bool.false_eq_true,if_false];exact e
  ·exact pushed_cell w _ (h.kw b off v e)
 ·have:=h.role b r e
  simp only [World.pushed,Array.size_push]
  exact ⟨by omega,this.2⟩
/-- The cells of values, one behind the other. -/
def flat (us:List Value):List Value:=us.flatMap fun u=>u.cells.toList
theorem relVs_length {G:Ghost} : ∀ {l:List HV} {us:List Value},relVs G l us→us.length=l.length
 |[],us,h=>by simp only [relVs] at h;simp [h]
 |x::xs,us,h=>by
  simp only [relVs_cons] at h
  obtain ⟨u,us',rfl,_,h⟩:=h
  simp [relVs_length h]
theorem flat_length {G:Ghost} {sz:Nat} : ∀ {l:List HV} {us:List Value},relVs G l us→allCells sz l=true→(flat us).length=l.length * sz
 |[],us,h,_=>by simp only [relVs] at h;subst h;simp [flat]
 |x::xs,us,h,ha=>by
  simp only [relVs_cons] at h
  obtain ⟨u,us',rfl,hx,h⟩:=h
  simp only [allCells,Bool.and_eq_true,Nat.beq_eq] at ha
  have:=relCs_length (rel_cells hx (kd_ok ha.1.2))
  have ih:=flat_length h ha.2
  simp only [flat,List.flatMap_cons,List.length_append] at ih ⊢
  rw [ih,this,ha.1.1,List.length_cons,Nat.add_mul,Nat.one_mul,Nat.add_comm]
theorem relAts_flat {G G':Ghost} (le:G.Le G') {sz:Nat} {rd:Nat→Option Value} : ∀ {l:List HV} {us:List Value} {o:Nat},relVs G l us→allCells sz l=true→(∀ j,j < l.length * sz→rd (o+j)=(flat us)[j]?)→relAts G' l rd o sz
 |[],us,o,h,_,_=>by simp only [relAts]
 |x::xs,us,o,h,ha,hr=>by
  simp only [relVs_cons] at h
  obtain ⟨u,us',rfl,hx,h⟩:=h
  simp only [allCells,Bool.and_eq_true,Nat.beq_eq] at ha
  have hl:u.cells.toList.length=sz:=by rw [relCs_length (rel_cells hx (kd_ok ha.1.2)),ha.1.1]
  simp only [relAts]
  have hlen:(x::xs).length * sz=xs.length * sz+sz:=by simp [Nat.add_mul]
  refine ⟨⟨u.cells.toList,hl,kd_ok ha.1.2,fun j hj=>?_,relC.mono le _ _ hx.2⟩,relAts_flat le h ha.2 fun j hj=>?_⟩
  ·rw [hr j (by omega)]
   simp only [flat,List.flatMap_cons]
   rw [List.getElem?_append_left (by omega)]
  ·rw [Nat.add_assoc,hr (sz+j) (by omega)]
   simp only [flat,List.flatMap_cons]
   rw [List.getElem?_append_right (by omega),hl]
   congr 1;omega
theorem inOrder_eq:∀ {parts:List (Nat × HV)} {k:Nat} {l:List HV},inOrder parts k=some l→parts.map (·.2)=l∧parts.map (·.1)=List.range' k l.length
 |[],k,l,h=>by simp only [inOrder,Option.some.injEq] at h;subst h;simp
 |(i,x)::rest,k,l,h=>by
  simp only [inOrder] at h
  split at h
  ·rename_i hi
   split at h
   ·rename_i l' hl
    simp only [Option.some.injEq] at h
    subst h
    obtain ⟨h1,h2⟩:=inOrder_eq hl
    have:i=k:=Nat.eq_of_beq_eq_true hi
    subst this
    simp only [List.map_cons,h1,h2,List.length_cons,List.range'_succ]
    exact ⟨trivial,trivial⟩
   ·cases h
  ·cases h
theorem fill_row {G:Ghost} {sz:Nat} : ∀ {l:List HV} {us:List Value} {k:Nat} {cells:Array Value},relVs G l us→allCells sz l=true→(k+l.length) * sz≤cells.size→
  Instr.fill (fun i=>some (i * sz,sz)) cells ((List.range' k l.length).zip us)=some (cells.toList.take (k * sz) ++ flat us ++ cells.toList.drop ((k+l.length) * sz)).toArray
 |[],us,k,cells,h,_,hs=>by
  simp only [relVs] at h
  subst h
  simp [Instr.fill,flat]
 |x::xs,us,k,cells,h,ha,hs=>by
  simp only [relVs_cons] at h
  obtain ⟨u,us',rfl,hx,h⟩:=h
  simp only [allCells,Bool.and_eq_true,Nat.beq_eq] at ha
  have hl:u.cells.size=sz:=by have:=relCs_length (rel_cells hx (kd_ok ha.1.2));rw [ha.1.1] at this;simpa using this
  have e1:(k+(x::xs).length) * sz=k * sz+sz+xs.length * sz:=by simp only [List.length_cons,Nat.add_mul,Nat.one_mul];omega
  have e2:(k+1+xs.length) * sz=k * sz+sz+xs.length * sz:=by simp only [Nat.add_mul,Nat.one_mul]
  have e3:(k+1) * sz=k * sz+sz:=by simp only [Nat.add_mul,Nat.one_mul]
  rw [e1] at hs
  have hfl:=flat_length h ha.2
  simp only [List.length_cons,List.range'_succ,List.zip_cons_cons,Instr.fill]
  rw [if_neg (by simp;omega),foldl_set' (k * sz) u.cells cells (by omega)]
  rw [fill_row h ha.2 (by rw [e2];simp;omega)]
  congr 2
  simp only [flat,List.flatMap_cons]
  have e1':(k+(xs.length+1)) * sz=k * sz+sz+xs.length * sz:=by simp only [Nat.add_mul,Nat.one_mul];omega
  rw [e1',e2,e3]
  have h1:(cells.toList.take (k * sz)).length=k * sz:=by simp;omega
  have h2:(cells.toList.take (k * sz) ++ u.cells.toList).length=k * sz+sz:=by simp only [List.length_append,h1,Array.length_toList,hl]
  rw [List.take_append_of_le_length (by omega),List.take_of_length_le (by omega)]
  rw [List.drop_append,List.drop_of_length_le (by omega),List.nil_append,List.drop_drop,h2,hl]
  simp only [List.append_assoc]
  congr 4
  omega
theorem buildSlice_ok (c:Cx) {s:HS} {G:Ghost} {w:World} (hs:SRel G s w) (t:TypeId) (n:Nat) {ns:List Nat} {vs:List HV} {us:List Value} (hn:ns.length=vs.length) (hx:relVs G vs us) :
  ResOK c.P s G w ((do pure (Next.value (←Instr.buildSlice t n (ns.zip us).toArray)):Sem Next).run c.P w) (hbuildSlice c t n (ns.zip vs)):=by
 unfold hbuildSlice
 split
 ·rename_i size bytes ag z e hd
  have ht:=c.ty_ok t _ hd
  split
  ·trivial
  ·rename_i d he
   have hte:=c.ty_ok e d he
   split
   ·trivial
   ·rename_i l hl
    split
    ·rename_i hb
     simp only [Bool.and_eq_true,Nat.beq_eq] at hb
     obtain ⟨⟨h1,h2⟩,h3⟩:=hb
     have h3:n * d.size≤16777216:=Nat.le_of_ble_eq_true h3
     obtain ⟨q1,q2⟩:=inOrder_eq hl
     have e1:(ns.zip vs).map (·.2)=vs:=by simp [List.map_snd_zip,hn]
     have e2:(ns.zip vs).map (·.1)=ns:=by simp [List.map_fst_zip,hn]
     rw [e1] at q1
     rw [e2] at q2
     subst q1
     subst h1
     have hfl:=flat_length hx h2
     have hz:∀ z:Array Value,((Array.range (vs.length * d.size)).map (fun x=>z[x % z.size]!)).size=vs.length * d.size:=fun z=>by simp
     have hfill:∀ z:Array Value,Instr.fill (fun i=>some (i * d.size,d.size)) ((Array.range (vs.length * d.size)).map (fun x=>z[x % z.size]!)) (ns.zip us)=some (flat us).toArray:=fun z=>by
      rw [q2,fill_row hx h2 (by simp)]
      simp
     refine ⟨.slice (some ⟨w.heap.size,0,none⟩) vs.length vs.length,World.pushed w (.cells (flat us).toArray e),G.commit w.heap.size (flat us).toArray,.inl ?_,rel_leaf ?_ rfl,post_commit hs _ _⟩
     ·have hu:=ht.slice (w:=w) rfl
      simp only [Instr.buildSlice,Sem.run_bind,hu,Result.andThen_ok,hte.sizeOf]
      rw [if_neg (by omega)]
      by_cases h0:vs.length * d.size=0
      ·rw [if_pos h0]
       simp only [Sem.run_bind,Sem.run_pure,Result.andThen_ok,hfill]
       simp [newRow,Go.newObj,Sem.run,World.pushed]
      ·rw [if_neg h0]
       simp only [Sem.run_bind,hte.zero,Sem.run_pure,Result.andThen_ok,hfill]
       simp [newRow,Go.newObj,Sem.run,World.pushed]
     ·simp only [relC]
      refine .inr (.inl ⟨w.heap.size,0,vs.length,rfl,Nat.le_refl _,?_,rfl⟩)
      refine relAts_flat (Ghost.commit_le hs _) hx h2 fun j hj=>?_
      simp [Ghost.commit]
    ·trivial
 ·trivial
end
end Go.Proofs.Hk

namespace Go.Proofs.Hk
noncomputable section
open Go
theorem relAts_get {G:Ghost} {sz:Nat} {rd:Nat→Option Value} : ∀ {l:List HV} {o:Nat},relAts G l rd o sz→∀ (i:Nat) (x:HV),l[i]? = some x→
  ∃ cs,cs.length=sz∧x.kd≠.tup∧(∀ j,j < sz→rd (o+i * sz+j)=cs[j]?)∧relC G x cs
 |[],o,_,i,x,e=>by simp at e
 |y::ys,o,h,0,x,e=>by
  simp only [relAts] at h
  simp only [List.getElem?_cons_zero,Option.some.injEq] at e
  subst e
  simpa using h.1
 |y::ys,o,h,i+1,x,e=>by
  simp only [relAts] at h
  obtain ⟨cs,h1,h2,h3,h4⟩:=relAts_get h.2 i x (by simpa using e)
  refine ⟨cs,h1,h2,fun j hj=>?_,h4⟩
  rw [←h3 j hj]
  congr 1
  simp only [Nat.add_mul,Nat.one_mul];omega
theorem relAts_drop {G:Ghost} {sz:Nat} {rd:Nat→Option Value} : ∀ {l:List HV} {o:Nat} (k:Nat),relAts G l rd o sz→relAts G (l.drop k) rd (o+k * sz) sz
 |[],o,k,_=>by simp [relAts]
 |x::xs,o,0,h=>by simpa using h
 |x::xs,o,k+1,h=>by
  simp only [relAts] at h
  have:=relAts_drop k h.2
  simp only [List.drop_succ_cons]
  rw [show o+(k+1) * sz=o+sz+k * sz from by simp only [Nat.add_mul,Nat.one_mul];omega]
  exact this
theorem relAts_take {G:Ghost} {sz:Nat} {rd:Nat→Option Value} : ∀ {l:List HV} {o:Nat} (k:Nat),relAts G l rd o sz→relAts G (l.take k) rd o sz
 |[],o,k,_=>by simp [relAts]
 |x::xs,o,0,h=>by simp [relAts]
 |x::xs,o,k+1,h=>by
  simp only [relAts] at h
  simp only [List.take_succ_cons,relAts]
  exact ⟨h.1,relAts_take k h.2⟩
theorem relAts_append {G:Ghost} {sz:Nat} {rd:Nat→Option Value} : ∀ {l m:List HV} {o:Nat},relAts G l rd o sz→relAts G m rd (o+l.length * sz) sz→relAts G (l ++ m) rd o sz
 |[],m,o,_,k=>by simpa using k
 |x::xs,m,o,h,k=>by
  simp only [relAts,List.cons_append] at h ⊢
  refine ⟨h.1,relAts_append h.2 ?_⟩
  rw [show o+sz+xs.length * sz=o+(x::xs).length * sz from by simp only [List.length_cons,Nat.add_mul,Nat.one_mul];omega]
  exact k
/-- A row's value: nil, or a block's. -/
theorem rel_list {G:Ghost} {t:Tok} {sz:Nat} {l:List HV} {u:Value} (h:rel G (.list t sz l) u) :
  (l=[]∧u = .slice none 0 0∧tokNil G t)∨(∃ b o c,u = .slice (some ⟨b,o,none⟩) l.length c∧l.length≤c∧relAts G l (G.K b) o sz∧tokRel G t sz l.length b o c)∨(l=[]∧(∀ i st,t≠.own i st)∧∃ a,u = .slice (some a) 0 0):=by
 obtain ⟨h1,_⟩:=leaf_of h rfl
 simp only [relC] at h1
 rcases h1 with ⟨e,h1,h2⟩|⟨b,o,c,h1,h2⟩|⟨e,et,a,h1⟩
 ·exact .inl ⟨e,by simpa using h1,h2⟩
 ·exact .inr (.inl ⟨b,o,c,by simpa using h1,h2⟩)
 ·exact .inr (.inr ⟨e,et,a,by simpa using h1⟩)
theorem list_rel_odd {G:Ghost} {t:Tok} {sz:Nat} (a:Addr) (h:∀ i st,t≠.own i st):rel G (.list t sz []) (.slice (some a) 0 0):=
 rel_leaf (by simp only [relC];exact .inr (.inr ⟨trivial,h,a,rfl⟩)) rfl
theorem list_rel {G:Ghost} {t:Tok} {sz:Nat} {l:List HV} {b o c:Nat} (h1:l.length≤c) (h2:relAts G l (G.K b) o sz) (h3:tokRel G t sz l.length b o c):rel G (.list t sz l) (.slice (some ⟨b,o,none⟩) l.length c):=
 rel_leaf (by simp only [relC];exact .inr (.inl ⟨b,o,c,rfl,h1,h2,h3⟩)) rfl
theorem list_rel_nil {G:Ghost} {t:Tok} {sz:Nat} (h:tokNil G t):rel G (.list t sz []) (.slice none 0 0):=
 rel_leaf (by simp only [relC];exact .inl ⟨trivial,trivial,h⟩) rfl
theorem rel_arr {G:Ghost} {r off len cap sz:Nat} {u:Value} (h:rel G (.arr r off len cap sz) u):∃ b,G.om r=some b∧u = .slice (some ⟨b,off,none⟩) len cap:=by
 obtain ⟨h1,_⟩:=leaf_of h rfl
 simp only [relC] at h1
 obtain ⟨b,e,hb⟩:=h1
 exact ⟨b,e,by simpa using hb⟩
theorem arr_rel {G:Ghost} {r off len cap sz b:Nat} (h:G.om r=some b):rel G (.arr r off len cap sz) (.slice (some ⟨b,off,none⟩) len cap):=
 rel_leaf (by simp only [relC];exact ⟨b,h,rfl⟩) rfl
theorem cptr_rel {G:Ghost} {x:HV} {b o:Nat} {xs:List Value} (hk:x.kd≠.tup) (h:∀ j,j < xs.length→G.K b (o+j)=xs[j]?) (hx:relC G x xs):rel G (.cptr x) (.pointer (some ⟨b,o,none⟩)):=
 rel_leaf (by simp only [relC];exact ⟨b,o,xs,rfl,hk,h,hx⟩) rfl
theorem len_ok (c:Cx) {s:HS} {G:Ghost} {w:World} (hs:SRel G s w) (t:TypeId) {x:HV} {u:Value} (hx:rel G x u) (ty:TypeId) :
  ResOK c.P s G w ((do pure (Next.value (←Builtin.len_ #[t] ty #[u])):Sem Next).run c.P w) (hlen c t x):=by
 have fin:∀ n:Nat,(Builtin.len_ #[t] ty #[u]).run c.P w = .ok (goInt n) w→ResOK c.P s G w ((do pure (Next.value (←Builtin.len_ #[t] ty #[u])):Sem Next).run c.P w) (.pure (.v (.int .i64 n))):=fun n h=>
  ⟨_,w,G,.inl (by rw [Sem.run_bind,h];rfl),rel_v G,.refl hs⟩
 unfold hlen
 split
 ·rename_i size bytes ag z e hd
  have hu:=(c.ty_ok t _ hd).slice (w:=w) rfl
  split
  ·refine fin _ ?_
   rcases rel_list hx with ⟨rfl,rfl,_⟩|⟨b,o,c',rfl,_⟩|⟨rfl,_,a,rfl⟩<;>simp [Builtin.len_,hu,goInt]
  ·obtain ⟨b,_,rfl⟩:=rel_arr hx
   exact fin _ (by simp [Builtin.len_,hu,goInt])
  ·have:=rel_v_eq hx
   subst this
   exact fin _ (by simp [Builtin.len_,hu,goInt])
  ·trivial
 ·rename_i size bytes ag z hd
  have hu:=(c.ty_ok t _ hd).string (w:=w) rfl
  split
  ·have:=rel_v_eq hx
   subst this
   exact fin _ (by simp [Builtin.len_,hu,goInt])
  ·trivial
 ·trivial
theorem indexAddr_ok (c:Cx) {s:HS} {G:Ghost} {w:World} (hs:SRel G s w) (t:TypeId) {x i:HV} {u v:Value} (hx:rel G x u) (hi:rel G i v) :
  ResOK c.P s G w ((do pure (Next.value (←Instr.indexAt t u v)):Sem Next).run c.P w) (hindexAddr c t x i):=by
 unfold hindexAddr
 split
 ·rename_i size bytes ag z e hd
  have ht:=c.ty_ok t _ hd
  have hu:=ht.slice (w:=w) rfl
  split
  ·trivial
  ·rename_i d he
   have hte:=c.ty_ok e d he
   split
   ·rename_i k n
    have:=rel_v_eq hi
    subst this
    split
    ·rename_i tk sz l
     rintro ⟨h0,h1,rfl⟩
     rcases (rel_list hx).imp id or_comm.1 with ⟨rfl,rfl,_⟩|⟨rfl,_,a,rfl⟩|⟨b,o,cp,rfl,_,ha,_⟩
     ·simp at h1;omega
     ·simp at h1;omega
     ·have hlt:n.toNat < l.length:=by omega
      obtain ⟨cs,c1,c2,c3,c4⟩:=relAts_get ha n.toNat l[n.toNat] (List.getElem?_eq_getElem hlt)
      refine ⟨.pointer (some ⟨b,o+n.toNat * d.size,none⟩),w,G,.inl ?_,?_,.refl hs⟩
      ·simp only [Instr.indexAt,asIntOf,Sem.run_bind,pure_bind,hu,Result.andThen_ok]
       rw [if_pos ⟨h0,by omega⟩]
       simp only [Sem.run_bind,hte.sizeOf,Result.andThen_ok,Sem.run_pure,add_plain]
      ·rw [List.getD_eq_getElem?_getD,List.getElem?_eq_getElem hlt]
       exact cptr_rel c2 (fun j hj=>c3 j (by omega)) c4
    ·rename_i r off len cap sz
     rintro ⟨h0,h1,rfl⟩
     obtain ⟨b,ho,rfl⟩:=rel_arr hx
     refine ⟨.pointer (some ⟨b,off+n.toNat * d.size,none⟩),w,G,.inl ?_,ptr_rel ho,.refl hs⟩
     simp only [Instr.indexAt,asIntOf,Sem.run_bind,pure_bind,hu,Result.andThen_ok]
     rw [if_pos ⟨h0,by omega⟩]
     simp only [Sem.run_bind,hte.sizeOf,Result.andThen_ok,Sem.run_pure,add_plain]
    ·trivial
   ·trivial
 ·trivial
theorem index_ok (c:Cx) {s:HS} {G:Ghost} {w:World} (hs:SRel G s w) (t:TypeId) {x i:HV} {u v:Value} (hx:rel G x u) (hi:rel G i v) :
  ResOK c.P s G w ((do pure (Next.value (←Instr.index t u v)):Sem Next).run c.P w) (hindex c t x i):=by
 unfold hindex
 split
 ·rename_i size bytes ag z hd
  have hu:=(c.ty_ok t _ hd).string (w:=w) rfl
  split
  ·rename_i b k n
   have e1:=rel_v_eq hi
   have e2:=rel_v_eq hx
   subst e1 e2
   rintro ⟨h0,h1⟩
   have hlt:n.toNat < b.size:=by omega
   have hg:b[n.toNat]? = some (b.data.toList.getD n.toNat 0):=by
    have:n.toNat < b.data.toList.length:=by simpa using hlt
    rw [List.getD_eq_getElem?_getD,List.getElem?_eq_getElem this]
    simp only [Option.getD_some]
    rw [getElem?_pos b n.toNat hlt]
    rfl
   refine ⟨_,w,G,.inl ?_,rel_v G,.refl hs⟩
   simp only [Instr.index,asIntOf,Sem.run_bind,pure_bind,hu,Result.andThen_ok,h0,if_true,hg,Sem.run_pure,byteAt]
  ·trivial
 ·trivial
theorem fieldAddr_ok (c:Cx) {s:HS} {G:Ghost} {w:World} (hs:SRel G s w) (t:TypeId) (f:Nat) {x:HV} {u:Value} (hx:rel G x u) :
  ResOK c.P s G w ((do pure (Next.value (←Instr.fieldAt t u f)):Sem Next).run c.P w) (hfieldAddr c t x f):=by
 unfold hfieldAddr
 split
 ·rename_i size bytes ag z fs eq hd
  obtain ⟨F,hu,hF,_⟩:=(c.ty_ok t _ hd).struct (w:=w) rfl
  split
  ·trivial
  ·rename_i o s' agg hf
   obtain ⟨fl,e1,e2,e3⟩:=fieldsOK_get hF f o s' agg hf
   have e1':F[f]? = some fl:=by simpa using e1
   split
   ·trivial
   ·rename_i hne
    have hne:s'≠0:=fun e=>by subst e;cases hne
    have run:∀ b off,u = .pointer (some ⟨b,off,none⟩)→(do pure (Next.value (←Instr.fieldAt t u f)):Sem Next).run c.P w = .ok (.value (.pointer (some ⟨b,off+o,none⟩))) w:=by
     intro b off e
     subst e
     simp only [Instr.fieldAt,Sem.run_bind,hu,Result.andThen_ok,e1',Instr.sureAddr,pure_bind,fieldPlace,(e3 w).1]
     rw [if_neg hne]
     simp only [Sem.run_pure,Result.andThen_ok,add_plain,e2]
    split
    ·rename_i r off
     obtain ⟨b,ho,e⟩:=rel_ptr hx
     exact ⟨_,w,G,.inl (run b off e),ptr_rel ho,.refl hs⟩
    ·rename_i y
     obtain ⟨h1,_⟩:=leaf_of hx rfl
     simp only [relC] at h1
     obtain ⟨b,oo,xs,e,hk,hK,hr⟩:=h1
     have e:u = .pointer (some ⟨b,oo,none⟩):=by simpa using e
     split
     ·intro hb
      simp only [Bool.and_eq_true] at hb
      obtain ⟨hkd,hl⟩:=hb
      have hkd:=kdAgg_eq hkd
      have hl:=Nat.le_of_ble_eq_true hl
      cases y<;>first|cases hkd|skip
      rename_i l
      simp only [relC] at hr
      simp only [HV.cells] at hl ⊢
      have hlen:=relCs_length hr
      refine ⟨_,w,G,.inl (run b oo e),cptr_rel (xs:=(xs.drop o).take s') (by simp [HV.kd]) (fun j hj=>?_) (by simp only [relC];exact relCs_take _ (relCs_drop _ hr)),.refl hs⟩
      have hj':j < s':=by simp only [List.length_take] at hj;omega
      rw [List.getElem?_take_of_lt hj',List.getElem?_drop,Nat.add_assoc]
      exact hK (o+j) (by omega)
     ·split
      ·rename_i y' hy'
       intro hb
       simp only [Bool.and_eq_true,Nat.beq_eq] at hb
       obtain ⟨⟨hkd,hkd'⟩,hs1⟩:=hb
       have hkd:=kdAgg_eq hkd
       have hkd':=kdOne_eq hkd'
       cases y<;>first|cases hkd|skip
       rename_i l
       simp only [relC] at hr
       simp only [HV.cells] at hy'
       obtain ⟨v,hv,_,hr'⟩:=relCs_get hr o y' hy'
       refine ⟨_,w,G,.inl (run b oo e),cptr_rel (xs:=[v]) (by rw [hkd'];simp) (fun j hj=>?_) hr',.refl hs⟩
       have:j=0:=by simpa using hj
       subst this
       have:=hK o (List.getElem?_eq_some_iff.1 hv).1
       simpa [hv] using this
      ·trivial
    ·trivial
 ·trivial
theorem field_ok (c:Cx) {s:HS} {G:Ghost} {w:World} (hs:SRel G s w) (t:TypeId) (f:Nat) {x:HV} {u:Value} (hx:rel G x u) :
  ResOK c.P s G w ((do pure (Next.value (←Instr.field t u f)):Sem Next).run c.P w) (hfield c t x f):=by
 unfold hfield
 split
 ·rename_i size bytes ag z fs eq hd
  obtain ⟨F,hu,hF,_⟩:=(c.ty_ok t _ hd).struct (w:=w) rfl
  split
  ·trivial
  ·rename_i o s' agg hf
   obtain ⟨fl,e1,e2,e3⟩:=fieldsOK_get hF f o s' agg hf
   have e1':F[f]? = some fl:=by simpa using e1
   split
   ·rename_i l
    obtain ⟨us,rfl,hus⟩:=rel_agg_inv hx
    unfold hpart
    split
    ·split
     case h_2=>trivial
     rename_i hl
     have hl:=Nat.le_of_ble_eq_true hl
     rw [forceL_eq]
     refine ⟨_,w,G,.inl ?_,rel_agg (relCs_take s' (relCs_drop o hus)),.refl hs⟩
     simp only [Instr.field,Sem.run_bind,hu,Result.andThen_ok,e1',asAgg,pure_bind,part,(e3 w).2,(e3 w).1,if_true,Sem.run_pure,e2]
     congr 3
     apply Array.toList_inj.1
     simp only [Array.toList_extract,List.extract_eq_take_drop]
     congr 1
     omega
    ·split
     ·rename_i y hy
      obtain ⟨v,hv,hk,hr⟩:=relCs_get hus o y hy
      have hv':us[o]? = some v:=by simpa using hv
      refine ⟨v,w,G,.inl ?_,rel_leaf hr hk,.refl hs⟩
      simp only [Instr.field,Sem.run_bind,hu,Result.andThen_ok,e1',asAgg,pure_bind,part,(e3 w).2,Bool.false_eq_true,if_false,e2,hv',Sem.run_pure]
     ·trivial
   ·trivial
 ·trivial
end
end Go.Proofs.Hk
