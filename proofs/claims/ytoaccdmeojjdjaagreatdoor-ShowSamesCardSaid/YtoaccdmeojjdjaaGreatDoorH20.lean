import Derived.Test.YtoaccdmeojjdjaaGreatDoorH15
import Derived.Scope
namespace Go.Proofs.Hk
noncomputable section
open Go
/-! The same walk by small rules, so that nothing is worked out twice. -/
/-- What goes on behind an operation that comes to x. -/
structure PutK (n:Nat) (dst:Option Tmp) (g:Tag) (K:Fr→HS→Prop) (a:Fr) (x:HV) (s:HS):Prop where
 out:∃ a',hput n dst g x a=some a'∧K a' s
theorem PutK.mk' {n:Nat} {dst:Option Tmp} {g:Tag} {K:Fr→HS→Prop} {a a':Fr} {x:HV} {s:HS} (h:hput n dst g x a=some a') (k:K a' s):PutK n dst g K a x s:=⟨a',h,k⟩
/-- One operation. -/
structure Stp (c:Cx) (n:Nat) (g:Tag) (dst:Option Tmp) (K:Fr→HS→Prop) (Q:HExit→Fr→HS→Prop) (q:OpRes) (a:Fr) (s:HS):Prop where
 out:match g with
  |.sure=>q.wp s (fun x s'=>PutK n dst .sure K a x s') (fun f xs=>CallWp c f xs s (fun x s'=>PutK n dst .sure K a x s') (fun x s'=>Q (.pan x) a s')) (fun x=>Q (.pan x) a s)
  |.cond b=>q.wpc c s b (fun x=>PutK n dst (.cond b) K a x s) (PutK n dst (.cond false) K a (.v undef) s) (fun x s'=>PutK n dst .sure K a x s')
    (fun f xs=>CallWp c f xs s (fun x s'=>PutK n dst .sure K a x s') (fun x s'=>Q (.pan x) a s')) (fun x=>Q (.pan x) a s)
section
variable {c:Cx} {n:Nat} {dst:Option Tmp} {K:Fr→HS→Prop} {Q:HExit→Fr→HS→Prop} {a a':Fr} {s:HS}
theorem Stp.pure {g:Tag} {x:HV} (h:hput n dst g x a=some a') (k:K a' s):Stp c n g dst K Q (.pure x) a s:=by
 cases g with
 |sure=>exact ⟨⟨a',h,k⟩⟩
 |cond b=>exact ⟨⟨a',h,k⟩⟩
theorem Stp.val {φ:Prop} {x:HV} (h:hput n dst .sure x a=some a') (k:Side φ (K a' s)):Stp c n .sure dst K Q (.val φ x) a s:=⟨⟨k.1,a',h,k.2⟩⟩
theorem Stp.valC {b:Bool} {φ:Prop} {x:HV} (h:hput n dst (.cond b) x a=some a') (k:Side (b=true→φ) (K a' s)):Stp c n (.cond b) dst K Q (.val φ x) a s:=⟨⟨k.1,a',h,k.2⟩⟩
theorem Stp.call {φ:Prop} {f:FuncId} {xs:List HV} (k:Side φ (CallWp c f xs s (fun x s'=>PutK n dst .sure K a x s') (fun x s'=>Q (.pan x) a s'))):Stp c n .sure dst K Q (.call φ f xs) a s:=⟨k⟩
theorem Stp.callC {b:Bool} {φ:Prop} {f:FuncId} {xs:List HV} (k:CallC c b f xs s φ (fun x=>PutK n dst (.cond b) K a x s) (CallWp c f xs s (fun x s'=>PutK n dst .sure K a x s') (fun x s'=>Q (.pan x) a s')) (PutK n dst (.cond false) K a (.v undef) s)):Stp c n (.cond b) dst K Q (.call φ f xs) a s:=⟨k⟩
theorem Stp.pan {φ:Prop} {x:HV} (k:Side φ (Q (.pan x) a s)):Stp c n .sure dst K Q (.pan φ x) a s:=⟨k⟩
theorem Stp.panC {b:Bool} {φ:Prop} {x:HV} (k:Br b (Side φ (Q (.pan x) a s)) (PutK n dst (.cond false) K a (.v undef) s)):Stp c n (.cond b) dst K Q (.pan φ x) a s:=⟨k⟩
theorem Stp.look {g:Tag} {r:Nat} {k:Res→OpRes} (h:Look s r fun x=>Stp c n g dst K Q (k x) a s):Stp c n g dst K Q (.look r k) a s:=by
 obtain ⟨x,hx,h⟩:=h
 cases g with
 |sure=>exact ⟨⟨x,hx,h.out⟩⟩
 |cond b=>exact ⟨⟨x,hx,h.out⟩⟩
theorem Stp.eff {W:(HV→HS→Prop)→Prop} (k:W fun x s'=>PutK n dst .sure K a x s'):Stp c n .sure dst K Q (.eff W) a s:=⟨k⟩
theorem Stp.effC {b:Bool} {W:(HV→HS→Prop)→Prop} (k:Br b (W fun x s'=>PutK n dst .sure K a x s') (PutK n dst (.cond false) K a (.v undef) s)):Stp c n (.cond b) dst K Q (.eff W) a s:=⟨k⟩
end
/-- What is left of a region's operations. -/
structure Ops (c:Cx) (n:Nat) (all:Array Oper) (l:List Oper) (Q:HExit→Fr→HS→Prop) (a:Fr) (s:HS):Prop where
 out:∀ s0 G0 w0,SRel G0 s0 w0→∀ k,all.toList.drop k=l→∀ G w ra,Post s0 G0 w0 s G w→FRel G n a ra→wpOpsY c.P all (Lift n s0 G0 w0 Q) (List.range' k l.length) ra w
theorem Ops.nil {c:Cx} {n:Nat} {all:Array Oper} {Q:HExit→Fr→HS→Prop} {a:Fr} {s:HS} (h:Q .normal a s):Ops c n all [] Q a s:=
 ⟨fun _ _ _ _ _ _ G _ _ hp hf=>⟨.normal,a,s,G,h,trivial,hf,hp⟩⟩
theorem Ops.cons {c:Cx} {n:Nat} {all:Array Oper} {o:Oper} {rest:List Oper} {Q:HExit→Fr→HS→Prop} {a:Fr} {s:HS} {tg:Tag} (hact:active all a o=some tg)
  (h:Stp c n tg o.dst (fun a' s'=>Ops c n all rest Q a' s') Q (hop c o.op a s) a s):Ops c n all (o::rest) Q a s:=by
 refine ⟨fun s0 G0 w0 h0 k hk G w ra hp hf=>?_⟩
 have hko:all[k]? = some o:=by
  have:(all.toList.drop k)[0]? = some o:=by rw [hk];rfl
  rw [List.getElem?_drop] at this
  simpa using this
 have hrest:all.toList.drop (k+1)=rest:=by rw [←List.drop_drop,hk];rfl
 simp only [List.length_cons,List.range'_succ,wpOpsY,hko]
 have next:∀ {g:Tag} {x:HV} {s':HS} {G':Ghost} {w':World} {u:Value},Post s G w s' G' w'→tagRel G' g x u→PutK n o.dst g (fun a' s'=>Ops c n all rest Q a' s') a x s'→wpOpsY c.P all (Lift n s0 G0 w0 Q) (List.range' (k+1) rest.length) (ra.put o.dst u) w':=by
  intro g x s' G' w' u hp' hu ⟨a',ha,hm⟩
  exact hm.out s0 G0 w0 h0 (k+1) hrest G' w' _ (hp.trans h0 hp') ((hf.mono hp'.ext.le).put ha hu)
 have off:PutK n o.dst (.cond false) (fun a' s'=>Ops c n all rest Q a' s') a (.v undef) s→wpOpsY c.P all (Lift n s0 G0 w0 Q) (List.range' (k+1) rest.length) (ra.put o.dst undef) w:=fun hm=>
  next (g:=.cond false) (.refl hp.srel) ⟨(fun e=>by cases e),fun _=>rfl⟩ hm
 have hsem:=hop_ok c hp.srel hf o
 have called:∀ {f:FuncId} {xs:List HV} {vs:Array Value},(execOp ra.eval o).run c.P w = .ok (.enter f vs) w→relVs G xs vs.toList→CallWp c f xs s (fun x s'=>PutK n o.dst .sure (fun a' s'=>Ops c n all rest Q a' s') a x s') (fun x s'=>Q (.pan x) a s')→Oper.wpY c.P o ra w (wpOpsY c.P all (Lift n s0 G0 w0 Q) (List.range' (k+1) rest.length)) (Lift n s0 G0 w0 Q):=by
  intro f xs vs hr hx hc
  unfold Oper.wpY
  rw [hr,Oper.uponY_enter]
  refine (hc.out.out G w vs hp.srel hx).mono fun e w' ⟨he,s',G',hR,hrel,hp'⟩=>?_
  cases he with
  |ret x=>
   cases e<;>first|exact hrel.elim|skip
   exact next (g:=.sure) hp' hrel hR
  |pan x=>
   cases e<;>first|exact hrel.elim|skip
   exact ⟨.pan x,a,s',G',hR,hrel,hf.mono hp'.ext.le,hp.trans h0 hp'⟩
 have h:=h.out
 cases tg with
 |sure=>
  have hw:=active_ok hf hact
  simp only [] at hw h
  rw [hw]
  simp only [if_true]
  refine .inl ?_
  generalize hop c o.op a s=q at h hsem
  induction q with
  |bad=>exact h.elim
  |pure x=>
   obtain ⟨u,w',G',hy,hr,hp'⟩:=hsem
   exact upon_gives hy (next (g:=.sure) hp' hr h)
  |val φ x=>
   obtain ⟨hφ,h⟩:=h
   obtain ⟨u,w',G',hy,hr,hp'⟩:=hsem hφ
   exact upon_gives hy (next (g:=.sure) hp' hr h)
  |call φ f xs=>
   obtain ⟨hφ,h⟩:=h
   obtain ⟨vs,hr,hx⟩:=hsem hφ
   exact called hr hx h
  |pan φ x=>
   obtain ⟨hφ,h⟩:=h
   obtain ⟨u,hr,hu⟩:=hsem hφ
   unfold Oper.wpY
   rw [hr,Oper.uponY_panic]
   exact ⟨.pan _,a,s,G,h,⟨u,rfl,hu⟩,hf,hp⟩
  |eff W=>
   obtain ⟨x,s',hK,u,w',G',hy,hr,hp'⟩:=hsem _ h
   exact upon_gives hy (next (g:=.sure) hp' hr hK)
  |look r k ihq=>
   obtain ⟨x,hx,h⟩:=h
   exact ihq x h (hsem x hx)
 |cond b=>
  have hw:=active_ok hf hact
  simp only [] at hw h
  rw [hw]
  generalize hop c o.op a s=q at h hsem
  induction q with
  |bad=>exact h.elim
  |pure x=>
   obtain ⟨u,w',G',hy,hr,hp'⟩:=hsem
   cases b with
   |true=>exact .inl (upon_gives hy (next (g:=.cond true) hp' ⟨fun _=>hr,(fun e=>by cases e)⟩ h))
   |false=>exact next (g:=.cond false) (.refl hp.srel) ⟨(fun e=>by cases e),fun _=>rfl⟩ h
  |val φ x=>
   obtain ⟨hφ,h⟩:=h
   cases b with
   |true=>
    obtain ⟨u,w',G',hy,hr,hp'⟩:=hsem (hφ rfl)
    exact .inl (upon_gives hy (next (g:=.cond true) hp' ⟨fun _=>hr,(fun e=>by cases e)⟩ h))
   |false=>exact next (g:=.cond false) (.refl hp.srel) ⟨(fun e=>by cases e),fun _=>rfl⟩ h
  |call φ f xs=>
   rcases h with ⟨⟨x,hq,h⟩|h⟩
   ·cases b with
    |true=>
     obtain ⟨hφ,hc⟩:=hq rfl
     obtain ⟨vs,hr,hx⟩:=hsem hφ
     refine .inl ?_
     unfold Oper.wpY
     rw [hr,Oper.uponY_enter]
     refine (hc.out.out G w vs hp.srel hx).mono fun e w' ⟨he,s',G',⟨h1,h2⟩,hrel,hp'⟩=>?_
     subst h1 h2
     cases e<;>first|exact hrel.elim|skip
     exact next (g:=.cond true) hp' ⟨fun _=>hrel,(fun e=>by cases e)⟩ h
    |false=>exact next (g:=.cond false) (.refl hp.srel) ⟨(fun e=>by cases e),fun _=>rfl⟩ h
   ·cases b with
    |true=>
     obtain ⟨hφ,h⟩:=h.1 rfl
     obtain ⟨vs,hr,hx⟩:=hsem hφ
     exact .inl (called hr hx h)
    |false=>exact off (h.2 rfl)
  |pan φ x=>
   cases b with
   |true=>
    obtain ⟨hφ,h⟩:=h.1 rfl
    obtain ⟨u,hr,hu⟩:=hsem hφ
    refine .inl ?_
    unfold Oper.wpY
    rw [hr,Oper.uponY_panic]
    exact ⟨.pan _,a,s,G,h,⟨u,rfl,hu⟩,hf,hp⟩
   |false=>exact off (h.2 rfl)
  |eff W=>
   cases b with
   |true=>
    obtain ⟨x,s',hK,u,w',G',hy,hr,hp'⟩:=hsem _ (h.1 rfl)
    exact .inl (upon_gives hy (next (g:=.sure) hp' hr hK))
   |false=>exact off (h.2 rfl)
  |look r k ihq=>
   obtain ⟨x,hx,h⟩:=h
   exact ihq x h (hsem x hx)
/-! Ends of pieces. -/
def qThen (P:Program) (n:Nat) (y:Code) (Q:HExit→Fr→HS→Prop):HExit→Fr→HS→Prop
 |.normal,a,s=>SemWp P n y Q a s
 |e,a,s=>Q e a s
section
variable {c:Cx} {n:Nat} {x y:Code} {Q:HExit→Fr→HS→Prop} {a:Fr} {s:HS}
theorem sem_seq (h:SemWp c.P n x (qThen c.P n y Q) a s):SemWp c.P n (.seq x y) Q a s:=
 .seq (h.mono fun e a s q=>by cases e<;>exact q)
theorem sem_cond {t:Operand} {b:Bool} (e:ev a t=some (.sure,.v (.bool b))) (h:Br b (SemWp c.P n x Q a s) (SemWp c.P n y Q a s)):SemWp c.P n (.cond t x y) Q a s:=
 ⟨fun G w ra hs hf=>by
  have hb:=rel_v_eq (ev_ok hf e)
  cases b with
  |true=>exact wpB_cond_true hb ((h.1 rfl).out G w ra hs hf)
  |false=>exact wpB_cond_false hb ((h.2 rfl).out G w ra hs hf)⟩
theorem sem_block {id:Nat} (h:SemWp c.P n x (hinBlock id Q) a s):SemWp c.P n (.block id x) Q a s:=.block h
theorem sem_exit {id:Nat} (h:Q (.exit id) a s):SemWp c.P n (.exit id) Q a s:=hwp_sound c n (.exit id) Q a s h
theorem sem_ret (h:Q .ret a s):SemWp c.P n .ret Q a s:=hwp_sound c n .ret Q a s h
theorem sem_skip (h:Q .normal a s):SemWp c.P n .skip Q a s:=hwp_sound c n .skip Q a s h
theorem sem_label {l:Nat} (h:Q .normal a s):SemWp c.P n (.label l) Q a s:=hwp_sound c n (.label l) Q a s h
theorem sem_region {id:Nat} {ops:Array Oper} {l:List Oper} (e:ops.toList=l) (h:Ops c n ops l Q a s):SemWp c.P n (.region id ops false) Q a s:=
 ⟨fun G w ra hs hf=>wpB_region (by
  have:=h.out s G w hs 0 e G w ra (.refl hs) hf
  rw [List.range_eq_range',←Array.length_toList,e]
  exact this)⟩
theorem sem_draw {id:Nat} {ops:Array Oper} (h:DrawReg c.P n id ops Q a s):SemWp c.P n (.region id ops true) Q a s:=h.out
theorem qThen.go (h:SemWp c.P n y Q a s):qThen c.P n y Q .normal a s:=h
theorem qThen.ret (h:Q .ret a s):qThen c.P n y Q .ret a s:=h
theorem qThen.exit {j:Nat} (h:Q (.exit j) a s):qThen c.P n y Q (.exit j) a s:=h
theorem qThen.pan {v:HV} (h:Q (.pan v) a s):qThen c.P n y Q (.pan v) a s:=h
theorem hinBlock.go {id:Nat} (h:Q .normal a s):hinBlock id Q .normal a s:=h
theorem hinBlock.ret {id:Nat} (h:Q .ret a s):hinBlock id Q .ret a s:=h
theorem hinBlock.pan {id:Nat} {v:HV} (h:Q (.pan v) a s):hinBlock id Q (.pan v) a s:=h
theorem hinBlock.here {id j:Nat} (e:Nat.beq j id=true) (h:Q .normal a s):hinBlock id Q (.exit j) a s:=by
 simp only [hinBlock,e];exact h
theorem hinBlock.on {id j:Nat} (e:Nat.beq j id=false) (h:Q (.exit j) a s):hinBlock id Q (.exit j) a s:=by
 simp only [hinBlock,e];exact h
theorem hround.go {R:Fr→HS→Prop} (h:Fin (R a s)):hround R Q .normal a s:=h
theorem hround.ret {R:Fr→HS→Prop} (h:Q .ret a s):hround R Q .ret a s:=h
theorem hround.exit {R:Fr→HS→Prop} {j:Nat} (h:Q (.exit j) a s):hround R Q (.exit j) a s:=h
theorem hround.pan {R:Fr→HS→Prop} {v:HV} (h:Q (.pan v) a s):hround R Q (.pan v) a s:=h
theorem bodyQ.ret {rs:List ResultVar} {R:HEnd→HS→Prop} {x:HV} (e:resH a rs=some [x]) (h:Fin (R (.ret x) s)):bodyQ rs R .ret a s:=by
 simp only [bodyQ,e];exact h
theorem bodyQ.ret2 {rs:List ResultVar} {R:HEnd→HS→Prop} {x y:HV} {l:List HV} (e:resH a rs=some (x::y::l)) (h:Fin (R (.ret (.tup (x::y::l))) s)):bodyQ rs R .ret a s:=by
 simp only [bodyQ,e];exact h
theorem bodyQ.ret0 {rs:List ResultVar} {R:HEnd→HS→Prop} (e:resH a rs=some []) (h:Fin (R (.ret (.tup [])) s)):bodyQ rs R .ret a s:=by
 simp only [bodyQ,e];exact h
theorem bodyQ.go {rs:List ResultVar} {R:HEnd→HS→Prop} (h:bodyQ rs R .ret a s):bodyQ rs R .normal a s:=h
theorem bodyQ.pan {rs:List ResultVar} {R:HEnd→HS→Prop} {v:HV} (h:Fin (R (.pan v) s)):bodyQ rs R (.pan v) a s:=h
end
theorem sem_calls (c:Cx) {f:FuncId} {fn:Func} {code:Code} {args:List HV} {a:Fr} {s:HS} {R:HEnd→HS→Prop} (hf:c.P.funcs[f]? = some fn) (hb:fn.body=some code) (hn:Nat.ble args.length fn.ntmps=true) (ha:initFr args 0=a)
  (h:SemWp c.P fn.ntmps code (bodyQ fn.results.toList R) a s):HCalls c.P f args s R:=hcalls_of c hf hb hn (by rw [ha];exact h)
theorem sem_loop (c:Cx) {n:Nat} {b:Code} {Q:HExit→Fr→HS→Prop} {a:Fr} {s:HS} {ι:Type} (J:ι→Prop) (F:ι→Fr) (S:ι→HS) (μ:ι→Nat) (i0:ι) (hJ:J i0) (hF:(F i0).Sub a) (hS:Subp (S i0) s)
  (round:∀ i,J i→SemWp c.P n b (hround (fun a s=>∃ i',J i'∧μ i' < μ i∧(F i').Sub a∧Subp (S i') s) Q) (F i) (S i)):SemWp c.P n (.loop b) Q a s:=by
 refine SemWp.loop (fun m a s=>∃ i,μ i=m∧J i∧(F i).Sub a∧Subp (S i) s) (μ i0) ⟨i0,rfl,hJ,hF,hS⟩ ?_
 rintro m a s ⟨i,rfl,hJ,hF,hS⟩
 refine SemWp.less hS (SemWp.forget ((round i hJ).mono fun e a s q=>?_) hF)
 cases e with
 |normal=>
  obtain ⟨⟨i',h1,h2,h3,h4⟩⟩:=q
  exact ⟨μ i',h2,i',rfl,h1,h3,h4⟩
 |exit j=>exact q
 |ret=>exact q
 |pan x=>exact q
/-- What a state is with one thing changed. -/
inductive HsetIs:HS→Nat→Res→HS→Prop
 |hit {r:Nat} {x y:Res} {s:HS} : HsetIs ((r,x)::s) r y ((r,y)::s)
 |miss {q r:Nat} {x y:Res} {s s':HS} (h:q≠r) (k:HsetIs s r y s'):HsetIs ((q,x)::s) r y ((q,x)::s')
theorem HsetIs.eq {s s':HS} {r:Nat} {y:Res} (h:HsetIs s r y s'):hset s r y=s':=by
 induction h with
 |hit=>exact hset_hit _ _ _ _
 |miss h _ ih=>rw [hset_miss _ _ _ h,ih]
theorem PutK.set {n:Nat} {dst:Option Tmp} {g:Tag} {K:Fr→HS→Prop} {a:Fr} {x:HV} {s s':HS} {r:Nat} {y:Res} (h:HsetIs s r y s') (k:PutK n dst g K a x s'):PutK n dst g K a x (hset s r y):=h.eq ▸ k
theorem sem_nil_own (c:Cx) {n:Nat} {code:Code} {Q:HExit→Fr→HS→Prop} {a:Fr} {s:HS} (t sz:Nat) (ha:a.get t=some (.sure,.v (.slice none 0 0))) (h:∀ r,r∉keys s→SemWp c.P n code Q ((t,.sure,.list (.own r 0) sz [])::a) ((r,.tok 0)::s)):SemWp c.P n code Q a s:=
 ⟨fun G w ra hs hf=>by
  let G':Ghost:={ G with top:=fun q=>if q=G.lim then some ⟨0,0,0,0⟩ else G.top q,lim:=G.lim+1}
  have le:G.Le G':=⟨fun _ _ _ e=>e,fun _ _ e=>e,fun q tp e=>by
   have:=hs.lt_top e
   simp only [G']
   rw [if_neg (by omega)]
   exact ⟨tp,e,Nat.le_refl _,fun _=>rfl⟩,rfl⟩
  have post:Post s G w ((G.lim,.tok 0)::s) G' w:=by
   refine ⟨⟨hs.kw,?_,fun r x hx=>?_,fun r hr=>?_,fun b r e=>?_⟩,⟨le,Nat.le_refl _,fun _ _ _=>⟨rfl,rfl,fun _=>rfl⟩,fun r tp e _=>?_,by simp [G'],rfl,rfl,rfl,fun r h0 _ h1 h2 h3=>⟨h1,by simp only [G'];rw [if_neg (by omega)];exact h2,h3⟩⟩,fun r hr=>?_⟩
   ·simp only [keys,List.map_cons,List.nodup_cons]
    exact ⟨fun hm=>by have:=hs.lt_key hm;omega,hs.keys⟩
   ·rcases List.mem_cons.1 hx with hx|hx
    ·cases hx
     exact ⟨⟨0,0,0,0⟩,by simp [G'],rfl,fun h=>by simp at h⟩
    ·exact (hs.holds r x hx).agree hs le (fun b _=>⟨rfl,rfl,fun _=>rfl⟩) (fun q tp e=>by
      have:=hs.lt_top e
      simp only [G']
      rw [if_neg (by omega)];exact e) (fun r h0 h1 h2 h3=>⟨by simp only [G'];omega,h1,by simp only [G'];rw [if_neg (by omega)];exact h2,h3⟩)
   ·simp only [G'] at hr ⊢
    rw [if_neg (by omega)]
    exact hs.fresh r (by omega)
   ·have:=hs.role b r e
    simp only [G'];omega
   ·have:=hs.lt_top e
    simp only [G']
    rw [if_neg (by omega)];exact e
   ·simp only [keys,List.map_cons,List.mem_cons] at hr
    rcases hr with rfl|hr
    ·exact .inr (Nat.le_refl _)
    ·exact .inl hr
  obtain ⟨h1,h2⟩:=hf.slots t _ _ ha
  have hu:=rel_v_eq h2
  have hw:=h G.lim (fun hm=>by have:=hs.lt_key hm;omega)
  refine hw.lift hs post ⟨hf.size,hf.defers.trans le.df.symm,fun t' g x e=>?_⟩
  simp only [Fr.get] at e
  split at e
  ·rename_i ht
   have:=Nat.eq_of_beq_eq_true ht
   subst this
   cases e
   refine ⟨h1,?_⟩
   show rel G' _ _
   rw [hu]
   exact list_rel_nil ⟨⟨0,0,0,0⟩,by simp [G'],Nat.le_refl _⟩
  ·exact ⟨(hf.slots t' g x e).1,(hf.slots t' g x e).2.mono le⟩⟩
theorem Stp.id {c:Cx} {n:Nat} {g:Tag} {dst:Option Tmp} {K:Fr→HS→Prop} {Q:HExit→Fr→HS→Prop} {q:OpRes} {a:Fr} {s:HS} (h:Stp c n g dst K Q q a s):Stp c n g dst K Q q a s:=h
theorem Ops.id {c:Cx} {n:Nat} {all:Array Oper} {l:List Oper} {Q:HExit→Fr→HS→Prop} {a:Fr} {s:HS} (h:Ops c n all l Q a s):Ops c n all l Q a s:=h
theorem PutK.id {n:Nat} {dst:Option Tmp} {g:Tag} {K:Fr→HS→Prop} {a:Fr} {x:HV} {s:HS} (h:PutK n dst g K a x s):PutK n dst g K a x s:=h
theorem SemWp.id {P:Program} {n:Nat} {x:Code} {Q:HExit→Fr→HS→Prop} {a:Fr} {s:HS} (h:SemWp P n x Q a s):SemWp P n x Q a s:=h
theorem Side.id {φ K:Prop} (h:Side φ K):Side φ K:=h
theorem Br.id {b:Bool} {X Y:Prop} (h:Br b X Y):Br b X Y:=h
theorem Look.id {s:HS} {r:Nat} {K:Res→Prop} (h:Look s r K):Look s r K:=h
theorem CallWp.id {c:Cx} {f:FuncId} {xs:List HV} {s:HS} {K E:HV→HS→Prop} (h:CallWp c f xs s K E):CallWp c f xs s K E:=h
theorem QAsk.id {on:Prop} {c:Cx} {f:FuncId} {xs:List HV} {t:HS} {φ:Prop} {K:HV→Prop} (h:QAsk on c f xs t φ K):QAsk on c f xs t φ K:=h
theorem CallC.id {c:Cx} {b:Bool} {f:FuncId} {xs:List HV} {s:HS} {φ:Prop} {K:HV→Prop} {on off:Prop} (h:CallC c b f xs s φ K on off):CallC c b f xs s φ K on off:=h
theorem qThen.id {P:Program} {n:Nat} {y:Code} {Q:HExit→Fr→HS→Prop} {e:HExit} {a:Fr} {s:HS} (h:qThen P n y Q e a s):qThen P n y Q e a s:=h
theorem hinBlock.id {i:Nat} {Q:HExit→Fr→HS→Prop} {e:HExit} {a:Fr} {s:HS} (h:hinBlock i Q e a s):hinBlock i Q e a s:=h
theorem hround.id {R:Fr→HS→Prop} {Q:HExit→Fr→HS→Prop} {e:HExit} {a:Fr} {s:HS} (h:hround R Q e a s):hround R Q e a s:=h
theorem bodyQ.id {rs:List ResultVar} {R:HEnd→HS→Prop} {e:HExit} {a:Fr} {s:HS} (h:bodyQ rs R e a s):bodyQ rs R e a s:=h
end
end Go.Proofs.Hk

namespace Go.Proofs.Hk
noncomputable section
open Go
/-! Drawn regions by small rules. -/
structure DOps (c:Cx) (n:Nat) (all:Array Oper) (t:HS) (E:List Nat) (Q:HExit→Fr→HS→Prop) (l:List Oper) (k:Nat) (a:Fr) (m:HS):Prop where
 out:drawWp c n all t E Q l k a m
/-- What goes on behind. -/
structure PutD (n:Nat) (dst:Option Tmp) (g:Tag) (K:Fr→Prop) (a:Fr) (x:HV):Prop where
 out:∃ a',hput n dst g x a=some a'∧K a'
structure DStp (c:Cx) (n:Nat) (t:HS) (g:Tag) (dst:Option Tmp) (K:Fr→Prop) (q:OpRes) (a:Fr):Prop where
 out:q.quiet c t g fun x=>PutD n dst g K a x
structure TStp (c:Cx) (n:Nat) (m t:HS) (dst:Option Tmp) (K:Fr→HS→Prop) (q:OpRes) (a:Fr):Prop where
 out:q.turns c m t fun x m'=>PutD n dst .sure (fun a'=>K a' m') a x
theorem quiet_mono {c:Cx} {t:HS} {g:Tag} {K K':HV→Prop} (h:∀ x,K x→K' x):∀ {q:OpRes},q.quiet c t g K→q.quiet c t g K'
 |.bad,k=>by
  cases g with
  |sure=>exact k
  |cond b=>obtain ⟨h1,x,hx⟩:=k;exact ⟨h1,x,h x hx⟩
 |.pure x,k=>h x k
 |.val φ x,k=>by
  cases g with
  |sure=>exact ⟨k.1,h x k.2⟩
  |cond b=>exact ⟨k.1,h x k.2⟩
 |.call φ f xs,k=>by
  cases g with
  |sure=>obtain ⟨x,h1,h2⟩:=k;exact ⟨x,h1,h x h2⟩
  |cond b=>obtain ⟨x,h1,h2⟩:=k;exact ⟨x,h1,h x h2⟩
 |.pan φ x,k=>k
 |.eff W,k=>k
 |.look r q,k=>by obtain ⟨x,h1,h2⟩:=k;exact ⟨x,h1,quiet_mono h h2⟩
theorem turns_mono {c:Cx} {m t:HS} {K K':HV→HS→Prop} (h:∀ x m,K x m→K' x m):∀ {q:OpRes},q.turns c m t K→q.turns c m t K'
 |.bad,k=>k
 |.pure x,k=>h x m k
 |.val φ x,k=>⟨k.1,h x m k.2⟩
 |.call φ f xs,k=>by obtain ⟨x,m',h1,h2⟩:=k;exact ⟨x,m',h1,h x m' h2⟩
 |.pan φ x,k=>k
 |.eff W,k=>by obtain ⟨x,m',h1,h2⟩:=k;exact ⟨x,m',h1,h x m' h2⟩
 |.look r q,k=>by obtain ⟨x,h1,h2⟩:=k;exact ⟨x,h1,turns_mono h h2⟩
theorem DOps.nil {c:Cx} {n:Nat} {all:Array Oper} {t s:HS} {E:List Nat} {Q:HExit→Fr→HS→Prop} {k:Nat} {a:Fr} {m:HS} (e:m ++ t=s) (h:Q .normal a s):DOps c n all t E Q [] k a m:=
 ⟨by simp only [drawWp,forceL_eq,e];exact h⟩
/-! What an operation does not look at does not matter. -/
theorem ev_only {S:List Tmp} {a:Fr} {x:Operand} (h:∀ t,x = .tmp t→memN t S=true):ev (Fr.only S a) x=ev a x:=by
 cases x with
 |tmp t=>simp only [ev,only_get];rw [if_pos (h t rfl)]
 |_=>rfl
theorem arg_only {S:List Tmp} {a:Fr} {x:Operand} {k:HV→OpRes} (h:∀ t,x = .tmp t→memN t S=true):arg (Fr.only S a) x k=arg a x k:=by
 simp only [arg,ev_only h]
theorem argsM_only {S:List Tmp} {a:Fr} : ∀ {xs:List Operand} {k:List HV→OpRes},(∀ x∈xs,∀ t,x = .tmp t→memN t S=true)→argsM (Fr.only S a) xs k=argsM a xs k
 |[],k,_=>rfl
 |x::xs,k,h=>by
  simp only [argsM]
  rw [arg_only (h x (by simp))]
  congr 1
  funext v
  exact argsM_only fun y hy=>h y (by simp [hy])
theorem argO_only {S:List Tmp} {a:Fr} {x:Option Operand} {k:Option HV→OpRes} (h:∀ y,x=some y→∀ t,y = .tmp t→memN t S=true):argO (Fr.only S a) x k=argO a x k:=by
 cases x with
 |none=>rfl
 |some x=>exact arg_only (h x rfl)
theorem hop_only (c:Cx) {S:List Tmp} {a:Fr} {s:HS} {o:Op} (h:∀ x∈o.operands,∀ t,x = .tmp t→memN t S=true):hop c o (Fr.only S a) s=hop c o a s:=by
 cases o<;>simp only [Op.operands,Call.operands] at h<;>simp only [hop]
 case call d=>
  obtain ⟨cal,args,ts⟩:=d
  cases cal<;>simp only [hop,Op.operands,Call.operands] at h ⊢
  case value f=>
   rw [arg_only (h f (by simp))]
   congr 1;funext v
   exact argsM_only fun y hy=>h y (by simp at hy;simp [hy])
  case builtin b=>exact argsM_only fun y hy=>h y (by simp at hy;simp [hy])
 case pick x y z=>
  rw [arg_only (h x (by simp)),ev_only (h y (by simp)),ev_only (h z (by simp))]
 case build t ps=>exact argsM_only fun y hy=>h y (by simpa using hy)
 case buildSlice t n ps=>exact argsM_only fun y hy=>h y (by simpa using hy)
 case slice t x lo hi mx=>
  rw [arg_only (h x (by simp))]
  congr 1;funext v
  rw [argO_only fun y hy=>h y (by subst hy;simp)]
  congr 1;funext v
  rw [argO_only fun y hy=>h y (by subst hy;simp)]
  congr 1;funext v
  rw [argO_only fun y hy=>h y (by subst hy;simp)]
 case makeSlice t x y=>
  rw [arg_only (h x (by simp))];congr 1;funext v;exact arg_only (h y (by simp))
 case binOp op t x y yt=>
  split
  ·exact arg_only (h x (by simp))
  ·rw [arg_only (h x (by simp))];congr 1;funext v;exact arg_only (h y (by simp))
 case makeMap t r=>
  cases r with
  |none=>rfl
  |some x=>exact arg_only (h _ (by simp))
 case insert t m k x=>
  rw [arg_only (h m (by simp))];congr 1;funext v
  rw [arg_only (h k (by simp))];congr 1;funext v
  exact arg_only (h x (by simp))
 case mapUpdate t m k x=>
  rw [arg_only (h m (by simp))];congr 1;funext v
  rw [arg_only (h k (by simp))];congr 1;funext v
  exact arg_only (h x (by simp))
 case makeFunc f fi ca=>
  rw [argsM_only fun y hy=>h y (by simp at hy;simp [hy])]
  congr 1;funext v
  exact argsM_only fun y hy=>h y (by simp at hy;simp [hy])
 all_goals first
  |rfl
  |exact arg_only (h _ (by simp))
  |(rw [arg_only (h _ (by simp))];congr 1;funext v;exact arg_only (h _ (by simp)))
  |skip
theorem looksAt_op {ops:Array Oper} {o:Oper} : ∀ x∈o.op.operands,∀ t,x=Operand.tmp t→memN t (o.looksAt ops)=true:=by
 intro x hx t ht
 subst ht
 rw [memN_iff]
 unfold Oper.looksAt
 refine List.mem_append_left _ (List.mem_filterMap.2 ⟨_,by simpa using hx,rfl⟩)
theorem active_only {all:Array Oper} {a:Fr} {o:Oper} : active all (Fr.only (o.looksAt all) a) o=active all a o:=by
 unfold active
 split
 ·rfl
 ·rename_i j want hg
  split
  ·rfl
  ·rename_i oj hj
   split
   ·rfl
   ·rename_i d hd
    rw [only_get,if_pos]
    rw [memN_iff]
    unfold Oper.looksAt
    refine List.mem_append_right _ ?_
    rw [hg]
    simp [hj,hd]
theorem DOps.cons {c:Cx} {n:Nat} {all:Array Oper} {t:HS} {E:List Nat} {Q:HExit→Fr→HS→Prop} {o:Oper} {l:List Oper} {k:Nat} {a:Fr} {m:HS} {tg:Tag} (hact:active all a o=some tg) (hE:memN k E=false)
  (h:DStp c n t tg o.dst (fun a'=>DOps c n all t E Q l (k+1) a' m) (hop c o.op a t) a):DOps c n all t E Q (o::l) k a m:=by
 constructor
 simp only [drawWp,active_only,hact,hE,hop_only c looksAt_op]
 refine quiet_mono (fun x hx=>?_) h.out
 obtain ⟨a',e,hk⟩:=hx
 rw [e]
 exact hk.out
theorem DOps.turn {c:Cx} {n:Nat} {all:Array Oper} {t s:HS} {E:List Nat} {Q:HExit→Fr→HS→Prop} {o:Oper} {l:List Oper} {k:Nat} {a:Fr} {m:HS} (hact:active all a o=some .sure) (hE:memN k E=true) (e:m ++ t=s)
  (h:TStp c n m t o.dst (fun a' m'=>DOps c n all t E Q l (k+1) a' m') (hop c o.op a s) a):DOps c n all t E Q (o::l) k a m:=by
 subst e
 constructor
 simp only [drawWp,active_only,hact,hE,hop_only c looksAt_op]
 refine .inl (turns_mono (fun x m' hx=>?_) h.out)
 obtain ⟨a',e,hk⟩:=hx
 rw [e]
 exact hk.out
/-- An alloc, by a name that was kept free. -/
theorem DOps.alloc {c:Cx} {n:Nat} {all:Array Oper} {t:HS} {E:List Nat} {Q:HExit→Fr→HS→Prop} {o:Oper} {l:List Oper} {k r:Nat} {a a':Fr} {m0:HS} {tt:TypeId} {z:HV} {zs:List HV} (hact:active all a o=some .sure) (hE:memN k E=true) (ho:o.op = .alloc tt)
  (hz:hzero c tt=some z) (hk:kdOk z=true) (hs:z.cells=zs) (hp:hput n o.dst .sure (.ptr r 0) a=some a') (h:DOps c n all t E Q l (k+1) a' ((r,.cells zs tt)::m0)):DOps c n all t E Q (o::l) k a ((r,.void)::m0):=by
 subst hs
 constructor
 simp only [drawWp,active_only,hact,hE]
 exact .inr ⟨tt,z,r,m0,a',ho,hz,hk,rfl,hp,h.out⟩
theorem drawQ' (c:Cx) {n id:Nat} {ops:Array Oper} {l:List Oper} {Q:HExit→Fr→HS→Prop} {a:Fr} {s:HS} (hB:lexEB ops []=true) (e:ops.toList=l) (h:DOps c n ops s [] Q l 0 a []):DrawReg c.P n id ops Q a s:=
 drawQ c hB (by rw [e];exact h.out)
theorem drawE' (c:Cx) {n id:Nat} {ops:Array Oper} {l:List Oper} {Q:HExit→Fr→HS→Prop} {a:Fr} {s:HS} (m t:HS) (E:List Nat) (hp:(m ++ t).Perm s) (hB:lexEB ops E=true) (e:ops.toList=l) (h:DOps c n ops t E Q l 0 a m):DrawReg c.P n id ops Q a s:=
 drawReg c m t E hp hB (by rw [e];exact h.out)
section
variable {c:Cx} {n:Nat} {t:HS} {g:Tag} {dst:Option Tmp} {K:Fr→Prop} {a a':Fr}
theorem DStp.pure {x:HV} (h:hput n dst g x a=some a') (k:K a'):DStp c n t g dst K (.pure x) a:=⟨⟨a',h,k⟩⟩
theorem DStp.dead (h:hput n dst (.cond false) (.v (.bool false)) a=some a') (k:K a'):DStp c n t (.cond false) dst K .bad a:=⟨⟨rfl,_,a',h,k⟩⟩
theorem DStp.val {φ:Prop} {x:HV} (h:hput n dst .sure x a=some a') (k:Side φ (K a')):DStp c n t .sure dst K (.val φ x) a:=⟨⟨k.1,a',h,k.2⟩⟩
theorem DStp.valC {b:Bool} {φ:Prop} {x:HV} (h:hput n dst (.cond b) x a=some a') (k:Side (b=true→φ) (K a')):DStp c n t (.cond b) dst K (.val φ x) a:=⟨⟨k.1,a',h,k.2⟩⟩
theorem DStp.call {φ:Prop} {f:FuncId} {xs:List HV} (k:QAsk True c f xs t φ (fun x=>PutD n dst .sure K a x)):DStp c n t .sure dst K (.call φ f xs) a:=⟨k⟩
theorem DStp.callC {b:Bool} {φ:Prop} {f:FuncId} {xs:List HV} (k:QAsk (b=true) c f xs t φ (fun x=>PutD n dst (.cond b) K a x)):DStp c n t (.cond b) dst K (.call φ f xs) a:=⟨k⟩
theorem DStp.look {r:Nat} {k:Res→OpRes} (h:Look t r fun x=>DStp c n t g dst K (k x) a):DStp c n t g dst K (.look r k) a:=by
 obtain ⟨x,hx,h⟩:=h
 exact ⟨⟨x,hx,h.out⟩⟩
theorem PutD.mk' {x:HV} (h:hput n dst g x a=some a') (k:K a'):PutD n dst g K a x:=⟨a',h,k⟩
end
section
variable {c:Cx} {n:Nat} {m t:HS} {dst:Option Tmp} {K:Fr→HS→Prop} {a:Fr}
theorem TStp.look {r:Nat} {k:Res→OpRes} (h:Look (m ++ t) r fun x=>TStp c n m t dst K (k x) a):TStp c n m t dst K (.look r k) a:=by
 obtain ⟨x,hx,h⟩:=h
 exact ⟨⟨x,hx,h.out⟩⟩
theorem TStp.pure {x:HV} (k:PutD n dst .sure (fun a'=>K a' m) a x):TStp c n m t dst K (.pure x) a:=⟨k⟩
theorem TStp.val {φ:Prop} {x:HV} (k:Side φ (PutD n dst .sure (fun a'=>K a' m) a x)):TStp c n m t dst K (.val φ x) a:=⟨k⟩
theorem TStp.eff {W:(HV→HS→Prop)→Prop} {x:HV} (m':HS) (hW:W fun y s'=>y=x∧s'=m' ++ t) (k:PutD n dst .sure (fun a'=>K a' m') a x):TStp c n m t dst K (.eff W) a:=⟨⟨x,m',hW,k⟩⟩
theorem TStp.call {φ:Prop} {f:FuncId} {xs:List HV} {x:HV} (m':HS) (hφ:φ) (h:HCalls c.P f xs (m ++ t) fun e s1=>e = .ret x∧s1=m' ++ t) (k:PutD n dst .sure (fun a'=>K a' m') a x):TStp c n m t dst K (.call φ f xs) a:=⟨⟨x,m',⟨hφ,⟨h⟩⟩,k⟩⟩
end
/-! Sums that stay within bounds. -/
theorem Stp.pureW {c:Cx} {n:Nat} {g:Tag} {dst:Option Tmp} {K:Fr→HS→Prop} {Q:HExit→Fr→HS→Prop} {a a':Fr} {s:HS} {x y:Int} (hw:IntKind.i64.wrap x=y) (h:hput n dst g (.v (.int .i64 y)) a=some a') (k:K a' s):Stp c n g dst K Q (.pure (.v (.int .i64 (IntKind.i64.wrap x)))) a s:=by
 subst hw;exact Stp.pure h k
theorem DStp.pureW {c:Cx} {n:Nat} {t:HS} {g:Tag} {dst:Option Tmp} {K:Fr→Prop} {a a':Fr} {x y:Int} (hw:IntKind.i64.wrap x=y) (h:hput n dst g (.v (.int .i64 y)) a=some a') (k:K a'):DStp c n t g dst K (.pure (.v (.int .i64 (IntKind.i64.wrap x)))) a:=by
 subst hw;exact DStp.pure h k
theorem DOps.id {c:Cx} {n:Nat} {all:Array Oper} {t:HS} {E:List Nat} {Q:HExit→Fr→HS→Prop} {l:List Oper} {k:Nat} {a:Fr} {m:HS} (h:DOps c n all t E Q l k a m):DOps c n all t E Q l k a m:=h
theorem DStp.id {c:Cx} {n:Nat} {t:HS} {g:Tag} {dst:Option Tmp} {K:Fr→Prop} {q:OpRes} {a:Fr} (h:DStp c n t g dst K q a):DStp c n t g dst K q a:=h
theorem TStp.id {c:Cx} {n:Nat} {m t:HS} {dst:Option Tmp} {K:Fr→HS→Prop} {q:OpRes} {a:Fr} (h:TStp c n m t dst K q a):TStp c n m t dst K q a:=h
theorem PutD.id {n:Nat} {dst:Option Tmp} {g:Tag} {K:Fr→Prop} {a:Fr} {x:HV} (h:PutD n dst g K a x):PutD n dst g K a x:=h
theorem DrawReg.id {P:Program} {n id:Nat} {ops:Array Oper} {Q:HExit→Fr→HS→Prop} {a:Fr} {s:HS} (h:DrawReg P n id ops Q a s):DrawReg P n id ops Q a s:=h
/-! Names that come. -/
structure NewN (s:HS) (F:Nat→Prop):Prop where
 out:∀ r,r∉keys s→F r
/-! Contracts, with what is left lying. -/
theorem Pur.of {c:Cx} {f:FuncId} {xs:List HV} {x:HV} (h:HCalls c.P f xs [] fun e _=>e = .ret x):Pur c f xs x:=
 ⟨HCalls.weaken h fun e s1 he=>⟨e,[],(by subst he;exact .ret (.refl _)),Subp.nil _,he,rfl⟩⟩
theorem Pur.ofW {c:Cx} {f:FuncId} {xs:List HV} {x:HV} (h:HCalls c.P f xs [] fun e _=>∃ y,e = .ret y∧Weaker y x):Pur c f xs x:=
 ⟨HCalls.weaken h fun e s1 ⟨y,he,hw⟩=>⟨.ret x,[],(by subst he;exact .ret hw),Subp.nil _,rfl,rfl⟩⟩
theorem HCalls.less {P:Program} {f:FuncId} {args:List HV} {s s2:HS} {x:HV} (h:HCalls P f args s fun e st=>e = .ret x∧Subp s2 st):HCalls P f args s fun e st=>e = .ret x∧st=s2:=
 HCalls.weaken h fun e s1 ⟨he,hs⟩=>⟨e,s2,(by subst he;exact .ret (.refl _)),hs,he,rfl⟩
theorem HCalls.lessW {P:Program} {f:FuncId} {args:List HV} {s s2:HS} {x:HV} (h:HCalls P f args s fun e st=>∃ y,e = .ret y∧Weaker y x∧Subp s2 st):HCalls P f args s fun e st=>e = .ret x∧st=s2:=
 HCalls.weaken h fun e s1 ⟨y,he,hw,hs⟩=>⟨.ret x,s2,(by subst he;exact .ret hw),hs,rfl,rfl⟩
end
end Go.Proofs.Hk

set_option linter.unusedVariables false
namespace Go.Proofs.Hk
noncomputable section
open Go
/-! What can be closed at once. -/
theorem Side.auto {φ K:Prop} (k:K) (h:φ:=by
  first
  |exact True.intro
  |exact rfl
  |exact fun h=>h
  |exact fun h=>absurd h Bool.false_ne_true
  |omega
  |assumption
  |exact fun h=>⟨h,rfl⟩
  |(intro h;rw [h];done)
  |(intro h;rw [h];rfl)
  |exact fun h=>⟨h,h⟩
  |exact fun h=>⟨h,h,rfl⟩
  |(intros;(repeat' apply And.intro)<;>first|exact rfl|assumption|omega)
  |(intros;(try simp only [Bool.and_eq_true,Bool.or_eq_true,Bool.not_eq_true',Bool.and_eq_false_iff,Bool.or_eq_false_iff,decide_eq_true_eq,decide_eq_false_iff_not,beq_iff_eq,bne_iff_ne,beq_eq_false_iff_ne,bne_eq_false_iff_eq,ne_eq,List.length_map,List.length_append,List.length_cons,List.length_nil,List.length_replicate,List.length_take,List.length_drop,List.length_range,ByteArray.size_extract,ByteArray.size_append,Int.toNat_natCast,Nat.cast_ofNat_Int] at *);(try simp (disch:=omega) only [wrap64] at *);(repeat' apply And.intro)<;>first|exact rfl|assumption|omega)
  |(intros;simp_all;done)
  |(intros;simp_all;omega)):Side φ K:=⟨h,k⟩
inductive HGet:HS→Nat→Res→Prop
 |hit {r:Nat} {x:Res} {s:HS} : HGet ((r,x)::s) r x
 |miss {q r:Nat} {x y:Res} {s:HS} (h:q≠r) (k:HGet s r x):HGet ((q,y)::s) r x
theorem HGet.eq {s:HS} {r:Nat} {x:Res} (h:HGet s r x):hget s r=some x:=by
 induction h with
 |hit=>exact hget_hit _ _ _
 |miss h _ ih=>rw [hget_miss _ _ h,ih]
theorem Look.auto {s:HS} {r:Nat} {x:Res} {K:Res→Prop} (k:K x) (h:HGet s r x):Look s r K:=⟨x,h.eq,k⟩
/-- A part of a state is taken out. -/
inductive HPick:HS→Nat→Res→HS→Prop
 |hit {r:Nat} {x:Res} {s:HS} : HPick ((r,x)::s) r x s
 |miss {r:Nat} {x:Res} {y:Nat × Res} {s t:HS} (k:HPick s r x t):HPick (y::s) r x (y::t)
inductive HTake:HS→HS→HS→Prop
 |nil {s:HS} : HTake s [] s
 |cons {s s' t l:HS} {r:Nat} {x:Res} (h:HPick s r x s') (k:HTake s' l t):HTake s ((r,x)::l) t
theorem HPick.perm {s t:HS} {r:Nat} {x:Res} (h:HPick s r x t):((r,x)::t).Perm s:=by
 induction h with
 |hit=>exact .refl _
 |miss _ ih=>exact (List.Perm.swap _ _ _).trans (ih.cons _)
theorem HTake.perm {s l t:HS} (h:HTake s l t):(l ++ t).Perm s:=by
 induction h with
 |nil=>exact .refl _
 |cons h _ ih=>exact (ih.cons _).trans h.perm
theorem HTake.subp {s l t:HS} (h:HTake s l t):Subp l s:=⟨l ++ t,h.perm,List.sublist_append_left l t⟩
theorem Subp.take {s l:HS} {t:HS} (h:HTake s l t):Subp l s:=h.subp
theorem callT (c:Cx) {f:FuncId} {xs:List HV} {s1 s2 s t:HS} {v:HV} {K E:HV→HS→Prop} (h:HCalls c.P f xs s1 fun e st=>e = .ret v∧st=s2) (p:HTake s s1 t) (hk:forceL (s2 ++ t) (K v)):CallWp c f xs s K E:=
 call_ret c t h (List.perm_append_comm.trans p.perm) hk
theorem newN {s:HS} {F:Nat→Prop} (h:∀ r,r∉keys s→F r):∀ r,r∉keys s→F r:=h
theorem Pur.askH {c:Cx} {f:FuncId} {xs:List HV} {x:HV} {on:Prop} {t:HS} {φ:Prop} {K:HV→Prop} (h:on→Pur c f xs x) (hφ:on→φ) (hk:K x):QAsk on c f xs t φ K:=⟨x,fun h1=>⟨hφ h1,(h h1).q t⟩,hk⟩
theorem Pur.askCH {c:Cx} {f:FuncId} {xs:List HV} {x:HV} {b:Bool} {t:HS} {φ on off:Prop} {K:HV→Prop} (h:b=true→Pur c f xs x) (hφ:b=true→φ) (hk:K x):CallC c b f xs t φ K on off:=⟨.inl (Pur.askH h hφ hk)⟩
theorem Sub.auto {t:Nat} {g:Tag} {x y:HV} {a b:Fr} (k:Fr.Sub a b) (h:b.get t=some (g,x):=by rfl) (hy:x=y:=by first|rfl|assumption|omega|(simp;done)|(simp;rfl)|(simp;omega)):Fr.Sub ((t,g,y)::a) b:=Sub.cons h hy k
/-! Comparisons that are decided. -/
section
variable {c:Cx} {n:Nat} {g:Tag} {dst:Option Tmp} {K:Fr→HS→Prop} {Q:HExit→Fr→HS→Prop} {a a':Fr} {s:HS}
theorem Stp.isDec {p:Prop} [Decidable p] (k:Stp c n g dst K Q (.pure (.v (.bool (decide p)))) a s):Stp c n g dst K Q (.pure (.v (.bool (decide p)))) a s:=k
theorem Stp.isEq {x y:Int} (k:Stp c n g dst K Q (.pure (.v (.bool (x == y)))) a s):Stp c n g dst K Q (.pure (.v (.bool (x == y)))) a s:=k
theorem Stp.isNe {x y:Int} (k:Stp c n g dst K Q (.pure (.v (.bool (x != y)))) a s):Stp c n g dst K Q (.pure (.v (.bool (x != y)))) a s:=k
theorem Stp.decT {p:Prop} [Decidable p] (k:Stp c n g dst K Q (.pure (.v (.bool (true)))) a s) (hp:p:=by omega):Stp c n g dst K Q (.pure (.v (.bool (decide p)))) a s:=by rw [decide_eq_true hp];exact k
theorem Stp.decF {p:Prop} [Decidable p] (k:Stp c n g dst K Q (.pure (.v (.bool (false)))) a s) (hp:¬ p:=by omega):Stp c n g dst K Q (.pure (.v (.bool (decide p)))) a s:=by rw [decide_eq_false hp];exact k
theorem Stp.eqT {x y:Int} (k:Stp c n g dst K Q (.pure (.v (.bool (true)))) a s) (hp:x=y:=by omega):Stp c n g dst K Q (.pure (.v (.bool (x == y)))) a s:=by rw [beq_iff_eq.2 hp];exact k
theorem Stp.eqF {x y:Int} (k:Stp c n g dst K Q (.pure (.v (.bool (false)))) a s) (hp:¬ x=y:=by omega):Stp c n g dst K Q (.pure (.v (.bool (x == y)))) a s:=by rw [beq_eq_false_iff_ne.2 hp];exact k
theorem Stp.neT {x y:Int} (k:Stp c n g dst K Q (.pure (.v (.bool (true)))) a s) (hp:¬ x=y:=by omega):Stp c n g dst K Q (.pure (.v (.bool (x != y)))) a s:=by rw [bne_iff_ne.2 hp];exact k
theorem Stp.neF {x y:Int} (k:Stp c n g dst K Q (.pure (.v (.bool (false)))) a s) (hp:x=y:=by omega):Stp c n g dst K Q (.pure (.v (.bool (x != y)))) a s:=by rw [bne_eq_false_iff_eq.2 hp];exact k
theorem Stp.orF {q:Bool} (k:Stp c n g dst K Q (.pure (.v (.bool (q)))) a s):Stp c n g dst K Q (.pure (.v (.bool (false||q)))) a s:=k
theorem Stp.orT {q:Bool} (k:Stp c n g dst K Q (.pure (.v (.bool (true)))) a s):Stp c n g dst K Q (.pure (.v (.bool (true||q)))) a s:=k
theorem Stp.andT {q:Bool} (k:Stp c n g dst K Q (.pure (.v (.bool (q)))) a s):Stp c n g dst K Q (.pure (.v (.bool (true && q)))) a s:=k
theorem Stp.andF {q:Bool} (k:Stp c n g dst K Q (.pure (.v (.bool (false)))) a s):Stp c n g dst K Q (.pure (.v (.bool (false && q)))) a s:=k
theorem Stp.andT2 {q:Bool} (k:Stp c n g dst K Q (.pure (.v (.bool (q)))) a s):Stp c n g dst K Q (.pure (.v (.bool (q && true)))) a s:=by simpa using k
theorem Stp.orF2 {q:Bool} (k:Stp c n g dst K Q (.pure (.v (.bool (q)))) a s):Stp c n g dst K Q (.pure (.v (.bool (q||false)))) a s:=by simpa using k
theorem Stp.notT (k:Stp c n g dst K Q (.pure (.v (.bool (false)))) a s):Stp c n g dst K Q (.pure (.v (.bool (!true)))) a s:=k
theorem Stp.notF (k:Stp c n g dst K Q (.pure (.v (.bool (true)))) a s):Stp c n g dst K Q (.pure (.v (.bool (!false)))) a s:=k
theorem Stp.isSum {x:Int} (k:Stp c n g dst K Q (.pure (.v (.int .i64 (IntKind.i64.wrap x)))) a s):Stp c n g dst K Q (.pure (.v (.int .i64 (IntKind.i64.wrap x)))) a s:=k
theorem Stp.sum {x:Int} (k:Stp c n g dst K Q (.pure (.v (.int .i64 (x)))) a s) (hw : -9223372036854775808≤x∧x < 9223372036854775808:=by omega):Stp c n g dst K Q (.pure (.v (.int .i64 (IntKind.i64.wrap x)))) a s:=by rw [wrap64 hw];exact k
end
section
variable {c:Cx} {n:Nat} {t:HS} {g:Tag} {dst:Option Tmp} {K:Fr→Prop} {a a':Fr}
theorem DStp.isDec {p:Prop} [Decidable p] (k:DStp c n t g dst K (.pure (.v (.bool (decide p)))) a):DStp c n t g dst K (.pure (.v (.bool (decide p)))) a:=k
theorem DStp.isEq {x y:Int} (k:DStp c n t g dst K (.pure (.v (.bool (x == y)))) a):DStp c n t g dst K (.pure (.v (.bool (x == y)))) a:=k
theorem DStp.isNe {x y:Int} (k:DStp c n t g dst K (.pure (.v (.bool (x != y)))) a):DStp c n t g dst K (.pure (.v (.bool (x != y)))) a:=k
theorem DStp.decT {p:Prop} [Decidable p] (k:DStp c n t g dst K (.pure (.v (.bool (true)))) a) (hp:p:=by omega):DStp c n t g dst K (.pure (.v (.bool (decide p)))) a:=by rw [decide_eq_true hp];exact k
theorem DStp.decF {p:Prop} [Decidable p] (k:DStp c n t g dst K (.pure (.v (.bool (false)))) a) (hp:¬ p:=by omega):DStp c n t g dst K (.pure (.v (.bool (decide p)))) a:=by rw [decide_eq_false hp];exact k
theorem DStp.eqT {x y:Int} (k:DStp c n t g dst K (.pure (.v (.bool (true)))) a) (hp:x=y:=by omega):DStp c n t g dst K (.pure (.v (.bool (x == y)))) a:=by rw [beq_iff_eq.2 hp];exact k
theorem DStp.eqF {x y:Int} (k:DStp c n t g dst K (.pure (.v (.bool (false)))) a) (hp:¬ x=y:=by omega):DStp c n t g dst K (.pure (.v (.bool (x == y)))) a:=by rw [beq_eq_false_iff_ne.2 hp];exact k
theorem DStp.neT {x y:Int} (k:DStp c n t g dst K (.pure (.v (.bool (true)))) a) (hp:¬ x=y:=by omega):DStp c n t g dst K (.pure (.v (.bool (x != y)))) a:=by rw [bne_iff_ne.2 hp];exact k
theorem DStp.neF {x y:Int} (k:DStp c n t g dst K (.pure (.v (.bool (false)))) a) (hp:x=y:=by omega):DStp c n t g dst K (.pure (.v (.bool (x != y)))) a:=by rw [bne_eq_false_iff_eq.2 hp];exact k
theorem DStp.orF {q:Bool} (k:DStp c n t g dst K (.pure (.v (.bool (q)))) a):DStp c n t g dst K (.pure (.v (.bool (false||q)))) a:=k
theorem DStp.orT {q:Bool} (k:DStp c n t g dst K (.pure (.v (.bool (true)))) a):DStp c n t g dst K (.pure (.v (.bool (true||q)))) a:=k
theorem DStp.andT {q:Bool} (k:DStp c n t g dst K (.pure (.v (.bool (q)))) a):DStp c n t g dst K (.pure (.v (.bool (true && q)))) a:=k
theorem DStp.andF {q:Bool} (k:DStp c n t g dst K (.pure (.v (.bool (false)))) a):DStp c n t g dst K (.pure (.v (.bool (false && q)))) a:=k
theorem DStp.andT2 {q:Bool} (k:DStp c n t g dst K (.pure (.v (.bool (q)))) a):DStp c n t g dst K (.pure (.v (.bool (q && true)))) a:=by simpa using k
theorem DStp.orF2 {q:Bool} (k:DStp c n t g dst K (.pure (.v (.bool (q)))) a):DStp c n t g dst K (.pure (.v (.bool (q||false)))) a:=by simpa using k
theorem DStp.notT (k:DStp c n t g dst K (.pure (.v (.bool (false)))) a):DStp c n t g dst K (.pure (.v (.bool (!true)))) a:=k
theorem DStp.notF (k:DStp c n t g dst K (.pure (.v (.bool (true)))) a):DStp c n t g dst K (.pure (.v (.bool (!false)))) a:=k
theorem DStp.isSum {x:Int} (k:DStp c n t g dst K (.pure (.v (.int .i64 (IntKind.i64.wrap x)))) a):DStp c n t g dst K (.pure (.v (.int .i64 (IntKind.i64.wrap x)))) a:=k
theorem DStp.sum {x:Int} (k:DStp c n t g dst K (.pure (.v (.int .i64 (x)))) a) (hw : -9223372036854775808≤x∧x < 9223372036854775808:=by omega):DStp c n t g dst K (.pure (.v (.int .i64 (IntKind.i64.wrap x)))) a:=by rw [wrap64 hw];exact k
end
theorem Stp.valS {c:Cx} {n:Nat} {dst:Option Tmp} {K:Fr→HS→Prop} {Q:HExit→Fr→HS→Prop} {a:Fr} {s:HS} {φ:Prop} {x:HV} (h:Side φ (Stp c n .sure dst K Q (.pure x) a s)):Stp c n .sure dst K Q (.val φ x) a s:=⟨⟨h.1,h.2.out⟩⟩
theorem Stp.valSC {c:Cx} {n:Nat} {b:Bool} {dst:Option Tmp} {K:Fr→HS→Prop} {Q:HExit→Fr→HS→Prop} {a:Fr} {s:HS} {φ:Prop} {x:HV} (h:Side (b=true→φ) (Stp c n (.cond b) dst K Q (.pure x) a s)):Stp c n (.cond b) dst K Q (.val φ x) a s:=⟨⟨h.1,h.2.out⟩⟩
theorem DStp.valS {c:Cx} {n:Nat} {t:HS} {dst:Option Tmp} {K:Fr→Prop} {a:Fr} {φ:Prop} {x:HV} (h:Side φ (DStp c n t .sure dst K (.pure x) a)):DStp c n t .sure dst K (.val φ x) a:=⟨⟨h.1,h.2.out⟩⟩
theorem DStp.valSC {c:Cx} {n:Nat} {t:HS} {b:Bool} {dst:Option Tmp} {K:Fr→Prop} {a:Fr} {φ:Prop} {x:HV} (h:Side (b=true→φ) (DStp c n t (.cond b) dst K (.pure x) a)):DStp c n t (.cond b) dst K (.val φ x) a:=⟨⟨h.1,h.2.out⟩⟩
/-! An operation by its tag. -/
structure OpsT (c:Cx) (n:Nat) (all:Array Oper) (o:Oper) (l:List Oper) (Q:HExit→Fr→HS→Prop) (tg:Tag) (a:Fr) (s:HS):Prop where
 out:active all a o=some tg→Ops c n all (o::l) Q a s
section
variable {c:Cx} {n:Nat} {all:Array Oper} {o:Oper} {l:List Oper} {Q:HExit→Fr→HS→Prop} {a:Fr} {s:HS}
theorem Ops.tag {tg:Tag} (hact:active all a o=some tg) (h:OpsT c n all o l Q tg a s):Ops c n all (o::l) Q a s:=h.out hact
theorem OpsT.go {tg:Tag} (h:Stp c n tg o.dst (fun a' s'=>Ops c n all l Q a' s') Q (hop c o.op a s) a s):OpsT c n all o l Q tg a s:=⟨fun hact=>Ops.cons hact h⟩
theorem OpsT.yes (h:Stp c n .sure o.dst (fun a' s'=>Ops c n all l Q a' s') Q (hop c o.op a s) a s):OpsT c n all o l Q (.cond true) a s:=by
 refine ⟨fun hact=>⟨fun s0 G0 w0 h0 k hk G w ra hp hf=>?_⟩⟩
 have hko:all[k]? = some o:=by
  have:(all.toList.drop k)[0]? = some o:=by rw [hk];rfl
  rw [List.getElem?_drop] at this
  simpa using this
 have hrest:all.toList.drop (k+1)=l:=by rw [←List.drop_drop,hk];rfl
 simp only [List.length_cons,List.range'_succ,wpOpsY,hko]
 have next:∀ {g:Tag} {x:HV} {s':HS} {G':Ghost} {w':World} {u:Value},Post s G w s' G' w'→tagRel G' g x u→PutK n o.dst g (fun a' s'=>Ops c n all l Q a' s') a x s'→wpOpsY c.P all (Lift n s0 G0 w0 Q) (List.range' (k+1) l.length) (ra.put o.dst u) w':=by
  intro g x s' G' w' u hp' hu ⟨a',ha,hm⟩
  exact hm.out s0 G0 w0 h0 (k+1) hrest G' w' _ (hp.trans h0 hp') ((hf.mono hp'.ext.le).put ha hu)
 have hsem:=hop_ok c hp.srel hf o
 have called:∀ {f:FuncId} {xs:List HV} {vs:Array Value},(execOp ra.eval o).run c.P w = .ok (.enter f vs) w→relVs G xs vs.toList→CallWp c f xs s (fun x s'=>PutK n o.dst .sure (fun a' s'=>Ops c n all l Q a' s') a x s') (fun x s'=>Q (.pan x) a s')→Oper.wpY c.P o ra w (wpOpsY c.P all (Lift n s0 G0 w0 Q) (List.range' (k+1) l.length)) (Lift n s0 G0 w0 Q):=by
  intro f xs vs hr hx hc
  unfold Oper.wpY
  rw [hr,Oper.uponY_enter]
  refine (hc.out.out G w vs hp.srel hx).mono fun e w' ⟨he,s',G',hR,hrel,hp'⟩=>?_
  cases he with
  |ret x=>
   cases e<;>first|exact hrel.elim|skip
   exact next (g:=.sure) hp' hrel hR
  |pan x=>
   cases e<;>first|exact hrel.elim|skip
   exact ⟨.pan x,a,s',G',hR,hrel,hf.mono hp'.ext.le,hp.trans h0 hp'⟩
 have h:=h.out
 have hw:=active_ok hf hact
 simp only [] at hw h
 rw [hw]
 simp only [if_true]
 refine .inl ?_
 generalize hop c o.op a s=q at h hsem
 induction q with
 |bad=>exact h.elim
 |pure x=>
  obtain ⟨u,w',G',hy,hr,hp'⟩:=hsem
  exact upon_gives hy (next (g:=.sure) hp' hr h)
 |val φ x=>
  obtain ⟨hφ,h⟩:=h
  obtain ⟨u,w',G',hy,hr,hp'⟩:=hsem hφ
  exact upon_gives hy (next (g:=.sure) hp' hr h)
 |call φ f xs=>
  obtain ⟨hφ,h⟩:=h
  obtain ⟨vs,hr,hx⟩:=hsem hφ
  exact called hr hx h
 |pan φ x=>
  obtain ⟨hφ,h⟩:=h
  obtain ⟨u,hr,hu⟩:=hsem hφ
  unfold Oper.wpY
  rw [hr,Oper.uponY_panic]
  exact ⟨.pan _,a,s,G,h,⟨u,rfl,hu⟩,hf,hp⟩
 |eff W=>
  obtain ⟨x,s',hK,u,w',G',hy,hr,hp'⟩:=hsem _ h
  exact upon_gives hy (next (g:=.sure) hp' hr hK)
 |look r k ihq=>
  obtain ⟨x,hx,h⟩:=h
  exact ihq x h (hsem x hx)
theorem OpsT.no (k:PutK n o.dst (.cond false) (fun a' s'=>Ops c n all l Q a' s') a (.v (.bool false)) s):OpsT c n all o l Q (.cond false) a s:=by
 obtain ⟨a',h,k⟩:=k
 refine ⟨fun hact=>⟨fun s0 G0 w0 h0 i hk G w ra hp hf=>?_⟩⟩
 have hko:all[i]? = some o:=by
  have:(all.toList.drop i)[0]? = some o:=by rw [hk];rfl
  rw [List.getElem?_drop] at this
  simpa using this
 have hrest:all.toList.drop (i+1)=l:=by rw [←List.drop_drop,hk];rfl
 simp only [List.length_cons,List.range'_succ,wpOpsY,hko]
 have hw:=active_ok hf hact
 simp only [] at hw
 rw [hw]
 exact k.out s0 G0 w0 h0 (i+1) hrest G w _ hp (hf.put h ⟨(fun e=>by cases e),fun _=>rfl⟩)
theorem OpsT.yes' (h:Stp c n .sure o.dst (fun a' s'=>Ops c n all l Q a' s') Q (hop c o.op a s) a s):OpsT c n all o l Q (.cond (!false)) a s:=OpsT.yes h
theorem OpsT.no' (k:PutK n o.dst (.cond false) (fun a' s'=>Ops c n all l Q a' s') a (.v (.bool false)) s):OpsT c n all o l Q (.cond (!true)) a s:=OpsT.no k
theorem OpsT.andT {b:Bool} (h:OpsT c n all o l Q (.cond b) a s):OpsT c n all o l Q (.cond (true && b)) a s:=h
theorem OpsT.andF {b:Bool} (h:OpsT c n all o l Q (.cond false) a s):OpsT c n all o l Q (.cond (false && b)) a s:=h
theorem PutK.isSet {n:Nat} {dst:Option Tmp} {g:Tag} {K:Fr→HS→Prop} {a:Fr} {x:HV} {s:HS} {r:Nat} {y:Res} (k:PutK n dst g K a x (hset s r y)):PutK n dst g K a x (hset s r y):=k
theorem OpsT.id {tg:Tag} (h:OpsT c n all o l Q tg a s):OpsT c n all o l Q tg a s:=h
end
end
end Go.Proofs.Hk

set_option linter.unusedVariables false
namespace Go.Proofs.Hk
noncomputable section
open Go
/-! A row that is written no more. -/
theorem relAts_leaves {G:Ghost} {rd:Nat→Option Value} : ∀ {l:List HV} {us:List Value} {o:Nat},relCs G l us→(∀ j,j < us.length→rd (o+j)=us[j]?)→relAts G l rd o 1
 |[],us,o,_,_=>by simp only [relAts]
 |x::xs,us,o,h,hr=>by
  simp only [relCs] at h
  obtain ⟨u,us',rfl,h1,h2⟩:=h
  simp only [relAts]
  refine ⟨⟨[u],rfl,(by rw [h1.1];exact fun e=>nomatch e),fun j hj=>?_,h1.2⟩,relAts_leaves h2 fun j hj=>?_⟩
  ·have:=hr j (by simp;omega)
   have e:j=0:=by omega
   subst e
   simpa using this
  ·have:=hr (j+1) (by simp;omega)
   rw [show o+1+j=o+(j+1) from by omega]
   simpa using this
theorem HPick.mem {s s':HS} {r:Nat} {x:Res} (h:HPick s r x s'):(r,x)∈s:=h.perm.mem_iff.1 (by simp)
theorem HPick.sub {s s':HS} {r:Nat} {x:Res} (h:HPick s r x s') {y:Nat × Res} (hy:y∈s'):y∈s:=h.perm.mem_iff.1 (by simp [hy])
theorem HPick.nodup {s s':HS} {r:Nat} {x:Res} (h:HPick s r x s') (hn:(keys s).Nodup):(keys s').Nodup∧r∉keys s':=by
 have hp:(((r,x)::s').map (·.1)).Perm (keys s):=h.perm.map _
 have:=hp.nodup_iff.2 hn
 simp only [List.map_cons,List.nodup_cons] at this
 exact ⟨this.2,this.1⟩
theorem sem_freeze (c:Cx) {n:Nat} {code:Code} {Q:HExit→Fr→HS→Prop} {a:Fr} {s s':HS} (t r:Nat) {off len cap:Nat} {cs:List HV} {ty:TypeId} (ha:a.get t=some (.sure,.arr r off len cap 1)) (hp:HPick s r (.cells cs ty) s') (h1:off+len≤cs.length) (hc:len≤cap)
  (h:SemWp c.P n code Q ((t,.sure,.list .no 1 ((cs.drop off).take len))::a) s'):SemWp c.P n code Q a s:=
 ⟨fun G w ra hs hf=>by
  obtain ⟨b,vs,e,ro,hh,hcs,hK⟩:=hs.holds r _ hp.mem
  obtain ⟨hnd,hnr⟩:=hp.nodup hs.keys
  let G':Ghost:={ G with K:=fun b' o=>if b'=b then vs[o]? else G.K b' o}
  have le:G.Le G':=⟨fun b' o v e'=>by
   simp only [G']
   split
   ·rename_i hb;subst hb;rw [hK] at e';cases e'
   ·exact e',fun _ _ e=>e,fun q tp e=>⟨tp,e,Nat.le_refl _,fun _=>rfl⟩,rfl⟩
  have other:∀ q b',q∈keys s'→G.role b'=some q→b'≠b:=fun q b' hq hb' e'=>by
   subst e'
   rw [ro] at hb'
   cases hb'
   exact hnr hq
  have post:Post s G w s' G' w:=by
   refine ⟨⟨fun b' o v e'=>?_,hnd,fun q x hx=>?_,hs.fresh,hs.role⟩,⟨le,Nat.le_refl _,fun b' hb' hr=>⟨rfl,rfl,fun o=>?_⟩,fun _ _ e _=>e,Nat.le_refl _,rfl,rfl,rfl,fun _ _ _ h1 h2 h3=>⟨h1,h2,h3⟩⟩,fun q hq=>.inl ?_⟩
   ·simp only [G'] at e'
    split at e'
    ·rename_i hb;subst hb
     simp only [World.cell?,hh,Option.isSome_none,Bool.false_eq_true,if_false];exact e'
    ·exact hs.kw b' o v e'
   ·have hq:q∈keys s':=List.mem_map.2 ⟨_,hx,rfl⟩
    have ho:=hs.holds q x (hp.sub hx)
    cases x with
    |cells cs t'=>
     obtain ⟨b',us,e1,ro',hh',hc',hK'⟩:=ho
     exact ⟨b',us,e1,ro',hh',relCs.mono le _ _ hc',fun o=>by simp only [G'];rw [if_neg (other q b' hq ro')];exact hK' o⟩
    |map es=>
     obtain ⟨b',ents,cl,e1,ro',hh',hc'⟩:=ho
     exact ⟨b',ents,cl,e1,ro',hh',relMap.mono le _ _ hc'⟩
    |tok m=>
     obtain ⟨tp,e1,hn,hq'⟩:=ho
     refine ⟨tp,e1,hn,fun hlt'=>?_⟩
     obtain ⟨ro',us,t',hh',hc',hK'⟩:=hq' hlt'
     exact ⟨ro',us,t',hh',hc',fun o ho=>by simp only [G'];rw [if_neg (other q _ hq ro')];exact hK' o ho⟩
    |void=>exact ho
    |loop L=>exact ho.move rfl le.to0 (fun b' hr=>⟨rfl,hr,fun o=>by simp only [G'];rw [if_neg (other q b' hq hr)]⟩)
    |row cs' sz' t''=>exact ho.move rfl le.to0 (fun b' hr=>⟨rfl,hr,fun o=>by simp only [G'];rw [if_neg (other q b' hq hr)]⟩)
   ·simp only [G']
    split
    ·rename_i hb;subst hb
     exact absurd (List.mem_map.2 ⟨_,hp.mem,rfl⟩) (hr r ro)
    ·rfl
   ·obtain ⟨y,hy,rfl⟩:=List.mem_map.1 hq
    exact List.mem_map.2 ⟨y,hp.sub hy,rfl⟩
  obtain ⟨q1,q2⟩:=hf.slots t _ _ ha
  obtain ⟨b',e',hu⟩:=rel_arr q2
  rw [e] at e'
  cases e'
  refine h.lift hs post ⟨hf.size,hf.defers.trans le.df.symm,fun t' g x e'=>?_⟩
  simp only [Fr.get] at e'
  split at e'
  ·rename_i ht
   have:=Nat.eq_of_beq_eq_true ht
   subst this
   cases e'
   refine ⟨q1,?_⟩
   show rel G' _ _
   rw [hu]
   have hl:=relCs_length hcs
   have hlen:((cs.drop off).take len).length=len:=by simp;omega
   have key:rel G' (.list .no 1 ((cs.drop off).take len)) (.slice (some ⟨b,off,none⟩) ((cs.drop off).take len).length cap):=by
    refine list_rel (by omega) (relAts_leaves (relCs.mono le _ _ (relCs_take len (relCs_drop off hcs))) fun j hj=>?_) trivial
    simp only [List.length_take,List.length_drop] at hj
    simp only [G',if_true]
    rw [List.getElem?_take,if_pos (by omega),List.getElem?_drop]
    simp
   rwa [hlen] at key
  ·exact ⟨(hf.slots t' g x e').1,(hf.slots t' g x e').2.mono le⟩⟩
end
end Go.Proofs.Hk

set_option linter.unusedVariables false
set_option linter.unusedSimpArgs false
namespace Go.Proofs.Hk
noncomputable section
open Go
/-! Results that stand in cells. -/
structure LoadIs (c:Cx) (s:HS) (t:TypeId) (r off:Nat) (K:HV→Prop):Prop where
 out:∃ cs t' d,hget s r=some (.cells cs t')∧c.ty t=some d∧((d.isAgg=true∧off+d.size≤cs.length∧K (.agg ((cs.drop off).take d.size)))∨(d.isAgg=false∧∃ x,cs[off]? = some x∧kdOne x=true∧K x))
theorem LoadIs.id {c:Cx} {s:HS} {t:TypeId} {r off:Nat} {K:HV→Prop} (h:LoadIs c s t r off K):LoadIs c s t r off K:=h
theorem LoadIs.agg {c:Cx} {s:HS} {t:TypeId} {r off:Nat} {K:HV→Prop} {cs:List HV} {t':TypeId} {d:TyD} (hg:HGet s r (.cells cs t')) (hd:c.ty t=some d) (ha:d.isAgg=true) (hl:Nat.ble (off+d.size) cs.length=true) (k:K (.agg ((cs.drop off).take d.size))):LoadIs c s t r off K:=
 ⟨cs,t',d,hg.eq,hd,.inl ⟨ha,Nat.le_of_ble_eq_true hl,k⟩⟩
theorem LoadIs.one {c:Cx} {s:HS} {t:TypeId} {r off:Nat} {K:HV→Prop} {cs:List HV} {t':TypeId} {d:TyD} {x:HV} (hg:HGet s r (.cells cs t')) (hd:c.ty t=some d) (ha:d.isAgg=false) (hx:cs[off]? = some x) (hk:kdOne x=true) (k:K x):LoadIs c s t r off K:=
 ⟨cs,t',d,hg.eq,hd,.inr ⟨ha,x,hx,hk,k⟩⟩
/-- What a function's results are, one by one. -/
def resG (c:Cx) (a:Fr) (s:HS):List ResultVar→(List HV→Prop)→Prop
 |[],K=>K []
 |.tmp t::l,K=>∃ x,a.get t=some (.sure,x)∧resG c a s l fun xs=>K (x::xs)
 |.cell p t::l,K=>∃ r off,a.get p=some (.sure,.ptr r off)∧LoadIs c s t r off fun y=>resG c a s l fun xs=>K (y::xs)
structure ResG (c:Cx) (a:Fr) (s:HS) (l:List ResultVar) (K:List HV→Prop):Prop where
 out:resG c a s l K
section
variable {c:Cx} {a:Fr} {s:HS} {l:List ResultVar} {K:List HV→Prop}
theorem ResG.nil (k:K []):ResG c a s [] K:=⟨k⟩
theorem ResG.tmp {t:Tmp} {x:HV} (h:a.get t=some (.sure,x)) (k:ResG c a s l fun xs=>K (x::xs)):ResG c a s (.tmp t::l) K:=⟨⟨x,h,k.out⟩⟩
theorem ResG.cell {p:Tmp} {t:TypeId} {r off:Nat} (h:a.get p=some (.sure,.ptr r off)) (k:LoadIs c s t r off fun y=>ResG c a s l fun xs=>K (y::xs)):ResG c a s (.cell p t::l) K:=⟨⟨r,off,h,by
 obtain ⟨cs,t',d,h1,h2,h3⟩:=k
 refine ⟨cs,t',d,h1,h2,?_⟩
 rcases h3 with ⟨a1,a2,a3⟩|⟨a1,x,a2,a3,a4⟩
 ·exact .inl ⟨a1,a2,a3.out⟩
 ·exact .inr ⟨a1,x,a2,a3,a4.out⟩⟩⟩
theorem ResG.id (h:ResG c a s l K):ResG c a s l K:=h
end
theorem loadIs_ok {c:Cx} {s:HS} {G:Ghost} {w:World} (hs:SRel G s w) {t:TypeId} {r off:Nat} {u:Value} (hp:rel G (.ptr r off) u) {K:HV→Prop} (h:LoadIs c s t r off K) :
  ∃ y v,(do loadVar t (←asAddr u):Sem Value).run c.P w = .ok v w∧rel G y v∧K y:=by
 obtain ⟨b,ho,rfl⟩:=rel_ptr hp
 obtain ⟨cs,t',d,hg,hd,h⟩:=h
 have ht:=c.ty_ok t d hd
 obtain ⟨b',vs,ho',ro,hb,hcs,hK⟩:=hs.holds r _ (hget_mem hg)
 rw [ho] at ho'
 cases ho'
 have hlen:=relCs_length hcs
 have hrun:∀ v,(loadVar t ⟨b,off,none⟩).run c.P w = .ok v w→(do loadVar t (←asAddr (.pointer (some ⟨b,off,none⟩))):Sem Value).run c.P w = .ok v w:=fun v h=>h
 rcases h with ⟨ha,hl,k⟩|⟨ha,x,hx,hk,k⟩
 ·have hseg:=relCs_take d.size (relCs_drop off hcs)
  refine ⟨_,_,hrun _ (run_loadVar_agg (xs:=(vs.toList.drop off).take d.size) ht ha ?_ ?_),rel_agg hseg,k⟩
  ·simp only [List.length_take,List.length_drop];omega
  ·intro j hj
   have hj':j < d.size:=by simp only [List.length_take] at hj;omega
   simp only [World.cell?,hb,Option.isSome_none,Bool.false_eq_true,if_false]
   rw [List.getElem?_take_of_lt hj',List.getElem?_drop,Array.getElem?_toList]
 ·obtain ⟨v,hv,_,hr⟩:=relCs_get hcs off x hx
  exact ⟨x,v,hrun _ (run_loadVar_one ht ha (by simp only [World.cell?,hb,Option.isSome_none,Bool.false_eq_true,if_false];rw [←Array.getElem?_toList];exact hv)),rel_leaf hr (kdOne_eq hk),k⟩
theorem resG_ok {c:Cx} {n:Nat} {a:Fr} {ra:Act} {s:HS} {G:Ghost} {w:World} (hs:SRel G s w) (hf:FRel G n a ra):∀ {rs:List ResultVar} {K:List HV→Prop},resG c a s rs K→
  ∃ us xs,(rs.mapM (rdRes ra.tmps):Sem (List Value)).run c.P w = .ok us w∧relVs G xs us∧K xs
 |[],K,h=>⟨[],[],rfl,by simp [relVs],h⟩
 |.tmp t::l,K,⟨x,e,k⟩=>by
  obtain ⟨us,xs,h1,h2,h3⟩:=resG_ok hs hf k
  obtain ⟨_,hr⟩:=hf.slots t _ _ e
  exact ⟨ra.tmps.getD t undef::us,_::xs,by simp only [List.mapM_cons,rdRes,Sem.run_bind,Sem.run_pure,Result.andThen_ok,h1],by rw [relVs_cons];exact ⟨_,_,rfl,hr,h2⟩,h3⟩
 |.cell p t::l,K,⟨r,off,e,k⟩=>by
  obtain ⟨_,hr⟩:=hf.slots p _ _ e
  have hr:rel G _ _:=hr
  obtain ⟨y,u,hy,hu,k⟩:=loadIs_ok hs hr k
  obtain ⟨us,xs,h1,h2,h3⟩:=resG_ok hs hf k
  have hy:(rdRes ra.tmps (.cell p t)).run c.P w = .ok u w:=hy
  exact ⟨u::us,y::xs,by simp only [List.mapM_cons,Sem.run_bind,hy,Sem.run_pure,Result.andThen_ok,h1],by rw [relVs_cons];exact ⟨_,_,rfl,hu,h2⟩,h3⟩
def tupOf:List HV→HV
 |[x]=>x
 |l=>.tup l
structure BodyR (c:Cx) (rs:List ResultVar) (R:HEnd→HS→Prop) (e:HExit) (a:Fr) (s:HS):Prop where
 out:match e with
  |.pan x=>R (.pan x) s
  |.exit _=>False
  |_=>resG c a s rs fun xs=>Fin (R (.ret (tupOf xs)) s)
section
variable {c:Cx} {rs:List ResultVar} {R:HEnd→HS→Prop} {a:Fr} {s:HS}
theorem BodyR.ret (h:ResG c a s rs fun xs=>Fin (R (.ret (tupOf xs)) s)):BodyR c rs R .ret a s:=⟨h.out⟩
theorem BodyR.go (h:BodyR c rs R .ret a s):BodyR c rs R .normal a s:=⟨h.out⟩
theorem BodyR.pan {v:HV} (h:Fin (R (.pan v) s)):BodyR c rs R (.pan v) a s:=⟨h.out⟩
theorem BodyR.id {e:HExit} (h:BodyR c rs R e a s):BodyR c rs R e a s:=h
end
theorem sem_calls' (c:Cx) {f:FuncId} {fn:Func} {code:Code} {args:List HV} {a:Fr} {s:HS} {R:HEnd→HS→Prop} (hf:c.P.funcs[f]? = some fn) (hb:fn.body=some code) (hn:Nat.ble args.length fn.ntmps=true) (ha:initFr args 0=a)
  (h:SemWp c.P fn.ntmps code (BodyR c fn.results.toList R) a s):HCalls c.P f args s R:=
 HCalls.of_df fun G w vs hdf hs hargs=>by
  subst ha
  have hl:=relVs_length hargs
  have hn:=Nat.le_of_ble_eq_true hn
  have hsz:vs.size=args.length:=by simpa using hl
  refine calls_of_wpB hf hb (wpB_mono (h.out G w _ hs ⟨by simp;omega,hdf.symm,fun t g x e=>?_⟩) fun e ra' w' ⟨he,a',s',G',q,hr,hf',hp⟩=>?_)
  ·obtain ⟨rfl,i,rfl,hx⟩:=initFr_get args 0 t g x e
   obtain ⟨u,hu,hr⟩:=relVs_get hargs i x hx
   have hi:i < args.length:=(List.getElem?_eq_some_iff.1 hx).1
   refine ⟨by omega,?_⟩
   have:(vs ++ Array.replicate (fn.ntmps - vs.size) undef).getD (0+i) undef=u:=by
    rw [Nat.zero_add,Array.getD_eq_getD_getElem?,Array.getElem?_append_left (by omega)]
    have:vs[i]? = some u:=by simpa using hu
    rw [this];rfl
   rw [this]
   exact hr
  ·have fin:resG c a' s' fn.results.toList (fun xs=>Fin (R (.ret (tupOf xs)) s'))→ra'.defers=[]∧∃ v,(results fn ra'.tmps).run c.P w' = .ok v w'∧∃ he s' G',R he s'∧endRel G' he (.returned v)∧Post s G w s' G' w':=by
    intro hm
    refine ⟨hf'.defers.trans (hp.ext.le.df.trans hdf),?_⟩
    obtain ⟨us,xs,h1,h2,h3⟩:=resG_ok hp.srel hf' hm
    have hus:=relVs_length h2
    have hrun:(fn.results.mapM (rdRes ra'.tmps):Sem (Array Value)).run c.P w' = .ok us.toArray w':=by
     rw [←Array.toArray_toList (xs:=fn.results),List.mapM_toArray,Sem.run_map]
     rw [h1];rfl
    have hres:(results fn ra'.tmps).run c.P w' = .ok (if h:us.toArray.size=1 then us.toArray[0] else .tuple us.toArray) w':=by
     rw [results_eq,Sem.run_bind,hrun]
     rfl
    match xs,h3,h2,hus with
    |[x],h3,h2,hus=>
     simp only [relVs_cons] at h2
     obtain ⟨u,us',rfl,hr1,hr2⟩:=h2
     simp only [relVs] at hr2
     subst hr2
     exact ⟨u,hres,_,s',G',h3.out,hr1,hp⟩
    |[],h3,h2,hus=>
     simp only [relVs] at h2
     subst h2
     exact ⟨_,hres,_,s',G',h3.out,(show rel G' (.tup []) (.tuple [].toArray) from tup_rel (by simp [relVs])),hp⟩
    |x::y::l,h3,h2,hus=>
     have hne:¬ us.toArray.size=1:=by simp at hus ⊢;omega
     rw [dif_neg hne] at hres
     exact ⟨_,hres,_,s',G',h3.out,tup_rel h2,hp⟩
   have q:=q.out
   cases he with
   |normal=>cases e<;>first|exact hr.elim|exact fin q
   |ret=>cases e<;>first|exact hr.elim|exact fin q
   |exit i=>exact q.elim
   |pan x=>
    cases e<;>first|exact hr.elim|skip
    exact ⟨hf'.defers.trans (hp.ext.le.df.trans hdf),.pan x,s',G',q,hr,hp⟩
theorem newB {e:Bool→Prop} {F:Bool→Prop} (h:∀ b,e b→F b):∀ b,e b→F b:=h
/-- What tells less, part by part. -/
inductive WeakerC:List HV→List HV→Prop
 |nil:WeakerC [] []
 |cons {x y:HV} {l m:List HV} (h:Weaker x y) (hy:y.kd = .one) (k:WeakerC l m):WeakerC (x::l) (y::m)
theorem WeakerC.rel {l m:List HV} (h:WeakerC l m) {G:Ghost} : ∀ {us:List Value},relCs G l us→relCs G m us:=by
 induction h with
 |nil=>exact fun h=>h
 |cons h hy _ ih=>
  intro us hu
  simp only [relCs] at hu ⊢
  obtain ⟨u,us',rfl,⟨h1,h2⟩,h3⟩:=hu
  have:=leaf_of (h G u (rel_leaf h2 h1)) hy
  exact ⟨u,us',rfl,⟨hy,this.1⟩,ih h3⟩
theorem Weaker.agg {l m:List HV} (h:WeakerC l m):Weaker (.agg l) (.agg m):=fun G u hu=>by
 obtain ⟨us,rfl,hv⟩:=rel_agg_inv4 hu
 have:=rel_agg (h.rel hv)
 simpa using this
theorem Weaker.eq {x y:HV} (h:x=y):Weaker x y:=h ▸ .refl x
theorem Weaker.full (sz:Nat) (l:List HV):Weaker (.list .full sz l) (.list .no sz l):=Weaker.tok _ _ _
/-- The end: what is told, weakened. -/
theorem Fin.weak {x y:HV} (h:Weaker y x):Fin (∃ z,HEnd.ret y = .ret z∧Weaker z x):=⟨y,rfl,h⟩
theorem Fin.weakS {x y:HV} {s s2:HS} (h:Weaker y x) (k:Subp s2 s):Fin (∃ z,HEnd.ret y = .ret z∧Weaker z x∧Subp s2 s):=⟨y,rfl,h,k⟩
theorem grow_split {ys:List HV} {X Y:Prop} (h1:ys=[]→X) (h2:ys≠[]→Y):match (generalizing:=false) ys with
  |[]=>X
  |_=>Y:=by
 cases ys with
 |nil=>exact h1 rfl
 |cons y l=>exact h2 (by simp)
section
variable {c:Cx} {n:Nat} {g:Tag} {dst:Option Tmp} {K:Fr→HS→Prop} {Q:HExit→Fr→HS→Prop} {a:Fr} {s:HS}
theorem Stp.isSumU {x:Int} (k:Stp c n g dst K Q (.pure (.v (.int .u64 (IntKind.u64.wrap x)))) a s):Stp c n g dst K Q (.pure (.v (.int .u64 (IntKind.u64.wrap x)))) a s:=k
theorem Stp.sumU {x:Int} (k:Stp c n g dst K Q (.pure (.v (.int .u64 x))) a s) (hw:0≤x∧x≤18446744073709551615:=by omega):Stp c n g dst K Q (.pure (.v (.int .u64 (IntKind.u64.wrap x)))) a s:=by rw [IntWalk.u64_in x hw];exact k
theorem Stp.isSum3 {x:Int} (k:Stp c n g dst K Q (.pure (.v (.int .u32 (IntKind.u32.wrap x)))) a s):Stp c n g dst K Q (.pure (.v (.int .u32 (IntKind.u32.wrap x)))) a s:=k
theorem Stp.sum3 {x:Int} (k:Stp c n g dst K Q (.pure (.v (.int .u32 x))) a s) (hw:0≤x∧x≤4294967295:=by omega):Stp c n g dst K Q (.pure (.v (.int .u32 (IntKind.u32.wrap x)))) a s:=by rw [IntWalk.u32_in x hw];exact k
end
section
variable {c:Cx} {n:Nat} {t:HS} {g:Tag} {dst:Option Tmp} {K:Fr→Prop} {a:Fr}
theorem DStp.isSumU {x:Int} (k:DStp c n t g dst K (.pure (.v (.int .u64 (IntKind.u64.wrap x)))) a):DStp c n t g dst K (.pure (.v (.int .u64 (IntKind.u64.wrap x)))) a:=k
theorem DStp.sumU {x:Int} (k:DStp c n t g dst K (.pure (.v (.int .u64 x))) a) (hw:0≤x∧x≤18446744073709551615:=by omega):DStp c n t g dst K (.pure (.v (.int .u64 (IntKind.u64.wrap x)))) a:=by rw [IntWalk.u64_in x hw];exact k
theorem DStp.isSum3 {x:Int} (k:DStp c n t g dst K (.pure (.v (.int .u32 (IntKind.u32.wrap x)))) a):DStp c n t g dst K (.pure (.v (.int .u32 (IntKind.u32.wrap x)))) a:=k
theorem DStp.sum3 {x:Int} (k:DStp c n t g dst K (.pure (.v (.int .u32 x))) a) (hw:0≤x∧x≤4294967295:=by omega):DStp c n t g dst K (.pure (.v (.int .u32 (IntKind.u32.wrap x)))) a:=by rw [IntWalk.u32_in x hw];exact k
end
theorem TStp.upd {c:Cx} {n:Nat} {m t:HS} {dst:Option Tmp} {K:Fr→HS→Prop} {a:Fr} {r:Nat} {cs ys l:List HV} {off k:Nat} {t':TypeId} {x:HV} (m':HS) (hl:Nat.ble (off+k) cs.length=true) (e:cs.take off ++ ys ++ cs.drop (off+k)=l) (h:HsetIs (m ++ t) r (.cells l t') (m' ++ t)) (hk:PutD n dst .sure (fun a'=>K a' m') a x):TStp c n m t dst K (.eff fun L=>Upd cs off k ys fun l=>L x (hset (m ++ t) r (.cells l t'))) a:=
 TStp.eff m' ⟨Nat.le_of_ble_eq_true hl,rfl,by rw [e];exact h.eq⟩ hk
/-- What is told of an argument may be told of one of which more is known. -/
theorem Pur.arg {c:Cx} {f:FuncId} {x y z:HV} (h:Pur c f [x] z) (hw:Weaker y x):Pur c f [y] z:=
 ⟨⟨fun G w vs hs ha=>h.out.out G w vs hs (by
  simp only [relVs_cons] at ha ⊢
  obtain ⟨u,us,e,h1,h2⟩:=ha
  exact ⟨u,us,e,hw G u h1,h2⟩)⟩⟩
theorem Pur.args {c:Cx} {f:FuncId} {xs ys:List HV} {z:HV} (h:Pur c f xs z) (hw:WeakerL ys xs):Pur c f ys z:=
 ⟨⟨fun G w vs hs ha=>h.out.out G w vs hs (hw.relVs ha)⟩⟩
theorem Stp.rwB {c:Cx} {n:Nat} {g:Tag} {dst:Option Tmp} {K:Fr→HS→Prop} {Q:HExit→Fr→HS→Prop} {a:Fr} {s:HS} {b b':Bool} (e:b=b') (k:Stp c n g dst K Q (.pure (.v (.bool b'))) a s):Stp c n g dst K Q (.pure (.v (.bool b))) a s:=by subst e;exact k
theorem DStp.rwB {c:Cx} {n:Nat} {t:HS} {g:Tag} {dst:Option Tmp} {K:Fr→Prop} {a:Fr} {b b':Bool} (e:b=b') (k:DStp c n t g dst K (.pure (.v (.bool b'))) a):DStp c n t g dst K (.pure (.v (.bool b))) a:=by subst e;exact k
end
end Go.Proofs.Hk

set_option linter.unusedVariables false
namespace Go.Proofs.Hk
noncomputable section
open Go
/-! Less may be known of a state. -/
theorem SemWp.wk {P:Program} {n:Nat} {code:Code} {Q:HExit→Fr→HS→Prop} {a:Fr} {s s':HS} (hsr:∀ G w,SRel G s w→SRel G s' w) (hk:∀ r,r∈keys s'→r∈keys s) (h:SemWp P n code Q a s'):SemWp P n code Q a s:=
 ⟨fun G w ra hs hf=>wpB_mono (h.out G w ra (hsr G w hs) hf) fun _ _ _ ⟨he,a',s1,G',q,hr,hf',hp⟩=>by
  refine ⟨he,a',s1,G',q,hr,hf',hp.srel,?_,fun r hr=>?_⟩
  ·exact ⟨hp.ext.le,hp.ext.size,fun b hb hq=>hp.ext.blocks b hb (fun r e hk'=>hq r e (hk r hk')),fun r tp e hq=>hp.ext.tops r tp e (fun hk'=>hq (hk r hk')),hp.ext.lim,hp.ext.os,hp.ext.tape,hp.ext.output,fun r h0 hk'=>hp.ext.voids r h0 (fun h=>hk' (hk r h))⟩
  ·exact (hp.names r hr).imp (hk r) (fun h=>h)⟩
theorem SRel.wkCell {G:Ghost} {w:World} {r:Nat} {cs cs':List HV} {t:TypeId} {s:HS} (h:SRel G ((r,.cells cs t)::s) w) (hw:WeakerC cs cs'):SRel G ((r,.cells cs' t)::s) w:=by
 refine ⟨h.kw,h.keys,fun q x hx=>?_,h.fresh,h.role⟩
 rcases List.mem_cons.1 hx with e|hx
 ·cases e
  obtain ⟨b,vs,e1,ro,hh,hc,hK⟩:=h.holds r _ List.mem_cons_self
  exact ⟨b,vs,e1,ro,hh,hw.rel hc,hK⟩
 ·exact h.holds q x (List.mem_cons_of_mem _ hx)
theorem sem_wkCell (c:Cx) {n:Nat} {code:Code} {Q:HExit→Fr→HS→Prop} {a:Fr} {s s0:HS} (r:Nat) {cs:List HV} (cs':List HV) {t:TypeId} (hp:HPick s r (.cells cs t) s0) (hw:WeakerC cs cs') (h:SemWp c.P n code Q a ((r,.cells cs' t)::s0)):SemWp c.P n code Q a s:=
 SemWp.wk (fun G w hs=>(hs.permd hp.perm.symm).wkCell hw) (fun q hq=>by
  have e:keys ((r,Res.cells cs' t)::s0)=keys ((r,Res.cells cs t)::s0):=rfl
  rw [e] at hq
  obtain ⟨y,hy,rfl⟩:=List.mem_map.1 hq
  exact List.mem_map.2 ⟨y,hp.perm.mem_iff.1 hy,rfl⟩) h
/-- Less may be known of a value in a frame. -/
theorem sem_wkFr (c:Cx) {n:Nat} {code:Code} {Q:HExit→Fr→HS→Prop} {a:Fr} {s:HS} (t:Nat) {x:HV} (y:HV) (ha:a.get t=some (.sure,x)) (hw:Weaker x y) (h:SemWp c.P n code Q ((t,.sure,y)::a) s):SemWp c.P n code Q a s:=
 ⟨fun G w ra hs hf=>h.out G w ra hs ⟨hf.size,hf.defers,fun t' g z e=>by
  simp only [Fr.get] at e
  split at e
  ·rename_i ht
   have:=Nat.eq_of_beq_eq_true ht
   subst this
   cases e
   obtain ⟨h1,h2⟩:=hf.slots t _ _ ha
   exact ⟨h1,hw G _ h2⟩
  ·exact hf.slots t' g z e⟩⟩
end
end Go.Proofs.Hk

set_option linter.unusedSimpArgs false
set_option linter.unusedVariables false
namespace Go.Proofs.Hk
noncomputable section
open Go Go.Proofs
theorem Weaker.at {x y:HV} (h:Weaker x y) (hk:x.kd≠.tup) {G:Ghost} {cs:List Value} (hr:relC G x cs):y.kd≠.tup∧relC G y cs:=by
 cases hx:x.kd with
 |one=>
  obtain ⟨u,rfl,hu⟩:=relC_one hr hx
  obtain ⟨h1,h2⟩:=h G u (rel_leaf hr hx)
  rw [vkd_one hu] at h2
  exact ⟨by rw [h1,hu];simp,h2⟩
 |agg=>
  obtain ⟨h1,h2⟩:=h G (.agg cs.toArray) ⟨by rw [hx];rfl,by simpa [Value.cells] using hr⟩
  exact ⟨by rw [h1];simp [vkd],by simpa [Value.cells] using h2⟩
 |tup=>exact absurd hx hk
/-- Rows whose elements tell less. -/
inductive WeakerA:List HV→List HV→Prop
 |nil:WeakerA [] []
 |cons {x y:HV} {l m:List HV} (h:Weaker x y) (hx:x.kd≠.tup) (k:WeakerA l m):WeakerA (x::l) (y::m)
theorem WeakerA.len {l m:List HV} (h:WeakerA l m):l.length=m.length:=by
 induction h with
 |nil=>rfl
 |cons _ _ _ ih=>simp [ih]
theorem WeakerA.ats {l m:List HV} (h:WeakerA l m) {G:Ghost} {rd:Nat→Option Value} {sz:Nat} : ∀ {o:Nat},relAts G l rd o sz→relAts G m rd o sz:=by
 induction h with
 |nil=>exact fun h=>h
 |cons h hx _ ih=>
  intro o hr
  simp only [relAts] at hr ⊢
  obtain ⟨⟨cs,h1,h2,h3,h4⟩,h5⟩:=hr
  obtain ⟨k1,k2⟩:=h.at h2 h4
  exact ⟨⟨cs,h1,k1,h3,k2⟩,ih h5⟩
theorem Weaker.list {t:Tok} {sz:Nat} {l m:List HV} (h:WeakerA l m):Weaker (.list t sz l) (.list .no sz m):=fun G u hu=>by
 have hl:=h.len
 rcases (rel_list hu).imp id or_comm.1 with ⟨rfl,rfl,_⟩|⟨rfl,_,a,rfl⟩|⟨b,o,c,rfl,h1,h2,_⟩
 ·cases h;exact list_rel_nil trivial
 ·cases h;exact list_rel_odd a (fun _ _=>by simp)
 ·rw [hl] at h1 ⊢
  exact list_rel h1 (h.ats h2) trivial
end
end Go.Proofs.Hk

namespace Go.Proofs.Hk
noncomputable section
open Go
/-- A row that whoever may append to gets an owner. -/
theorem sem_full_own (c:Cx) {n:Nat} {code:Code} {Q:HExit→Fr→HS→Prop} {a:Fr} {s:HS} {l:List HV} (t sz:Nat) (hl:l≠[]) (ha:a.get t=some (.sure,.list .full sz l)) (h:∀ r,r∉keys s→SemWp c.P n code Q ((t,.sure,.list (.own r 0) sz l)::a) ((r,.tok l.length)::s)):SemWp c.P n code Q a s:=
 ⟨fun G w ra hs hf=>by
  let G':Ghost:={ G with top:=fun q=>if q=G.lim then some ⟨l.length,0,0,0⟩ else G.top q,lim:=G.lim+1}
  have le:G.Le G':=⟨fun _ _ _ e=>e,fun _ _ e=>e,fun q tp e=>by
   have:=hs.lt_top e
   simp only [G']
   rw [if_neg (by omega)]
   exact ⟨tp,e,Nat.le_refl _,fun _=>rfl⟩,rfl⟩
  have post:Post s G w ((G.lim,.tok l.length)::s) G' w:=by
   refine ⟨⟨hs.kw,?_,fun r x hx=>?_,fun r hr=>?_,fun b r e=>?_⟩,⟨le,Nat.le_refl _,fun _ _ _=>⟨rfl,rfl,fun _=>rfl⟩,fun r tp e _=>?_,by simp [G'],rfl,rfl,rfl,fun r h0 _ h1 h2 h3=>⟨h1,by simp only [G'];rw [if_neg (by omega)];exact h2,h3⟩⟩,fun r hr=>?_⟩
   ·simp only [keys,List.map_cons,List.nodup_cons]
    exact ⟨fun hm=>by have:=hs.lt_key hm;omega,hs.keys⟩
   ·rcases List.mem_cons.1 hx with hx|hx
    ·cases hx
     exact ⟨⟨l.length,0,0,0⟩,by simp [G'],rfl,fun h=>by simp at h⟩
    ·exact (hs.holds r x hx).agree hs le (fun b _=>⟨rfl,rfl,fun _=>rfl⟩) (fun q tp e=>by
      have:=hs.lt_top e
      simp only [G']
      rw [if_neg (by omega)];exact e) (fun r h0 h1 h2 h3=>⟨by simp only [G'];omega,h1,by simp only [G'];rw [if_neg (by omega)];exact h2,h3⟩)
   ·simp only [G'] at hr ⊢
    rw [if_neg (by omega)]
    exact hs.fresh r (by omega)
   ·have:=hs.role b r e
    simp only [G'];omega
   ·have:=hs.lt_top e
    simp only [G']
    rw [if_neg (by omega)];exact e
   ·simp only [keys,List.map_cons,List.mem_cons] at hr
    rcases hr with rfl|hr
    ·exact .inr (Nat.le_refl _)
    ·exact .inl hr
  obtain ⟨h1,h2⟩:=hf.slots t _ _ ha
  have hw:=h G.lim (fun hm=>by have:=hs.lt_key hm;omega)
  refine hw.lift hs post ⟨hf.size,hf.defers.trans le.df.symm,fun t' g x e=>?_⟩
  simp only [Fr.get] at e
  split at e
  ·rename_i ht
   have:=Nat.eq_of_beq_eq_true ht
   subst this
   cases e
   refine ⟨h1,?_⟩
   obtain ⟨k,hr⟩:=h2
   refine ⟨k,?_⟩
   have hr:=relC.mono le _ _ hr
   simp only [relC] at hr ⊢
   rcases hr with ⟨e,_⟩|⟨b,o,c,e1,e2,e3,e4⟩|⟨e,_⟩
   ·exact absurd e hl
   ·refine .inr (.inl ⟨b,o,c,e1,e2,e3,⟨l.length,0,0,0⟩,by simp [G'],by show 0+l.length≤l.length;omega,fun _=>.inr ⟨rfl,e4⟩⟩)
   ·exact absurd e hl
  ·exact ⟨(hf.slots t' g x e).1,(hf.slots t' g x e).2.mono le⟩⟩
/-- A loop whose state is told by four things. -/
theorem sem_loop4 (c:Cx) {n:Nat} {b:Code} {Q:HExit→Fr→HS→Prop} {a:Fr} {s:HS} {β γ δ:Type} (J:Nat→β→γ→δ→Prop) (F:Nat→β→γ→δ→Fr) (S:Nat→β→γ→δ→HS) (μ:Nat→Nat) (i0:Nat) (b0:β) (c0:γ) (d0:δ) (hJ:J i0 b0 c0 d0) (hF:(F i0 b0 c0 d0).Sub a) (hS:Subp (S i0 b0 c0 d0) s)
  (round:∀ i x y z,J i x y z→SemWp c.P n b (hround (fun a s=>∃ i' x' y' z',J i' x' y' z'∧μ i' < μ i∧(F i' x' y' z').Sub a∧Subp (S i' x' y' z') s) Q) (F i x y z) (S i x y z)):SemWp c.P n (.loop b) Q a s:=
 sem_loop c (ι:=Nat × β × γ × δ) (fun q=>J q.1 q.2.1 q.2.2.1 q.2.2.2) (fun q=>F q.1 q.2.1 q.2.2.1 q.2.2.2) (fun q=>S q.1 q.2.1 q.2.2.1 q.2.2.2) (fun q=>μ q.1) (i0,b0,c0,d0) hJ hF hS fun q hq=>(round q.1 q.2.1 q.2.2.1 q.2.2.2 hq).mono fun e a s q=>by
  cases e with
  |normal=>
   obtain ⟨⟨i',x',y',z',h⟩⟩:=q
   exact ⟨⟨(i',x',y',z'),h⟩⟩
  |exit j=>exact q
  |ret=>exact q
  |pan x=>exact q
/-- A scope that is left by no jump. -/
theorem sem_scope {c:Cx} {n:Nat} {b:Code} {Q:HExit→Fr→HS→Prop} {a:Fr} {s:HS} (h:SemWp c.P n b Q a s):SemWp c.P n (.scope b) Q a s:=
 ⟨fun G w ra hs hf=>wpB_scope (wp_mono (h.out G w ra hs hf).wp fun e ra' w' ⟨he,a',s',G',q,hr,k⟩=>by
  cases e with
  |goto l=>cases he<;>exact hr.elim
  |_=>exact ⟨he,a',s',G',q,hr,k⟩)⟩
/-- A drawn region's append to a row of one's own. -/
theorem TStp.app {c:Cx} {n:Nat} {m t:HS} {dst:Option Tmp} {K:Fr→HS→Prop} {a:Fr} {i:Nat} {y:Res} {φ1 φ2:Prop} {x:HV} (m':HS) (h:HsetIs (m ++ t) i y (m' ++ t)) (hk:Side φ1 (Side φ2 (PutD n dst .sure (fun a'=>K a' m') a x))):TStp c n m t dst K (.eff fun L=>Side φ1 (Side φ2 (L x (hset (m ++ t) i y)))) a:=
 TStp.eff m' ⟨hk.1,hk.2.1,rfl,h.eq⟩ hk.2.2
end
end Go.Proofs.Hk
