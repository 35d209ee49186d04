import Derived.Test.YtbdpdhnglnhlhaaGreatDoorG1
import Derived.Test.YtbdpdhnglnhlhaaGreatDoorE12
set_option linter.unusedSimpArgs false
set_option linter.unusedVariables false
set_option linter.unusedVariables false
set_option maxRecDepth 4000
set_option linter.unusedSimpArgs false
namespace Go.Proofs.Hk
open Go Go.Proofs
/-- slices.Grow of nil: an empty row of one's own. -/
theorem grow_new (n:Nat) (h0:0 < n) (hn:n≤1000000) (k:IntKind) (hk:k = .i64) (r:Nat):HCalls cx.P 67 [.v (.slice none 0 0),.v (.int k (.ofNat n))] [(r,.void)] fun e st=>e = .ret (.list (.own r 0) 1 [])∧st=[(r,.tok 0)]:=by
 subst hk
 refine ⟨fun G w vs hs ha=>?_⟩
 have hvs:vs = #[.slice none 0 0,.int .i64 n]:=by
  simp only [relVs_cons,relVs] at ha
  obtain ⟨u1,l1,e1,h1,u2,l2,e2,h2,e3⟩:=ha
  have a1:=rel_v_eq h1
  have a2:=rel_v_eq h2
  subst a1 a2 e3 e2
  rw [←Array.toArray_toList (xs:=vs),e1]
  rfl
 subst hvs
 obtain ⟨a0,a1,a2,a3⟩:=hs.holds r .void List.mem_cons_self
 refine (grow_calls n h0 hn w).mono fun e w' ⟨he,hw⟩=>?_
 subst he hw
 have post:=post_grown (w':=w.drew) (t:=9) (r:=r) (n:=0) (e:=0) (ce:=grownCap w n 0 9) (lim:=G.lim) (vs:=Builtin.zeroCells #[.string ⟨#[]⟩] n ++ Builtin.zeroCells #[.string ⟨#[]⟩] (grownCap w n 0 9 - n)) hs rfl rfl rfl rfl (s':=[(r,.tok 0)])
  (.inr ⟨by simp [keys],rfl,(hset_head _ _ _ _).symm,fun tp e=>by rw [a2] at e;cases e⟩) (by
   have:=grownCap_ge w n 0 9
   simp only [Array.size_append,zeroCells_size]
   simp
   omega)
 refine ⟨.ret (.list (.own r 0) 1 []),[(r,.tok 0)],_,⟨rfl,rfl⟩,?_,post⟩
 refine list_rel (by simp) (by simp only [relAts]) ?_
 exact ⟨⟨0,w.heap.size,0,_⟩,by simp only [Ghost.grown,if_true];rfl,by simp,fun _=>.inl ⟨rfl,by simp,by simp⟩⟩
theorem grow_nil:HCalls cx.P 67 [.v (.slice none 0 0),.v (.int .i64 0)] [] fun e st=>e = .ret (.v (.slice none 0 0))∧st=[]:=by
 refine ⟨fun G w vs hs ha=>?_⟩
 have hvs:vs = #[.slice none 0 0,.int .i64 0]:=by
  simp only [relVs_cons,relVs] at ha
  obtain ⟨u1,l1,e1,h1,u2,l2,e2,h2,e3⟩:=ha
  have a1:=rel_v_eq h1
  have a2:=rel_v_eq h2
  subst a1 a2 e3 e2
  rw [←Array.toArray_toList (xs:=vs),e1]
 subst hvs
 refine (grow_calls0 w).mono fun e w' ⟨he,hw⟩=>?_
 subst he hw
 exact ⟨_,[],G,⟨rfl,rfl⟩,rel_v G,.refl hs⟩
def isI64:IntKind→Bool
 |.i64=>true
 |_=>false
def libGrow (xs:List HV):Option LibR:=
 match xs with
 |[.v (.slice none 0 0),.v (.int k (.ofNat n))]=>match isI64 k && Nat.ble 1 n && Nat.ble n 1000000 with
  |true=>some (.new (fun r=>.list (.own r 0) 1 []) (fun _=>.tok 0))
  |false=>match isI64 k && Nat.beq n 0 with
   |true=>some (.val (.v (.slice none 0 0)))
   |false=>none
 |_=>none
noncomputable section
def cxR:Cx:={ cx with rows:=fun t=>Nat.beq t 23}
theorem Pur.lib {c:Cx} {f:FuncId} {xs:List HV} {x:HV} (h:Pur c f xs x):HCalls c.P f xs [] fun e st=>e = .ret x∧st=[]:=h.calls []
theorem isI64_eq {k:IntKind} (h:isI64 k=true):k = .i64:=by cases k<;>first|rfl|cases h
/-- One function's contracts. -/
def LibF (c:Cx) (f:FuncId) (q:List HV→Option LibR):Prop:=
 ∀ xs,(∀ x,q xs=some (.val x)→HCalls c.P f xs [] fun e st=>e = .ret x∧st=[])∧
  (∀ X Y,q xs=some (.new X Y)→∀ r,HCalls c.P f xs [(r,.void)] fun e st=>e = .ret (X r)∧st=[(r,Y r)])∧
  (∀ r k,q xs=some (.look r k)→∀ y x,k y=some x→HCalls c.P f xs [(r,y)] fun e st=>e = .ret x∧st=[(r,y)])∧
  (∀ r k,q xs=some (.turn r k)→∀ y z,k y=some z→HCalls c.P f xs [(r,y)] fun e st=>e = .ret (.tup [])∧st=[(r,z)])∧
  (∀ g,q xs=some (.st g)→∀ s x s',g s=some (x,s')→HCalls c.P f xs s fun e st=>e = .ret x∧st=s')
theorem libGrow_ok:LibF cx 67 libGrow:=by
 intro xs
 refine ⟨fun x h=>?_,fun X Y h r=>?_,fun r k h=>?_,fun r k h=>?_,fun g h=>?_⟩
 ·unfold libGrow at h
  split at h
  ·rename_i k n
   split at h
   ·cases h
   ·split at h
    ·rename_i hc
     simp only [Bool.and_eq_true] at hc
     have h1:=isI64_eq hc.1
     have h2:=Nat.eq_of_beq_eq_true hc.2
     subst h1 h2
     cases h
     exact grow_nil
    ·cases h
  ·cases h
 ·unfold libGrow at h
  split at h
  ·rename_i k n
   split at h
   ·rename_i hc
    simp only [Bool.and_eq_true] at hc
    cases h
    exact grow_new n (Nat.le_of_ble_eq_true hc.1.2) (Nat.le_of_ble_eq_true hc.2) k (isI64_eq hc.1.1) r
   ·split at h<;>cases h
  ·cases h
 all_goals
  unfold libGrow at h
  split at h
  ·split at h
   ·cases h
   ·split at h<;>cases h
  ·cases h
theorem LibOk.ite {c:Cx} {g:FuncId} {q:List HV→Option LibR} {lib:FuncId→List HV→Option LibR} (h1:LibF c g q) (h2:LibOk c lib):LibOk c (fun f xs=>match Nat.beq f g with|true=>q xs|false=>lib f xs):=by
 intro f xs
 simp only
 cases h:Nat.beq f g with
 |true=>have:=Nat.eq_of_beq_eq_true h;subst this;exact h1 xs
 |false=>exact h2 f xs
theorem LibOk.none (c:Cx):LibOk c (fun _ _=>none):=fun f xs=>⟨fun x h=>(by cases h),fun X Y h=>(by cases h),fun _ _ h=>(by cases h),fun _ _ h=>(by cases h),fun _ h=>(by cases h)⟩
def fTok {β:Sort _} (t:Tk) (k:HV→β):β:=forceI t.kind fun a=>forceL t.text.data.toList fun b=>forceN t.pos fun p=>k (.agg [.v (.int .i64 a),.v (.string ⟨⟨b⟩⟩),.v (.int .i64 (.ofNat p))])
theorem fTok_eq {β:Sort _} (t:Tk) (k:HV→β):fTok t k=k (tokD t):=by
 rw [fTok,forceI_eq,forceL_eq,forceN_eq];rfl
def fToks {β:Sort _} : List Tk→(List HV→β)→β
 |[],k=>k []
 |t::l,k=>fTok t fun x=>fToks l fun xs=>k (x::xs)
theorem fToks_eq {β:Sort _} : ∀ (l:List Tk) (k:List HV→β),fToks l k=k (l.map tokD)
 |[],_=>rfl
 |t::l,k=>by rw [fToks,fTok_eq,fToks_eq l];rfl
def fLex (r:Except (Int × Nat) (List Tk)):Option LibR:=
 match r with
 |.ok l=>fToks l fun l=>some (.val (.tup [.list .no 3 l,ii 0,ii 0]))
 |.error e=>forceI e.1 fun c=>forceN e.2 fun p=>some (.val (.tup [.list .no 3 [],.v (.int .i64 c),.v (.int .i64 (.ofNat p))]))
theorem fLex_eq (r:Except (Int × Nat) (List Tk)):fLex r=some (.val (lexV r)):=by
 cases r with
 |ok l=>simp only [fLex,fToks_eq,lexV]
 |error e=>obtain ⟨c,p⟩:=e;simp only [fLex,forceI_eq,forceN_eq,lexV];rfl
def libLex (xs:List HV):Option LibR:=
 match xs with
 |[.v (.string s)]=>fLex (lexRK s.data.toList)
 |_=>none
theorem libLex_ok:LibF cx 13 libLex:=by
 intro xs
 refine ⟨fun x h=>?_,fun X Y h r=>?_,fun r k h=>?_,fun r k h=>?_,fun g h=>?_⟩
 ·unfold libLex at h
  split at h
  ·rename_i s
   rw [fLex_eq,←lexRK_eq] at h
   cases h
   exact (Lex_spec s).lib
  ·cases h
 all_goals
  unfold libLex at h
  split at h
  ·rw [fLex_eq] at h;cases h
  ·cases h
def lib0 (f:FuncId) (xs:List HV):Option LibR:=
 match Nat.beq f 67 with
 |true=>libGrow xs
 |false=>none
theorem lib0_ok:LibOk cx lib0:=LibOk.ite libGrow_ok (LibOk.none cx)
theorem lib0_okR:LibOk cxR lib0:=lib0_ok
/-- The answer is true. -/
def okRs:Rs→Bool
 |.ret (.v (.bool true)) _ _=>true
 |_=>false
theorem okRs_ret {r:Rs} (h:okRs r=true):∃ s j,r = .ret (.v (.bool true)) s j:=by
 unfold okRs at h
 split at h
 ·exact ⟨_,_,rfl⟩
 ·cases h
theorem run_true {c:Cx} {lib:FuncId→List HV→Option LibR} (hlib:LibOk c lib) {m K d:Nat} {f:FuncId} {xs:List HV} (h:okRs (run c lib m (.call f xs) [] 0 K d)=true) (hxs:namelessL xs=true):Pur c f xs (.v (.bool true)):=by
 obtain ⟨s,j,e⟩:=okRs_ret h
 exact run_pur hlib m K d e hxs rfl
abbrev KK:Nat:=2 ^ (24 * 31)
theorem awakeR:Pur cxR 8 [] (.v (.bool true)):=run_true lib0_okR (m:=100000) (K:=KK) (d:=30) (by kernel_rfl) rfl
theorem awake_pur:Pur cx 8 [] (.v (.bool true)):=⟨awakeR.out⟩
def libAwake (xs:List HV):Option LibR:=
 match xs with
 |[]=>some (.val (.v (.bool true)))
 |_=>none
theorem libAwake_ok:LibF cx 8 libAwake:=by
 intro xs
 refine ⟨fun x h=>?_,fun X Y h r=>?_,fun r k h=>?_,fun r k h=>?_,fun g h=>?_⟩
 ·unfold libAwake at h
  split at h
  ·cases h;exact awake_pur.lib
  ·cases h
 all_goals
  unfold libAwake at h
  split at h<;>cases h
def lib1 (f:FuncId) (xs:List HV):Option LibR:=
 match Nat.beq f 13 with
 |true=>libLex xs
 |false=>match Nat.beq f 8 with
  |true=>libAwake xs
  |false=>match Nat.beq f 67 with
   |true=>libGrow xs
   |false=>none
theorem lib1_ok:LibOk cx lib1:=LibOk.ite libLex_ok (LibOk.ite libAwake_ok (LibOk.ite libGrow_ok (LibOk.none cx)))
theorem lib1_okR:LibOk cxR lib1:=lib1_ok
def ci (x y:Nat):Rs:=run cxR lib1 100000 (.call 3 [.v (.int .u8 (.ofNat x)),.v (.int .u8 (.ofNat y))]) [] 0 KK 30
end
end Go.Proofs.Hk

set_option linter.unusedVariables false
set_option maxRecDepth 4000
set_option linter.unusedSimpArgs false
namespace Go.Proofs.Hk
open Go Go.Proofs
noncomputable section
def hdC:Code→Code
 |.seq x _=>x
 |x=>x
def tlC:Code→Code
 |.seq _ y=>y
 |x=>x
def dropC:Nat→Code→Code
 |0,x=>x
 |n+1,x=>dropC n (tlC x)
def bodyOf (fn:Func):Code:=fn.body.getD .skip
def cBody:Code:=bodyOf Tryz.f3
def cRest (i:Nat):Code:=dropC i cBody
def cAt (i:Nat):Code:=hdC (cRest i)
def frK (k:Nat) (y:Int):Fr:=[(5,.sure,.v (.int .i64 (.ofNat k))),(1,.sure,.v (.int .u8 y))]
def pcsA:List Code:=[cAt 2,cAt 3,cAt 4]
def pcsB:List Code:=[cAt 5,cAt 6]
end
end Go.Proofs.Hk

set_option linter.unusedSimpArgs false
set_option linter.unusedVariables false
set_option maxRecDepth 4000
set_option maxRecDepth 4000
namespace Go.Proofs.Hk
open Go Go.Proofs
theorem u8_is {a:Int} (w:(Lit.int .u8 a).wf=true):0≤a∧a≤255:=by simpa [Lit.wf,IntKind.min,IntKind.max,IntKind.signed,IntKind.bits] using w
theorem tmod_is {a:Int} (h:0≤a) (k:Nat) (hk:0 < k):∃ r:Nat,r < k∧a.tmod (k:Int)=r:=by
 refine ⟨(a.tmod k).toNat,?_,?_⟩<;>rw [Int.tmod_eq_emod_of_nonneg h]<;>have h1:=Int.emod_nonneg a (b:=(k:Int)) (by omega)<;>have h2:=Int.emod_lt_of_pos a (b:=(k:Int)) (by omega)<;>omega
noncomputable abbrev cN:Nat:=Tryz.f3.ntmps
theorem preC (x y:Int) (h0:0≤x∧x≤255) (i k:Nat) (hi:i < 12) (hk:k=i+1) (hx:x.tmod 12=(i:Int)) (Q) (s:HS) (rest:Code) (h:SemWp cx.P cN rest Q (frK k y) s):SemWp cx.P cN (.seq (cAt 0) (.seq (cAt 1) rest)) Q (initFr [.v (.int .u8 x),.v (.int .u8 y)] 0) s:=by
 have e:(1:Int)+i=((k:Nat):Int):=by omega
 have h:SemWp cx.P cN rest Q [(5,.sure,ii ((k:Nat):Int)),(1,.sure,.v (.int .u8 y))] s:=h
 rw [←e] at h
 clear e
 repeat' first|refine Ops.tag rfl ?_|((with_reducible first|refine OpsT.yes ?_|refine OpsT.yes' ?_);(conv=>arg 7;whnf))|(with_reducible first|refine OpsT.andT ?_|refine OpsT.andF ?_|refine OpsT.no ?_|refine OpsT.no' ?_)|(refine OpsT.go ?_;(conv=>arg 7;whnf))|(with_reducible first|refine Stp.orF ?_|refine Stp.orT ?_|refine Stp.andT ?_|refine Stp.andF ?_|refine Stp.notT ?_|refine Stp.notF ?_|refine Stp.andT2 ?_|refine Stp.orF2 ?_)|((with_reducible refine Stp.isSum ?_);refine Stp.sum ?_)|((with_reducible refine Stp.isSumU ?_);refine Stp.sumU ?_)|((with_reducible refine Stp.isSum3 ?_);refine Stp.sum3 ?_)|((with_reducible refine Stp.isDec ?_);first|refine Stp.decT ?_|refine Stp.decF ?_)|((with_reducible refine Stp.isEq ?_);first|refine Stp.eqT ?_|refine Stp.eqF ?_)|((with_reducible refine Stp.isNe ?_);first|refine Stp.neT ?_|refine Stp.neF ?_)|refine Stp.pure rfl ?_|((with_reducible refine PutK.isSet ?_);refine PutK.set (by repeat first|exact HsetIs.hit|apply HsetIs.miss (by first|assumption|(apply Ne.symm;assumption)|omega)) ?_)|refine PutK.mk' rfl ?_|refine Ops.nil ?_|(refine DOps.cons rfl rfl ?_;(conv=>arg 7;whnf))|(with_reducible first|refine DStp.orF ?_|refine DStp.orT ?_|refine DStp.andT ?_|refine DStp.andF ?_|refine DStp.notT ?_|refine DStp.notF ?_|refine DStp.andT2 ?_|refine DStp.orF2 ?_)|((with_reducible refine DStp.isSum ?_);refine DStp.sum ?_)|((with_reducible refine DStp.isSumU ?_);refine DStp.sumU ?_)|((with_reducible refine DStp.isSum3 ?_);refine DStp.sum3 ?_)|((with_reducible refine DStp.isDec ?_);first|refine DStp.decT ?_|refine DStp.decF ?_)|((with_reducible refine DStp.isEq ?_);first|refine DStp.eqT ?_|refine DStp.eqF ?_)|((with_reducible refine DStp.isNe ?_);first|refine DStp.neT ?_|refine DStp.neF ?_)|refine DStp.pure rfl ?_|refine DStp.dead rfl ?_|refine PutD.mk' rfl ?_|refine DOps.nil rfl ?_|((with_reducible refine Look.id ?_);refine Look.auto ?_ (by repeat first|exact HGet.hit|apply HGet.miss (by first|assumption|(apply Ne.symm;assumption)|omega));try (conv=>arg 7;whnf))|((with_reducible refine Side.id ?_);first|refine Side.auto ?_)|((with_reducible refine Br.id ?_);first|(with_reducible first|refine br_true rfl ?_|refine br_false rfl ?_)|refine br_true (by with_reducible assumption) ?_|refine br_false (by with_reducible assumption) ?_|refine br_dec_t (by with_reducible assumption) ?_|refine br_dec_f (by with_reducible assumption) ?_|refine br_beq_t (by with_reducible assumption) ?_|refine br_beq_f (by with_reducible assumption) ?_|refine br_bne_t (by with_reducible assumption) ?_|refine br_bne_f (by with_reducible assumption) ?_|refine br_true rfl ?_|refine br_false rfl ?_|refine br_dec (fun _=>?_) (fun _=>?_)|refine br_beq (fun _=>?_) (fun _=>?_)|refine br_bne (fun _=>?_) (fun _=>?_)|refine br_split (fun _=>?_) (fun _=>?_))|((with_reducible refine SemWp.id ?_);first|refine sem_seq ?_|refine sem_region rfl ?_|refine sem_cond rfl ?_|refine sem_block ?_|refine sem_exit ?_|refine sem_ret ?_|refine sem_skip ?_|refine sem_label ?_|refine sem_draw ?_|refine sem_scope ?_)|((with_reducible refine qThen.id ?_);first|refine qThen.go ?_|refine qThen.ret ?_|refine qThen.exit ?_|refine qThen.pan ?_)|((with_reducible refine hinBlock.id ?_);first|refine hinBlock.go ?_|refine hinBlock.ret ?_|refine hinBlock.pan ?_|refine hinBlock.here rfl ?_|refine hinBlock.on rfl ?_)|((with_reducible refine hround.id ?_);first|refine hround.go ?_|refine hround.ret ?_|refine hround.exit ?_|refine hround.pan ?_)|((with_reducible refine bodyQ.id ?_);first|refine bodyQ.ret rfl ?_|refine bodyQ.ret2 rfl ?_|refine bodyQ.ret0 rfl ?_|refine bodyQ.go ?_|refine bodyQ.pan ?_)|refine Stp.valS ?_|refine Stp.valSC ?_|refine Stp.look ?_|refine Stp.call ?_|refine Stp.callC ?_|refine Stp.eff ?_|refine Stp.effC ?_|refine Stp.pan ?_|refine Stp.panC ?_|refine DStp.valS ?_|refine DStp.valSC ?_|refine DStp.look ?_|refine DStp.call ?_|refine DStp.callC ?_|((with_reducible refine CallC.id ?_);first|refine CallC.two ?_)|((with_reducible refine DrawReg.id ?_);refine drawQ' cx (by decide +kernel) rfl ?_)|(refine newN (fun r hr=>?_);simp only [keys,List.nil_append,List.cons_append,List.map_cons,List.map_nil,List.mem_cons,List.not_mem_nil,not_or,or_false,not_false_eq_true] at hr)|((with_reducible refine SeqD.id ?_);first|refine SeqD.go ?_|refine SeqD.ret ?_)|(with_reducible refine semD_seq cx ?_)|((with_reducible refine BodyR.id ?_);first|refine BodyR.ret ?_|refine BodyR.go ?_|refine BodyR.pan ?_)|((with_reducible refine ResG.id ?_);first|refine ResG.tmp rfl ?_|refine ResG.cell rfl ?_|refine ResG.nil ?_)|((with_reducible refine LoadIs.id ?_);first|refine LoadIs.agg (by repeat first|exact HGet.hit|apply HGet.miss (by first|assumption|(apply Ne.symm;assumption)|omega)) rfl rfl rfl ?_|refine LoadIs.one (by repeat first|exact HGet.hit|apply HGet.miss (by first|assumption|(apply Ne.symm;assumption)|omega)) rfl rfl rfl rfl ?_)|((with_reducible refine Upd.id ?_);first|(refine Upd.lit rfl ?_;(conv=>whnf))|refine Upd.set (by omega) ?_|refine Upd.set (by (simp only [List.length_map,List.length_set,List.length_replicate];omega)) ?_)|((with_reducible refine Grow2.id ?_);refine Grow2.own ?_)|refine newCap (fun cap hcap=>?_)|refine newB (fun b hb=>?_)|refine grow_split (fun _=>?_) (fun _=>?_)|rw [hx]|fail
 exact h.forget (Sub.cons rfl rfl (Sub.cons rfl rfl (Sub.nil _)))
theorem midC (y:Int) (h0:0≤y∧y≤255) (k t:Nat) (hk:0 < k) (hk2:k≤12) (ht:y.tmod (k:Int)=(t:Int)) (P:HV) (Q) (s:HS) (rest:Code) (h:SemWp cx.P cN rest Q [(14,.sure,ii t),(8,.sure,P)] s):SemWp cx.P cN (.seq (cAt 7) rest) Q [(5,.sure,ii k),(8,.sure,P),(1,.sure,.v (.int .u8 y))] s:=by
 repeat' first|refine Ops.tag rfl ?_|((with_reducible first|refine OpsT.yes ?_|refine OpsT.yes' ?_);(conv=>arg 7;whnf))|(with_reducible first|refine OpsT.andT ?_|refine OpsT.andF ?_|refine OpsT.no ?_|refine OpsT.no' ?_)|(refine OpsT.go ?_;(conv=>arg 7;whnf))|(with_reducible first|refine Stp.orF ?_|refine Stp.orT ?_|refine Stp.andT ?_|refine Stp.andF ?_|refine Stp.notT ?_|refine Stp.notF ?_|refine Stp.andT2 ?_|refine Stp.orF2 ?_)|((with_reducible refine Stp.isSum ?_);refine Stp.sum ?_)|((with_reducible refine Stp.isSumU ?_);refine Stp.sumU ?_)|((with_reducible refine Stp.isSum3 ?_);refine Stp.sum3 ?_)|((with_reducible refine Stp.isDec ?_);first|refine Stp.decT ?_|refine Stp.decF ?_)|((with_reducible refine Stp.isEq ?_);first|refine Stp.eqT ?_|refine Stp.eqF ?_)|((with_reducible refine Stp.isNe ?_);first|refine Stp.neT ?_|refine Stp.neF ?_)|refine Stp.pure rfl ?_|((with_reducible refine PutK.isSet ?_);refine PutK.set (by repeat first|exact HsetIs.hit|apply HsetIs.miss (by first|assumption|(apply Ne.symm;assumption)|omega)) ?_)|refine PutK.mk' rfl ?_|refine Ops.nil ?_|(refine DOps.cons rfl rfl ?_;(conv=>arg 7;whnf))|(with_reducible first|refine DStp.orF ?_|refine DStp.orT ?_|refine DStp.andT ?_|refine DStp.andF ?_|refine DStp.notT ?_|refine DStp.notF ?_|refine DStp.andT2 ?_|refine DStp.orF2 ?_)|((with_reducible refine DStp.isSum ?_);refine DStp.sum ?_)|((with_reducible refine DStp.isSumU ?_);refine DStp.sumU ?_)|((with_reducible refine DStp.isSum3 ?_);refine DStp.sum3 ?_)|((with_reducible refine DStp.isDec ?_);first|refine DStp.decT ?_|refine DStp.decF ?_)|((with_reducible refine DStp.isEq ?_);first|refine DStp.eqT ?_|refine DStp.eqF ?_)|((with_reducible refine DStp.isNe ?_);first|refine DStp.neT ?_|refine DStp.neF ?_)|refine DStp.pure rfl ?_|refine DStp.dead rfl ?_|refine PutD.mk' rfl ?_|refine DOps.nil rfl ?_|((with_reducible refine Look.id ?_);refine Look.auto ?_ (by repeat first|exact HGet.hit|apply HGet.miss (by first|assumption|(apply Ne.symm;assumption)|omega));try (conv=>arg 7;whnf))|((with_reducible refine Side.id ?_);first|refine Side.auto ?_)|((with_reducible refine Br.id ?_);first|(with_reducible first|refine br_true rfl ?_|refine br_false rfl ?_)|refine br_true (by with_reducible assumption) ?_|refine br_false (by with_reducible assumption) ?_|refine br_dec_t (by with_reducible assumption) ?_|refine br_dec_f (by with_reducible assumption) ?_|refine br_beq_t (by with_reducible assumption) ?_|refine br_beq_f (by with_reducible assumption) ?_|refine br_bne_t (by with_reducible assumption) ?_|refine br_bne_f (by with_reducible assumption) ?_|refine br_true rfl ?_|refine br_false rfl ?_|refine br_dec (fun _=>?_) (fun _=>?_)|refine br_beq (fun _=>?_) (fun _=>?_)|refine br_bne (fun _=>?_) (fun _=>?_)|refine br_split (fun _=>?_) (fun _=>?_))|((with_reducible refine SemWp.id ?_);first|refine sem_seq ?_|refine sem_region rfl ?_|refine sem_cond rfl ?_|refine sem_block ?_|refine sem_exit ?_|refine sem_ret ?_|refine sem_skip ?_|refine sem_label ?_|refine sem_draw ?_|refine sem_scope ?_)|((with_reducible refine qThen.id ?_);first|refine qThen.go ?_|refine qThen.ret ?_|refine qThen.exit ?_|refine qThen.pan ?_)|((with_reducible refine hinBlock.id ?_);first|refine hinBlock.go ?_|refine hinBlock.ret ?_|refine hinBlock.pan ?_|refine hinBlock.here rfl ?_|refine hinBlock.on rfl ?_)|((with_reducible refine hround.id ?_);first|refine hround.go ?_|refine hround.ret ?_|refine hround.exit ?_|refine hround.pan ?_)|((with_reducible refine bodyQ.id ?_);first|refine bodyQ.ret rfl ?_|refine bodyQ.ret2 rfl ?_|refine bodyQ.ret0 rfl ?_|refine bodyQ.go ?_|refine bodyQ.pan ?_)|refine Stp.valS ?_|refine Stp.valSC ?_|refine Stp.look ?_|refine Stp.call ?_|refine Stp.callC ?_|refine Stp.eff ?_|refine Stp.effC ?_|refine Stp.pan ?_|refine Stp.panC ?_|refine DStp.valS ?_|refine DStp.valSC ?_|refine DStp.look ?_|refine DStp.call ?_|refine DStp.callC ?_|((with_reducible refine CallC.id ?_);first|refine CallC.two ?_)|((with_reducible refine DrawReg.id ?_);refine drawQ' cx (by decide +kernel) rfl ?_)|(refine newN (fun r hr=>?_);simp only [keys,List.nil_append,List.cons_append,List.map_cons,List.map_nil,List.mem_cons,List.not_mem_nil,not_or,or_false,not_false_eq_true] at hr)|((with_reducible refine SeqD.id ?_);first|refine SeqD.go ?_|refine SeqD.ret ?_)|(with_reducible refine semD_seq cx ?_)|((with_reducible refine BodyR.id ?_);first|refine BodyR.ret ?_|refine BodyR.go ?_|refine BodyR.pan ?_)|((with_reducible refine ResG.id ?_);first|refine ResG.tmp rfl ?_|refine ResG.cell rfl ?_|refine ResG.nil ?_)|((with_reducible refine LoadIs.id ?_);first|refine LoadIs.agg (by repeat first|exact HGet.hit|apply HGet.miss (by first|assumption|(apply Ne.symm;assumption)|omega)) rfl rfl rfl ?_|refine LoadIs.one (by repeat first|exact HGet.hit|apply HGet.miss (by first|assumption|(apply Ne.symm;assumption)|omega)) rfl rfl rfl rfl ?_)|((with_reducible refine Upd.id ?_);first|(refine Upd.lit rfl ?_;(conv=>whnf))|refine Upd.set (by omega) ?_|refine Upd.set (by (simp only [List.length_map,List.length_set,List.length_replicate];omega)) ?_)|((with_reducible refine Grow2.id ?_);refine Grow2.own ?_)|refine newCap (fun cap hcap=>?_)|refine newB (fun b hb=>?_)|refine grow_split (fun _=>?_) (fun _=>?_)|rw [ht]|fail
 exact h.forget (Sub.cons rfl rfl (Sub.cons rfl rfl (Sub.nil _)))
theorem circ {k:Nat} (i:Nat) (hi:i < 12) (hk:k=i+1) {nm:List Nat} {fa:Int→Fr} {st st':HS} {j jj:Nat} {P:HV}
  (hA:∀ y,prune [5,8,9,1] nm (runs cxR lib1 100000 cN KK 30 pcsA (frK k y) [] 0)=some (fa y,st,j))
  (hB:∀ y,prune [5,8,1] nm (runs cxR lib1 100000 cN KK 30 pcsB (fa y) st j)=some ([(5,.sure,ii k),(8,.sure,P),(1,.sure,.v (.int .u8 y))],st',jj))
  (hS:∀ t,t < k→yesRs (evTailS cxR lib1 100000 Tryz.f3 (cRest 8) [(14,.sure,ii t),(8,.sure,P)] st' jj KK 30)=true)
  (x y:Int) (hx0:0≤x∧x≤255) (hy0:0≤y∧y≤255) (hx:x.tmod 12=(i:Int)):Pur cx 3 [.v (.int .u8 x),.v (.int .u8 y)] (bb true):=by
 obtain ⟨t,ht,hm⟩:=tmod_is hy0.1 k (by omega)
 obtain ⟨jA,A⟩:=prune_ok lib1_okR (hA y) (Nat.zero_le _) (by decide +kernel)
 obtain ⟨jB,B⟩:=prune_ok lib1_okR (hB y) jA (by decide +kernel)
 obtain ⟨s,q,T⟩:=tail_yes lib1_okR (hS t ht) jB (by decide +kernel)
 have M:=midC y hy0 k t (by omega) (by omega) hm P _ _ _ T
 have W:=preC x y hx0 i k hi hk hx _ _ _ (A _ _ (B _ _ M))
 have hb:Tryz.f3.body=some (.seq (cAt 0) (.seq (cAt 1) (seqs pcsA (seqs pcsB (.seq (cAt 7) (cRest 8)))))):=by kernel_rfl
 have C:=sem_calls' cxR (f:=3) (fn:=Tryz.f3) (args:=[.v (.int .u8 x),.v (.int .u8 y)]) rfl hb rfl rfl W
 have C2:HCalls cxR.P 3 [.v (.int .u8 x),.v (.int .u8 y)] ([] ++ V 0 KK) fun e st=>e = .ret (bb true)∧st=[] ++ V KK KK:=by
  have e:[] ++ V KK KK=([]:HS):=by simp [V]
  rw [e]
  exact C.lessS (Subp.nil _)
 exact ⟨(closed_calls (c:=cxR) C2 rfl rfl).out⟩
end Go.Proofs.Hk
