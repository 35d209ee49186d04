import Derived.Test.YtcihapdaapkdjaaGreatDoorP2
import Derived.Test.YtcihapdaapkdjaaGreatDoorH41
set_option linter.unusedSimpArgs false
set_option linter.unusedVariables false
set_option maxRecDepth 4000
namespace Go.Proofs.Hk
open Go Go.Proofs
/-- What a function that reads an expression does, where the parser comes to something. -/
abbrev endO (d:Int) (S:Nat→Int→Int→HS) (res:Except (Int × Nat × Int) (Ex × Nat)) (e:HEnd) (st:HS):Prop:=
 match res with
 |.ok (x,j)=>(∃ rt,e = .ret (.list (.own rt 0) 5 ((x.flat 0).map encN))∧Subp ((rt,.tok ((x.flat 0).map encN).length)::S j d 0) st)∨(e = .ret (.list .full 5 ((x.flat 0).map encN))∧Subp (S j d 0) st)
 |.error (c,j,d')=>WeakerE e (.pan failV)∧Subp (S j d' c) st
def goalO (fn:FuncId) (args:List HV) (s0:HS) (d:Int) (S:Nat→Int→Int→HS) (res:Except (Int × Nat × Int) (Ex × Nat)):Prop:=
 match res with
 |.ok (x,j)=>ToOwn cx.P fn args s0 5 ((x.flat 0).map encN) (S j d 0)
 |.error (c,j,d')=>To fn args s0 (.pan failV) (S j d' c)
theorem flat_ne (e:Ex):(e.flat 0).map encN≠[]:=fun h=>by
 have p:=flat_pos e 0
 rw [List.map_eq_nil_iff] at h
 rw [h] at p
 simp at p
theorem goalO.of {fn:FuncId} {args:List HV} {s0:HS} {d:Int} {S:Nat→Int→Int→HS} {res:Except (Int × Nat × Int) (Ex × Nat)} (h:HCalls cx.P fn args s0 (endO d S res)):goalO fn args s0 d S res:=by
 cases res with
 |ok x=>exact HCalls.toOwn (flat_ne x.1) h
 |error x=>exact HCalls.to h
def rdS (l:List Tk) (r:Nat) (j:Nat) (d b:Int):HS:=[(r,rd l j d b)]
def ExpR (l:List Tk) (fn:FuncId) (r:Nat) (d:Int) (i:Nat) (res:Except (Int × Nat × Int) (Ex × Nat)):Prop:=goalO fn [.ptr r 0] (rdS l r i d 0) d (rdS l r) res
def rmS (l:List Tk) (r rm:Nat) (es:List (Value × HV)) (j:Nat) (d b:Int):HS:=[(r,rd l j d b),(rm,.map es)]
theorem HCalls.args {P:Program} {f:FuncId} {xs ys:List HV} {s:HS} {R:HEnd→HS→Prop} (h:HCalls P f xs s R) (hw:WeakerL ys xs):HCalls P f ys s R:=
 ⟨fun G w vs hs ha=>h.out G w vs hs (hw.relVs ha)⟩
def kOK (l:List Tk) (i:Nat):Bool:=(tk l i).kind == 4||(tk l i).kind == 3
theorem isT_self (l:List Tk) (i:Nat):isT l i (tk l i).text=kOK l i:=by
 unfold isT kOK
 rw [strEq_eq.2 rfl,Bool.and_true]
/-- What a map of operators tells. -/
def opAt (o:Option Int) (ok mb:Bool) (mv:HV):Prop:=
 match o with
 |some k=>ok=true∧mb=true∧mv=ii k
 |none=>ok=false∨mb=false
def opOK (l:List Tk) (opk:Nat→Option Int) (es:List (Value × HV)):Prop:=∀ j,opAt (opk j) (kOK l j) (mapB (.string (tk l j).text) es) (mapV (.string (tk l j).text) (.v (.int .i64 0)) es)
set_option maxHeartbeats 4000000 in
theorem chain_spec (l:List Tk) (wf:WfT l) (fn:FuncId) (hfn:cx.fn fn=true) (L:Ex→Lv) (B:Lv) (opk:Nat→Option Int) (es:List (Value × HV)) (hk:hkeysB cx 9 es=true) (ho:opOK l opk es) (hbB:B.base=0)
  (hL:∀ f e d i,pE l (f+1) (L e) d i=match opk i with|some k=>bindR (pE l f B d (i+1)) fun e2 j=>pE l f (L (.bin k e e2)) d j|none=>okR e i)
  (n:Nat) (IH:∀ f,f≤n→∀ r d i res,i < l.length→0≤d→d≤50→pE l f B d i=some res→ExpR l fn r d i res)
  (r rm:Nat) (hrm:r≠rm) (d:Int) (h0:0≤d) (h1:d≤50) (i:Nat) (hi:i < l.length) (res) (h:(bindR (pE l n B d i) fun e j=>pE l n (L e) d j)=some res) :
  goalO 57 [.ptr r 0,.fn (.func fn) [.ptr r 0] [],.map rm] (rmS l r rm es i d 0) d (rmS l r rm es) res:=by
 have cfn:cx.fn fn=true:=hfn
 refine goalO.of ?_
 unfold rmS
 cases hb:pE l n B d i with
 |none=>rw [hb] at h;cases h
 |some r1=>
 rw [hb] at h
 have C1:=IH n (Nat.le_refl _) r d i r1 hi h0 h1 hb
 cases r1 with
 |error x=>
  obtain ⟨c,j,d'⟩:=x
  cases h
  have C1:To fn [.ptr r 0] [(r,rd l i d 0)] (.pan failV) [(r,rd l j d' c)]:=C1
  unfold rd at *
  refine (sem_calls' cx (fn:=Tryz.f57) rfl rfl rfl rfl ?_)
  repeat' first|refine Ops.tag rfl ?_|(refine OpsT.go ?_;(conv=>arg 7;whnf))|refine Stp.pure rfl ?_|refine Ops.nil ?_|((with_reducible refine Side.id ?_);first|refine Side.auto ?_)|((with_reducible refine SemWp.id ?_);first|refine sem_seq ?_|refine sem_region rfl ?_)|((with_reducible refine qThen.id ?_);first|refine qThen.go ?_)|refine Stp.call ?_|((with_reducible refine CallWp.id ?_);first|(refine callB cx (C1) ?_;(conv=>whnf)))|((with_reducible refine BodyR.id ?_);first|refine BodyR.pan ?_)
  refine Fin.mk ?_
  refine ⟨WeakerE.refl _,Subp.tk⟩
 |ok x=>
  obtain ⟨e0,j0⟩:=x
  have h:pE l n (L e0) d j0=some res:=h
  have F0:=pE_facts wf n B d i e0 j0 hi hb
  have C1:ToOwn cx.P fn [.ptr r 0] [(r,rd l i d 0)] 5 ((e0.flat 0).map encN) [(r,rd l j0 d 0)]:=C1
  unfold rd at *
  refine (sem_calls' cx (fn:=Tryz.f57) rfl rfl rfl rfl ?_)
  repeat' first|refine Ops.tag rfl ?_|(refine OpsT.go ?_;(conv=>arg 7;whnf))|refine Stp.pure rfl ?_|refine PutK.mk' rfl ?_|refine Ops.nil ?_|((with_reducible refine Side.id ?_);first|refine Side.auto ?_)|((with_reducible refine SemWp.id ?_);first|refine sem_seq ?_|refine sem_region rfl ?_|refine sem_block ?_)|((with_reducible refine qThen.id ?_);first|refine qThen.go ?_)|refine Stp.call ?_|((with_reducible refine CallWp.id ?_);first|(refine callTO cx (C1) (by repeat first|exact HTake.nil|(apply HTake.cons;focus (repeat first|exact HPick.hit))) (fun rt hrt=>?_);simp only [keys,List.nil_append,List.cons_append,List.map_cons,List.map_nil,List.mem_cons,List.not_mem_nil,not_or,or_false,not_false_eq_true] at hrt;(conv=>whnf)))
  clear hb C1
  refine sem_loop4 cx (fun g rt e j=>g≤n∧rt≠r∧rt≠rm∧j < l.length∧pE l g (L e) d j=some res∧(e.flat 0).length≤j) (fun g rt e j=>[(0,.sure,.ptr r 0),(1,.sure,.fn (.func fn) [.ptr r 0] []),(2,.sure,.map rm),(7,.sure,.list (.own rt 0) 5 ((e.flat 0).map encN))]) (fun g rt e j=>[(rt,.tok ((e.flat 0).map encN).length),(r,.cells [LTk l,ii j,ii d,ii 0] 47),(rm,.map es)]) (fun g=>g) n rt e0 j0 ⟨Nat.le_refl _,by omega,by omega,F0.1,h,by rw [hbB] at F0;omega⟩ (Sub.cons rfl rfl (Sub.cons rfl rfl (Sub.cons rfl rfl (Sub.cons rfl rfl (Sub.nil _))))) (Subp.of_eq rfl) ?_
  clear h F0 hrt rt
  rintro g rt e j ⟨hg,ne1,ne2,hj,hp,hle⟩
  cases g with
  |zero=>simp [pE] at hp
  |succ g=>
  rw [hL] at hp
  have O:=ho j
  have T:=now_spec r l j d 0 hj
  have I:=is_spec r l j d 0 (tk l j).text hj
  rw [isT_self] at I
  have wl:=wf.len
  have mf:((e.flat 0).map encN).length=(e.flat 0).length:=by simp
  unfold rd at T I
  cases hk2:opk j with
  |none=>
   rw [hk2] at O hp
   cases hp
   have O:kOK l j=false∨mapB (.string (tk l j).text) es=false:=O
   cases hm:mapB (.string (tk l j).text) es with
   |false=>
    generalize (tk l j).text=t at *
    clear O IH ho hL
    repeat' first|(with_reducible first|refine Stp.rwB (hm) ?_)|refine Ops.tag rfl ?_|(with_reducible first|refine OpsT.no' ?_)|(refine OpsT.go ?_;(conv=>arg 7;whnf))|(with_reducible first|refine Stp.orT ?_|refine Stp.notF ?_)|refine Stp.pure rfl ?_|((with_reducible refine PutK.isSet ?_);refine PutK.st ?_)|refine PutK.mk' rfl ?_|refine Ops.nil ?_|((with_reducible refine Look.id ?_);refine Look.at ?_;try (conv=>arg 7;whnf))|((with_reducible refine Side.id ?_);first|refine Side.auto ?_)|((with_reducible refine Br.id ?_);first|(with_reducible first|refine br_true rfl ?_))|((with_reducible refine SemWp.id ?_);first|refine sem_seq ?_|refine sem_region rfl ?_|refine sem_cond rfl ?_|refine sem_block ?_|refine sem_ret ?_)|((with_reducible refine qThen.id ?_);first|refine qThen.go ?_|refine qThen.ret ?_)|((with_reducible refine hinBlock.id ?_);first|refine hinBlock.ret ?_)|((with_reducible refine hround.id ?_);first|refine hround.ret ?_)|refine Stp.valS ?_|refine Stp.look ?_|refine Stp.call ?_|refine Stp.eff ?_|((with_reducible refine CallWp.id ?_);first|(refine callA cx (T) ?_;(conv=>whnf)))|(refine newN (fun r hr=>?_);simp only [keys,List.nil_append,List.cons_append,List.map_cons,List.map_nil,List.mem_cons,List.not_mem_nil,not_or,or_false,not_false_eq_true] at hr)|((with_reducible refine BodyR.id ?_);first|refine BodyR.ret ?_)|((with_reducible refine ResG.id ?_);first|refine ResG.tmp rfl ?_|refine ResG.nil ?_)|((with_reducible refine Upd.id ?_);first|(refine Upd.lit rfl ?_;(conv=>whnf)))|(rw [hk];(conv=>arg 7;whnf))
    refine Fin.mk (.inl ⟨_,rfl,Subp.take (t:=?_) ?_⟩)
    rotate_left
    (repeat first|exact HTake.nil|(apply HTake.cons;focus (repeat first|exact HPick.hit|apply HPick.miss)))
   |true=>
    have hko:kOK l j=false:=by
     rcases O with h|h
     ·exact h
     ·rw [hm] at h;cases h
    rw [hko] at I
    generalize (tk l j).text=t at *
    clear O IH ho hL
    repeat' first|(with_reducible first|refine Stp.rwB (hm) ?_)|refine Ops.tag rfl ?_|((with_reducible first|refine OpsT.yes' ?_);(conv=>arg 7;whnf))|(refine OpsT.go ?_;(conv=>arg 7;whnf))|(with_reducible first|refine Stp.orF ?_|refine Stp.notT ?_|refine Stp.notF ?_)|refine Stp.pure rfl ?_|((with_reducible refine PutK.isSet ?_);refine PutK.st ?_)|refine PutK.mk' rfl ?_|refine Ops.nil ?_|((with_reducible refine Look.id ?_);refine Look.at ?_;try (conv=>arg 7;whnf))|((with_reducible refine Side.id ?_);first|refine Side.auto ?_)|((with_reducible refine Br.id ?_);first|(with_reducible first|refine br_true rfl ?_))|((with_reducible refine SemWp.id ?_);first|refine sem_seq ?_|refine sem_region rfl ?_|refine sem_cond rfl ?_|refine sem_block ?_|refine sem_ret ?_)|((with_reducible refine qThen.id ?_);first|refine qThen.go ?_|refine qThen.ret ?_)|((with_reducible refine hinBlock.id ?_);first|refine hinBlock.ret ?_)|((with_reducible refine hround.id ?_);first|refine hround.ret ?_)|refine Stp.valS ?_|refine Stp.look ?_|refine Stp.call ?_|refine Stp.eff ?_|((with_reducible refine CallWp.id ?_);first|(refine callA cx (T) ?_;(conv=>whnf))|(refine callA cx (I) ?_;(conv=>whnf)))|(refine newN (fun r hr=>?_);simp only [keys,List.nil_append,List.cons_append,List.map_cons,List.map_nil,List.mem_cons,List.not_mem_nil,not_or,or_false,not_false_eq_true] at hr)|((with_reducible refine BodyR.id ?_);first|refine BodyR.ret ?_)|((with_reducible refine ResG.id ?_);first|refine ResG.tmp rfl ?_|refine ResG.nil ?_)|((with_reducible refine Upd.id ?_);first|(refine Upd.lit rfl ?_;(conv=>whnf)))|(rw [hk];(conv=>arg 7;whnf))
    refine Fin.mk (.inl ⟨_,rfl,Subp.take (t:=?_) ?_⟩)
    rotate_left
    (repeat first|exact HTake.nil|(apply HTake.cons;focus (repeat first|exact HPick.hit|apply HPick.miss)))
  |some k=>
   rw [hk2] at O hp
   obtain ⟨o1,o2,o3⟩:kOK l j=true∧mapB (.string (tk l j).text) es=true∧mapV (.string (tk l j).text) (.v (.int .i64 0)) es=ii k:=O
   have hkn:(tk l j).kind≠0:=isT_kind (s:=(tk l j).text) (by rw [isT_self];exact o1)
   have hj1:=wf.more j hj hkn
   have N:=next_spec r l j d 0 hj1 wl
   unfold rd at N
   rw [o1] at I
   have hp:(bindR (pE l g B d (j+1)) fun e2 j=>pE l g (L (.bin k e e2)) d j)=some res:=hp
   cases hb2:pE l g B d (j+1) with
   |none=>rw [hb2] at hp;cases hp
   |some r2=>
   have C2:=IH g (by omega) r d (j+1) r2 hj1 h0 h1 hb2
   rw [hb2] at hp
   cases r2 with
   |error x=>
    obtain ⟨c,m,d'⟩:=x
    cases hp
    have C2:To fn [.ptr r 0] [(r,rd l (j+1:Nat) d 0)] (.pan failV) [(r,rd l m d' c)]:=C2
    unfold rd at C2
    generalize (tk l j).text=t at *
    clear IH ho hL hb2
    repeat' first|(with_reducible first|refine Stp.rwB (o2) ?_)|refine Ops.tag rfl ?_|((with_reducible first|refine OpsT.yes' ?_);(conv=>arg 7;whnf))|(refine OpsT.go ?_;(conv=>arg 7;whnf))|(with_reducible first|refine Stp.orF ?_|refine Stp.notT ?_)|refine Stp.pure rfl ?_|((with_reducible refine PutK.isSet ?_);refine PutK.st ?_)|refine PutK.mk' rfl ?_|refine Ops.nil ?_|((with_reducible refine Look.id ?_);refine Look.at ?_;try (conv=>arg 7;whnf))|((with_reducible refine Side.id ?_);first|refine Side.auto ?_)|((with_reducible refine Br.id ?_);first|(with_reducible first|refine br_false rfl ?_))|((with_reducible refine SemWp.id ?_);first|refine sem_seq ?_|refine sem_region rfl ?_|refine sem_cond rfl ?_|refine sem_block ?_|refine sem_skip ?_)|((with_reducible refine qThen.id ?_);first|refine qThen.go ?_)|refine Stp.valS ?_|refine Stp.look ?_|refine Stp.call ?_|refine Stp.eff ?_|((with_reducible refine CallWp.id ?_);first|(refine callA cx (T) ?_;(conv=>whnf))|(refine callA cx (I) ?_;(conv=>whnf))|(refine callA cx (N) ?_;(conv=>whnf))|(refine callB cx (C2) ?_;(conv=>whnf)))|(refine newN (fun r hr=>?_);simp only [keys,List.nil_append,List.cons_append,List.map_cons,List.map_nil,List.mem_cons,List.not_mem_nil,not_or,or_false,not_false_eq_true] at hr)|((with_reducible refine BodyR.id ?_);first|refine BodyR.pan ?_)|((with_reducible refine Upd.id ?_);first|(refine Upd.lit rfl ?_;(conv=>whnf)))|(rw [hk];(conv=>arg 7;whnf))
    refine Fin.mk ?_
    refine ⟨WeakerE.refl _,Subp.tk⟩
   |ok x=>
    obtain ⟨e2,m⟩:=x
    have hp:pE l g (L (.bin k e e2)) d m=some res:=hp
    have F2:=pE_facts wf g B d (j+1) e2 m hj1 hb2
    rw [hbB] at F2
    have C2:ToOwn cx.P fn [.ptr r 0] [(r,rd l (j+1:Nat) d 0)] 5 ((e2.flat 0).map encN) [(r,rd l m d 0)]:=C2
    unfold rd at C2
    have X:=both_spec k (e.flat 0) (e2.flat 0) (fun h=>by have:=flat_pos e 0;rw [h] at this;simp at this) (by omega) (by omega) (fun n hn=>by have:=flat_lt e2 n hn;omega)
    rw [←both_flat] at X
    have X:=fun p q=>HCalls.args (ys:=[ii k,.list (.own p 0) 5 ((e.flat 0).map encN),.list (.own q 0) 5 ((e2.flat 0).map encN)]) X (.cons (.refl _) (.cons (Weaker.tok _ _ _) (.cons (Weaker.tok _ _ _) .nil)))
    have lb:((Ex.bin k e e2).flat 0).length=(e.flat 0).length+(e2.flat 0).length+1:=by rw [both_flat];simp [bothL];omega
    generalize (tk l j).text=t at *
    clear IH ho hL hb2
    repeat' first|rw [o3]|(with_reducible first|refine Stp.rwB (o2) ?_)|refine Ops.tag rfl ?_|((with_reducible first|refine OpsT.yes' ?_);(conv=>arg 7;whnf))|(refine OpsT.go ?_;(conv=>arg 7;whnf))|(with_reducible first|refine Stp.orF ?_|refine Stp.notT ?_)|refine Stp.pure rfl ?_|((with_reducible refine PutK.isSet ?_);refine PutK.st ?_)|refine PutK.mk' rfl ?_|refine Ops.nil ?_|((with_reducible refine Look.id ?_);refine Look.at ?_;try (conv=>arg 7;whnf))|((with_reducible refine Side.id ?_);first|refine Side.auto ?_)|((with_reducible refine Br.id ?_);first|(with_reducible first|refine br_false rfl ?_))|((with_reducible refine SemWp.id ?_);first|refine sem_seq ?_|refine sem_region rfl ?_|refine sem_cond rfl ?_|refine sem_block ?_|refine sem_skip ?_)|((with_reducible refine qThen.id ?_);first|refine qThen.go ?_)|((with_reducible refine hinBlock.id ?_);first|refine hinBlock.go ?_)|((with_reducible refine hround.id ?_);first|refine hround.go ?_)|refine Stp.valS ?_|refine Stp.look ?_|refine Stp.call ?_|refine Stp.eff ?_|((with_reducible refine CallWp.id ?_);first|(refine callA cx (T) ?_;(conv=>whnf))|(refine callA cx (I) ?_;(conv=>whnf))|(refine callA cx (N) ?_;(conv=>whnf))|(refine callTO cx (C2) (by repeat first|exact HTake.nil|(apply HTake.cons;focus (repeat first|exact HPick.hit))) (fun rt hrt=>?_);simp only [keys,List.nil_append,List.cons_append,List.map_cons,List.map_nil,List.mem_cons,List.not_mem_nil,not_or,or_false,not_false_eq_true] at hrt;(conv=>whnf))|(refine callTO cx (X _ _) (by repeat first|exact HTake.nil) (fun rt hrt=>?_);simp only [keys,List.nil_append,List.cons_append,List.map_cons,List.map_nil,List.mem_cons,List.not_mem_nil,not_or,or_false,not_false_eq_true] at hrt;(conv=>whnf)))|(refine newN (fun r hr=>?_);simp only [keys,List.nil_append,List.cons_append,List.map_cons,List.map_nil,List.mem_cons,List.not_mem_nil,not_or,or_false,not_false_eq_true] at hr)|((with_reducible refine Upd.id ?_);first|(refine Upd.lit rfl ?_;(conv=>whnf)))|(rw [hk];(conv=>arg 7;whnf))
    rename_i rt0 hrt0
    refine Fin.mk ⟨g,rt,.bin k e e2,m,⟨by omega,by omega,by omega,F2.1,hp,by omega⟩,by omega,Sub.cons rfl rfl (Sub.cons rfl rfl (Sub.cons rfl rfl (Sub.cons rfl rfl (Sub.nil _)))),Subp.tk⟩
end Go.Proofs.Hk

set_option linter.unusedSimpArgs false
set_option linter.unusedVariables false
set_option maxRecDepth 4000
namespace Go.Proofs.Hk
open Go Go.Proofs
theorem isT_k (l:List Tk) (i:Nat) (s:ByteArray):isT l i s=(kOK l i && strEq (tk l i).text s):=rfl
theorem keyEq_ss (a b:ByteArray):keyEq (.string a) (.string b)=strEq a b:=rfl
theorem strEq_ne {a b:ByteArray} (h:a.data.toList≠b.data.toList):strEq a b=false:=by
 cases e:strEq a b with
 |false=>rfl
 |true=>exact absurd (by rw [strEq_eq.1 e]) h
def es_expr:List (Value × HV):=[(.string (tc 43),ii 4),(.string (tc 45),ii 5)]
theorem ms_expr2:(mapSet (.string (tc 45)) (ii 5) (mapSet (.string (tc 43)) (ii 4) []))=([(.string (tc 43),ii 4),(.string (tc 45),ii 5)]:List (Value × HV)):=by
 simp [mapSet,keyEq_ss,strEq_ne (a:=(tc 45)) (b:=(tc 43)) (by decide)]
theorem op_expr (l:List Tk):opOK l (addK l) es_expr:=by
 intro j
 cases h:kOK l j<;>cases h0:strEq (tk l j).text (tc 43)<;>cases h1:strEq (tk l j).text (tc 45)<;>simp [opAt,addK,isT_k,es_expr,mapB,mapV,keyEq_ss,h,h0,h1]
set_option maxHeartbeats 2000000 in
theorem expr_lvl (l:List Tk) (wf:WfT l) (n:Nat) (IH:∀ f,f≤n→∀ r d i res,i < l.length→0≤d→d≤50→pE l f .term d i=some res→ExpR l 67 r d i res)
  (r:Nat) (d:Int) (h0:0≤d) (h1:d≤50) (i:Nat) (hi:i < l.length) (res) (h:(bindR (pE l n .term d i) fun e j=>pE l n (.exprL e) d j)=some res):ExpR l 56 r d i res:=by
 have C:=fun rm (hrm:r≠rm)=>chain_spec l wf 67 rfl .exprL .term (addK l) es_expr rfl (op_expr l) rfl (fun f e d i=>rfl) n IH r rm hrm d h0 h1 i hi res h
 refine goalO.of ?_
 clear h IH
 unfold rdS
 have hes:es_expr=(mapSet (.string (tc 45)) (ii 5) (mapSet (.string (tc 43)) (ii 4) [])):=ms_expr2.symm
 rw [hes] at C
 clear hes
 cases res with
 |error x=>
  obtain ⟨c,j,d'⟩:=x
  simp only [goalO,rmS] at C
  unfold rd at *
  refine (sem_calls' cx (fn:=Tryz.f56) rfl rfl rfl rfl ?_)
  repeat' first|refine Ops.tag rfl ?_|(refine OpsT.go ?_;(conv=>arg 7;whnf))|refine Stp.pure rfl ?_|((with_reducible refine PutK.isSet ?_);refine PutK.st ?_)|refine PutK.mk' rfl ?_|refine Ops.nil ?_|((with_reducible refine Look.id ?_);refine Look.at ?_;try (conv=>arg 7;whnf))|((with_reducible refine Side.id ?_);first|refine Side.auto ?_)|((with_reducible refine SemWp.id ?_);first|refine sem_seq ?_|refine sem_region rfl ?_)|((with_reducible refine qThen.id ?_);first|refine qThen.go ?_)|refine Stp.look ?_|refine Stp.call ?_|refine Stp.eff ?_|((with_reducible refine CallWp.id ?_);first|(refine callB cx (C _ (by omega)) ?_;(conv=>whnf)))|(refine newN (fun r hr=>?_);simp only [keys,List.nil_append,List.cons_append,List.map_cons,List.map_nil,List.mem_cons,List.not_mem_nil,not_or,or_false,not_false_eq_true] at hr)|((with_reducible refine BodyR.id ?_);first|refine BodyR.pan ?_)
  refine Fin.mk ?_
  refine ⟨WeakerE.refl _,Subp.tk⟩
 |ok x=>
  obtain ⟨e,j⟩:=x
  simp only [goalO,rmS] at C
  unfold rd at *
  refine (sem_calls' cx (fn:=Tryz.f56) rfl rfl rfl rfl ?_)
  repeat' first|refine Ops.tag rfl ?_|(refine OpsT.go ?_;(conv=>arg 7;whnf))|refine Stp.pure rfl ?_|((with_reducible refine PutK.isSet ?_);refine PutK.st ?_)|refine PutK.mk' rfl ?_|refine Ops.nil ?_|((with_reducible refine Look.id ?_);refine Look.at ?_;try (conv=>arg 7;whnf))|((with_reducible refine Side.id ?_);first|refine Side.auto ?_)|((with_reducible refine SemWp.id ?_);first|refine sem_seq ?_|refine sem_region rfl ?_|refine sem_ret ?_)|((with_reducible refine qThen.id ?_);first|refine qThen.go ?_)|refine Stp.look ?_|refine Stp.call ?_|refine Stp.eff ?_|((with_reducible refine CallWp.id ?_);first|(refine callTO cx (C _ (by omega)) (by repeat first|exact HTake.nil|(apply HTake.cons;focus (repeat first|exact HPick.hit|apply HPick.miss))) (fun rt hrt=>?_);simp only [keys,List.nil_append,List.cons_append,List.map_cons,List.map_nil,List.mem_cons,List.not_mem_nil,not_or,or_false,not_false_eq_true] at hrt;(conv=>whnf)))|(refine newN (fun r hr=>?_);simp only [keys,List.nil_append,List.cons_append,List.map_cons,List.map_nil,List.mem_cons,List.not_mem_nil,not_or,or_false,not_false_eq_true] at hr)|((with_reducible refine BodyR.id ?_);first|refine BodyR.ret ?_)|((with_reducible refine ResG.id ?_);first|refine ResG.tmp rfl ?_|refine ResG.nil ?_)
  refine Fin.mk (.inl ⟨_,rfl,Subp.take (t:=?_) ?_⟩)
  rotate_left
  (repeat first|exact HTake.nil|(apply HTake.cons;focus (repeat first|exact HPick.hit|apply HPick.miss)))
def es_term:List (Value × HV):=[(.string (tc 42),ii 6),(.string (tc 47),ii 7),(.string (tc 37),ii 8)]
theorem ms_term2:(mapSet (.string (tc 47)) (ii 7) (mapSet (.string (tc 42)) (ii 6) []))=([(.string (tc 42),ii 6),(.string (tc 47),ii 7)]:List (Value × HV)):=by
 simp [mapSet,keyEq_ss,strEq_ne (a:=(tc 47)) (b:=(tc 42)) (by decide)]
theorem ms_term3:(mapSet (.string (tc 37)) (ii 8) (mapSet (.string (tc 47)) (ii 7) (mapSet (.string (tc 42)) (ii 6) [])))=([(.string (tc 42),ii 6),(.string (tc 47),ii 7),(.string (tc 37),ii 8)]:List (Value × HV)):=by
 simp [mapSet,keyEq_ss,strEq_ne (a:=(tc 47)) (b:=(tc 42)) (by decide),strEq_ne (a:=(tc 37)) (b:=(tc 42)) (by decide),strEq_ne (a:=(tc 37)) (b:=(tc 47)) (by decide)]
theorem op_term (l:List Tk):opOK l (mulK l) es_term:=by
 intro j
 cases h:kOK l j<;>cases h0:strEq (tk l j).text (tc 42)<;>cases h1:strEq (tk l j).text (tc 47)<;>cases h2:strEq (tk l j).text (tc 37)<;>simp [opAt,mulK,isT_k,es_term,mapB,mapV,keyEq_ss,h,h0,h1,h2]
set_option maxHeartbeats 2000000 in
theorem term_lvl (l:List Tk) (wf:WfT l) (n:Nat) (IH:∀ f,f≤n→∀ r d i res,i < l.length→0≤d→d≤50→pE l f .unary d i=some res→ExpR l 72 r d i res)
  (r:Nat) (d:Int) (h0:0≤d) (h1:d≤50) (i:Nat) (hi:i < l.length) (res) (h:(bindR (pE l n .unary d i) fun e j=>pE l n (.termL e) d j)=some res):ExpR l 67 r d i res:=by
 have C:=fun rm (hrm:r≠rm)=>chain_spec l wf 72 rfl .termL .unary (mulK l) es_term rfl (op_term l) rfl (fun f e d i=>rfl) n IH r rm hrm d h0 h1 i hi res h
 refine goalO.of ?_
 clear h IH
 unfold rdS
 have hes:es_term=(mapSet (.string (tc 37)) (ii 8) (mapSet (.string (tc 47)) (ii 7) (mapSet (.string (tc 42)) (ii 6) []))):=ms_term3.symm
 rw [hes] at C
 clear hes
 have hk2:hkeysB cx 9 (mapSet (.string ⟨#[47]⟩) (.v (.int .i64 7)) (mapSet (.string ⟨#[42]⟩) (.v (.int .i64 6)) []))=true:=by show hkeysB cx 9 (mapSet (.string (tc 47)) (ii 7) (mapSet (.string (tc 42)) (ii 6) []))=true;rw [ms_term2];rfl
 cases res with
 |error x=>
  obtain ⟨c,j,d'⟩:=x
  simp only [goalO,rmS] at C
  unfold rd at *
  refine (sem_calls' cx (fn:=Tryz.f67) rfl rfl rfl rfl ?_)
  repeat' first|refine Ops.tag rfl ?_|(refine OpsT.go ?_;(conv=>arg 7;whnf))|refine Stp.pure rfl ?_|((with_reducible refine PutK.isSet ?_);refine PutK.st ?_)|refine PutK.mk' rfl ?_|refine Ops.nil ?_|((with_reducible refine Look.id ?_);refine Look.at ?_;try (conv=>arg 7;whnf))|((with_reducible refine Side.id ?_);first|refine Side.auto ?_)|((with_reducible refine SemWp.id ?_);first|refine sem_seq ?_|refine sem_region rfl ?_)|((with_reducible refine qThen.id ?_);first|refine qThen.go ?_)|refine Stp.look ?_|refine Stp.call ?_|refine Stp.eff ?_|((with_reducible refine CallWp.id ?_);first|(refine callB cx (C _ (by omega)) ?_;(conv=>whnf)))|(refine newN (fun r hr=>?_);simp only [keys,List.nil_append,List.cons_append,List.map_cons,List.map_nil,List.mem_cons,List.not_mem_nil,not_or,or_false,not_false_eq_true] at hr)|((with_reducible refine BodyR.id ?_);first|refine BodyR.pan ?_)|(rw [hk2];(conv=>arg 7;whnf))
  refine Fin.mk ?_
  refine ⟨WeakerE.refl _,Subp.tk⟩
 |ok x=>
  obtain ⟨e,j⟩:=x
  simp only [goalO,rmS] at C
  unfold rd at *
  refine (sem_calls' cx (fn:=Tryz.f67) rfl rfl rfl rfl ?_)
  repeat' first|refine Ops.tag rfl ?_|(refine OpsT.go ?_;(conv=>arg 7;whnf))|refine Stp.pure rfl ?_|((with_reducible refine PutK.isSet ?_);refine PutK.st ?_)|refine PutK.mk' rfl ?_|refine Ops.nil ?_|((with_reducible refine Look.id ?_);refine Look.at ?_;try (conv=>arg 7;whnf))|((with_reducible refine Side.id ?_);first|refine Side.auto ?_)|((with_reducible refine SemWp.id ?_);first|refine sem_seq ?_|refine sem_region rfl ?_|refine sem_ret ?_)|((with_reducible refine qThen.id ?_);first|refine qThen.go ?_)|refine Stp.look ?_|refine Stp.call ?_|refine Stp.eff ?_|((with_reducible refine CallWp.id ?_);first|(refine callTO cx (C _ (by omega)) (by repeat first|exact HTake.nil|(apply HTake.cons;focus (repeat first|exact HPick.hit|apply HPick.miss))) (fun rt hrt=>?_);simp only [keys,List.nil_append,List.cons_append,List.map_cons,List.map_nil,List.mem_cons,List.not_mem_nil,not_or,or_false,not_false_eq_true] at hrt;(conv=>whnf)))|(refine newN (fun r hr=>?_);simp only [keys,List.nil_append,List.cons_append,List.map_cons,List.map_nil,List.mem_cons,List.not_mem_nil,not_or,or_false,not_false_eq_true] at hr)|((with_reducible refine BodyR.id ?_);first|refine BodyR.ret ?_)|((with_reducible refine ResG.id ?_);first|refine ResG.tmp rfl ?_|refine ResG.nil ?_)|(rw [hk2];(conv=>arg 7;whnf))
  refine Fin.mk (.inl ⟨_,rfl,Subp.take (t:=?_) ?_⟩)
  rotate_left
  (repeat first|exact HTake.nil|(apply HTake.cons;focus (repeat first|exact HPick.hit|apply HPick.miss)))
def es_conj:List (Value × HV):=[(.string tAnd,ii 19)]
theorem op_conj (l:List Tk):opOK l (andK l) es_conj:=by
 intro j
 cases h:kOK l j<;>cases h0:strEq (tk l j).text tAnd<;>simp [opAt,andK,isT_k,es_conj,mapB,mapV,keyEq_ss,h,h0]
set_option maxHeartbeats 2000000 in
theorem conj_lvl (l:List Tk) (wf:WfT l) (n:Nat) (IH:∀ f,f≤n→∀ r d i res,i < l.length→0≤d→d≤50→pE l f .lit d i=some res→ExpR l 69 r d i res)
  (r:Nat) (d:Int) (h0:0≤d) (h1:d≤50) (i:Nat) (hi:i < l.length) (res) (h:(bindR (pE l n .lit d i) fun e j=>pE l n (.conjL e) d j)=some res):ExpR l 58 r d i res:=by
 have C:=fun rm (hrm:r≠rm)=>chain_spec l wf 69 rfl .conjL .lit (andK l) es_conj rfl (op_conj l) rfl (fun f e d i=>rfl) n IH r rm hrm d h0 h1 i hi res h
 refine goalO.of ?_
 clear h IH
 unfold rdS
 cases res with
 |error x=>
  obtain ⟨c,j,d'⟩:=x
  simp only [goalO,rmS] at C
  unfold rd at *
  refine (sem_calls' cx (fn:=Tryz.f58) rfl rfl rfl rfl ?_)
  repeat' first|refine Ops.tag rfl ?_|(refine OpsT.go ?_;(conv=>arg 7;whnf))|refine Stp.pure rfl ?_|((with_reducible refine PutK.isSet ?_);refine PutK.st ?_)|refine PutK.mk' rfl ?_|refine Ops.nil ?_|((with_reducible refine Look.id ?_);refine Look.at ?_;try (conv=>arg 7;whnf))|((with_reducible refine Side.id ?_);first|refine Side.auto ?_)|((with_reducible refine SemWp.id ?_);first|refine sem_seq ?_|refine sem_region rfl ?_)|((with_reducible refine qThen.id ?_);first|refine qThen.go ?_)|refine Stp.look ?_|refine Stp.call ?_|refine Stp.eff ?_|((with_reducible refine CallWp.id ?_);first|(refine callB cx (C _ (by omega)) ?_;(conv=>whnf)))|(refine newN (fun r hr=>?_);simp only [keys,List.nil_append,List.cons_append,List.map_cons,List.map_nil,List.mem_cons,List.not_mem_nil,not_or,or_false,not_false_eq_true] at hr)|((with_reducible refine BodyR.id ?_);first|refine BodyR.pan ?_)
  refine Fin.mk ?_
  refine ⟨WeakerE.refl _,Subp.tk⟩
 |ok x=>
  obtain ⟨e,j⟩:=x
  simp only [goalO,rmS] at C
  unfold rd at *
  refine (sem_calls' cx (fn:=Tryz.f58) rfl rfl rfl rfl ?_)
  repeat' first|refine Ops.tag rfl ?_|(refine OpsT.go ?_;(conv=>arg 7;whnf))|refine Stp.pure rfl ?_|((with_reducible refine PutK.isSet ?_);refine PutK.st ?_)|refine PutK.mk' rfl ?_|refine Ops.nil ?_|((with_reducible refine Look.id ?_);refine Look.at ?_;try (conv=>arg 7;whnf))|((with_reducible refine Side.id ?_);first|refine Side.auto ?_)|((with_reducible refine SemWp.id ?_);first|refine sem_seq ?_|refine sem_region rfl ?_|refine sem_ret ?_)|((with_reducible refine qThen.id ?_);first|refine qThen.go ?_)|refine Stp.look ?_|refine Stp.call ?_|refine Stp.eff ?_|((with_reducible refine CallWp.id ?_);first|(refine callTO cx (C _ (by omega)) (by repeat first|exact HTake.nil|(apply HTake.cons;focus (repeat first|exact HPick.hit|apply HPick.miss))) (fun rt hrt=>?_);simp only [keys,List.nil_append,List.cons_append,List.map_cons,List.map_nil,List.mem_cons,List.not_mem_nil,not_or,or_false,not_false_eq_true] at hrt;(conv=>whnf)))|(refine newN (fun r hr=>?_);simp only [keys,List.nil_append,List.cons_append,List.map_cons,List.map_nil,List.mem_cons,List.not_mem_nil,not_or,or_false,not_false_eq_true] at hr)|((with_reducible refine BodyR.id ?_);first|refine BodyR.ret ?_)|((with_reducible refine ResG.id ?_);first|refine ResG.tmp rfl ?_|refine ResG.nil ?_)
  refine Fin.mk (.inl ⟨_,rfl,Subp.take (t:=?_) ?_⟩)
  rotate_left
  (repeat first|exact HTake.nil|(apply HTake.cons;focus (repeat first|exact HPick.hit|apply HPick.miss)))
def es_cond:List (Value × HV):=[(.string tOr,ii 20)]
theorem op_cond (l:List Tk):opOK l (orK l) es_cond:=by
 intro j
 cases h:kOK l j<;>cases h0:strEq (tk l j).text tOr<;>simp [opAt,orK,isT_k,es_cond,mapB,mapV,keyEq_ss,h,h0]
set_option maxHeartbeats 2000000 in
theorem cond_lvl (l:List Tk) (wf:WfT l) (n:Nat) (IH:∀ f,f≤n→∀ r d i res,i < l.length→0≤d→d≤50→pE l f .conj d i=some res→ExpR l 58 r d i res)
  (r:Nat) (d:Int) (h0:0≤d) (h1:d≤50) (i:Nat) (hi:i < l.length) (res) (h:(bindR (pE l n .conj d i) fun e j=>pE l n (.condL e) d j)=some res):ExpR l 50 r d i res:=by
 have C:=fun rm (hrm:r≠rm)=>chain_spec l wf 58 rfl .condL .conj (orK l) es_cond rfl (op_cond l) rfl (fun f e d i=>rfl) n IH r rm hrm d h0 h1 i hi res h
 refine goalO.of ?_
 clear h IH
 unfold rdS
 cases res with
 |error x=>
  obtain ⟨c,j,d'⟩:=x
  simp only [goalO,rmS] at C
  unfold rd at *
  refine (sem_calls' cx (fn:=Tryz.f50) rfl rfl rfl rfl ?_)
  repeat' first|refine Ops.tag rfl ?_|(refine OpsT.go ?_;(conv=>arg 7;whnf))|refine Stp.pure rfl ?_|((with_reducible refine PutK.isSet ?_);refine PutK.st ?_)|refine PutK.mk' rfl ?_|refine Ops.nil ?_|((with_reducible refine Look.id ?_);refine Look.at ?_;try (conv=>arg 7;whnf))|((with_reducible refine Side.id ?_);first|refine Side.auto ?_)|((with_reducible refine SemWp.id ?_);first|refine sem_seq ?_|refine sem_region rfl ?_)|((with_reducible refine qThen.id ?_);first|refine qThen.go ?_)|refine Stp.look ?_|refine Stp.call ?_|refine Stp.eff ?_|((with_reducible refine CallWp.id ?_);first|(refine callB cx (C _ (by omega)) ?_;(conv=>whnf)))|(refine newN (fun r hr=>?_);simp only [keys,List.nil_append,List.cons_append,List.map_cons,List.map_nil,List.mem_cons,List.not_mem_nil,not_or,or_false,not_false_eq_true] at hr)|((with_reducible refine BodyR.id ?_);first|refine BodyR.pan ?_)
  refine Fin.mk ?_
  refine ⟨WeakerE.refl _,Subp.tk⟩
 |ok x=>
  obtain ⟨e,j⟩:=x
  simp only [goalO,rmS] at C
  unfold rd at *
  refine (sem_calls' cx (fn:=Tryz.f50) rfl rfl rfl rfl ?_)
  repeat' first|refine Ops.tag rfl ?_|(refine OpsT.go ?_;(conv=>arg 7;whnf))|refine Stp.pure rfl ?_|((with_reducible refine PutK.isSet ?_);refine PutK.st ?_)|refine PutK.mk' rfl ?_|refine Ops.nil ?_|((with_reducible refine Look.id ?_);refine Look.at ?_;try (conv=>arg 7;whnf))|((with_reducible refine Side.id ?_);first|refine Side.auto ?_)|((with_reducible refine SemWp.id ?_);first|refine sem_seq ?_|refine sem_region rfl ?_|refine sem_ret ?_)|((with_reducible refine qThen.id ?_);first|refine qThen.go ?_)|refine Stp.look ?_|refine Stp.call ?_|refine Stp.eff ?_|((with_reducible refine CallWp.id ?_);first|(refine callTO cx (C _ (by omega)) (by repeat first|exact HTake.nil|(apply HTake.cons;focus (repeat first|exact HPick.hit|apply HPick.miss))) (fun rt hrt=>?_);simp only [keys,List.nil_append,List.cons_append,List.map_cons,List.map_nil,List.mem_cons,List.not_mem_nil,not_or,or_false,not_false_eq_true] at hrt;(conv=>whnf)))|(refine newN (fun r hr=>?_);simp only [keys,List.nil_append,List.cons_append,List.map_cons,List.map_nil,List.mem_cons,List.not_mem_nil,not_or,or_false,not_false_eq_true] at hr)|((with_reducible refine BodyR.id ?_);first|refine BodyR.ret ?_)|((with_reducible refine ResG.id ?_);first|refine ResG.tmp rfl ?_|refine ResG.nil ?_)
  refine Fin.mk (.inl ⟨_,rfl,Subp.take (t:=?_) ?_⟩)
  rotate_left
  (repeat first|exact HTake.nil|(apply HTake.cons;focus (repeat first|exact HPick.hit|apply HPick.miss)))
end Go.Proofs.Hk
