import Derived.Test.YtbbapmfmijiibaaGreatDoorCX
import Derived.Test.YtbbapmfmijiibaaGreatDoorH15
import Derived.Test.YtbbapmfmijiibaaGreatDoorH22
set_option linter.unusedSimpArgs false
set_option linter.unusedVariables false
set_option maxRecDepth 4000
namespace Go.Proofs.Hk
open Go Go.Proofs
def blankZ (b:Int):Bool:=b == 32||b == 9||b == 10||b == 13
def letterZ (b:Int):Bool:=decide (b≥97) && decide (b≤122)
def digitZ (b:Int):Bool:=decide (b≥48) && decide (b≤57)
def bb (b:Bool):HV:=.v (.bool b)
def ii (n:Int):HV:=.v (.int .i64 n)
def ss (s:ByteArray):HV:=.v (.string s)
def cc (n:Int):HV:=.v (.int .u8 n)
end Go.Proofs.Hk

set_option linter.unusedSimpArgs false
set_option linter.unusedVariables false
set_option maxRecDepth 4000
namespace Go.Proofs.Hk
open Go Go.Proofs
def u32 (n:Nat):HV:=.v (.int .u32 n)
def u64 (n:Nat):HV:=.v (.int .u64 n)
def LL (l:List Nat):HV:=.list .no 1 (l.map u32)
structure GI where
 neg:Bool
 l:List Nat
def encP (n:Bool) (l:List Nat):HV:=.agg [bb n,LL l]
def encI (g:GI):HV:=encP g.neg g.l
def GI.may (g:GI):Bool:=match g.l.getLast? with
 |none=>!g.neg
 |some x=>x != 0
/-- What is read of a number: its limbs are limbs, and not too many. -/
structure GI.Ok (g:GI):Prop where
 lim:Lim g.l
 len:g.l.length≤1099511627776
def sg (n:Bool) (V:Nat):Int:=if n=true then -(V:Int) else V
def toZ (g:GI):Int:=if g.may=true then sg g.neg (vl g.l) else 0
def ofZ (z:Int):GI:=⟨decide (z < 0),nl z.natAbs⟩
theorem getD_u32 {l:List Nat} {k:Int} {n:Nat} (hk:k=n) (h:n < l.length):(l.map u32).getD k.toNat default = .v (.int .u32 (l[n]:Int)):=by
 subst hk
 simp [List.getD_eq_getElem?_getD,h,u32]
theorem may_top {g:GI} (h:g.may=true):Top0 g.l:=fun x hx=>by
 unfold GI.may at h
 rw [hx] at h
 simpa using h
theorem may_at {n:Bool} {l:List Nat} (h:0 < l.length):(GI.mk n l).may=((l[l.length - 1]'(by omega):Int) != 0):=by
 unfold GI.may
 simp only [List.getLast?_eq_getElem?]
 rw [List.getElem?_eq_getElem (by omega)]
 simp only []
 by_cases h0:l[l.length - 1]'(by omega)=0
 ·rw [h0];rfl
 ·rw [bne_iff_ne.2 h0,bne_iff_ne.2 (by omega)]
theorem May_spec (g:GI) (hg:g.Ok):Pur cx 22 [encI g] (bb g.may):=by
 obtain ⟨n,l⟩:=g
 have hl:l.length≤1099511627776:=hg.len
 have hm:(l.map u32).length=l.length:=by simp
 change Pur cx _ [encP n l] _
 refine Pur.of (sem_calls' cx (fn:=Tryz.f22) rfl rfl rfl rfl ?_)
 by_cases h0:l.length=0
 ·have:l=[]:=List.length_eq_zero_iff.1 h0
  subst this
  repeat' first|refine Ops.tag rfl ?_|(refine OpsT.go ?_;(conv=>arg 7;whnf))|((with_reducible refine Stp.isEq ?_);first|refine Stp.eqT ?_)|refine Stp.pure rfl ?_|refine PutK.mk' rfl ?_|refine Ops.nil ?_|((with_reducible refine Look.id ?_);refine Look.auto ?_ (by repeat first|exact HGet.hit);try (conv=>arg 7;whnf))|((with_reducible refine Side.id ?_);first|refine Side.auto ?_)|((with_reducible refine Br.id ?_);first|(with_reducible first|refine br_true rfl ?_))|((with_reducible refine SemWp.id ?_);first|refine sem_seq ?_|refine sem_region rfl ?_|refine sem_cond rfl ?_|refine sem_ret ?_)|((with_reducible refine qThen.id ?_);first|refine qThen.go ?_|refine qThen.ret ?_)|refine Stp.valS ?_|refine Stp.look ?_|refine Stp.eff ?_|(refine newN (fun r hr=>?_);simp only [keys,List.nil_append,List.cons_append,List.map_cons,List.map_nil,List.mem_cons,List.not_mem_nil,not_or,or_false,not_false_eq_true] at hr)|((with_reducible refine BodyR.id ?_);first|refine BodyR.ret ?_)|((with_reducible refine ResG.id ?_);first|refine ResG.tmp rfl ?_|refine ResG.nil ?_)
  exact Fin.mk rfl
 ·have g1:(l.map u32).getD (((l.map u32).length:Int) - 1).toNat default = .v (.int .u32 (l[l.length - 1]'(by omega):Int)):=getD_u32 (n:=l.length - 1) (by rw [hm];omega) (by omega)
  repeat' first|refine Ops.tag rfl ?_|(refine OpsT.go ?_;(conv=>arg 7;whnf))|((with_reducible refine Stp.isSum ?_);refine Stp.sum ?_)|((with_reducible refine Stp.isEq ?_);first|refine Stp.eqF ?_)|refine Stp.pure rfl ?_|refine PutK.mk' rfl ?_|refine Ops.nil ?_|((with_reducible refine Look.id ?_);refine Look.auto ?_ (by repeat first|exact HGet.hit);try (conv=>arg 7;whnf))|((with_reducible refine Side.id ?_);first|refine Side.auto ?_)|((with_reducible refine Br.id ?_);first|(with_reducible first|refine br_false rfl ?_))|((with_reducible refine SemWp.id ?_);first|refine sem_seq ?_|refine sem_region rfl ?_|refine sem_cond rfl ?_|refine sem_ret ?_|refine sem_skip ?_)|((with_reducible refine qThen.id ?_);first|refine qThen.go ?_)|refine Stp.valS ?_|refine Stp.look ?_|refine Stp.eff ?_|(refine newN (fun r hr=>?_);simp only [keys,List.nil_append,List.cons_append,List.map_cons,List.map_nil,List.mem_cons,List.not_mem_nil,not_or,or_false,not_false_eq_true] at hr)|((with_reducible refine BodyR.id ?_);first|refine BodyR.ret ?_)|((with_reducible refine ResG.id ?_);first|refine ResG.tmp rfl ?_|refine ResG.nil ?_)|rw [g1]
  all_goals first
   |(exact Fin.mk (by rw [may_at (by omega)];rfl))
   |(exfalso;omega)
end Go.Proofs.Hk

set_option linter.unusedSimpArgs false
set_option linter.unusedVariables false
set_option maxRecDepth 4000
namespace Go.Proofs.Hk
open Go Go.Proofs
theorem rMay_spec (g:GI) (hg:g.Ok):Pur cx 25 [encI g] (bb g.may):=by
 obtain ⟨n,l⟩:=g
 have hl:l.length≤1099511627776:=hg.len
 have hm:(l.map u32).length=l.length:=by simp
 change Pur cx _ [encP n l] _
 refine Pur.of (sem_calls' cx (fn:=Tryz.f25) rfl rfl rfl rfl ?_)
 by_cases h0:l.length=0
 ·have:l=[]:=List.length_eq_zero_iff.1 h0
  subst this
  cases n
  ·repeat' first|refine Ops.tag rfl ?_|((with_reducible first|refine OpsT.yes ?_);(conv=>arg 7;whnf))|(with_reducible first|refine OpsT.andF ?_|refine OpsT.no ?_|refine OpsT.no' ?_)|(refine OpsT.go ?_;(conv=>arg 7;whnf))|(with_reducible first|refine Stp.orT ?_|refine Stp.andT ?_|refine Stp.notF ?_)|((with_reducible refine Stp.isEq ?_);first|refine Stp.eqT ?_)|refine Stp.pure rfl ?_|refine PutK.mk' rfl ?_|refine Ops.nil ?_|((with_reducible refine Look.id ?_);refine Look.auto ?_ (by repeat first|exact HGet.hit);try (conv=>arg 7;whnf))|((with_reducible refine Side.id ?_);first|refine Side.auto ?_)|((with_reducible refine SemWp.id ?_);first|refine sem_seq ?_|refine sem_region rfl ?_|refine sem_ret ?_)|((with_reducible refine qThen.id ?_);first|refine qThen.go ?_)|refine Stp.valS ?_|refine Stp.look ?_|refine Stp.eff ?_|(refine newN (fun r hr=>?_);simp only [keys,List.nil_append,List.cons_append,List.map_cons,List.map_nil,List.mem_cons,List.not_mem_nil,not_or,or_false,not_false_eq_true] at hr)|((with_reducible refine BodyR.id ?_);first|refine BodyR.ret ?_)|((with_reducible refine ResG.id ?_);first|refine ResG.tmp rfl ?_|refine ResG.nil ?_)
   exact Fin.mk rfl
  ·repeat' first|refine Ops.tag rfl ?_|((with_reducible first|refine OpsT.yes ?_|refine OpsT.yes' ?_);(conv=>arg 7;whnf))|(with_reducible first|refine OpsT.no ?_)|(refine OpsT.go ?_;(conv=>arg 7;whnf))|(with_reducible first|refine Stp.orF ?_|refine Stp.andT ?_|refine Stp.andF ?_|refine Stp.notT ?_)|((with_reducible refine Stp.isDec ?_);first|refine Stp.decF ?_)|((with_reducible refine Stp.isEq ?_);first|refine Stp.eqT ?_)|refine Stp.pure rfl ?_|refine PutK.mk' rfl ?_|refine Ops.nil ?_|((with_reducible refine Look.id ?_);refine Look.auto ?_ (by repeat first|exact HGet.hit);try (conv=>arg 7;whnf))|((with_reducible refine Side.id ?_);first|refine Side.auto ?_)|((with_reducible refine SemWp.id ?_);first|refine sem_seq ?_|refine sem_region rfl ?_|refine sem_ret ?_)|((with_reducible refine qThen.id ?_);first|refine qThen.go ?_)|refine Stp.valS ?_|refine Stp.look ?_|refine Stp.eff ?_|(refine newN (fun r hr=>?_);simp only [keys,List.nil_append,List.cons_append,List.map_cons,List.map_nil,List.mem_cons,List.not_mem_nil,not_or,or_false,not_false_eq_true] at hr)|((with_reducible refine BodyR.id ?_);first|refine BodyR.ret ?_)|((with_reducible refine ResG.id ?_);first|refine ResG.tmp rfl ?_|refine ResG.nil ?_)
   exact Fin.mk rfl
 ·have g1:(l.map u32).getD (((l.map u32).length:Int) - 1).toNat default = .v (.int .u32 (l[l.length - 1]'(by omega):Int)):=getD_u32 (n:=l.length - 1) (by rw [hm];omega) (by omega)
  repeat' first|refine Ops.tag rfl ?_|((with_reducible first|refine OpsT.yes ?_|refine OpsT.yes' ?_);(conv=>arg 7;whnf))|(with_reducible first|refine OpsT.no ?_)|(refine OpsT.go ?_;(conv=>arg 7;whnf))|(with_reducible first|refine Stp.orF ?_|refine Stp.andT ?_|refine Stp.andF ?_)|((with_reducible refine Stp.isSum ?_);refine Stp.sum ?_)|((with_reducible refine Stp.isDec ?_);first|refine Stp.decT ?_)|((with_reducible refine Stp.isEq ?_);first|refine Stp.eqF ?_)|refine Stp.pure rfl ?_|refine PutK.mk' rfl ?_|refine Ops.nil ?_|((with_reducible refine Look.id ?_);refine Look.auto ?_ (by repeat first|exact HGet.hit);try (conv=>arg 7;whnf))|((with_reducible refine Side.id ?_);first|refine Side.auto ?_)|((with_reducible refine SemWp.id ?_);first|refine sem_seq ?_|refine sem_region rfl ?_|refine sem_ret ?_)|((with_reducible refine qThen.id ?_);first|refine qThen.go ?_)|refine Stp.valS ?_|refine Stp.look ?_|refine Stp.eff ?_|(refine newN (fun r hr=>?_);simp only [keys,List.nil_append,List.cons_append,List.map_cons,List.map_nil,List.mem_cons,List.not_mem_nil,not_or,or_false,not_false_eq_true] at hr)|((with_reducible refine BodyR.id ?_);first|refine BodyR.ret ?_)|((with_reducible refine ResG.id ?_);first|refine ResG.tmp rfl ?_|refine ResG.nil ?_)|rw [g1]
  all_goals exact Fin.mk (by rw [may_at (by omega)];rfl)
def gi0:GI:=⟨false,[]⟩
def LIs (l:List GI):HV:=.list .no 2 (l.map encI)
/-- A number of at most forty limbs. -/
structure Sm (g:GI):Prop where
 lim:Lim g.l
 len:g.l.length≤40
theorem Sm.ok {g:GI} (h:Sm g):g.Ok:=⟨h.lim,by have:=h.len;omega⟩
theorem sm0:Sm gi0:=⟨Lim.nil,by decide⟩
theorem getD_int {l:List GI} {k:Int} {n:Nat} (hk:k=n) (h:n < l.length):(l.map encI).getD k.toNat default=encP (l.getD n gi0).neg (l.getD n gi0).l:=by
 subst hk
 simp [List.getD_eq_getElem?_getD,h,encI]
structure GA where
 x:List GI
 w:List GI
 k:GI
def encA' (x w:List GI) (n:Bool) (l:List Nat):HV:=.agg [LIs x,LIs w,bb n,LL l]
def encA (a:GA):HV:=encA' a.x a.w a.k.neg a.k.l
structure SmA (a:GA):Prop where
 x:∀ g∈a.x,Sm g
 w:∀ g∈a.w,Sm g
 k:Sm a.k
 lx:a.x.length≤60
 lw:a.w.length≤60
structure GE where
 fr:Int
 to:Int
 m:Int
 g:List GA
 s:List GA
 p:List Bool
def LAs (l:List GA):HV:=.list .no 4 (l.map encA)
def LBs (l:List Bool):HV:=.list .no 1 (l.map bb)
def encE' (fr to m:Int) (g s:List GA) (p:List Bool):HV:=.agg [ii fr,ii to,ii m,LAs g,LAs s,LBs p]
def encE (e:GE):HV:=encE' e.fr e.to e.m e.g e.s e.p
structure SmE (e:GE):Prop where
 g:∀ a∈e.g,SmA a
 s:∀ a∈e.s,SmA a
 lg:e.g.length≤1000
 ls:e.s.length≤1000
def ga0:GA:=⟨[],[],gi0⟩
theorem getD_aff {l:List GA} {k:Int} {n:Nat} (hk:k=n) (h:n < l.length):(l.map encA).getD k.toNat default=encA' (l.getD n ga0).x (l.getD n ga0).w (l.getD n ga0).k.neg (l.getD n ga0).k.l:=by
 subst hk
 simp [List.getD_eq_getElem?_getD,h,encA]
def bigI (g:GI):Bool:=decide (40 < g.l.length)
def bigL (l:List GI):Bool:=l.any bigI
theorem any_take {α:Type} {l:List α} {p:α→Bool} {i:Nat} (h:i < l.length):(l.take (i+1)).any p=((l.take i).any p||p l[i]):=by
 rw [List.take_succ_eq_append_getElem h,List.any_append];simp
theorem any_yes {α:Type} {l:List α} {p:α→Bool} {i:Nat} (h:i < l.length) (hp:p l[i]=true):l.any p=true:=
 List.any_eq_true.2 ⟨l[i],List.getElem_mem h,hp⟩
theorem getD_eq {α:Type} {l:List α} {d:α} {i:Nat} (h:i < l.length):l.getD i d=l[i]:=by
 rw [List.getD_eq_getElem?_getD,List.getElem?_eq_getElem h];rfl
theorem Great1_spec (l:List GI) (hn:l.length≤9223372036854775807):Pur cx 18 [LIs l] (bb (bigL l)):=by
 have m:(l.map encI).length=l.length:=by simp
 refine Pur.of (sem_calls' cx (fn:=Tryz.f18) rfl rfl rfl rfl ?_)
 repeat' first|refine Ops.tag rfl ?_|(refine OpsT.go ?_;(conv=>arg 7;whnf))|refine Stp.pure rfl ?_|refine Ops.nil ?_|((with_reducible refine SemWp.id ?_);first|refine sem_seq ?_|refine sem_region rfl ?_|refine sem_block ?_)|((with_reducible refine qThen.id ?_);first|refine qThen.go ?_)
 refine sem_loop cx (ι:=Nat) (fun i=>i≤l.length∧(l.take i).any bigI=false) (fun i=>[(0,.sure,LIs l),(3,.sure,ii i)]) (fun _=>[]) (fun i=>l.length - i) 0 ⟨Nat.zero_le _,rfl⟩ (by repeat' first|exact Sub.nil _|refine Sub.auto ?_) (Subp.nil _) ?_
 rintro i ⟨i1,i2⟩
 by_cases hil:i < l.length
 ·have g1:(l.map encI).getD (i:Int).toNat default=encP (l.getD i gi0).neg (l.getD i gi0).l:=getD_int (n:=i) rfl hil
  have t:=any_take (p:=bigI) hil
  have y:=any_yes (p:=bigI) hil
  rw [getD_eq hil] at g1
  generalize l[i]=g at *
  have mg:(g.l.map u32).length=g.l.length:=by simp
  by_cases hb:40 < g.l.length
  ·repeat' first|refine Ops.tag rfl ?_|(refine OpsT.go ?_;(conv=>arg 7;whnf))|((with_reducible refine Stp.isDec ?_);first|refine Stp.decT ?_)|refine Stp.pure rfl ?_|refine Ops.nil ?_|((with_reducible refine Side.id ?_);first|refine Side.auto ?_)|((with_reducible refine Br.id ?_);first|(with_reducible first|refine br_true rfl ?_))|((with_reducible refine SemWp.id ?_);first|refine sem_seq ?_|refine sem_region rfl ?_|refine sem_cond rfl ?_|refine sem_block ?_|refine sem_ret ?_|refine sem_skip ?_)|((with_reducible refine qThen.id ?_);first|refine qThen.go ?_|refine qThen.ret ?_)|((with_reducible refine hinBlock.id ?_);first|refine hinBlock.ret ?_)|((with_reducible refine hround.id ?_);first|refine hround.ret ?_)|refine Stp.valS ?_|((with_reducible refine BodyR.id ?_);first|refine BodyR.ret ?_)|((with_reducible refine ResG.id ?_);first|refine ResG.tmp rfl ?_|refine ResG.nil ?_)|rw [g1]
   exact Fin.mk (by unfold bigL;rw [y (by simp [bigI,hb])];rfl)
  ·repeat' first|refine Ops.tag rfl ?_|(refine OpsT.go ?_;(conv=>arg 7;whnf))|((with_reducible refine Stp.isSum ?_);refine Stp.sum ?_)|((with_reducible refine Stp.isDec ?_);first|refine Stp.decT ?_|refine Stp.decF ?_)|refine Stp.pure rfl ?_|refine Ops.nil ?_|((with_reducible refine Side.id ?_);first|refine Side.auto ?_)|((with_reducible refine Br.id ?_);first|(with_reducible first|refine br_true rfl ?_|refine br_false rfl ?_))|((with_reducible refine SemWp.id ?_);first|refine sem_seq ?_|refine sem_region rfl ?_|refine sem_cond rfl ?_|refine sem_block ?_|refine sem_skip ?_)|((with_reducible refine qThen.id ?_);first|refine qThen.go ?_)|((with_reducible refine hinBlock.id ?_);first|refine hinBlock.go ?_)|((with_reducible refine hround.id ?_);first|refine hround.go ?_)|refine Stp.valS ?_|rw [g1]
   exact Fin.mk ⟨i+1,⟨by omega,by rw [t,i2];simp [bigI];omega⟩,by omega,by repeat' first|exact Sub.nil _|refine Sub.auto ?_,Subp.nil _⟩
 ·have:i=l.length:=by omega
  subst this
  rw [List.take_length] at i2
  repeat' first|refine Ops.tag rfl ?_|(refine OpsT.go ?_;(conv=>arg 7;whnf))|((with_reducible refine Stp.isDec ?_);first|refine Stp.decF ?_)|refine Stp.pure rfl ?_|refine Ops.nil ?_|((with_reducible refine Br.id ?_);first|(with_reducible first|refine br_false rfl ?_))|((with_reducible refine SemWp.id ?_);first|refine sem_seq ?_|refine sem_region rfl ?_|refine sem_cond rfl ?_|refine sem_exit ?_|refine sem_ret ?_)|((with_reducible refine qThen.id ?_);first|refine qThen.go ?_)|((with_reducible refine BodyR.id ?_);first|refine BodyR.ret ?_)|((with_reducible refine ResG.id ?_);first|refine ResG.tmp rfl ?_|refine ResG.nil ?_)
  exact Fin.mk (by unfold bigL;rw [i2];rfl)
def bigA (a:GA):Bool:=decide (60 < a.x.length)||decide (60 < a.w.length)||bigI a.k||bigL a.x||bigL a.w
def bigAs (l:List GA):Bool:=l.any bigA
structure LenA (a:GA):Prop where
 x:a.x.length≤9223372036854775807
 w:a.w.length≤9223372036854775807
set_option maxHeartbeats 1000000 in
theorem deep_spec (l:List GA) (hl:∀ a∈l,LenA a) (hn:l.length≤9223372036854775807):Pur cx 8 [LAs l] (bb (bigAs l)):=by
 have m:(l.map encA).length=l.length:=by simp
 refine Pur.of (sem_calls' cx (fn:=Tryz.f8) rfl rfl rfl rfl ?_)
 repeat' first|refine Ops.tag rfl ?_|(refine OpsT.go ?_;(conv=>arg 7;whnf))|refine Stp.pure rfl ?_|refine Ops.nil ?_|((with_reducible refine SemWp.id ?_);first|refine sem_seq ?_|refine sem_region rfl ?_|refine sem_block ?_)|((with_reducible refine qThen.id ?_);first|refine qThen.go ?_)
 refine sem_loop cx (ι:=Nat) (fun i=>i≤l.length∧(l.take i).any bigA=false) (fun i=>[(0,.sure,LAs l),(3,.sure,ii i)]) (fun _=>[]) (fun i=>l.length - i) 0 ⟨Nat.zero_le _,rfl⟩ (by repeat' first|exact Sub.nil _|refine Sub.auto ?_) (Subp.nil _) ?_
 rintro i ⟨i1,i2⟩
 by_cases hil:i < l.length
 ·have g1:=getD_aff (l:=l) (k:=i) (n:=i) rfl hil
  have t:=any_take (p:=bigA) hil
  have y:=any_yes (p:=bigA) hil
  have hlen:=hl _ (List.getElem_mem hil)
  rw [getD_eq hil] at g1
  generalize l[i]=a at *
  have mx:(a.x.map encI).length=a.x.length:=by simp
  have mw:(a.w.map encI).length=a.w.length:=by simp
  have Gk:=(Great1_spec [a.k] (by simp)).args (ys:=[.list .full 2 [encP a.k.neg a.k.l]]) (.cons (Weaker.tok _ _ _) .nil)
  have Gx:=Great1_spec a.x hlen.x
  have Gw:=Great1_spec a.w hlen.w
  have ek:bigL [a.k]=bigI a.k:=by simp [bigL]
  rw [ek] at Gk
  have eb:bigA a=(decide (60 < a.x.length)||decide (60 < a.w.length)||bigI a.k||bigL a.x||bigL a.w):=rfl
  have yes:bigA a=true→Fin (HEnd.ret (tupOf [HV.v (.bool true)])=HEnd.ret (bb (bigAs l))):=fun h=>Fin.mk (by unfold bigAs;rw [y h];rfl)
  clear y
  by_cases h1:60 < a.x.length
  ·have hy:bigA a=true:=by rw [eb,decide_eq_true h1];rfl
   clear eb t
   repeat' first|refine Ops.tag rfl ?_|(with_reducible first|refine OpsT.no' ?_)|(refine OpsT.go ?_;(conv=>arg 7;whnf))|(with_reducible first|refine Stp.orT ?_)|((with_reducible refine Stp.isDec ?_);first|refine Stp.decT ?_)|refine Stp.pure rfl ?_|refine PutK.mk' rfl ?_|refine Ops.nil ?_|((with_reducible refine Side.id ?_);first|refine Side.auto ?_)|((with_reducible refine Br.id ?_);first|(with_reducible first|refine br_true rfl ?_))|((with_reducible refine SemWp.id ?_);first|refine sem_seq ?_|refine sem_region rfl ?_|refine sem_cond rfl ?_|refine sem_block ?_|refine sem_ret ?_|refine sem_skip ?_)|((with_reducible refine qThen.id ?_);first|refine qThen.go ?_|refine qThen.ret ?_)|((with_reducible refine hinBlock.id ?_);first|refine hinBlock.ret ?_)|((with_reducible refine hround.id ?_);first|refine hround.ret ?_)|refine Stp.valS ?_|((with_reducible refine BodyR.id ?_);first|refine BodyR.ret ?_)|((with_reducible refine ResG.id ?_);first|refine ResG.tmp rfl ?_|refine ResG.nil ?_)|rw [g1]
   exact yes hy
  ·rw [decide_eq_false h1,Bool.false_or] at eb
   by_cases h2:60 < a.w.length
   ·have hy:bigA a=true:=by rw [eb,decide_eq_true h2];rfl
    clear eb t
    repeat' first|refine Ops.tag rfl ?_|((with_reducible first|refine OpsT.yes' ?_);(conv=>arg 7;whnf))|(with_reducible first|refine OpsT.no' ?_)|(refine OpsT.go ?_;(conv=>arg 7;whnf))|(with_reducible first|refine Stp.orF ?_|refine Stp.orT ?_)|((with_reducible refine Stp.isDec ?_);first|refine Stp.decT ?_|refine Stp.decF ?_)|refine Stp.pure rfl ?_|refine PutK.mk' rfl ?_|refine Ops.nil ?_|((with_reducible refine Side.id ?_);first|refine Side.auto ?_)|((with_reducible refine Br.id ?_);first|(with_reducible first|refine br_true rfl ?_))|((with_reducible refine SemWp.id ?_);first|refine sem_seq ?_|refine sem_region rfl ?_|refine sem_cond rfl ?_|refine sem_block ?_|refine sem_ret ?_|refine sem_skip ?_)|((with_reducible refine qThen.id ?_);first|refine qThen.go ?_|refine qThen.ret ?_)|((with_reducible refine hinBlock.id ?_);first|refine hinBlock.ret ?_)|((with_reducible refine hround.id ?_);first|refine hround.ret ?_)|refine Stp.valS ?_|((with_reducible refine BodyR.id ?_);first|refine BodyR.ret ?_)|((with_reducible refine ResG.id ?_);first|refine ResG.tmp rfl ?_|refine ResG.nil ?_)|rw [g1]
    exact yes hy
   ·rw [decide_eq_false h2,Bool.false_or] at eb
    generalize bigI a.k=b1 at *
    generalize bigL a.x=b2 at *
    generalize bigL a.w=b3 at *
    cases b1<;>cases b2<;>cases b3
    case false.false.false=>
     have tn:(l.take (i+1)).any bigA=false:=by rw [t,i2,eb];rfl
     clear eb t yes
     repeat' first|refine Ops.tag rfl ?_|((with_reducible first|refine OpsT.yes' ?_);(conv=>arg 7;whnf))|(refine OpsT.go ?_;(conv=>arg 7;whnf))|(with_reducible first|refine Stp.orF ?_)|((with_reducible refine Stp.isSum ?_);refine Stp.sum ?_)|((with_reducible refine Stp.isDec ?_);first|refine Stp.decT ?_|refine Stp.decF ?_)|refine Stp.pure rfl ?_|refine PutK.mk' rfl ?_|refine Ops.nil ?_|((with_reducible refine Side.id ?_);first|refine Side.auto ?_)|((with_reducible refine Br.id ?_);first|(with_reducible first|refine br_true rfl ?_|refine br_false rfl ?_))|((with_reducible refine SemWp.id ?_);first|refine sem_seq ?_|refine sem_region rfl ?_|refine sem_cond rfl ?_|refine sem_block ?_|refine sem_skip ?_)|((with_reducible refine qThen.id ?_);first|refine qThen.go ?_)|((with_reducible refine hinBlock.id ?_);first|refine hinBlock.go ?_)|((with_reducible refine hround.id ?_);first|refine hround.go ?_)|refine Stp.valS ?_|refine Stp.call ?_|((with_reducible refine CallWp.id ?_);first|refine Pur.call (Gk) ?_|refine Pur.call (Gx) ?_|refine Pur.call (Gw) ?_)|rw [g1]
     exact Fin.mk ⟨i+1,⟨by omega,tn⟩,by omega,by repeat' first|exact Sub.nil _|refine Sub.auto ?_,Subp.nil _⟩
    all_goals
     have hy:bigA a=true:=eb
     clear eb t
     repeat' first|refine Ops.tag rfl ?_|((with_reducible first|refine OpsT.yes' ?_);(conv=>arg 7;whnf))|(with_reducible first|refine OpsT.no' ?_)|(refine OpsT.go ?_;(conv=>arg 7;whnf))|(with_reducible first|refine Stp.orF ?_|refine Stp.orT ?_)|((with_reducible refine Stp.isDec ?_);first|refine Stp.decT ?_|refine Stp.decF ?_)|refine Stp.pure rfl ?_|refine PutK.mk' rfl ?_|refine Ops.nil ?_|((with_reducible refine Side.id ?_);first|refine Side.auto ?_)|((with_reducible refine Br.id ?_);first|(with_reducible first|refine br_true rfl ?_))|((with_reducible refine SemWp.id ?_);first|refine sem_seq ?_|refine sem_region rfl ?_|refine sem_cond rfl ?_|refine sem_block ?_|refine sem_ret ?_|refine sem_skip ?_)|((with_reducible refine qThen.id ?_);first|refine qThen.go ?_|refine qThen.ret ?_)|((with_reducible refine hinBlock.id ?_);first|refine hinBlock.ret ?_)|((with_reducible refine hround.id ?_);first|refine hround.ret ?_)|refine Stp.valS ?_|refine Stp.call ?_|((with_reducible refine CallWp.id ?_);first|refine Pur.call (Gk) ?_|refine Pur.call (Gx) ?_|refine Pur.call (Gw) ?_)|((with_reducible refine BodyR.id ?_);first|refine BodyR.ret ?_)|((with_reducible refine ResG.id ?_);first|refine ResG.tmp rfl ?_|refine ResG.nil ?_)|rw [g1]
     exact yes hy
 ·have:i=l.length:=by omega
  subst this
  rw [List.take_length] at i2
  repeat' first|refine Ops.tag rfl ?_|(refine OpsT.go ?_;(conv=>arg 7;whnf))|((with_reducible refine Stp.isDec ?_);first|refine Stp.decF ?_)|refine Stp.pure rfl ?_|refine Ops.nil ?_|((with_reducible refine Br.id ?_);first|(with_reducible first|refine br_false rfl ?_))|((with_reducible refine SemWp.id ?_);first|refine sem_seq ?_|refine sem_region rfl ?_|refine sem_cond rfl ?_|refine sem_exit ?_|refine sem_ret ?_)|((with_reducible refine qThen.id ?_);first|refine qThen.go ?_)|((with_reducible refine BodyR.id ?_);first|refine BodyR.ret ?_)|((with_reducible refine ResG.id ?_);first|refine ResG.tmp rfl ?_|refine ResG.nil ?_)
  exact Fin.mk (by unfold bigAs;rw [i2];rfl)
end Go.Proofs.Hk

set_option linter.unusedSimpArgs false
set_option linter.unusedVariables false
set_option maxRecDepth 4000
namespace Go.Proofs.Hk
open Go Go.Proofs
/-- The first place of a list at which something holds; -1: none. -/
def idxB {α:Type} (p:α→Bool) (l:List α):Int:=if l.any p=true then (l.findIdx p:Nat) else -1
theorem take_any {α:Type} {l:List α} {p:α→Bool} {i:Nat} (h:(l.take i).any p=false):∀ j,j < i→∀ hj:j < l.length,p l[j]=false:=fun j hji hj=>by
 rw [List.any_eq_false] at h
 have:l[j]∈l.take i:=by
  rw [List.mem_take_iff_getElem]
  exact ⟨j,by omega,rfl⟩
 simpa using h _ this
theorem idx_at {α:Type} {l:List α} {p:α→Bool} {i:Nat} (hi:i < l.length) (h:(l.take i).any p=false) (hp:p l[i]=true):idxB p l=i:=by
 unfold idxB
 rw [if_pos (any_yes hi hp),(List.findIdx_eq hi).2 ⟨hp,fun j hj=>take_any h j hj (by omega)⟩]
theorem idx_no {α:Type} {l:List α} {p:α→Bool} (h:l.any p=false):idxB p l = -1:=by
 unfold idxB;rw [h];rfl
theorem idx_ge {α:Type} {l:List α} {p:α→Bool} : decide (0≤idxB p l)=l.any p:=by
 unfold idxB
 cases l.any p with
 |false=>rfl
 |true=>simp
def noM (g:GI):Bool:=!g.may
theorem notMay_spec (g:GI) (hg:g.Ok):Pur cx 21 [encI g] (bb (noM g)):=by
 have M:=May_spec g hg
 change Pur cx _ [encP g.neg g.l] _
 refine Pur.of (sem_calls' cx (fn:=Tryz.f21) rfl rfl rfl rfl ?_)
 have M:Pur cx 22 [encP g.neg g.l] (bb g.may):=M
 repeat' first|refine Ops.tag rfl ?_|(refine OpsT.go ?_;(conv=>arg 7;whnf))|refine Stp.pure rfl ?_|refine PutK.mk' rfl ?_|refine Ops.nil ?_|((with_reducible refine Look.id ?_);refine Look.auto ?_ (by repeat first|exact HGet.hit);try (conv=>arg 7;whnf))|((with_reducible refine Side.id ?_);first|refine Side.auto ?_)|((with_reducible refine SemWp.id ?_);first|refine sem_seq ?_|refine sem_region rfl ?_|refine sem_ret ?_)|((with_reducible refine qThen.id ?_);first|refine qThen.go ?_)|refine Stp.look ?_|refine Stp.call ?_|refine Stp.eff ?_|((with_reducible refine CallWp.id ?_);first|refine Pur.call (M) ?_)|(refine newN (fun r hr=>?_);simp only [keys,List.nil_append,List.cons_append,List.map_cons,List.map_nil,List.mem_cons,List.not_mem_nil,not_or,or_false,not_false_eq_true] at hr)|((with_reducible refine BodyR.id ?_);first|refine BodyR.ret ?_)|((with_reducible refine ResG.id ?_);first|refine ResG.tmp rfl ?_|refine ResG.nil ?_)
 exact Fin.mk rfl
set_option maxHeartbeats 1000000 in
theorem idxMay_spec (l:List GI) (hl:∀ g∈l,g.Ok) (hn:l.length≤9223372036854775807):Pur cx 44 [LIs l,.fn (.func 21) [] []] (ii (idxB noM l)):=by
 have m:(l.map encI).length=l.length:=by simp
 refine Pur.of (sem_calls' cx (fn:=Tryz.f44) rfl rfl rfl rfl ?_)
 repeat' first|refine Ops.tag rfl ?_|(refine OpsT.go ?_;(conv=>arg 7;whnf))|refine Stp.pure rfl ?_|refine Ops.nil ?_|((with_reducible refine SemWp.id ?_);first|refine sem_seq ?_|refine sem_region rfl ?_|refine sem_block ?_)|((with_reducible refine qThen.id ?_);first|refine qThen.go ?_)
 refine sem_loop cx (ι:=Nat) (fun i=>i≤l.length∧(l.take i).any noM=false) (fun i=>[(0,.sure,LIs l),(1,.sure,.fn (.func 21) [] []),(7,.sure,ii l.length),(8,.sure,ii i)]) (fun _=>[]) (fun i=>l.length - i) 0 ⟨Nat.zero_le _,rfl⟩ (by repeat' first|exact Sub.nil _|refine Sub.auto ?_) (Subp.nil _) ?_
 rintro i ⟨i1,i2⟩
 by_cases hil:i < l.length
 ·have g1:(l.map encI).getD (i:Int).toNat default=encI (l.getD i gi0):=getD_int (n:=i) rfl hil
  have t:=any_take (p:=noM) hil
  have y:=fun h=>idx_at (p:=noM) hil i2 h
  rw [getD_eq hil] at g1
  have M:=notMay_spec l[i] (hl _ (List.getElem_mem hil))
  generalize l[i]=g at *
  cases hb:noM g with
  |true=>
   rw [hb] at M
   have e:=y hb
   clear y t hb
   repeat' first|refine Ops.tag rfl ?_|(refine OpsT.go ?_;(conv=>arg 7;whnf))|((with_reducible refine Stp.isDec ?_);first|refine Stp.decT ?_)|refine Stp.pure rfl ?_|refine PutK.mk' rfl ?_|refine Ops.nil ?_|((with_reducible refine Side.id ?_);first|refine Side.auto ?_)|((with_reducible refine Br.id ?_);first|(with_reducible first|refine br_true rfl ?_))|((with_reducible refine SemWp.id ?_);first|refine sem_seq ?_|refine sem_region rfl ?_|refine sem_cond rfl ?_|refine sem_block ?_|refine sem_ret ?_|refine sem_skip ?_)|((with_reducible refine qThen.id ?_);first|refine qThen.go ?_|refine qThen.ret ?_)|((with_reducible refine hinBlock.id ?_);first|refine hinBlock.ret ?_)|((with_reducible refine hround.id ?_);first|refine hround.ret ?_)|refine Stp.valS ?_|refine Stp.call ?_|((with_reducible refine CallWp.id ?_);first|refine Pur.call (M) ?_)|((with_reducible refine BodyR.id ?_);first|refine BodyR.ret ?_)|((with_reducible refine ResG.id ?_);first|refine ResG.tmp rfl ?_|refine ResG.nil ?_)|rw [g1]
   exact Fin.mk (by rw [e];rfl)
  |false=>
   rw [hb] at M
   have tn:(l.take (i+1)).any noM=false:=by rw [t,i2,hb];rfl
   clear y t hb
   repeat' first|refine Ops.tag rfl ?_|(refine OpsT.go ?_;(conv=>arg 7;whnf))|((with_reducible refine Stp.isSum ?_);refine Stp.sum ?_)|((with_reducible refine Stp.isDec ?_);first|refine Stp.decT ?_)|refine Stp.pure rfl ?_|refine PutK.mk' rfl ?_|refine Ops.nil ?_|((with_reducible refine Side.id ?_);first|refine Side.auto ?_)|((with_reducible refine Br.id ?_);first|(with_reducible first|refine br_true rfl ?_|refine br_false rfl ?_))|((with_reducible refine SemWp.id ?_);first|refine sem_seq ?_|refine sem_region rfl ?_|refine sem_cond rfl ?_|refine sem_block ?_|refine sem_skip ?_)|((with_reducible refine qThen.id ?_);first|refine qThen.go ?_)|((with_reducible refine hinBlock.id ?_);first|refine hinBlock.go ?_)|((with_reducible refine hround.id ?_);first|refine hround.go ?_)|refine Stp.valS ?_|refine Stp.call ?_|((with_reducible refine CallWp.id ?_);first|refine Pur.call (M) ?_)|rw [g1]
   exact Fin.mk ⟨i+1,⟨by omega,tn⟩,by omega,by repeat' first|exact Sub.nil _|refine Sub.auto ?_,Subp.nil _⟩
 ·have:i=l.length:=by omega
  subst this
  rw [List.take_length] at i2
  have e:=idx_no i2
  clear i2
  repeat' first|refine Ops.tag rfl ?_|(refine OpsT.go ?_;(conv=>arg 7;whnf))|((with_reducible refine Stp.isDec ?_);first|refine Stp.decF ?_)|refine Stp.pure rfl ?_|refine Ops.nil ?_|((with_reducible refine Br.id ?_);first|(with_reducible first|refine br_false rfl ?_))|((with_reducible refine SemWp.id ?_);first|refine sem_seq ?_|refine sem_region rfl ?_|refine sem_cond rfl ?_|refine sem_exit ?_|refine sem_ret ?_)|((with_reducible refine qThen.id ?_);first|refine qThen.go ?_)|((with_reducible refine BodyR.id ?_);first|refine BodyR.ret ?_)|((with_reducible refine ResG.id ?_);first|refine ResG.tmp rfl ?_|refine ResG.nil ?_)
  exact Fin.mk (by rw [e];rfl)
theorem anyMay_spec (l:List GI) (hl:∀ g∈l,g.Ok) (hn:l.length≤9223372036854775807):Pur cx 20 [LIs l,.fn (.func 21) [] []] (bb (l.any noM)):=by
 have M:=idxMay_spec l hl hn
 refine Pur.of (sem_calls' cx (fn:=Tryz.f20) rfl rfl rfl rfl ?_)
 repeat' first|refine Ops.tag rfl ?_|(refine OpsT.go ?_;(conv=>arg 7;whnf))|refine Stp.pure rfl ?_|refine PutK.mk' rfl ?_|refine Ops.nil ?_|((with_reducible refine Side.id ?_);first|refine Side.auto ?_)|((with_reducible refine SemWp.id ?_);first|refine sem_seq ?_|refine sem_region rfl ?_|refine sem_ret ?_)|((with_reducible refine qThen.id ?_);first|refine qThen.go ?_)|refine Stp.call ?_|((with_reducible refine CallWp.id ?_);first|refine Pur.call (M) ?_)|((with_reducible refine BodyR.id ?_);first|refine BodyR.ret ?_)|((with_reducible refine ResG.id ?_);first|refine ResG.tmp rfl ?_|refine ResG.nil ?_)
 exact Fin.mk (by rw [←idx_ge (p:=noM)];rfl)
def okL (l:List GI) (n:Int):Bool:=decide ((l.length:Int)=n) && !l.any noM
theorem okL_spec (l:List GI) (n:Int) (hl:∀ g∈l,g.Ok) (hn:l.length≤9223372036854775807):Pur cx 19 [LIs l,ii n] (bb (okL l n)):=by
 have M:=anyMay_spec l hl hn
 have m:(l.map encI).length=l.length:=by simp
 refine Pur.of (sem_calls' cx (fn:=Tryz.f19) rfl rfl rfl rfl ?_)
 by_cases h:(l.length:Int)=n
 ·repeat' first|refine Ops.tag rfl ?_|((with_reducible first|refine OpsT.yes ?_);(conv=>arg 7;whnf))|(refine OpsT.go ?_;(conv=>arg 7;whnf))|(with_reducible first|refine Stp.andT ?_)|((with_reducible refine Stp.isEq ?_);first|refine Stp.eqT ?_)|refine Stp.pure rfl ?_|refine PutK.mk' rfl ?_|refine Ops.nil ?_|((with_reducible refine Side.id ?_);first|refine Side.auto ?_)|((with_reducible refine SemWp.id ?_);first|refine sem_seq ?_|refine sem_region rfl ?_|refine sem_ret ?_)|((with_reducible refine qThen.id ?_);first|refine qThen.go ?_)|refine Stp.call ?_|((with_reducible refine CallWp.id ?_);first|refine Pur.call (M) ?_)|((with_reducible refine BodyR.id ?_);first|refine BodyR.ret ?_)|((with_reducible refine ResG.id ?_);first|refine ResG.tmp rfl ?_|refine ResG.nil ?_)
  exact Fin.mk (by unfold okL;rw [decide_eq_true h,Bool.true_and];rfl)
 ·repeat' first|refine Ops.tag rfl ?_|(with_reducible first|refine OpsT.no ?_)|(refine OpsT.go ?_;(conv=>arg 7;whnf))|(with_reducible first|refine Stp.andF ?_)|((with_reducible refine Stp.isEq ?_);first|refine Stp.eqF ?_)|refine Stp.pure rfl ?_|refine PutK.mk' rfl ?_|refine Ops.nil ?_|((with_reducible refine Side.id ?_);first|refine Side.auto ?_)|((with_reducible refine SemWp.id ?_);first|refine sem_seq ?_|refine sem_region rfl ?_|refine sem_ret ?_)|((with_reducible refine qThen.id ?_);first|refine qThen.go ?_)|refine Stp.valS ?_|((with_reducible refine BodyR.id ?_);first|refine BodyR.ret ?_)|((with_reducible refine ResG.id ?_);first|refine ResG.tmp rfl ?_|refine ResG.nil ?_)
  exact Fin.mk (by unfold okL;rw [decide_eq_false h];rfl)
def badA (n m:Int) (a:GA):Bool:=!okL a.x n||!okL a.w m||!a.k.may
/-- The state that the closure sees. -/
def affS (p q r:Nat) (n m:Int):HS:=[(p,.cells [.fn (.func 19) [] []] 59),(q,.cells [ii n] 3),(r,.cells [ii m] 3)]
theorem HCalls.sub {P:Program} {f:FuncId} {xs:List HV} {s S:HS} {v:HV} (h:HCalls P f xs s fun e st=>e = .ret v∧Subp S st):HCalls P f xs s fun e st=>e = .ret v∧st=S:=
 HCalls.weaken h fun e s1 ⟨h1,h2⟩=>⟨.ret v,S,h1 ▸ .ret (Weaker.refl v),h2,rfl,rfl⟩
theorem badA_spec (p q r:Nat) (hpq:p≠q) (hpr:p≠r) (hqr:q≠r) (n m:Int) (a:GA) (ha:SmA a) :
  HCalls cx.P 24 [encA a,.ptr p 0,.ptr q 0,.ptr r 0] (affS p q r n m) fun e st=>e = .ret (bb (badA n m a))∧st=affS p q r n m:=by
 have X:=okL_spec a.x n (fun g hg=>(ha.x g hg).ok) (by have:=ha.lx;omega)
 have W:=okL_spec a.w m (fun g hg=>(ha.w g hg).ok) (by have:=ha.lw;omega)
 have K:=May_spec a.k ha.k.ok
 obtain ⟨x,w,⟨kn,kl⟩⟩:=a
 have K:Pur cx 22 [encP kn kl] (bb (GI.mk kn kl).may):=K
 have eb:badA n m ⟨x,w,⟨kn,kl⟩⟩=(!okL x n||!okL w m||!(GI.mk kn kl).may):=rfl
 rw [eb]
 change HCalls cx.P _ [encA' x w kn kl,_,_,_] _ _
 unfold affS
 refine HCalls.sub (sem_calls' cx (fn:=Tryz.f24) rfl rfl rfl rfl ?_)
 generalize okL x n=b1 at *
 generalize okL w m=b2 at *
 generalize (GI.mk kn kl).may=b3 at *
 cases b1<;>cases b2<;>cases b3
 all_goals
  repeat' first|refine Ops.tag rfl ?_|((with_reducible first|refine OpsT.yes' ?_);(conv=>arg 7;whnf))|(with_reducible first|refine OpsT.no' ?_)|(refine OpsT.go ?_;(conv=>arg 7;whnf))|(with_reducible first|refine Stp.orF ?_|refine Stp.orT ?_|refine Stp.notT ?_|refine Stp.notF ?_)|refine Stp.pure rfl ?_|refine PutK.mk' rfl ?_|refine Ops.nil ?_|((with_reducible refine Look.id ?_);refine Look.auto ?_ (by repeat first|exact HGet.hit|apply HGet.miss (by first|assumption|omega));try (conv=>arg 7;whnf))|((with_reducible refine Side.id ?_);first|refine Side.auto ?_)|((with_reducible refine SemWp.id ?_);first|refine sem_seq ?_|refine sem_region rfl ?_|refine sem_ret ?_)|((with_reducible refine qThen.id ?_);first|refine qThen.go ?_)|refine Stp.valS ?_|refine Stp.look ?_|refine Stp.call ?_|refine Stp.eff ?_|((with_reducible refine CallWp.id ?_);first|refine Pur.call (X) ?_|refine Pur.call (W) ?_|refine Pur.call (K) ?_)|(refine newN (fun r hr=>?_);simp only [keys,List.nil_append,List.cons_append,List.map_cons,List.map_nil,List.mem_cons,List.not_mem_nil,not_or,or_false,not_false_eq_true] at hr)|((with_reducible refine BodyR.id ?_);first|refine BodyR.ret ?_)|((with_reducible refine ResG.id ?_);first|refine ResG.tmp rfl ?_|refine ResG.nil ?_)
 all_goals
  refine Fin.mk ⟨rfl,Subp.take (t:=?_) ?_⟩
  rotate_left
  (repeat first|exact HTake.nil|(apply HTake.cons;focus (repeat first|exact HPick.hit|apply HPick.miss)))
set_option maxHeartbeats 1000000 in
theorem idxA_spec (p q r:Nat) (hpq:p≠q) (hpr:p≠r) (hqr:q≠r) (n m:Int) (l:List GA) (hl:∀ a∈l,SmA a) (hn:l.length≤9223372036854775807) :
  HCalls cx.P 45 [LAs l,.fn (.func 24) [] [.ptr p 0,.ptr q 0,.ptr r 0]] (affS p q r n m) fun e st=>e = .ret (ii (idxB (badA n m) l))∧st=affS p q r n m:=by
 have len:(l.map encA).length=l.length:=by simp
 have B:=fun a (ha:SmA a)=>badA_spec p q r hpq hpr hqr n m a ha
 unfold affS at *
 refine HCalls.sub (sem_calls' cx (fn:=Tryz.f45) rfl rfl rfl rfl ?_)
 repeat' first|refine Ops.tag rfl ?_|(refine OpsT.go ?_;(conv=>arg 7;whnf))|refine Stp.pure rfl ?_|refine Ops.nil ?_|((with_reducible refine SemWp.id ?_);first|refine sem_seq ?_|refine sem_region rfl ?_|refine sem_block ?_)|((with_reducible refine qThen.id ?_);first|refine qThen.go ?_)
 refine sem_loop cx (ι:=Nat) (fun i=>i≤l.length∧(l.take i).any (badA n m)=false) (fun i=>[(0,.sure,LAs l),(1,.sure,.fn (.func 24) [] [.ptr p 0,.ptr q 0,.ptr r 0]),(7,.sure,ii l.length),(8,.sure,ii i)]) (fun _=>[(p,.cells [.fn (.func 19) [] []] 59),(q,.cells [ii n] 3),(r,.cells [ii m] 3)]) (fun i=>l.length - i) 0 ⟨Nat.zero_le _,rfl⟩ (by repeat' first|exact Sub.nil _|refine Sub.auto ?_) (Subp.of_eq rfl) ?_
 rintro i ⟨i1,i2⟩
 by_cases hil:i < l.length
 ·have g1:(l.map encA).getD (i:Int).toNat default=encA (l.getD i ga0):=getD_aff (n:=i) rfl hil
  have t:=any_take (p:=badA n m) hil
  have y:=fun h=>idx_at (p:=badA n m) hil i2 h
  rw [getD_eq hil] at g1
  have C:=B l[i] (hl _ (List.getElem_mem hil))
  clear B
  generalize l[i]=a at *
  obtain ⟨x,w,⟨kn,kl⟩⟩:=a
  change _=encA' x w kn kl at g1
  change HCalls cx.P _ [encA' x w kn kl,_,_,_] _ _ at C
  cases hb:badA n m ⟨x,w,⟨kn,kl⟩⟩ with
  |true=>
   rw [hb] at C
   have e:=y hb
   clear y t hb
   repeat' first|refine Ops.tag rfl ?_|(refine OpsT.go ?_;(conv=>arg 7;whnf))|((with_reducible refine Stp.isDec ?_);first|refine Stp.decT ?_)|refine Stp.pure rfl ?_|refine PutK.mk' rfl ?_|refine Ops.nil ?_|((with_reducible refine Side.id ?_);first|refine Side.auto ?_)|((with_reducible refine Br.id ?_);first|(with_reducible first|refine br_true rfl ?_))|((with_reducible refine SemWp.id ?_);first|refine sem_seq ?_|refine sem_region rfl ?_|refine sem_cond rfl ?_|refine sem_block ?_|refine sem_ret ?_|refine sem_skip ?_)|((with_reducible refine qThen.id ?_);first|refine qThen.go ?_|refine qThen.ret ?_)|((with_reducible refine hinBlock.id ?_);first|refine hinBlock.ret ?_)|((with_reducible refine hround.id ?_);first|refine hround.ret ?_)|refine Stp.valS ?_|refine Stp.call ?_|((with_reducible refine CallWp.id ?_);first|(refine callT cx (C) (by repeat first|exact HTake.nil|(apply HTake.cons;focus (repeat first|exact HPick.hit))) ?_;(conv=>whnf)))|((with_reducible refine BodyR.id ?_);first|refine BodyR.ret ?_)|((with_reducible refine ResG.id ?_);first|refine ResG.tmp rfl ?_|refine ResG.nil ?_)|rw [g1]
   refine Fin.mk ⟨by rw [e];rfl,Subp.take (t:=?_) ?_⟩
   rotate_left
   (repeat first|exact HTake.nil|(apply HTake.cons;focus (repeat first|exact HPick.hit|apply HPick.miss)))
  |false=>
   rw [hb] at C
   have tn:(l.take (i+1)).any (badA n m)=false:=by rw [t,i2,hb];rfl
   clear y t hb
   repeat' first|refine Ops.tag rfl ?_|(refine OpsT.go ?_;(conv=>arg 7;whnf))|((with_reducible refine Stp.isSum ?_);refine Stp.sum ?_)|((with_reducible refine Stp.isDec ?_);first|refine Stp.decT ?_)|refine Stp.pure rfl ?_|refine PutK.mk' rfl ?_|refine Ops.nil ?_|((with_reducible refine Side.id ?_);first|refine Side.auto ?_)|((with_reducible refine Br.id ?_);first|(with_reducible first|refine br_true rfl ?_|refine br_false rfl ?_))|((with_reducible refine SemWp.id ?_);first|refine sem_seq ?_|refine sem_region rfl ?_|refine sem_cond rfl ?_|refine sem_block ?_|refine sem_skip ?_)|((with_reducible refine qThen.id ?_);first|refine qThen.go ?_)|((with_reducible refine hinBlock.id ?_);first|refine hinBlock.go ?_)|((with_reducible refine hround.id ?_);first|refine hround.go ?_)|refine Stp.valS ?_|refine Stp.call ?_|((with_reducible refine CallWp.id ?_);first|(refine callT cx (C) (by repeat first|exact HTake.nil|(apply HTake.cons;focus (repeat first|exact HPick.hit))) ?_;(conv=>whnf)))|rw [g1]
   refine Fin.mk ⟨i+1,⟨by omega,tn⟩,by omega,by repeat' first|exact Sub.nil _|refine Sub.auto ?_,Subp.take (t:=?_) ?_⟩
   rotate_left
   (repeat first|exact HTake.nil|(apply HTake.cons;focus (repeat first|exact HPick.hit|apply HPick.miss)))
 ·have:i=l.length:=by omega
  subst this
  rw [List.take_length] at i2
  have e:=idx_no i2
  clear i2 B
  repeat' first|refine Ops.tag rfl ?_|(refine OpsT.go ?_;(conv=>arg 7;whnf))|((with_reducible refine Stp.isDec ?_);first|refine Stp.decF ?_)|refine Stp.pure rfl ?_|refine Ops.nil ?_|((with_reducible refine Br.id ?_);first|(with_reducible first|refine br_false rfl ?_))|((with_reducible refine SemWp.id ?_);first|refine sem_seq ?_|refine sem_region rfl ?_|refine sem_cond rfl ?_|refine sem_exit ?_|refine sem_ret ?_)|((with_reducible refine qThen.id ?_);first|refine qThen.go ?_)|((with_reducible refine BodyR.id ?_);first|refine BodyR.ret ?_)|((with_reducible refine ResG.id ?_);first|refine ResG.tmp rfl ?_|refine ResG.nil ?_)
  refine Fin.mk ⟨by rw [e];rfl,Subp.take (t:=?_) ?_⟩
  rotate_left
  (repeat first|exact HTake.nil|(apply HTake.cons;focus (repeat first|exact HPick.hit|apply HPick.miss)))
theorem anyA_spec (p q r:Nat) (hpq:p≠q) (hpr:p≠r) (hqr:q≠r) (n m:Int) (l:List GA) (hl:∀ a∈l,SmA a) (hn:l.length≤9223372036854775807) :
  HCalls cx.P 23 [LAs l,.fn (.func 24) [] [.ptr p 0,.ptr q 0,.ptr r 0]] (affS p q r n m) fun e st=>e = .ret (bb (l.any (badA n m)))∧st=affS p q r n m:=by
 have I:=idxA_spec p q r hpq hpr hqr n m l hl hn
 unfold affS at *
 refine HCalls.sub (sem_calls' cx (fn:=Tryz.f23) rfl rfl rfl rfl ?_)
 repeat' first|refine Ops.tag rfl ?_|(refine OpsT.go ?_;(conv=>arg 7;whnf))|refine Stp.pure rfl ?_|refine PutK.mk' rfl ?_|refine Ops.nil ?_|((with_reducible refine Side.id ?_);first|refine Side.auto ?_)|((with_reducible refine SemWp.id ?_);first|refine sem_seq ?_|refine sem_region rfl ?_|refine sem_ret ?_)|((with_reducible refine qThen.id ?_);first|refine qThen.go ?_)|refine Stp.call ?_|((with_reducible refine CallWp.id ?_);first|(refine callT cx (I) (by repeat first|exact HTake.nil|(apply HTake.cons;focus (repeat first|exact HPick.hit))) ?_;(conv=>whnf)))|((with_reducible refine BodyR.id ?_);first|refine BodyR.ret ?_)|((with_reducible refine ResG.id ?_);first|refine ResG.tmp rfl ?_|refine ResG.nil ?_)
 refine Fin.mk ⟨by rw [←idx_ge (p:=badA n m)];rfl,Subp.take (t:=?_) ?_⟩
 rotate_left
 (repeat first|exact HTake.nil|(apply HTake.cons;focus (repeat first|exact HPick.hit|apply HPick.miss)))
def affsB (l:List GA) (n m:Int):Bool:=!l.any (badA n m)
theorem affs_spec (l:List GA) (n m:Int) (hl:∀ a∈l,SmA a) (hn:l.length≤9223372036854775807):Pur cx 11 [LAs l,ii n,ii m] (bb (affsB l n m)):=by
 refine Pur.of (sem_calls' cx (fn:=Tryz.f11) rfl rfl rfl rfl ?_)
 have A:=fun p q r h1 h2 h3=>anyA_spec p q r h1 h2 h3 n m l hl hn
 unfold affS at A
 repeat' first|refine Ops.tag rfl ?_|(refine OpsT.go ?_;(conv=>arg 7;whnf))|refine Stp.pure rfl ?_|((with_reducible refine PutK.isSet ?_);refine PutK.set (by repeat first|exact HsetIs.hit) ?_)|refine PutK.mk' rfl ?_|refine Ops.nil ?_|((with_reducible refine Look.id ?_);refine Look.auto ?_ (by repeat first|exact HGet.hit);try (conv=>arg 7;whnf))|((with_reducible refine Side.id ?_);first|refine Side.auto ?_)|((with_reducible refine SemWp.id ?_);first|refine sem_seq ?_|refine sem_region rfl ?_|refine sem_ret ?_)|((with_reducible refine qThen.id ?_);first|refine qThen.go ?_)|refine Stp.look ?_|refine Stp.call ?_|refine Stp.eff ?_|((with_reducible refine CallWp.id ?_);first|(refine callT cx (A _ _ _ (by omega) (by omega) (by omega)) (by repeat first|exact HTake.nil|(apply HTake.cons;focus (repeat first|exact HPick.hit|apply HPick.miss))) ?_;(conv=>whnf)))|(refine newN (fun r hr=>?_);simp only [keys,List.nil_append,List.cons_append,List.map_cons,List.map_nil,List.mem_cons,List.not_mem_nil,not_or,or_false,not_false_eq_true] at hr)|((with_reducible refine BodyR.id ?_);first|refine BodyR.ret ?_)|((with_reducible refine ResG.id ?_);first|refine ResG.tmp rfl ?_|refine ResG.nil ?_)|((with_reducible refine Upd.id ?_);first|(refine Upd.lit rfl ?_;(conv=>whnf)))
 exact Fin.mk rfl
def inRng (n i:Int):Bool:=decide (0≤i) && decide (i < n)
def wideB (m:Int):Bool:=decide (0≤m) && decide (m≤40)
theorem in_spec (r:Nat) (n i:Int):HCalls cx.P 9 [ii i,.ptr r 0] [(r,.cells [ii n] 3)] fun e st=>e = .ret (bb (inRng n i))∧st=[(r,.cells [ii n] 3)]:=by
 refine HCalls.sub (sem_calls' cx (fn:=Tryz.f9) rfl rfl rfl rfl ?_)
 by_cases h:0≤i
 ·repeat' first|refine Ops.tag rfl ?_|((with_reducible first|refine OpsT.yes ?_);(conv=>arg 7;whnf))|(refine OpsT.go ?_;(conv=>arg 7;whnf))|(with_reducible first|refine Stp.andT ?_)|((with_reducible refine Stp.isDec ?_);first|refine Stp.decT ?_)|refine Stp.pure rfl ?_|refine Ops.nil ?_|((with_reducible refine Look.id ?_);refine Look.auto ?_ (by repeat first|exact HGet.hit);try (conv=>arg 7;whnf))|((with_reducible refine Side.id ?_);first|refine Side.auto ?_)|((with_reducible refine SemWp.id ?_);first|refine sem_seq ?_|refine sem_region rfl ?_|refine sem_ret ?_)|((with_reducible refine qThen.id ?_);first|refine qThen.go ?_)|refine Stp.valS ?_|refine Stp.look ?_|((with_reducible refine BodyR.id ?_);first|refine BodyR.ret ?_)|((with_reducible refine ResG.id ?_);first|refine ResG.tmp rfl ?_|refine ResG.nil ?_)
  exact Fin.mk ⟨by unfold inRng;rw [decide_eq_true h,Bool.true_and];rfl,Subp.refl _⟩
 ·repeat' first|refine Ops.tag rfl ?_|(with_reducible first|refine OpsT.no ?_)|(refine OpsT.go ?_;(conv=>arg 7;whnf))|(with_reducible first|refine Stp.andF ?_)|((with_reducible refine Stp.isDec ?_);first|refine Stp.decF ?_)|refine Stp.pure rfl ?_|refine PutK.mk' rfl ?_|refine Ops.nil ?_|((with_reducible refine Side.id ?_);first|refine Side.auto ?_)|((with_reducible refine SemWp.id ?_);first|refine sem_seq ?_|refine sem_region rfl ?_|refine sem_ret ?_)|((with_reducible refine qThen.id ?_);first|refine qThen.go ?_)|refine Stp.valS ?_|((with_reducible refine BodyR.id ?_);first|refine BodyR.ret ?_)|((with_reducible refine ResG.id ?_);first|refine ResG.tmp rfl ?_|refine ResG.nil ?_)
  exact Fin.mk ⟨by unfold inRng;rw [decide_eq_false h];rfl,Subp.refl _⟩
theorem wide_spec (m:Int):Pur cx 10 [ii m] (bb (wideB m)):=by
 refine Pur.of (sem_calls' cx (fn:=Tryz.f10) rfl rfl rfl rfl ?_)
 by_cases h:0≤m
 ·repeat' first|refine Ops.tag rfl ?_|((with_reducible first|refine OpsT.yes ?_);(conv=>arg 7;whnf))|(refine OpsT.go ?_;(conv=>arg 7;whnf))|(with_reducible first|refine Stp.andT ?_)|((with_reducible refine Stp.isDec ?_);first|refine Stp.decT ?_)|refine Stp.pure rfl ?_|refine Ops.nil ?_|((with_reducible refine SemWp.id ?_);first|refine sem_seq ?_|refine sem_region rfl ?_|refine sem_ret ?_)|((with_reducible refine qThen.id ?_);first|refine qThen.go ?_)|((with_reducible refine BodyR.id ?_);first|refine BodyR.ret ?_)|((with_reducible refine ResG.id ?_);first|refine ResG.tmp rfl ?_|refine ResG.nil ?_)
  exact Fin.mk (by unfold wideB;rw [decide_eq_true h,Bool.true_and];rfl)
 ·repeat' first|refine Ops.tag rfl ?_|(with_reducible first|refine OpsT.no ?_)|(refine OpsT.go ?_;(conv=>arg 7;whnf))|(with_reducible first|refine Stp.andF ?_)|((with_reducible refine Stp.isDec ?_);first|refine Stp.decF ?_)|refine Stp.pure rfl ?_|refine PutK.mk' rfl ?_|refine Ops.nil ?_|((with_reducible refine Side.id ?_);first|refine Side.auto ?_)|((with_reducible refine SemWp.id ?_);first|refine sem_seq ?_|refine sem_region rfl ?_|refine sem_ret ?_)|((with_reducible refine qThen.id ?_);first|refine qThen.go ?_)|refine Stp.valS ?_|((with_reducible refine BodyR.id ?_);first|refine BodyR.ret ?_)|((with_reducible refine ResG.id ?_);first|refine ResG.tmp rfl ?_|refine ResG.nil ?_)
  exact Fin.mk (by unfold wideB;rw [decide_eq_false h];rfl)
end Go.Proofs.Hk

set_option linter.unusedSimpArgs false
set_option linter.unusedVariables false
set_option maxRecDepth 4000
namespace Go.Proofs.Hk
open Go Go.Proofs
set_option maxHeartbeats 1000000 in
theorem rmay_spec (l:List GI) (hl:∀ g∈l,g.Ok) (hn:l.length≤9223372036854775807):Pur cx 26 [LIs l] (bb (!l.any noM)):=by
 have m:(l.map encI).length=l.length:=by simp
 refine Pur.of (sem_calls' cx (fn:=Tryz.f26) rfl rfl rfl rfl ?_)
 repeat' first|refine Ops.tag rfl ?_|(refine OpsT.go ?_;(conv=>arg 7;whnf))|refine Stp.pure rfl ?_|refine Ops.nil ?_|((with_reducible refine SemWp.id ?_);first|refine sem_seq ?_|refine sem_region rfl ?_|refine sem_block ?_)|((with_reducible refine qThen.id ?_);first|refine qThen.go ?_)
 refine sem_loop cx (ι:=Nat) (fun i=>i≤l.length∧(l.take i).any noM=false) (fun i=>[(0,.sure,LIs l),(3,.sure,ii i)]) (fun _=>[]) (fun i=>l.length - i) 0 ⟨Nat.zero_le _,rfl⟩ (by repeat' first|exact Sub.nil _|refine Sub.auto ?_) (Subp.nil _) ?_
 rintro i ⟨i1,i2⟩
 by_cases hil:i < l.length
 ·have g1:(l.map encI).getD (i:Int).toNat default=encI (l.getD i gi0):=getD_int (n:=i) rfl hil
  have t:=any_take (p:=noM) hil
  have y:=any_yes (p:=noM) hil
  rw [getD_eq hil] at g1
  have M:=rMay_spec l[i] (hl _ (List.getElem_mem hil))
  generalize l[i]=g at *
  cases hb:g.may with
  |false=>
   rw [hb] at M
   have e:=y (by unfold noM;rw [hb];rfl)
   clear y t hb
   repeat' first|refine Ops.tag rfl ?_|(refine OpsT.go ?_;(conv=>arg 7;whnf))|(with_reducible first|refine Stp.notF ?_)|((with_reducible refine Stp.isDec ?_);first|refine Stp.decT ?_)|refine Stp.pure rfl ?_|refine PutK.mk' rfl ?_|refine Ops.nil ?_|((with_reducible refine Side.id ?_);first|refine Side.auto ?_)|((with_reducible refine Br.id ?_);first|(with_reducible first|refine br_true rfl ?_))|((with_reducible refine SemWp.id ?_);first|refine sem_seq ?_|refine sem_region rfl ?_|refine sem_cond rfl ?_|refine sem_block ?_|refine sem_ret ?_|refine sem_skip ?_)|((with_reducible refine qThen.id ?_);first|refine qThen.go ?_|refine qThen.ret ?_)|((with_reducible refine hinBlock.id ?_);first|refine hinBlock.ret ?_)|((with_reducible refine hround.id ?_);first|refine hround.ret ?_)|refine Stp.valS ?_|refine Stp.call ?_|((with_reducible refine CallWp.id ?_);first|refine Pur.call (M) ?_)|((with_reducible refine BodyR.id ?_);first|refine BodyR.ret ?_)|((with_reducible refine ResG.id ?_);first|refine ResG.tmp rfl ?_|refine ResG.nil ?_)|rw [g1]
   exact Fin.mk (by rw [e];rfl)
  |true=>
   rw [hb] at M
   have tn:(l.take (i+1)).any noM=false:=by rw [t,i2];unfold noM;rw [hb];rfl
   clear y t hb
   repeat' first|refine Ops.tag rfl ?_|(refine OpsT.go ?_;(conv=>arg 7;whnf))|(with_reducible first|refine Stp.notT ?_)|((with_reducible refine Stp.isSum ?_);refine Stp.sum ?_)|((with_reducible refine Stp.isDec ?_);first|refine Stp.decT ?_)|refine Stp.pure rfl ?_|refine PutK.mk' rfl ?_|refine Ops.nil ?_|((with_reducible refine Side.id ?_);first|refine Side.auto ?_)|((with_reducible refine Br.id ?_);first|(with_reducible first|refine br_true rfl ?_|refine br_false rfl ?_))|((with_reducible refine SemWp.id ?_);first|refine sem_seq ?_|refine sem_region rfl ?_|refine sem_cond rfl ?_|refine sem_block ?_|refine sem_skip ?_)|((with_reducible refine qThen.id ?_);first|refine qThen.go ?_)|((with_reducible refine hinBlock.id ?_);first|refine hinBlock.go ?_)|((with_reducible refine hround.id ?_);first|refine hround.go ?_)|refine Stp.valS ?_|refine Stp.call ?_|((with_reducible refine CallWp.id ?_);first|refine Pur.call (M) ?_)|rw [g1]
   exact Fin.mk ⟨i+1,⟨by omega,tn⟩,by omega,by repeat' first|exact Sub.nil _|refine Sub.auto ?_,Subp.nil _⟩
 ·have:i=l.length:=by omega
  subst this
  rw [List.take_length] at i2
  have e:=i2
  clear i2
  repeat' first|refine Ops.tag rfl ?_|(refine OpsT.go ?_;(conv=>arg 7;whnf))|((with_reducible refine Stp.isDec ?_);first|refine Stp.decF ?_)|refine Stp.pure rfl ?_|refine Ops.nil ?_|((with_reducible refine Br.id ?_);first|(with_reducible first|refine br_false rfl ?_))|((with_reducible refine SemWp.id ?_);first|refine sem_seq ?_|refine sem_region rfl ?_|refine sem_cond rfl ?_|refine sem_exit ?_|refine sem_ret ?_)|((with_reducible refine qThen.id ?_);first|refine qThen.go ?_)|((with_reducible refine BodyR.id ?_);first|refine BodyR.ret ?_)|((with_reducible refine ResG.id ?_);first|refine ResG.tmp rfl ?_|refine ResG.nil ?_)
  exact Fin.mk (by rw [e];rfl)
set_option maxHeartbeats 4000000 in
theorem raffs_spec (l:List GA) (n m:Int) (hl:∀ a∈l,SmA a) (hn:l.length≤9223372036854775807):Pur cx 12 [LAs l,ii n,ii m] (bb (affsB l n m)):=by
 have len:(l.map encA).length=l.length:=by simp
 refine Pur.of (sem_calls' cx (fn:=Tryz.f12) rfl rfl rfl rfl ?_)
 repeat' first|refine Ops.tag rfl ?_|(refine OpsT.go ?_;(conv=>arg 7;whnf))|refine Stp.pure rfl ?_|refine Ops.nil ?_|((with_reducible refine SemWp.id ?_);first|refine sem_seq ?_|refine sem_region rfl ?_|refine sem_block ?_)|((with_reducible refine qThen.id ?_);first|refine qThen.go ?_)
 refine sem_loop cx (ι:=Nat) (fun i=>i≤l.length∧(l.take i).any (badA n m)=false) (fun i=>[(0,.sure,LAs l),(1,.sure,ii n),(2,.sure,ii m),(7,.sure,ii i)]) (fun _=>[]) (fun i=>l.length - i) 0 ⟨Nat.zero_le _,rfl⟩ (by repeat' first|exact Sub.nil _|refine Sub.auto ?_) (Subp.nil _) ?_
 rintro i ⟨i1,i2⟩
 by_cases hil:i < l.length
 ·have g1:(l.map encA).getD (i:Int).toNat default=encA (l.getD i ga0):=getD_aff (n:=i) rfl hil
  have t:=any_take (p:=badA n m) hil
  have y:=any_yes (p:=badA n m) hil
  rw [getD_eq hil] at g1
  have sa:=hl _ (List.getElem_mem hil)
  generalize l[i]=a at *
  have X:=rmay_spec a.x (fun g hg=>(sa.x g hg).ok) (by have:=sa.lx;omega)
  have W:=rmay_spec a.w (fun g hg=>(sa.w g hg).ok) (by have:=sa.lw;omega)
  have K:=rMay_spec a.k sa.k.ok
  clear sa
  obtain ⟨x,w,⟨kn,kl⟩⟩:=a
  have K:Pur cx 25 [encP kn kl] (bb (GI.mk kn kl).may):=K
  change _=encA' x w kn kl at g1
  have X:Pur cx 26 [LIs x] (bb (!x.any noM)):=X
  have W:Pur cx 26 [LIs w] (bb (!w.any noM)):=W
  have eb:badA n m ⟨x,w,⟨kn,kl⟩⟩=(!(decide ((x.length:Int)=n) && !x.any noM)||!(decide ((w.length:Int)=m) && !w.any noM)||!(GI.mk kn kl).may):=rfl
  have yes:badA n m ⟨x,w,⟨kn,kl⟩⟩=true→Fin (HEnd.ret (tupOf [HV.v (.bool false)])=HEnd.ret (bb (affsB l n m))):=fun h=>Fin.mk (by unfold affsB;rw [y h];rfl)
  have no:badA n m ⟨x,w,⟨kn,kl⟩⟩=false→(l.take (i+1)).any (badA n m)=false:=fun h=>by rw [t,i2,h];rfl
  rw [eb] at yes no
  clear y t eb
  have lx:(x.map encI).length=x.length:=by simp
  have lw:(w.map encI).length=w.length:=by simp
  generalize x.any noM=b1 at *
  generalize w.any noM=b2 at *
  generalize (GI.mk kn kl).may=b3 at *
  by_cases h1:(x.length:Int)=n
  ·by_cases h2:(w.length:Int)=m
   ·rw [decide_eq_true h1,decide_eq_true h2] at yes no
    cases b1<;>cases b2<;>cases b3
    case false.false.true=>
     have no:=no rfl
     clear yes
     repeat' first|refine Ops.tag rfl ?_|((with_reducible first|refine OpsT.yes' ?_);(conv=>arg 7;whnf))|(refine OpsT.go ?_;(conv=>arg 7;whnf))|(with_reducible first|refine Stp.orF ?_|refine Stp.notT ?_)|((with_reducible refine Stp.isSum ?_);refine Stp.sum ?_)|((with_reducible refine Stp.isDec ?_);first|refine Stp.decT ?_)|((with_reducible refine Stp.isNe ?_);first|refine Stp.neF ?_)|refine Stp.pure rfl ?_|((with_reducible refine PutK.isSet ?_);refine PutK.set (by repeat first|exact HsetIs.hit) ?_)|refine PutK.mk' rfl ?_|refine Ops.nil ?_|((with_reducible refine Look.id ?_);refine Look.auto ?_ (by repeat first|exact HGet.hit);try (conv=>arg 7;whnf))|((with_reducible refine Side.id ?_);first|refine Side.auto ?_)|((with_reducible refine Br.id ?_);first|(with_reducible first|refine br_true rfl ?_|refine br_false rfl ?_))|((with_reducible refine SemWp.id ?_);first|refine sem_seq ?_|refine sem_region rfl ?_|refine sem_cond rfl ?_|refine sem_block ?_|refine sem_skip ?_)|((with_reducible refine qThen.id ?_);first|refine qThen.go ?_)|((with_reducible refine hinBlock.id ?_);first|refine hinBlock.go ?_)|((with_reducible refine hround.id ?_);first|refine hround.go ?_)|refine Stp.valS ?_|refine Stp.valSC ?_|refine Stp.look ?_|refine Stp.call ?_|refine Stp.callC ?_|refine Stp.eff ?_|((with_reducible refine CallWp.id ?_);first|refine Pur.call (X) ?_|refine Pur.call (K) ?_)|((with_reducible refine CallC.id ?_);first|(refine Pur.askC (W) ?_ ?_;focus (intro h;first|exact ⟨h,rfl⟩)))|(refine newN (fun r hr=>?_);simp only [keys,List.nil_append,List.cons_append,List.map_cons,List.map_nil,List.mem_cons,List.not_mem_nil,not_or,or_false,not_false_eq_true] at hr)|((with_reducible refine Upd.id ?_);first|(refine Upd.lit rfl ?_;(conv=>whnf)))|rw [g1]
     exact Fin.mk ⟨i+1,⟨by omega,no⟩,by omega,by repeat' first|exact Sub.nil _|refine Sub.auto ?_,Subp.nil _⟩
    all_goals
     have yes:=yes rfl
     clear no
     repeat' first|refine Ops.tag rfl ?_|((with_reducible first|refine OpsT.yes' ?_);(conv=>arg 7;whnf))|(with_reducible first|refine OpsT.no' ?_)|(refine OpsT.go ?_;(conv=>arg 7;whnf))|(with_reducible first|refine Stp.orF ?_|refine Stp.orT ?_|refine Stp.notT ?_|refine Stp.notF ?_)|((with_reducible refine Stp.isDec ?_);first|refine Stp.decT ?_)|((with_reducible refine Stp.isNe ?_);first|refine Stp.neF ?_)|refine Stp.pure rfl ?_|((with_reducible refine PutK.isSet ?_);refine PutK.set (by repeat first|exact HsetIs.hit) ?_)|refine PutK.mk' rfl ?_|refine Ops.nil ?_|((with_reducible refine Look.id ?_);refine Look.auto ?_ (by repeat first|exact HGet.hit);try (conv=>arg 7;whnf))|((with_reducible refine Side.id ?_);first|refine Side.auto ?_)|((with_reducible refine Br.id ?_);first|(with_reducible first|refine br_true rfl ?_))|((with_reducible refine SemWp.id ?_);first|refine sem_seq ?_|refine sem_region rfl ?_|refine sem_cond rfl ?_|refine sem_block ?_|refine sem_ret ?_|refine sem_skip ?_)|((with_reducible refine qThen.id ?_);first|refine qThen.go ?_|refine qThen.ret ?_)|((with_reducible refine hinBlock.id ?_);first|refine hinBlock.ret ?_)|((with_reducible refine hround.id ?_);first|refine hround.ret ?_)|refine Stp.valS ?_|refine Stp.valSC ?_|refine Stp.look ?_|refine Stp.call ?_|refine Stp.callC ?_|refine Stp.eff ?_|((with_reducible refine CallWp.id ?_);first|refine Pur.call (X) ?_|refine Pur.call (K) ?_)|((with_reducible refine CallC.id ?_);first|(refine Pur.askC (W) ?_ ?_;focus (intro h;first|exact ⟨h,rfl⟩)))|(refine newN (fun r hr=>?_);simp only [keys,List.nil_append,List.cons_append,List.map_cons,List.map_nil,List.mem_cons,List.not_mem_nil,not_or,or_false,not_false_eq_true] at hr)|((with_reducible refine BodyR.id ?_);first|refine BodyR.ret ?_)|((with_reducible refine ResG.id ?_);first|refine ResG.tmp rfl ?_|refine ResG.nil ?_)|((with_reducible refine Upd.id ?_);first|(refine Upd.lit rfl ?_;(conv=>whnf)))|rw [g1]
     exact yes
   ·rw [decide_eq_false h2] at yes
    have yes:=yes (by cases b1<;>cases b2<;>cases b3<;>simp)
    clear no
    repeat' first|refine Ops.tag rfl ?_|((with_reducible first|refine OpsT.yes' ?_);(conv=>arg 7;whnf))|(with_reducible first|refine OpsT.no' ?_)|(refine OpsT.go ?_;(conv=>arg 7;whnf))|(with_reducible first|refine Stp.orF ?_|refine Stp.orT ?_)|((with_reducible refine Stp.isDec ?_);first|refine Stp.decT ?_)|((with_reducible refine Stp.isNe ?_);first|refine Stp.neT ?_|refine Stp.neF ?_)|refine Stp.pure rfl ?_|((with_reducible refine PutK.isSet ?_);refine PutK.set (by repeat first|exact HsetIs.hit) ?_)|refine PutK.mk' rfl ?_|refine Ops.nil ?_|((with_reducible refine Look.id ?_);refine Look.auto ?_ (by repeat first|exact HGet.hit);try (conv=>arg 7;whnf))|((with_reducible refine Side.id ?_);first|refine Side.auto ?_)|((with_reducible refine Br.id ?_);first|(with_reducible first|refine br_true rfl ?_))|((with_reducible refine SemWp.id ?_);first|refine sem_seq ?_|refine sem_region rfl ?_|refine sem_cond rfl ?_|refine sem_block ?_|refine sem_ret ?_|refine sem_skip ?_)|((with_reducible refine qThen.id ?_);first|refine qThen.go ?_|refine qThen.ret ?_)|((with_reducible refine hinBlock.id ?_);first|refine hinBlock.ret ?_)|((with_reducible refine hround.id ?_);first|refine hround.ret ?_)|refine Stp.valS ?_|refine Stp.look ?_|refine Stp.eff ?_|(refine newN (fun r hr=>?_);simp only [keys,List.nil_append,List.cons_append,List.map_cons,List.map_nil,List.mem_cons,List.not_mem_nil,not_or,or_false,not_false_eq_true] at hr)|((with_reducible refine BodyR.id ?_);first|refine BodyR.ret ?_)|((with_reducible refine ResG.id ?_);first|refine ResG.tmp rfl ?_|refine ResG.nil ?_)|((with_reducible refine Upd.id ?_);first|(refine Upd.lit rfl ?_;(conv=>whnf)))|rw [g1]
    exact yes
  ·rw [decide_eq_false h1] at yes
   have yes:=yes (by cases b1<;>cases b2<;>cases b3<;>simp)
   clear no
   repeat' first|refine Ops.tag rfl ?_|(with_reducible first|refine OpsT.no' ?_)|(refine OpsT.go ?_;(conv=>arg 7;whnf))|(with_reducible first|refine Stp.orT ?_)|((with_reducible refine Stp.isDec ?_);first|refine Stp.decT ?_)|((with_reducible refine Stp.isNe ?_);first|refine Stp.neT ?_)|refine Stp.pure rfl ?_|((with_reducible refine PutK.isSet ?_);refine PutK.set (by repeat first|exact HsetIs.hit) ?_)|refine PutK.mk' rfl ?_|refine Ops.nil ?_|((with_reducible refine Look.id ?_);refine Look.auto ?_ (by repeat first|exact HGet.hit);try (conv=>arg 7;whnf))|((with_reducible refine Side.id ?_);first|refine Side.auto ?_)|((with_reducible refine Br.id ?_);first|(with_reducible first|refine br_true rfl ?_))|((with_reducible refine SemWp.id ?_);first|refine sem_seq ?_|refine sem_region rfl ?_|refine sem_cond rfl ?_|refine sem_block ?_|refine sem_ret ?_|refine sem_skip ?_)|((with_reducible refine qThen.id ?_);first|refine qThen.go ?_|refine qThen.ret ?_)|((with_reducible refine hinBlock.id ?_);first|refine hinBlock.ret ?_)|((with_reducible refine hround.id ?_);first|refine hround.ret ?_)|refine Stp.valS ?_|refine Stp.look ?_|refine Stp.eff ?_|(refine newN (fun r hr=>?_);simp only [keys,List.nil_append,List.cons_append,List.map_cons,List.map_nil,List.mem_cons,List.not_mem_nil,not_or,or_false,not_false_eq_true] at hr)|((with_reducible refine BodyR.id ?_);first|refine BodyR.ret ?_)|((with_reducible refine ResG.id ?_);first|refine ResG.tmp rfl ?_|refine ResG.nil ?_)|((with_reducible refine Upd.id ?_);first|(refine Upd.lit rfl ?_;(conv=>whnf)))|rw [g1]
   exact yes
 ·have:i=l.length:=by omega
  subst this
  rw [List.take_length] at i2
  have e:=i2
  clear i2
  repeat' first|refine Ops.tag rfl ?_|(refine OpsT.go ?_;(conv=>arg 7;whnf))|((with_reducible refine Stp.isDec ?_);first|refine Stp.decF ?_)|refine Stp.pure rfl ?_|refine Ops.nil ?_|((with_reducible refine Br.id ?_);first|(with_reducible first|refine br_false rfl ?_))|((with_reducible refine SemWp.id ?_);first|refine sem_seq ?_|refine sem_region rfl ?_|refine sem_cond rfl ?_|refine sem_exit ?_|refine sem_ret ?_)|((with_reducible refine qThen.id ?_);first|refine qThen.go ?_)|((with_reducible refine BodyR.id ?_);first|refine BodyR.ret ?_)|((with_reducible refine ResG.id ?_);first|refine ResG.tmp rfl ?_|refine ResG.nil ?_)
  exact Fin.mk (by unfold affsB;rw [e];rfl)
end Go.Proofs.Hk

set_option linter.unusedSimpArgs false
set_option linter.unusedVariables false
set_option maxRecDepth 4000
namespace Go.Proofs.Hk
open Go Go.Proofs
structure GLoc where
 path:List Int
 point:Int
structure GV where
 loc:Int
 site:Int
 m:Int
 g:List GA
structure GLow where
 locs:List GLoc
 slots:List ByteArray
 es:List GE
 vs:List GV
def encLoc (l:GLoc):HV:=.agg [.list .no 1 (l.path.map ii),ii l.point]
def encV' (loc site m:Int) (g:List GA):HV:=.agg [ii loc,ii site,ii m,LAs g]
def encV (v:GV):HV:=encV' v.loc v.site v.m v.g
def LLocs (l:List GLoc):HV:=.list .no 2 (l.map encLoc)
def LSs (l:List ByteArray):HV:=.list .no 1 (l.map ss)
def LEs (l:List GE):HV:=.list .no 6 (l.map encE)
def LVs (l:List GV):HV:=.list .no 4 (l.map encV)
def encLow' (locs:List GLoc) (slots:List ByteArray) (es:List GE) (vs:List GV):HV:=.agg [LLocs locs,LSs slots,LEs es,LVs vs]
def encLow (l:GLow):HV:=encLow' l.locs l.slots l.es l.vs
structure LenE (e:GE):Prop where
 g:∀ a∈e.g,LenA a
 s:∀ a∈e.s,LenA a
 lg:e.g.length≤9223372036854775807
 ls:e.s.length≤9223372036854775807
structure LenV (v:GV):Prop where
 g:∀ a∈v.g,LenA a
 lg:v.g.length≤9223372036854775807
def bigE (e:GE):Bool:=decide (100 < e.g.length)||decide (20 < e.s.length)||bigAs e.g||bigAs e.s
def bigV (v:GV):Bool:=decide (100 < v.g.length)||bigAs v.g
def bigLow (l:GLow):Bool:=decide (60 < l.locs.length)||decide (10 < l.slots.length)||decide (300 < l.es.length)||decide (300 < l.vs.length)||l.es.any bigE||l.vs.any bigV
theorem getD_edge {l:List GE} {k:Int} {n:Nat} (hk:k=n) (h:n < l.length):(l.map encE).getD k.toNat default=encE' l[n].fr l[n].to l[n].m l[n].g l[n].s l[n].p:=by
 subst hk
 simp [List.getD_eq_getElem?_getD,h,encE]
theorem getD_viol {l:List GV} {k:Int} {n:Nat} (hk:k=n) (h:n < l.length):(l.map encV).getD k.toNat default=encV' l[n].loc l[n].site l[n].m l[n].g:=by
 subst hk
 simp [List.getD_eq_getElem?_getD,h,encV]
structure LenLow (l:GLow):Prop where
 locs:l.locs.length≤9223372036854775807
 slots:l.slots.length≤9223372036854775807
 les:l.es.length≤9223372036854775807
 lvs:l.vs.length≤9223372036854775807
 es:∀ e∈l.es,LenE e
 vs:∀ v∈l.vs,LenV v
set_option maxHeartbeats 2000000 in
theorem GreatLow_spec (l:GLow) (h:LenLow l):Pur cx 4 [encLow l] (bb (bigLow l)):=by
 obtain ⟨locs,slots,es,vs⟩:=l
 have n1:locs.length≤9223372036854775807:=h.locs
 have n2:slots.length≤9223372036854775807:=h.slots
 have n3:es.length≤9223372036854775807:=h.les
 have n4:vs.length≤9223372036854775807:=h.lvs
 have he:∀ e∈es,LenE e:=h.es
 have hv:∀ v∈vs,LenV v:=h.vs
 have m1:(locs.map encLoc).length=locs.length:=by simp
 have m2:(slots.map ss).length=slots.length:=by simp
 have m3:(es.map encE).length=es.length:=by simp
 have m4:(vs.map encV).length=vs.length:=by simp
 have eb:bigLow ⟨locs,slots,es,vs⟩=(decide (60 < locs.length)||decide (10 < slots.length)||decide (300 < es.length)||decide (300 < vs.length)||es.any bigE||vs.any bigV):=rfl
 change Pur cx _ [encLow' locs slots es vs] _
 generalize bigLow ⟨locs,slots,es,vs⟩=big at *
 refine Pur.of (sem_calls' cx (fn:=Tryz.f4) rfl rfl rfl rfl ?_)
 by_cases h1:60 < locs.length
 ·rw [decide_eq_true h1] at eb
  subst eb
  repeat' first|refine Ops.tag rfl ?_|(with_reducible first|refine OpsT.no' ?_)|(refine OpsT.go ?_;(conv=>arg 7;whnf))|(with_reducible first|refine Stp.orT ?_)|((with_reducible refine Stp.isDec ?_);first|refine Stp.decT ?_)|refine Stp.pure rfl ?_|refine PutK.mk' rfl ?_|refine Ops.nil ?_|((with_reducible refine Look.id ?_);refine Look.auto ?_ (by repeat first|exact HGet.hit);try (conv=>arg 7;whnf))|((with_reducible refine Side.id ?_);first|refine Side.auto ?_)|((with_reducible refine Br.id ?_);first|(with_reducible first|refine br_true rfl ?_))|((with_reducible refine SemWp.id ?_);first|refine sem_seq ?_|refine sem_region rfl ?_|refine sem_cond rfl ?_|refine sem_ret ?_)|((with_reducible refine qThen.id ?_);first|refine qThen.go ?_|refine qThen.ret ?_)|refine Stp.valS ?_|refine Stp.look ?_|refine Stp.eff ?_|(refine newN (fun r hr=>?_);simp only [keys,List.nil_append,List.cons_append,List.map_cons,List.map_nil,List.mem_cons,List.not_mem_nil,not_or,or_false,not_false_eq_true] at hr)|((with_reducible refine BodyR.id ?_);first|refine BodyR.ret ?_)|((with_reducible refine ResG.id ?_);first|refine ResG.tmp rfl ?_|refine ResG.nil ?_)
  exact Fin.mk rfl
 by_cases h2:10 < slots.length
 ·rw [decide_eq_true h2,Bool.or_true] at eb
  subst eb
  repeat' first|refine Ops.tag rfl ?_|((with_reducible first|refine OpsT.yes' ?_);(conv=>arg 7;whnf))|(with_reducible first|refine OpsT.no' ?_)|(refine OpsT.go ?_;(conv=>arg 7;whnf))|(with_reducible first|refine Stp.orF ?_|refine Stp.orT ?_)|((with_reducible refine Stp.isDec ?_);first|refine Stp.decT ?_|refine Stp.decF ?_)|refine Stp.pure rfl ?_|refine PutK.mk' rfl ?_|refine Ops.nil ?_|((with_reducible refine Look.id ?_);refine Look.auto ?_ (by repeat first|exact HGet.hit);try (conv=>arg 7;whnf))|((with_reducible refine Side.id ?_);first|refine Side.auto ?_)|((with_reducible refine Br.id ?_);first|(with_reducible first|refine br_true rfl ?_))|((with_reducible refine SemWp.id ?_);first|refine sem_seq ?_|refine sem_region rfl ?_|refine sem_cond rfl ?_|refine sem_ret ?_)|((with_reducible refine qThen.id ?_);first|refine qThen.go ?_|refine qThen.ret ?_)|refine Stp.valS ?_|refine Stp.look ?_|refine Stp.eff ?_|(refine newN (fun r hr=>?_);simp only [keys,List.nil_append,List.cons_append,List.map_cons,List.map_nil,List.mem_cons,List.not_mem_nil,not_or,or_false,not_false_eq_true] at hr)|((with_reducible refine BodyR.id ?_);first|refine BodyR.ret ?_)|((with_reducible refine ResG.id ?_);first|refine ResG.tmp rfl ?_|refine ResG.nil ?_)
  exact Fin.mk rfl
 by_cases h3:300 < es.length
 ·rw [decide_eq_true h3,Bool.or_true] at eb
  subst eb
  repeat' first|refine Ops.tag rfl ?_|((with_reducible first|refine OpsT.yes' ?_);(conv=>arg 7;whnf))|(with_reducible first|refine OpsT.no' ?_)|(refine OpsT.go ?_;(conv=>arg 7;whnf))|(with_reducible first|refine Stp.orF ?_|refine Stp.orT ?_)|((with_reducible refine Stp.isDec ?_);first|refine Stp.decT ?_|refine Stp.decF ?_)|refine Stp.pure rfl ?_|refine PutK.mk' rfl ?_|refine Ops.nil ?_|((with_reducible refine Look.id ?_);refine Look.auto ?_ (by repeat first|exact HGet.hit);try (conv=>arg 7;whnf))|((with_reducible refine Side.id ?_);first|refine Side.auto ?_)|((with_reducible refine Br.id ?_);first|(with_reducible first|refine br_true rfl ?_))|((with_reducible refine SemWp.id ?_);first|refine sem_seq ?_|refine sem_region rfl ?_|refine sem_cond rfl ?_|refine sem_ret ?_)|((with_reducible refine qThen.id ?_);first|refine qThen.go ?_|refine qThen.ret ?_)|refine Stp.valS ?_|refine Stp.look ?_|refine Stp.eff ?_|(refine newN (fun r hr=>?_);simp only [keys,List.nil_append,List.cons_append,List.map_cons,List.map_nil,List.mem_cons,List.not_mem_nil,not_or,or_false,not_false_eq_true] at hr)|((with_reducible refine BodyR.id ?_);first|refine BodyR.ret ?_)|((with_reducible refine ResG.id ?_);first|refine ResG.tmp rfl ?_|refine ResG.nil ?_)
  exact Fin.mk rfl
 by_cases h4:300 < vs.length
 ·rw [decide_eq_true h4,Bool.or_true] at eb
  subst eb
  repeat' first|refine Ops.tag rfl ?_|((with_reducible first|refine OpsT.yes' ?_);(conv=>arg 7;whnf))|(refine OpsT.go ?_;(conv=>arg 7;whnf))|(with_reducible first|refine Stp.orF ?_)|((with_reducible refine Stp.isDec ?_);first|refine Stp.decT ?_|refine Stp.decF ?_)|refine Stp.pure rfl ?_|refine PutK.mk' rfl ?_|refine Ops.nil ?_|((with_reducible refine Look.id ?_);refine Look.auto ?_ (by repeat first|exact HGet.hit);try (conv=>arg 7;whnf))|((with_reducible refine Side.id ?_);first|refine Side.auto ?_)|((with_reducible refine Br.id ?_);first|(with_reducible first|refine br_true rfl ?_))|((with_reducible refine SemWp.id ?_);first|refine sem_seq ?_|refine sem_region rfl ?_|refine sem_cond rfl ?_|refine sem_ret ?_)|((with_reducible refine qThen.id ?_);first|refine qThen.go ?_|refine qThen.ret ?_)|refine Stp.valS ?_|refine Stp.look ?_|refine Stp.eff ?_|(refine newN (fun r hr=>?_);simp only [keys,List.nil_append,List.cons_append,List.map_cons,List.map_nil,List.mem_cons,List.not_mem_nil,not_or,or_false,not_false_eq_true] at hr)|((with_reducible refine BodyR.id ?_);first|refine BodyR.ret ?_)|((with_reducible refine ResG.id ?_);first|refine ResG.tmp rfl ?_|refine ResG.nil ?_)
  exact Fin.mk rfl
 rw [decide_eq_false h1,decide_eq_false h2,decide_eq_false h3,decide_eq_false h4,Bool.or_false,Bool.or_false,Bool.or_false,Bool.false_or] at eb
 repeat' first|refine Ops.tag rfl ?_|((with_reducible first|refine OpsT.yes' ?_);(conv=>arg 7;whnf))|(refine OpsT.go ?_;(conv=>arg 7;whnf))|(with_reducible first|refine Stp.orF ?_)|((with_reducible refine Stp.isDec ?_);first|refine Stp.decF ?_)|refine Stp.pure rfl ?_|refine PutK.mk' rfl ?_|refine Ops.nil ?_|((with_reducible refine Look.id ?_);refine Look.auto ?_ (by repeat first|exact HGet.hit);try (conv=>arg 7;whnf))|((with_reducible refine Side.id ?_);first|refine Side.auto ?_)|((with_reducible refine Br.id ?_);first|(with_reducible first|refine br_false rfl ?_))|((with_reducible refine SemWp.id ?_);first|refine sem_seq ?_|refine sem_region rfl ?_|refine sem_cond rfl ?_|refine sem_block ?_|refine sem_skip ?_)|((with_reducible refine qThen.id ?_);first|refine qThen.go ?_)|refine Stp.valS ?_|refine Stp.look ?_|refine Stp.eff ?_|(refine newN (fun r hr=>?_);simp only [keys,List.nil_append,List.cons_append,List.map_cons,List.map_nil,List.mem_cons,List.not_mem_nil,not_or,or_false,not_false_eq_true] at hr)
 refine sem_loop cx (ι:=Nat) (fun i=>i≤es.length∧(es.take i).any bigE=false) (fun i=>[(1,.sure,.ptr r 0),(3,.sure,ii i)]) (fun _=>[(r,.cells [LLocs locs,LSs slots,LEs es,LVs vs] 27)]) (fun i=>es.length - i) 0 ⟨Nat.zero_le _,rfl⟩ (by repeat' first|exact Sub.nil _|refine Sub.auto ?_) (Subp.of_eq rfl) ?_
 rintro i ⟨i1,i2⟩
 by_cases hi:i < es.length
 ·have g1:=getD_edge (l:=es) (k:=i) (n:=i) rfl hi
  have t:=any_take (p:=bigE) hi
  have y:=any_yes (p:=bigE) hi
  have hlen:=he _ (List.getElem_mem hi)
  generalize es[i]=e at *
  have mg:(e.g.map encA).length=e.g.length:=by simp
  have ms:(e.s.map encA).length=e.s.length:=by simp
  have lg:=hlen.lg
  have ls:=hlen.ls
  have Dg:=deep_spec e.g hlen.g hlen.lg
  have Ds:=deep_spec e.s hlen.s hlen.ls
  have ee:bigE e=(decide (100 < e.g.length)||decide (20 < e.s.length)||bigAs e.g||bigAs e.s):=rfl
  have yes:bigE e=true→Fin (HEnd.ret (tupOf [HV.v (.bool true)])=HEnd.ret (bb big)):=fun h=>Fin.mk (by rw [eb,y h];rfl)
  clear y eb
  by_cases q1:100 < e.g.length
  ·have hy:bigE e=true:=by rw [ee,decide_eq_true q1];rfl
   clear ee t
   repeat' first|refine Ops.tag rfl ?_|(with_reducible first|refine OpsT.no' ?_)|(refine OpsT.go ?_;(conv=>arg 7;whnf))|(with_reducible first|refine Stp.orT ?_)|((with_reducible refine Stp.isDec ?_);first|refine Stp.decT ?_)|refine Stp.pure rfl ?_|refine PutK.mk' rfl ?_|refine Ops.nil ?_|((with_reducible refine Look.id ?_);refine Look.auto ?_ (by repeat first|exact HGet.hit);try (conv=>arg 7;whnf))|((with_reducible refine Side.id ?_);first|refine Side.auto ?_)|((with_reducible refine Br.id ?_);first|(with_reducible first|refine br_true rfl ?_))|((with_reducible refine SemWp.id ?_);first|refine sem_seq ?_|refine sem_region rfl ?_|refine sem_cond rfl ?_|refine sem_block ?_|refine sem_ret ?_|refine sem_skip ?_)|((with_reducible refine qThen.id ?_);first|refine qThen.go ?_|refine qThen.ret ?_)|((with_reducible refine hinBlock.id ?_);first|refine hinBlock.ret ?_)|((with_reducible refine hround.id ?_);first|refine hround.ret ?_)|refine Stp.valS ?_|refine Stp.look ?_|((with_reducible refine BodyR.id ?_);first|refine BodyR.ret ?_)|((with_reducible refine ResG.id ?_);first|refine ResG.tmp rfl ?_|refine ResG.nil ?_)|rw [g1]
   exact yes hy
  ·rw [decide_eq_false q1,Bool.false_or] at ee
   by_cases q2:20 < e.s.length
   ·have hy:bigE e=true:=by rw [ee,decide_eq_true q2];rfl
    clear ee t
    repeat' first|refine Ops.tag rfl ?_|((with_reducible first|refine OpsT.yes' ?_);(conv=>arg 7;whnf))|(with_reducible first|refine OpsT.no' ?_)|(refine OpsT.go ?_;(conv=>arg 7;whnf))|(with_reducible first|refine Stp.orF ?_|refine Stp.orT ?_)|((with_reducible refine Stp.isDec ?_);first|refine Stp.decT ?_|refine Stp.decF ?_)|refine Stp.pure rfl ?_|refine PutK.mk' rfl ?_|refine Ops.nil ?_|((with_reducible refine Look.id ?_);refine Look.auto ?_ (by repeat first|exact HGet.hit);try (conv=>arg 7;whnf))|((with_reducible refine Side.id ?_);first|refine Side.auto ?_)|((with_reducible refine Br.id ?_);first|(with_reducible first|refine br_true rfl ?_))|((with_reducible refine SemWp.id ?_);first|refine sem_seq ?_|refine sem_region rfl ?_|refine sem_cond rfl ?_|refine sem_block ?_|refine sem_ret ?_|refine sem_skip ?_)|((with_reducible refine qThen.id ?_);first|refine qThen.go ?_|refine qThen.ret ?_)|((with_reducible refine hinBlock.id ?_);first|refine hinBlock.ret ?_)|((with_reducible refine hround.id ?_);first|refine hround.ret ?_)|refine Stp.valS ?_|refine Stp.look ?_|((with_reducible refine BodyR.id ?_);first|refine BodyR.ret ?_)|((with_reducible refine ResG.id ?_);first|refine ResG.tmp rfl ?_|refine ResG.nil ?_)|rw [g1]
    exact yes hy
   ·rw [decide_eq_false q2,Bool.false_or] at ee
    generalize bigAs e.g=b1 at *
    generalize bigAs e.s=b2 at *
    cases b1<;>cases b2
    case false.false=>
     have tn:(es.take (i+1)).any bigE=false:=by rw [t,i2,ee];rfl
     clear ee t yes
     repeat' first|refine Ops.tag rfl ?_|((with_reducible first|refine OpsT.yes' ?_);(conv=>arg 7;whnf))|(refine OpsT.go ?_;(conv=>arg 7;whnf))|(with_reducible first|refine Stp.orF ?_)|((with_reducible refine Stp.isSum ?_);refine Stp.sum ?_)|((with_reducible refine Stp.isDec ?_);first|refine Stp.decT ?_|refine Stp.decF ?_)|refine Stp.pure rfl ?_|refine PutK.mk' rfl ?_|refine Ops.nil ?_|((with_reducible refine Look.id ?_);refine Look.auto ?_ (by repeat first|exact HGet.hit);try (conv=>arg 7;whnf))|((with_reducible refine Side.id ?_);first|refine Side.auto ?_)|((with_reducible refine Br.id ?_);first|(with_reducible first|refine br_true rfl ?_|refine br_false rfl ?_))|((with_reducible refine SemWp.id ?_);first|refine sem_seq ?_|refine sem_region rfl ?_|refine sem_cond rfl ?_|refine sem_block ?_|refine sem_skip ?_)|((with_reducible refine qThen.id ?_);first|refine qThen.go ?_)|((with_reducible refine hinBlock.id ?_);first|refine hinBlock.go ?_)|((with_reducible refine hround.id ?_);first|refine hround.go ?_)|refine Stp.valS ?_|refine Stp.look ?_|refine Stp.call ?_|((with_reducible refine CallWp.id ?_);first|refine Pur.call (Dg) ?_|refine Pur.call (Ds) ?_)|rw [g1]
     exact Fin.mk ⟨i+1,⟨by omega,tn⟩,by omega,by repeat' first|exact Sub.nil _|refine Sub.auto ?_,Subp.refl _⟩
    all_goals
     have hy:bigE e=true:=ee
     clear ee t
     repeat' first|refine Ops.tag rfl ?_|((with_reducible first|refine OpsT.yes' ?_);(conv=>arg 7;whnf))|(with_reducible first|refine OpsT.no' ?_)|(refine OpsT.go ?_;(conv=>arg 7;whnf))|(with_reducible first|refine Stp.orF ?_|refine Stp.orT ?_)|((with_reducible refine Stp.isDec ?_);first|refine Stp.decT ?_|refine Stp.decF ?_)|refine Stp.pure rfl ?_|refine PutK.mk' rfl ?_|refine Ops.nil ?_|((with_reducible refine Look.id ?_);refine Look.auto ?_ (by repeat first|exact HGet.hit);try (conv=>arg 7;whnf))|((with_reducible refine Side.id ?_);first|refine Side.auto ?_)|((with_reducible refine Br.id ?_);first|(with_reducible first|refine br_true rfl ?_))|((with_reducible refine SemWp.id ?_);first|refine sem_seq ?_|refine sem_region rfl ?_|refine sem_cond rfl ?_|refine sem_block ?_|refine sem_ret ?_|refine sem_skip ?_)|((with_reducible refine qThen.id ?_);first|refine qThen.go ?_|refine qThen.ret ?_)|((with_reducible refine hinBlock.id ?_);first|refine hinBlock.ret ?_)|((with_reducible refine hround.id ?_);first|refine hround.ret ?_)|refine Stp.valS ?_|refine Stp.look ?_|refine Stp.call ?_|((with_reducible refine CallWp.id ?_);first|refine Pur.call (Dg) ?_|refine Pur.call (Ds) ?_)|((with_reducible refine BodyR.id ?_);first|refine BodyR.ret ?_)|((with_reducible refine ResG.id ?_);first|refine ResG.tmp rfl ?_|refine ResG.nil ?_)|rw [g1]
     exact yes hy
 ·have:i=es.length:=by omega
  subst this
  rw [List.take_length] at i2
  rw [i2,Bool.false_or] at eb
  clear i2
  repeat' first|refine Ops.tag rfl ?_|(refine OpsT.go ?_;(conv=>arg 7;whnf))|((with_reducible refine Stp.isDec ?_);first|refine Stp.decF ?_)|refine Stp.pure rfl ?_|refine Ops.nil ?_|((with_reducible refine Look.id ?_);refine Look.auto ?_ (by repeat first|exact HGet.hit);try (conv=>arg 7;whnf))|((with_reducible refine Side.id ?_);first|refine Side.auto ?_)|((with_reducible refine Br.id ?_);first|(with_reducible first|refine br_false rfl ?_))|((with_reducible refine SemWp.id ?_);first|refine sem_seq ?_|refine sem_region rfl ?_|refine sem_cond rfl ?_|refine sem_block ?_|refine sem_exit ?_)|((with_reducible refine qThen.id ?_);first|refine qThen.go ?_)|refine Stp.valS ?_|refine Stp.look ?_
  refine sem_loop cx (ι:=Nat) (fun i=>i≤vs.length∧(vs.take i).any bigV=false) (fun i=>[(1,.sure,.ptr r 0),(4,.sure,ii i)]) (fun _=>[(r,.cells [LLocs locs,LSs slots,LEs es,LVs vs] 27)]) (fun i=>vs.length - i) 0 ⟨Nat.zero_le _,rfl⟩ (by repeat' first|exact Sub.nil _|refine Sub.auto ?_) (Subp.of_eq rfl) ?_
  rintro i ⟨i1,i2⟩
  by_cases hi:i < vs.length
  ·have g1:=getD_viol (l:=vs) (k:=i) (n:=i) rfl hi
   have t:=any_take (p:=bigV) hi
   have y:=any_yes (p:=bigV) hi
   have hlen:=hv _ (List.getElem_mem hi)
   generalize vs[i]=v at *
   have mg:(v.g.map encA).length=v.g.length:=by simp
   have lg:=hlen.lg
   have Dg:=deep_spec v.g hlen.g hlen.lg
   have ee:bigV v=(decide (100 < v.g.length)||bigAs v.g):=rfl
   have yes:bigV v=true→Fin (HEnd.ret (tupOf [HV.v (.bool true)])=HEnd.ret (bb big)):=fun h=>Fin.mk (by rw [eb,y h];rfl)
   clear y eb
   by_cases q1:100 < v.g.length
   ·have hy:bigV v=true:=by rw [ee,decide_eq_true q1];rfl
    clear ee t
    repeat' first|refine Ops.tag rfl ?_|(with_reducible first|refine OpsT.no' ?_)|(refine OpsT.go ?_;(conv=>arg 7;whnf))|(with_reducible first|refine Stp.orT ?_)|((with_reducible refine Stp.isDec ?_);first|refine Stp.decT ?_)|refine Stp.pure rfl ?_|refine PutK.mk' rfl ?_|refine Ops.nil ?_|((with_reducible refine Look.id ?_);refine Look.auto ?_ (by repeat first|exact HGet.hit);try (conv=>arg 7;whnf))|((with_reducible refine Side.id ?_);first|refine Side.auto ?_)|((with_reducible refine Br.id ?_);first|(with_reducible first|refine br_true rfl ?_))|((with_reducible refine SemWp.id ?_);first|refine sem_seq ?_|refine sem_region rfl ?_|refine sem_cond rfl ?_|refine sem_block ?_|refine sem_ret ?_|refine sem_skip ?_)|((with_reducible refine qThen.id ?_);first|refine qThen.go ?_|refine qThen.ret ?_)|((with_reducible refine hinBlock.id ?_);first|refine hinBlock.ret ?_)|((with_reducible refine hround.id ?_);first|refine hround.ret ?_)|refine Stp.valS ?_|refine Stp.look ?_|((with_reducible refine BodyR.id ?_);first|refine BodyR.ret ?_)|((with_reducible refine ResG.id ?_);first|refine ResG.tmp rfl ?_|refine ResG.nil ?_)|rw [g1]
    exact yes hy
   ·rw [decide_eq_false q1,Bool.false_or] at ee
    generalize bigAs v.g=b1 at *
    cases b1
    case false=>
     have tn:(vs.take (i+1)).any bigV=false:=by rw [t,i2,ee];rfl
     clear ee t yes
     repeat' first|refine Ops.tag rfl ?_|((with_reducible first|refine OpsT.yes' ?_);(conv=>arg 7;whnf))|(refine OpsT.go ?_;(conv=>arg 7;whnf))|(with_reducible first|refine Stp.orF ?_)|((with_reducible refine Stp.isSum ?_);refine Stp.sum ?_)|((with_reducible refine Stp.isDec ?_);first|refine Stp.decT ?_|refine Stp.decF ?_)|refine Stp.pure rfl ?_|refine PutK.mk' rfl ?_|refine Ops.nil ?_|((with_reducible refine Look.id ?_);refine Look.auto ?_ (by repeat first|exact HGet.hit);try (conv=>arg 7;whnf))|((with_reducible refine Side.id ?_);first|refine Side.auto ?_)|((with_reducible refine Br.id ?_);first|(with_reducible first|refine br_true rfl ?_|refine br_false rfl ?_))|((with_reducible refine SemWp.id ?_);first|refine sem_seq ?_|refine sem_region rfl ?_|refine sem_cond rfl ?_|refine sem_block ?_|refine sem_skip ?_)|((with_reducible refine qThen.id ?_);first|refine qThen.go ?_)|((with_reducible refine hinBlock.id ?_);first|refine hinBlock.go ?_)|((with_reducible refine hround.id ?_);first|refine hround.go ?_)|refine Stp.valS ?_|refine Stp.look ?_|refine Stp.call ?_|((with_reducible refine CallWp.id ?_);first|refine Pur.call (Dg) ?_)|rw [g1]
     exact Fin.mk ⟨i+1,⟨by omega,tn⟩,by omega,by repeat' first|exact Sub.nil _|refine Sub.auto ?_,Subp.refl _⟩
    case true=>
     have hy:bigV v=true:=ee
     clear ee t
     repeat' first|refine Ops.tag rfl ?_|((with_reducible first|refine OpsT.yes' ?_);(conv=>arg 7;whnf))|(refine OpsT.go ?_;(conv=>arg 7;whnf))|(with_reducible first|refine Stp.orF ?_)|((with_reducible refine Stp.isDec ?_);first|refine Stp.decT ?_|refine Stp.decF ?_)|refine Stp.pure rfl ?_|refine PutK.mk' rfl ?_|refine Ops.nil ?_|((with_reducible refine Look.id ?_);refine Look.auto ?_ (by repeat first|exact HGet.hit);try (conv=>arg 7;whnf))|((with_reducible refine Side.id ?_);first|refine Side.auto ?_)|((with_reducible refine Br.id ?_);first|(with_reducible first|refine br_true rfl ?_))|((with_reducible refine SemWp.id ?_);first|refine sem_seq ?_|refine sem_region rfl ?_|refine sem_cond rfl ?_|refine sem_block ?_|refine sem_ret ?_|refine sem_skip ?_)|((with_reducible refine qThen.id ?_);first|refine qThen.go ?_|refine qThen.ret ?_)|((with_reducible refine hinBlock.id ?_);first|refine hinBlock.ret ?_)|((with_reducible refine hround.id ?_);first|refine hround.ret ?_)|refine Stp.valS ?_|refine Stp.look ?_|refine Stp.call ?_|((with_reducible refine CallWp.id ?_);first|refine Pur.call (Dg) ?_)|((with_reducible refine BodyR.id ?_);first|refine BodyR.ret ?_)|((with_reducible refine ResG.id ?_);first|refine ResG.tmp rfl ?_|refine ResG.nil ?_)|rw [g1]
     exact yes hy
  ·have:i=vs.length:=by omega
   subst this
   rw [List.take_length] at i2
   rw [i2] at eb
   subst eb
   repeat' first|refine Ops.tag rfl ?_|(refine OpsT.go ?_;(conv=>arg 7;whnf))|((with_reducible refine Stp.isDec ?_);first|refine Stp.decF ?_)|refine Stp.pure rfl ?_|refine Ops.nil ?_|((with_reducible refine Look.id ?_);refine Look.auto ?_ (by repeat first|exact HGet.hit);try (conv=>arg 7;whnf))|((with_reducible refine Side.id ?_);first|refine Side.auto ?_)|((with_reducible refine Br.id ?_);first|(with_reducible first|refine br_false rfl ?_))|((with_reducible refine SemWp.id ?_);first|refine sem_seq ?_|refine sem_region rfl ?_|refine sem_cond rfl ?_|refine sem_exit ?_|refine sem_ret ?_)|((with_reducible refine qThen.id ?_);first|refine qThen.go ?_)|refine Stp.valS ?_|refine Stp.look ?_|((with_reducible refine BodyR.id ?_);first|refine BodyR.ret ?_)|((with_reducible refine ResG.id ?_);first|refine ResG.tmp rfl ?_|refine ResG.nil ?_)
   exact Fin.mk rfl
end Go.Proofs.Hk
