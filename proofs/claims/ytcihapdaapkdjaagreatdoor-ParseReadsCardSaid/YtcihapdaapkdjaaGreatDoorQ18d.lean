import Derived.Test.YtcihapdaapkdjaaGreatDoorQ16
import Derived.Test.YtcihapdaapkdjaaGreatDoorH41
set_option linter.unusedSimpArgs false
set_option linter.unusedVariables false
set_option maxRecDepth 4000
namespace Go.Proofs.Hk
open Go Go.Proofs
/-- What a function that reads a procedure does. -/
abbrev endP (l:List Tk) (r:Nat) (res:Except (Int × Nat × Int) (PD × Nat)) (e:HEnd) (st:HS):Prop:=
 match res with
 |.ok (x,j)=>WeakerE e (.ret (encPD x))∧Subp [(r,rd l j 0 0)] st
 |.error (c,j,d')=>WeakerE e (.pan failV)∧Subp [(r,rd l j d' c)] st
def goalP (fn:FuncId) (args:List HV) (s0:HS) (l:List Tk) (r:Nat) (res:Except (Int × Nat × Int) (PD × Nat)):Prop:=
 match res with
 |.ok (x,j)=>To fn args s0 (.ret (encPD x)) [(r,rd l j 0 0)]
 |.error (c,j,d')=>To fn args s0 (.pan failV) [(r,rd l j d' c)]
theorem goalP.of {fn:FuncId} {args:List HV} {s0:HS} {l:List Tk} {r:Nat} {res:Except (Int × Nat × Int) (PD × Nat)} (h:HCalls cx.P fn args s0 (endP l r res)):goalP fn args s0 l r res:=by
 cases res with
 |ok x=>exact HCalls.to h
 |error x=>exact HCalls.to h
theorem bindR_assoc {α β γ:Type} (r:Res' α) (k:α→Nat→Res' β) (m:β→Nat→Res' γ):bindR (bindR r k) m=bindR r fun x i=>bindR (k x i) m:=by
 cases r with
 |none=>rfl
 |some r=>cases r with
  |error e=>rfl
  |ok x=>rfl
end Go.Proofs.Hk

set_option linter.unusedSimpArgs false
set_option linter.unusedVariables false
set_option maxRecDepth 4000
namespace Go.Proofs.Hk
open Go Go.Proofs
set_option maxHeartbeats 8000000 in
theorem pr_a (l:List Tk) (q i:Nat) (M1:To 25 [.ptr q 0,ss kProc] [(q,rd l i 0 0)] (.pan failV) [(q,rd l i 0 4)]):To 12 [.ptr q 0] [(q,rd l i 0 0)] (.pan failV) [(q,rd l i 0 4)]:=by
 unfold rd at *
 refine HCalls.to (sem_calls' cx (fn:=Tryz.f12) rfl rfl rfl rfl ?_)
 repeat' first|refine Ops.tag rfl ?_|(refine OpsT.go ?_;(conv=>arg 7;whnf))|refine Stp.pure rfl ?_|refine PutK.mk' rfl ?_|refine Ops.nil ?_|((with_reducible refine Look.id ?_);refine Look.auto ?_ (by repeat first|exact HGet.hit|apply HGet.miss (by first|omega));try (conv=>arg 7;whnf))|((with_reducible refine Side.id ?_);first|refine Side.auto ?_)|((with_reducible refine SemWp.id ?_);first|refine sem_seq ?_|refine sem_region rfl ?_)|((with_reducible refine qThen.id ?_);first|refine qThen.go ?_)|refine Stp.valS ?_|refine Stp.look ?_|refine Stp.call ?_|refine Stp.eff ?_|((with_reducible refine CallWp.id ?_);first|(refine callB cx (M1) ?_;(conv=>whnf)))|(refine newN (fun r hr=>?_);simp only [keys,List.nil_append,List.cons_append,List.map_cons,List.map_nil,List.mem_cons,List.not_mem_nil,not_or,or_false,not_false_eq_true] at hr)|((with_reducible refine BodyR.id ?_);first|refine BodyR.pan ?_)
 refine Fin.mk ?_
 refine ⟨WeakerE.refl _,Subp.tk⟩
set_option maxHeartbeats 8000000 in
theorem pr_b (l:List Tk) (q i:Nat) (M1:To 25 [.ptr q 0,ss kProc] [(q,rd l i 0 0)] (.ret (.tup [])) [(q,rd l (i+1:Nat) 0 0)]) (NM:To 26 [.ptr q 0] [(q,rd l (i+1:Nat) 0 0)] (.pan failV) [(q,rd l (i+1:Nat) 0 4)]):To 12 [.ptr q 0] [(q,rd l i 0 0)] (.pan failV) [(q,rd l (i+1:Nat) 0 4)]:=by
 unfold rd at *
 refine HCalls.to (sem_calls' cx (fn:=Tryz.f12) rfl rfl rfl rfl ?_)
 repeat' first|refine Ops.tag rfl ?_|(refine OpsT.go ?_;(conv=>arg 7;whnf))|refine Stp.pure rfl ?_|refine PutK.mk' rfl ?_|refine Ops.nil ?_|((with_reducible refine Look.id ?_);refine Look.auto ?_ (by repeat first|exact HGet.hit|apply HGet.miss (by first|(apply Ne.symm;assumption)|omega));try (conv=>arg 7;whnf))|((with_reducible refine Side.id ?_);first|refine Side.auto ?_)|((with_reducible refine SemWp.id ?_);first|refine sem_seq ?_|refine sem_region rfl ?_)|((with_reducible refine qThen.id ?_);first|refine qThen.go ?_)|refine Stp.valS ?_|refine Stp.look ?_|refine Stp.call ?_|refine Stp.eff ?_|((with_reducible refine CallWp.id ?_);first|(refine callA cx (M1) ?_;(conv=>whnf))|(refine callB cx (NM) ?_;(conv=>whnf)))|(refine newN (fun r hr=>?_);simp only [keys,List.nil_append,List.cons_append,List.map_cons,List.map_nil,List.mem_cons,List.not_mem_nil,not_or,or_false,not_false_eq_true] at hr)|((with_reducible refine BodyR.id ?_);first|refine BodyR.pan ?_)
 refine Fin.mk ?_
 refine ⟨WeakerE.refl _,Subp.tk⟩
set_option maxHeartbeats 8000000 in
theorem pr_c (l:List Tk) (q i:Nat) (nm:ByteArray) (c:Int) (j:Nat) (d':Int) (M1:To 25 [.ptr q 0,ss kProc] [(q,rd l i 0 0)] (.ret (.tup [])) [(q,rd l (i+1:Nat) 0 0)])(NM:To 26 [.ptr q 0] [(q,rd l (i+1:Nat) 0 0)] (.ret (ss nm)) [(q,rd l (i+1+1:Nat) 0 0)])(C:∀ (pp rb rt:Nat),pp≠rb→q≠rb→q≠pp→rt≠rb→rt≠pp→rt≠q→To 27 [.ptr q 0,pFn pp rb] ((q,rd l (i+2:Nat) 0 0)::pT pp rb rt q nm [] ⟨#[]⟩ (.v (.slice none 0 0)) (.v (.slice none 0 0))) (.pan failV) [(q,rd l j d' c)]):To 12 [.ptr q 0] [(q,rd l i 0 0)] (.pan failV) [(q,rd l j d' c)]:=by
 unfold pT pFn pC ownS at *
 dsimp only [List.map_nil,List.length_nil] at C
 unfold rd at *
 refine HCalls.to (sem_calls' cx (fn:=Tryz.f12) rfl rfl rfl rfl ?_)
 repeat' first|(refine sem_cellOwn cx _ 1 [ss nm] [ss ⟨#[]⟩,.v (.slice none 0 0),.v (.slice none 0 0)] (by repeat first|exact HPick.hit|apply HPick.miss) ?_;intro rt hrt;simp only [keys,List.map_cons,List.map_nil,List.mem_cons,List.not_mem_nil,not_or,or_false,not_false_eq_true] at hrt;(repeat (obtain ⟨_,hrt⟩:=hrt));simp only [List.cons_append,List.nil_append])|refine Ops.tag rfl ?_|(refine OpsT.go ?_;(conv=>arg 7;whnf))|refine Stp.pure rfl ?_|((with_reducible refine PutK.isSet ?_);refine PutK.st ?_)|refine PutK.mk' rfl ?_|refine Ops.nil ?_|((with_reducible refine Look.id ?_);refine Look.at ?_;try (conv=>arg 7;whnf))|((with_reducible refine Side.id ?_);first|refine Side.auto ?_)|((with_reducible refine SemWp.id ?_);first|refine sem_seq ?_|refine sem_region rfl ?_)|((with_reducible refine qThen.id ?_);first|refine qThen.go ?_)|refine Stp.valS ?_|refine Stp.look ?_|refine Stp.call ?_|refine Stp.eff ?_|((with_reducible refine CallWp.id ?_);first|(refine callA cx (M1) ?_;(conv=>whnf))|(refine callA cx (NM) ?_;(conv=>whnf))|(refine callB cx (C _ _ rt (by first|assumption) (by first|(apply Ne.symm;assumption)) (by first|(apply Ne.symm;assumption)) (by first|assumption) (by first|assumption) (by first|assumption)) ?_;(conv=>whnf)))|(refine newN (fun r hr=>?_);simp only [keys,List.nil_append,List.cons_append,List.map_cons,List.map_nil,List.mem_cons,List.not_mem_nil,not_or,or_false,not_false_eq_true] at hr;(repeat (obtain ⟨_,hr⟩:=hr)))|((with_reducible refine BodyR.id ?_);first|refine BodyR.pan ?_)|((with_reducible refine Upd.id ?_);first|(refine Upd.lit rfl ?_;(conv=>whnf)))
 refine Fin.mk ?_
 refine ⟨WeakerE.refl _,Subp.tk⟩
set_option maxHeartbeats 8000000 in
theorem pr_d (l:List Tk) (q i:Nat) (nm:ByteArray) (ps:List ByteArray) (j4:Nat) (M1:To 25 [.ptr q 0,ss kProc] [(q,rd l i 0 0)] (.ret (.tup [])) [(q,rd l (i+1:Nat) 0 0)])(NM:To 26 [.ptr q 0] [(q,rd l (i+1:Nat) 0 0)] (.ret (ss nm)) [(q,rd l (i+1+1:Nat) 0 0)])(C:∀ (pp rb rt:Nat),pp≠rb→q≠rb→q≠pp→rt≠rb→rt≠pp→rt≠q→To 27 [.ptr q 0,pFn pp rb] ((q,rd l (i+2:Nat) 0 0)::pT pp rb rt q nm [] ⟨#[]⟩ (.v (.slice none 0 0)) (.v (.slice none 0 0))) (.ret (.tup [])) ((q,rd l j4 0 0)::pT pp rb rt q nm ps ⟨#[]⟩ (.v (.slice none 0 0)) (.v (.slice none 0 0))))(IA:To 29 [.ptr q 0,ss ⟨#[45,62]⟩] [(q,rd l j4 0 0)] (.ret (bb true)) [(q,rd l (j4+1:Nat) 0 0)]) (NR:To 26 [.ptr q 0] [(q,rd l (j4+1:Nat) 0 0)] (.pan failV) [(q,rd l (j4+1:Nat) 0 4)]):To 12 [.ptr q 0] [(q,rd l i 0 0)] (.pan failV) [(q,rd l (j4+1:Nat) 0 4)]:=by
 unfold pT pFn pC ownS at *
 dsimp only [List.map_nil,List.length_nil] at C
 unfold rd at *
 refine HCalls.to (sem_calls' cx (fn:=Tryz.f12) rfl rfl rfl rfl ?_)
 repeat' first|(refine sem_cellOwn cx _ 1 [ss nm] [ss ⟨#[]⟩,.v (.slice none 0 0),.v (.slice none 0 0)] (by repeat first|exact HPick.hit|apply HPick.miss) ?_;intro rt hrt;simp only [keys,List.map_cons,List.map_nil,List.mem_cons,List.not_mem_nil,not_or,or_false,not_false_eq_true] at hrt;(repeat (obtain ⟨_,hrt⟩:=hrt));simp only [List.cons_append,List.nil_append])|refine Ops.tag rfl ?_|(refine OpsT.go ?_;(conv=>arg 7;whnf))|refine Stp.pure rfl ?_|((with_reducible refine PutK.isSet ?_);refine PutK.st ?_)|refine PutK.mk' rfl ?_|refine Ops.nil ?_|((with_reducible refine Look.id ?_);refine Look.at ?_;try (conv=>arg 7;whnf))|((with_reducible refine Side.id ?_);first|refine Side.auto ?_)|((with_reducible refine Br.id ?_);first|(with_reducible first|refine br_true rfl ?_))|((with_reducible refine SemWp.id ?_);first|refine sem_seq ?_|refine sem_region rfl ?_|refine sem_cond rfl ?_)|((with_reducible refine qThen.id ?_);first|refine qThen.go ?_)|refine Stp.valS ?_|refine Stp.look ?_|refine Stp.call ?_|refine Stp.eff ?_|((with_reducible refine CallWp.id ?_);first|(refine callA cx (M1) ?_;(conv=>whnf))|(refine callA cx (NM) ?_;(conv=>whnf))|(refine callA cx (C _ _ rt (by first|assumption) (by first|(apply Ne.symm;assumption)) (by first|(apply Ne.symm;assumption)) (by first|assumption) (by first|assumption) (by first|assumption)) ?_;(conv=>whnf))|(refine callA cx (IA) ?_;(conv=>whnf))|(refine callB cx (NR) ?_;(conv=>whnf)))|(refine newN (fun r hr=>?_);simp only [keys,List.nil_append,List.cons_append,List.map_cons,List.map_nil,List.mem_cons,List.not_mem_nil,not_or,or_false,not_false_eq_true] at hr;(repeat (obtain ⟨_,hr⟩:=hr)))|((with_reducible refine BodyR.id ?_);first|refine BodyR.pan ?_)|((with_reducible refine Upd.id ?_);first|(refine Upd.lit rfl ?_;(conv=>whnf)))
 refine Fin.mk ?_
 refine ⟨WeakerE.refl _,Subp.tk⟩
end Go.Proofs.Hk

set_option linter.unusedSimpArgs false
set_option linter.unusedVariables false
set_option maxRecDepth 4000
namespace Go.Proofs.Hk
open Go Go.Proofs
set_option maxHeartbeats 8000000 in
theorem pr_e0 (l:List Tk) (q i:Nat) (nm:ByteArray) (ps:List ByteArray) (j4:Nat) (M1:To 25 [.ptr q 0,ss kProc] [(q,rd l i 0 0)] (.ret (.tup [])) [(q,rd l (i+1:Nat) 0 0)])(NM:To 26 [.ptr q 0] [(q,rd l (i+1:Nat) 0 0)] (.ret (ss nm)) [(q,rd l (i+1+1:Nat) 0 0)])(C:∀ (pp rb rt:Nat),pp≠rb→q≠rb→q≠pp→rt≠rb→rt≠pp→rt≠q→To 27 [.ptr q 0,pFn pp rb] ((q,rd l (i+2:Nat) 0 0)::pT pp rb rt q nm [] ⟨#[]⟩ (.v (.slice none 0 0)) (.v (.slice none 0 0))) (.ret (.tup [])) ((q,rd l j4 0 0)::pT pp rb rt q nm ps ⟨#[]⟩ (.v (.slice none 0 0)) (.v (.slice none 0 0))))(IN:To 29 [.ptr q 0,ss ⟨#[45,62]⟩] [(q,rd l j4 0 0)] (.ret (bb false)) [(q,rd l j4 0 0)])(MB:To 25 [.ptr q 0,ss (tc 123)] [(q,rd l (j4:Nat) 0 0)] (.pan failV) [(q,rd l (j4:Nat) 0 4)]):To 12 [.ptr q 0] [(q,rd l i 0 0)] (.pan failV) [(q,rd l (j4:Nat) 0 4)]:=by
 unfold pT pFn pC ownS at *
 dsimp only [List.map_nil,List.length_nil] at C
 unfold rd at *
 refine HCalls.to (sem_calls' cx (fn:=Tryz.f12) rfl rfl rfl rfl ?_)
 repeat' first|(refine sem_cellOwn cx _ 1 [ss nm] [ss ⟨#[]⟩,.v (.slice none 0 0),.v (.slice none 0 0)] (by repeat first|exact HPick.hit|apply HPick.miss) ?_;intro rt hrt;simp only [keys,List.map_cons,List.map_nil,List.mem_cons,List.not_mem_nil,not_or,or_false,not_false_eq_true] at hrt;(repeat (obtain ⟨_,hrt⟩:=hrt));simp only [List.cons_append,List.nil_append])|refine Ops.tag rfl ?_|(refine OpsT.go ?_;(conv=>arg 7;whnf))|refine Stp.pure rfl ?_|((with_reducible refine PutK.isSet ?_);refine PutK.st ?_)|refine PutK.mk' rfl ?_|refine Ops.nil ?_|((with_reducible refine Look.id ?_);refine Look.at ?_;try (conv=>arg 7;whnf))|((with_reducible refine Side.id ?_);first|refine Side.auto ?_)|((with_reducible refine Br.id ?_);first|(with_reducible first|refine br_false rfl ?_))|((with_reducible refine SemWp.id ?_);first|refine sem_seq ?_|refine sem_region rfl ?_|refine sem_cond rfl ?_|refine sem_skip ?_)|((with_reducible refine qThen.id ?_);first|refine qThen.go ?_)|refine Stp.valS ?_|refine Stp.look ?_|refine Stp.call ?_|refine Stp.eff ?_|((with_reducible refine CallWp.id ?_);first|(refine callA cx (M1) ?_;(conv=>whnf))|(refine callA cx (NM) ?_;(conv=>whnf))|(refine callA cx (C _ _ rt (by first|assumption) (by first|(apply Ne.symm;assumption)) (by first|(apply Ne.symm;assumption)) (by first|assumption) (by first|assumption) (by first|assumption)) ?_;(conv=>whnf))|(refine callA cx (IN) ?_;(conv=>whnf))|(refine callB cx (MB) ?_;(conv=>whnf)))|(refine newN (fun r hr=>?_);simp only [keys,List.nil_append,List.cons_append,List.map_cons,List.map_nil,List.mem_cons,List.not_mem_nil,not_or,or_false,not_false_eq_true] at hr;(repeat (obtain ⟨_,hr⟩:=hr)))|((with_reducible refine BodyR.id ?_);first|refine BodyR.pan ?_)|((with_reducible refine Upd.id ?_);first|(refine Upd.lit rfl ?_;(conv=>whnf)))
 refine Fin.mk ?_
 refine ⟨WeakerE.refl _,Subp.tk⟩
set_option maxHeartbeats 8000000 in
theorem pr_e1 (l:List Tk) (q i:Nat) (nm:ByteArray) (ps:List ByteArray) (j4:Nat) (rs:ByteArray) (M1:To 25 [.ptr q 0,ss kProc] [(q,rd l i 0 0)] (.ret (.tup [])) [(q,rd l (i+1:Nat) 0 0)])(NM:To 26 [.ptr q 0] [(q,rd l (i+1:Nat) 0 0)] (.ret (ss nm)) [(q,rd l (i+1+1:Nat) 0 0)])(C:∀ (pp rb rt:Nat),pp≠rb→q≠rb→q≠pp→rt≠rb→rt≠pp→rt≠q→To 27 [.ptr q 0,pFn pp rb] ((q,rd l (i+2:Nat) 0 0)::pT pp rb rt q nm [] ⟨#[]⟩ (.v (.slice none 0 0)) (.v (.slice none 0 0))) (.ret (.tup [])) ((q,rd l j4 0 0)::pT pp rb rt q nm ps ⟨#[]⟩ (.v (.slice none 0 0)) (.v (.slice none 0 0))))(IA:To 29 [.ptr q 0,ss ⟨#[45,62]⟩] [(q,rd l j4 0 0)] (.ret (bb true)) [(q,rd l (j4+1:Nat) 0 0)])(IN:To 26 [.ptr q 0] [(q,rd l (j4+1:Nat) 0 0)] (.ret (ss rs)) [(q,rd l (j4+1+1:Nat) 0 0)])(MB:To 25 [.ptr q 0,ss (tc 123)] [(q,rd l (j4+1+1:Nat) 0 0)] (.pan failV) [(q,rd l (j4+1+1:Nat) 0 4)]):To 12 [.ptr q 0] [(q,rd l i 0 0)] (.pan failV) [(q,rd l (j4+1+1:Nat) 0 4)]:=by
 unfold pT pFn pC ownS at *
 dsimp only [List.map_nil,List.length_nil] at C
 unfold rd at *
 refine HCalls.to (sem_calls' cx (fn:=Tryz.f12) rfl rfl rfl rfl ?_)
 repeat' first|(refine sem_cellOwn cx _ 1 [ss nm] [ss ⟨#[]⟩,.v (.slice none 0 0),.v (.slice none 0 0)] (by repeat first|exact HPick.hit|apply HPick.miss) ?_;intro rt hrt;simp only [keys,List.map_cons,List.map_nil,List.mem_cons,List.not_mem_nil,not_or,or_false,not_false_eq_true] at hrt;(repeat (obtain ⟨_,hrt⟩:=hrt));simp only [List.cons_append,List.nil_append])|refine Ops.tag rfl ?_|(refine OpsT.go ?_;(conv=>arg 7;whnf))|refine Stp.pure rfl ?_|((with_reducible refine PutK.isSet ?_);refine PutK.set (by repeat first|exact HsetIs.hit|apply HsetIs.miss (by first|(apply Ne.symm;assumption))) ?_)|refine PutK.mk' rfl ?_|refine Ops.nil ?_|((with_reducible refine Look.id ?_);refine Look.at ?_;try (conv=>arg 7;whnf))|((with_reducible refine Side.id ?_);first|refine Side.auto ?_)|((with_reducible refine Br.id ?_);first|(with_reducible first|refine br_true rfl ?_))|((with_reducible refine SemWp.id ?_);first|refine sem_seq ?_|refine sem_region rfl ?_|refine sem_cond rfl ?_)|((with_reducible refine qThen.id ?_);first|refine qThen.go ?_)|refine Stp.valS ?_|refine Stp.look ?_|refine Stp.call ?_|refine Stp.eff ?_|((with_reducible refine CallWp.id ?_);first|(refine callA cx (M1) ?_;(conv=>whnf))|(refine callA cx (NM) ?_;(conv=>whnf))|(refine callA cx (C _ _ rt (by first|assumption) (by first|(apply Ne.symm;assumption)) (by first|(apply Ne.symm;assumption)) (by first|assumption) (by first|assumption) (by first|assumption)) ?_;(conv=>whnf))|(refine callA cx (IA) ?_;(conv=>whnf))|(refine callA cx (IN) ?_;(conv=>whnf))|(refine callB cx (MB) ?_;(conv=>whnf)))|(refine newN (fun r hr=>?_);simp only [keys,List.nil_append,List.cons_append,List.map_cons,List.map_nil,List.mem_cons,List.not_mem_nil,not_or,or_false,not_false_eq_true] at hr;(repeat (obtain ⟨_,hr⟩:=hr)))|((with_reducible refine BodyR.id ?_);first|refine BodyR.pan ?_)|((with_reducible refine Upd.id ?_);first|(refine Upd.lit rfl ?_;(conv=>whnf)))
 refine Fin.mk ?_
 refine ⟨WeakerE.refl _,Subp.tk⟩
end Go.Proofs.Hk
