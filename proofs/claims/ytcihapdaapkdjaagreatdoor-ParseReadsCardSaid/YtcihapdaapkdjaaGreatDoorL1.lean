import Derived.Test.YtcihapdaapkdjaaGreatDoorCX
import Derived.Test.YtcihapdaapkdjaaGreatDoorH20
import Derived.Test.YtcihapdaapkdjaaGreatDoorH41
set_option linter.unusedSimpArgs false
set_option linter.unusedVariables false
set_option maxRecDepth 4000
namespace Go.Proofs.Hk
open Go Go.Proofs
def blankZ (b:Int):Bool:=b == 32||b == 9||b == 10||b == 13
def letterZ (b:Int):Bool:=decide (b≥97) && decide (b≤122)
def digitZ (b:Int):Bool:=decide (b≥48) && decide (b≤57)
def bb (b:Bool):HV:=.v (.bool b)
def ii (n:Int):HV:=.v (.int .i64 n)
def ss (s:ByteArray):HV:=.v (.string s)
def cc (n:Int):HV:=.v (.int .u8 n)
theorem blank_letter {b:Int} (h:blankZ b=true):letterZ b=false∧digitZ b=false:=by
 simp only [blankZ,letterZ,digitZ,Bool.or_eq_true,beq_iff_eq] at *
 rcases h with ((rfl|rfl)|rfl)|rfl<;>decide
theorem letter_digit {b:Int} (h:letterZ b=true):digitZ b=false:=by
 simp only [letterZ,digitZ,Bool.and_eq_true,decide_eq_true_eq] at *
 simp;omega
theorem sort_spec (b:Int):Pur cx 19 [cc b] (.tup [bb (blankZ b),bb (letterZ b),bb (digitZ b)]):=by
 refine ⟨sem_calls cx (fn:=Tryz.f19) rfl rfl rfl rfl ?_⟩
 repeat' first|((with_reducible refine Ops.id ?_);first|(refine Ops.cons rfl ?_;(conv=>arg 7;whnf))|refine Ops.nil ?_)|((with_reducible refine Stp.id ?_);first|refine Stp.pure rfl ?_|refine Stp.val rfl ?_|refine Stp.valC rfl ?_)|((with_reducible refine Side.id ?_);first|refine Side.mk (fun h=>h) ?_|(refine Side.mk ?_ ?_;focus (((repeat' apply And.intro)<;>first|(simp;done));done)))|((with_reducible refine Br.id ?_);first|refine br_split (fun _=>?_) (fun _=>?_))|((with_reducible refine SemWp.id ?_);first|refine sem_seq ?_|refine sem_region rfl ?_|refine sem_cond rfl ?_|refine sem_block ?_|refine sem_ret ?_|refine sem_skip ?_)|((with_reducible refine qThen.id ?_);first|refine qThen.go ?_|refine qThen.ret ?_)|((with_reducible refine hinBlock.id ?_);first|refine hinBlock.go ?_|refine hinBlock.ret ?_)|((with_reducible refine bodyQ.id ?_);first|refine bodyQ.ret2 rfl ?_)
 all_goals refine Fin.mk ⟨?_,rfl⟩
 ·rename_i h
  have h:blankZ b=true:=h
  rw [h,(blank_letter h).1,(blank_letter h).2];rfl
 ·rename_i h1 h2
  have h1:blankZ b=false:=h1
  have h2:letterZ b=true:=h2
  rw [h1,h2,letter_digit h2];rfl
 ·rename_i h1 h2 h3
  have h1:blankZ b=false:=h1
  have h2:letterZ b=false:=h2
  have h3:digitZ b=true:=h3
  rw [h1,h2,h3];rfl
 ·rename_i h1 h2 h3
  have h1:blankZ b=false:=h1
  have h2:letterZ b=false:=h2
  have h3:digitZ b=false:=h3
  rw [h1,h2,h3];rfl
def wordZ (b:Int):Bool:=letterZ b||digitZ b||b == 95
theorem word_spec (b:Int):Pur cx 18 [cc b] (bb (wordZ b)):=by
 refine ⟨sem_calls cx (fn:=Tryz.f18) rfl rfl rfl rfl ?_⟩
 repeat' first|((with_reducible refine Ops.id ?_);first|(refine Ops.cons rfl ?_;(conv=>arg 7;whnf))|refine Ops.nil ?_)|((with_reducible refine Stp.id ?_);first|refine Stp.pure rfl ?_|refine Stp.val rfl ?_|refine Stp.valC rfl ?_|refine Stp.call ?_)|((with_reducible refine PutK.id ?_);first|refine PutK.mk' rfl ?_)|((with_reducible refine Side.id ?_);first|refine Side.mk rfl ?_|refine Side.mk (fun h=>h) ?_|(refine Side.mk ?_ ?_;focus (((repeat' apply And.intro)<;>first|(simp;done));done)))|((with_reducible refine SemWp.id ?_);first|refine sem_seq ?_|refine sem_region rfl ?_|refine sem_ret ?_)|((with_reducible refine CallWp.id ?_);first|refine Pur.call (sort_spec b) ?_)|((with_reducible refine qThen.id ?_);first|refine qThen.go ?_)|((with_reducible refine bodyQ.id ?_);first|refine bodyQ.ret rfl ?_)
 exact Fin.mk ⟨rfl,rfl⟩
theorem digit_spec (b:Int):Pur cx 22 [cc b] (bb (digitZ b)):=by
 refine ⟨sem_calls cx (fn:=Tryz.f22) rfl rfl rfl rfl ?_⟩
 repeat' first|((with_reducible refine Ops.id ?_);first|(refine Ops.cons rfl ?_;(conv=>arg 7;whnf))|refine Ops.nil ?_)|((with_reducible refine Stp.id ?_);first|refine Stp.pure rfl ?_|refine Stp.call ?_)|((with_reducible refine PutK.id ?_);first|refine PutK.mk' rfl ?_)|((with_reducible refine Side.id ?_);first|refine Side.mk rfl ?_)|((with_reducible refine SemWp.id ?_);first|refine sem_seq ?_|refine sem_region rfl ?_|refine sem_ret ?_)|((with_reducible refine CallWp.id ?_);first|refine Pur.call (sort_spec b) ?_)|((with_reducible refine qThen.id ?_);first|refine qThen.go ?_)|((with_reducible refine bodyQ.id ?_);first|refine bodyQ.ret rfl ?_)
 exact Fin.mk ⟨rfl,rfl⟩
theorem line_spec (b:Int):Pur cx 20 [cc b] (bb (b != 10)):=by
 refine ⟨sem_calls cx (fn:=Tryz.f20) rfl rfl rfl rfl ?_⟩
 repeat' first|((with_reducible refine Ops.id ?_);first|(refine Ops.cons rfl ?_;(conv=>arg 7;whnf))|refine Ops.nil ?_)|((with_reducible refine Stp.id ?_);first|refine Stp.pure rfl ?_)|((with_reducible refine SemWp.id ?_);first|refine sem_seq ?_|refine sem_region rfl ?_|refine sem_ret ?_)|((with_reducible refine qThen.id ?_);first|refine qThen.go ?_)|((with_reducible refine bodyQ.id ?_);first|refine bodyQ.ret rfl ?_)
 exact Fin.mk ⟨rfl,rfl⟩
def keyS (s:ByteArray):Bool:=strEq s ⟨#[112,114,111,99]⟩||strEq s ⟨#[118,97,114]⟩||strEq s ⟨#[104,97,118,111,99]⟩||strEq s ⟨#[97,115,115,117,109,101]⟩||strEq s ⟨#[97,115,115,101,114,116]⟩||strEq s ⟨#[105,102]⟩||strEq s ⟨#[101,108,115,101]⟩||strEq s ⟨#[119,104,105,108,101]⟩||strEq s ⟨#[101,105,116,104,101,114]⟩||strEq s ⟨#[111,114]⟩||strEq s ⟨#[97,110,100]⟩||strEq s ⟨#[110,111,116]⟩||strEq s ⟨#[116,114,117,101]⟩||strEq s ⟨#[102,97,108,115,101]⟩||strEq s ⟨#[115,107,105,112]⟩
theorem key_spec (s:ByteArray):Pur cx 21 [ss s] (bb (keyS s)):=by
 refine ⟨sem_calls cx (fn:=Tryz.f21) rfl rfl rfl rfl ?_⟩
 repeat' first|((with_reducible refine Ops.id ?_);first|(refine Ops.cons rfl ?_;(conv=>arg 7;whnf))|refine Ops.nil ?_)|((with_reducible refine Stp.id ?_);first|refine Stp.pure rfl ?_)|((with_reducible refine Br.id ?_);first|refine br_true (by with_reducible assumption) ?_|refine br_split (fun _=>?_) (fun _=>?_))|((with_reducible refine SemWp.id ?_);first|refine sem_seq ?_|refine sem_region rfl ?_|refine sem_cond rfl ?_|refine sem_block ?_|refine sem_ret ?_|refine sem_skip ?_)|((with_reducible refine qThen.id ?_);first|refine qThen.go ?_|refine qThen.ret ?_)|((with_reducible refine hinBlock.id ?_);first|refine hinBlock.go ?_|refine hinBlock.ret ?_)|((with_reducible refine bodyQ.id ?_);first|refine bodyQ.ret rfl ?_)
 all_goals refine Fin.mk ⟨?_,rfl⟩
 all_goals simp [keyS,bb, *]
def twoS (s:ByteArray):Bool:=strEq s ⟨#[61,61]⟩||strEq s ⟨#[33,61]⟩||strEq s ⟨#[60,61]⟩||strEq s ⟨#[62,61]⟩||strEq s ⟨#[45,62]⟩
def oneZ (b:Int):Bool:=b == 40||b == 41||b == 123||b == 125||b == 91||b == 93||b == 44||b == 59||b == 61||b == 60||b == 62||b == 43||b == 45||b == 42||b == 47||b == 37
/-- How many bytes of a text, not empty, are a sign. -/
def signS (s:ByteArray):Nat:=if 1 < s.size∧twoS (s.extract 0 2)=true then 2 else if oneZ (byteAt s 0)=true then 1 else 0
theorem sign_spec (s:ByteArray) (h0:0 < s.size):Pur cx 24 [ss s] (ii (signS s)):=by
 refine ⟨sem_calls cx (fn:=Tryz.f24) rfl rfl rfl rfl ?_⟩
 repeat' first|((with_reducible refine Ops.id ?_);first|(refine Ops.cons rfl ?_;(conv=>arg 7;whnf))|refine Ops.nil ?_)|((with_reducible refine Stp.id ?_);first|refine Stp.pure rfl ?_|refine Stp.val rfl ?_)|((with_reducible refine Side.id ?_);first|(refine Side.mk ?_ ?_;focus (((repeat' apply And.intro)<;>first|exact True.intro|omega);done)))|((with_reducible refine Br.id ?_);first|refine br_true (by with_reducible assumption) ?_|refine br_dec_t (by with_reducible assumption) ?_|refine br_dec (fun _=>?_) (fun _=>?_)|refine br_split (fun _=>?_) (fun _=>?_))|((with_reducible refine SemWp.id ?_);first|refine sem_seq ?_|refine sem_region rfl ?_|refine sem_cond rfl ?_|refine sem_block ?_|refine sem_ret ?_|refine sem_skip ?_)|((with_reducible refine qThen.id ?_);first|refine qThen.go ?_|refine qThen.ret ?_)|((with_reducible refine hinBlock.id ?_);first|refine hinBlock.go ?_|refine hinBlock.ret ?_)|((with_reducible refine bodyQ.id ?_);first|refine bodyQ.ret rfl ?_)
 all_goals refine Fin.mk ⟨?_,rfl⟩
 all_goals (try simp only [show Int.toNat 2=2 from rfl] at *)
 all_goals first
  |(have h1:1 < s.size:=by omega
    simp [signS,twoS,oneZ,ii,h1, *];done)
  |(have h1:¬ 1 < s.size:=by omega
    simp [signS,twoS,oneZ,ii,h1, *];done)
/-- What a number is refused for. -/
def numberS (s:ByteArray) (more:Bool):Int:=if s.size > 9 then 2 else if (decide (s.size > 1) && byteAt s 0 == 48||more)=true then 3 else 0
theorem number_spec (s:ByteArray) (more:Bool):Pur cx 23 [ss s,bb more] (ii (numberS s more)):=by
 refine ⟨sem_calls cx (fn:=Tryz.f23) rfl rfl rfl rfl ?_⟩
 repeat' first|((with_reducible refine Ops.id ?_);first|(refine Ops.cons rfl ?_;(conv=>arg 7;whnf))|refine Ops.nil ?_)|((with_reducible refine Stp.id ?_);first|refine Stp.pure rfl ?_|refine Stp.val rfl ?_|refine Stp.valC rfl ?_)|((with_reducible refine Side.id ?_);first|refine Side.mk (fun h=>h) ?_|(refine Side.mk ?_ ?_;focus (((repeat' apply And.intro)<;>first|(simp;omega));done)))|((with_reducible refine Br.id ?_);first|refine br_true (by with_reducible assumption) ?_|refine br_dec (fun _=>?_) (fun _=>?_)|refine br_split (fun _=>?_) (fun _=>?_))|((with_reducible refine SemWp.id ?_);first|refine sem_seq ?_|refine sem_region rfl ?_|refine sem_cond rfl ?_|refine sem_block ?_|refine sem_ret ?_|refine sem_skip ?_)|((with_reducible refine qThen.id ?_);first|refine qThen.go ?_|refine qThen.ret ?_)|((with_reducible refine hinBlock.id ?_);first|refine hinBlock.go ?_|refine hinBlock.ret ?_)|((with_reducible refine bodyQ.id ?_);first|refine bodyQ.ret rfl ?_)
 all_goals refine Fin.mk ⟨?_,rfl⟩
 all_goals unfold numberS
 ·rw [if_pos (by omega)];rfl
 ·rename_i h0 h2
  have h2:(decide (s.size > 1) && byteAt s 0 == 48)=true:=by
   rw [←h2];congr 1
   exact decide_eq_decide.2 (by omega)
  rw [if_neg (by omega),if_pos (by rw [h2,Bool.true_or])];rfl
 ·rename_i h0 h2 h3
  have h3:more=true:=h3
  rw [if_neg (by omega),if_pos (by rw [h3,Bool.or_true])];rfl
 ·rename_i h0 h2 h3
  have h3:more=false:=h3
  have h2:(decide (s.size > 1) && byteAt s 0 == 48)=false:=by
   rw [←h2];congr 1
   exact decide_eq_decide.2 (by omega)
  rw [if_neg (by omega),if_neg (by rw [h2,h3];simp)];rfl
end Go.Proofs.Hk

set_option linter.unusedSimpArgs false
set_option linter.unusedVariables false
set_option maxRecDepth 4000
namespace Go.Proofs.Hk
open Go Go.Proofs
/-- As far as bytes are of a sort. -/
def scan (p:Int→Bool) (s:ByteArray) (i:Nat):Nat:=
 if h:i < s.size then (if p (byteAt s i)=true then scan p s (i+1) else i) else i
termination_by s.size - i
theorem scan_ge (p:Int→Bool) (s:ByteArray) (i:Nat):i≤scan p s i:=by
 unfold scan
 split
 ·split
  ·have:=scan_ge p s (i+1);omega
  ·exact Nat.le_refl _
 ·exact Nat.le_refl _
termination_by s.size - i
theorem scan_le (p:Int→Bool) (s:ByteArray) (i:Nat) (h:i≤s.size):scan p s i≤s.size:=by
 unfold scan
 split
 ·split
  ·exact scan_le p s (i+1) (by omega)
  ·exact h
 ·exact h
termination_by s.size - i
theorem scan_yes {p:Int→Bool} {s:ByteArray} {i:Nat} (h:i < s.size) (hp:p (byteAt s i)=true):scan p s (i+1)=scan p s i:=by
 conv=>rhs;unfold scan
 rw [dif_pos h,if_pos hp]
theorem scan_no {p:Int→Bool} {s:ByteArray} {i:Nat} (hp:p (byteAt s i)=false):scan p s i=i:=by
 unfold scan
 split
 ·rw [if_neg (by rw [hp];simp)]
 ·rfl
theorem scan_end {p:Int→Bool} {s:ByteArray} {i:Nat} (h:¬ i < s.size):scan p s i=i:=by
 unfold scan
 rw [dif_neg h]
theorem run_spec (p:Int→Bool) (k:Nat) (hk:cx.fn k=true) (hp:∀ x,Pur cx k [cc x] (bb (p x))) (a b:Nat) (s:ByteArray) (hs:s.size≤8192) (i:Nat) (hi:i≤s.size) (hab:a≠b) :
  HCalls cx.P 17 [.fn (.func k) [] [],.ptr a 0,.ptr b 0] [(a,.cells [ii i] 3),(b,.cells [ss s] 9)] fun e st=>
   e = .ret (ss (s.extract i (scan p s i)))∧st=[(a,.cells [ii (scan p s i)] 3),(b,.cells [ss s] 9)]:=by
 refine sem_calls cx (fn:=Tryz.f17) rfl rfl rfl rfl ?_
 repeat' first|((with_reducible refine Ops.id ?_);first|(refine Ops.cons rfl ?_;(conv=>arg 7;whnf))|refine Ops.nil ?_)|((with_reducible refine Stp.id ?_);first|refine Stp.pure rfl ?_|refine Stp.val rfl ?_|refine Stp.look ?_)|((with_reducible refine Side.id ?_);first|refine Side.mk rfl ?_)|((with_reducible refine Look.id ?_);first|(refine Look.hit ?_;try (conv=>arg 7;whnf)))|((with_reducible refine SemWp.id ?_);first|refine sem_seq ?_|refine sem_region rfl ?_|refine sem_block ?_)|((with_reducible refine qThen.id ?_);first|refine qThen.go ?_)
 refine sem_loop cx (ι:=Nat) (fun j=>i≤j∧j≤s.size∧scan p s j=scan p s i)
  (fun j=>[(0,.sure,.fn (.func k) [] []),(1,.sure,.ptr a 0),(2,.sure,.ptr b 0),(5,.sure,ii i)])
  (fun j=>[(a,.cells [ii j] 3),(b,.cells [ss s] 9)]) (fun j=>s.size - j) i ⟨Nat.le_refl _,hi,rfl⟩ ?_ ?_ ?_
 ·exact Sub.cons rfl rfl (Sub.cons rfl rfl (Sub.cons rfl rfl (Sub.cons rfl rfl (Sub.nil _))))
 ·exact Subp.refl _
 rintro j ⟨h1,h2,h3⟩
 repeat' first|((with_reducible refine Ops.id ?_);first|(refine Ops.cons rfl ?_;(conv=>arg 7;whnf))|refine Ops.nil ?_)|((with_reducible refine Stp.id ?_);first|refine Stp.pure rfl ?_|refine Stp.val rfl ?_|refine Stp.valC rfl ?_|refine Stp.callC ?_|refine Stp.look ?_|refine Stp.eff ?_)|((with_reducible refine PutK.id ?_);first|(refine PutK.set HsetIs.hit ?_)|refine PutK.mk' rfl ?_)|((with_reducible refine Upd.id ?_);(refine Upd.lit rfl ?_;(conv=>whnf)))|((with_reducible refine Side.id ?_);first|refine Side.mk rfl ?_|refine Side.mk (fun h=>h) ?_|(refine Side.mk ?_ ?_;focus (((repeat' apply And.intro)<;>first|assumption|omega|(simp;done));done))|(refine Side.mk ?_ ?_;focus (intro hside;((repeat' apply And.intro)<;>first|rfl);done)))|((with_reducible refine Br.id ?_);first|refine br_split (fun _=>?_) (fun _=>?_))|((with_reducible refine Look.id ?_);first|(refine Look.hit ?_;try (conv=>arg 7;whnf))|refine Look.miss (by omega) ?_)|((with_reducible refine SemWp.id ?_);first|refine sem_seq ?_|refine sem_region rfl ?_|refine sem_cond rfl ?_|refine sem_block ?_|refine sem_exit ?_|refine sem_ret ?_|refine sem_skip ?_)|((with_reducible refine CallC.id ?_);first|(refine Pur.askC (hp _) ?_ ?_;focus (intro h;first|exact ⟨h,h,hk⟩)))|((with_reducible refine qThen.id ?_);first|refine qThen.go ?_)|((with_reducible refine hinBlock.id ?_);first|refine hinBlock.go ?_)|((with_reducible refine hround.id ?_);first|refine hround.go ?_)|((with_reducible refine bodyQ.id ?_);first|refine bodyQ.ret rfl ?_)
 ·rename_i h5
  simp only [Bool.and_eq_true,decide_eq_true_eq] at h5
  refine Fin.mk ⟨j+1,⟨by omega,by omega,?_⟩,by omega,Sub.cons rfl rfl (Sub.cons rfl rfl (Sub.cons rfl rfl (Sub.cons rfl rfl (Sub.nil _)))),Subp.of_eq ?_⟩
  ·rw [scan_yes (by omega) h5.2,h3]
  ·show [(a,Res.cells [.v (.int .i64 (IntKind.i64.wrap ((j:Int)+1)))] 3),(b,Res.cells [ss s] 9)]=_
   rw [wrap64 (by omega)];rfl
 ·rename_i h5
  have e:scan p s i=j:=by
   rw [←h3]
   by_cases hz:j < s.size
   ·exact scan_no (by simpa [hz] using h5)
   ·exact scan_end hz
  refine Fin.mk ⟨?_,?_⟩
  ·rw [e];rfl
  ·rw [e]
end Go.Proofs.Hk

set_option linter.unusedSimpArgs false
set_option linter.unusedVariables false
set_option maxRecDepth 4000
namespace Go.Proofs.Hk
open Go Go.Proofs
/-! What the tokens of a text are. -/
structure Tk where
 kind:Int
 text:ByteArray
 pos:Nat
def tokD (t:Tk):HV:=.agg [ii t.kind,ss t.text,ii t.pos]
inductive Nxt where
 |skip (j:Nat)
 |tok (t:Tk) (j:Nat)
 |err (e:Int)
def nxt (s:ByteArray) (i:Nat):Nxt:=
 if blankZ (byteAt s i)=true then .skip (i+1)
 else if byteAt s i=35 then .skip (scan (fun b=>b != 10) s i)
 else if letterZ (byteAt s i)=true then
  if (s.extract i (scan wordZ s i)).size > 16 then .err 2 else .tok ⟨if keyS (s.extract i (scan wordZ s i))=true then 3 else 1,s.extract i (scan wordZ s i),i⟩ (scan wordZ s i)
 else if digitZ (byteAt s i)=true then
  if numberS (s.extract i (scan digitZ s i)) (decide (scan digitZ s i < s.size) && wordZ (byteAt s (scan digitZ s i)))≠0 then .err (numberS (s.extract i (scan digitZ s i)) (decide (scan digitZ s i < s.size) && wordZ (byteAt s (scan digitZ s i))))
  else .tok ⟨2,s.extract i (scan digitZ s i),i⟩ (scan digitZ s i)
 else if signS (s.extract i s.size)=0 then .err 3
 else .tok ⟨4,s.extract i (i+signS (s.extract i s.size)),i⟩ (i+signS (s.extract i s.size))
/-- The tokens from a place on, or the error and its place. -/
def lexL (s:ByteArray) (i:Nat):Except (Int × Nat) (List Tk):=
 if h:i < s.size then
  match nxt s i with
  |.skip j=>lexL s (max (i+1) j)
  |.tok t j=>match lexL s (max (i+1) j) with
   |.ok l=>.ok (t::l)
   |.error e=>.error e
  |.err e=>.error (e,i)
 else .ok [⟨0,⟨#[]⟩,s.size⟩]
termination_by s.size - i
def comb (pre:List Tk):Except (Int × Nat) (List Tk)→Except (Int × Nat) (List Tk)
 |.ok l=>.ok (pre ++ l)
 |.error e=>.error e
def lexV (r:Except (Int × Nat) (List Tk)):HV:=
 match r with
 |.ok l=>.tup [.list .no 3 (l.map tokD),ii 0,ii 0]
 |.error (e,at_)=>.tup [.list .no 3 [],ii e,ii at_]
def lexR (s:ByteArray):Except (Int × Nat) (List Tk):=if s.size > 8192 then .error (2,8192) else lexL s 0
theorem lexL_end {s:ByteArray} {i:Nat} (h:¬ i < s.size):lexL s i = .ok [⟨0,⟨#[]⟩,s.size⟩]:=by
 unfold lexL
 rw [dif_neg h]
theorem lexL_skip {s:ByteArray} {i j:Nat} (h:i < s.size) (hj:i < j) (hn:nxt s i = .skip j):lexL s i=lexL s j:=by
 conv=>lhs;unfold lexL
 rw [dif_pos h,hn]
 simp only []
 rw [show max (i+1) j=j from by omega]
theorem lexL_tok {s:ByteArray} {i j:Nat} {t:Tk} (h:i < s.size) (hj:i < j) (hn:nxt s i = .tok t j) (pre:List Tk):comb (pre ++ [t]) (lexL s j)=comb pre (lexL s i):=by
 conv=>rhs;unfold lexL
 rw [dif_pos h,hn]
 simp only []
 rw [show max (i+1) j=j from by omega]
 cases lexL s j<;>simp [comb]
theorem lexL_err {s:ByteArray} {i:Nat} {e:Int} (h:i < s.size) (hn:nxt s i = .err e):lexL s i = .error (e,i):=by
 unfold lexL
 rw [dif_pos h,hn]
theorem nxt_blank {s:ByteArray} {j:Nat} (h:blankZ (byteAt s j)=true):nxt s j = .skip (j+1):=by simp [nxt,h]
theorem nxt_line {s:ByteArray} {j:Nat} (h0:blankZ (byteAt s j)=false) (h:byteAt s j=35):nxt s j = .skip (scan (fun b=>b != 10) s j):=by
 unfold nxt;rw [if_neg (by rw [h0];simp),if_pos h]
theorem nxt_longE {s:ByteArray} {j:Nat} (h0:blankZ (byteAt s j)=false) (h:¬ byteAt s j=35) (hl:letterZ (byteAt s j)=true) (hz:(s.extract j (scan wordZ s j)).size > 16):nxt s j = .err 2:=by
 unfold nxt;rw [if_neg (by rw [h0];simp),if_neg h,if_pos hl,if_pos hz]
theorem nxt_word {s:ByteArray} {j:Nat} (h0:blankZ (byteAt s j)=false) (h:¬ byteAt s j=35) (hl:letterZ (byteAt s j)=true) (hz:¬ (s.extract j (scan wordZ s j)).size > 16):nxt s j = .tok ⟨if keyS (s.extract j (scan wordZ s j))=true then 3 else 1,s.extract j (scan wordZ s j),j⟩ (scan wordZ s j):=by
 unfold nxt;rw [if_neg (by rw [h0];simp),if_neg h,if_pos hl,if_neg hz]
theorem nxt_numE {s:ByteArray} {j:Nat} (h0:blankZ (byteAt s j)=false) (h:¬ byteAt s j=35) (hl:letterZ (byteAt s j)=false) (hd:digitZ (byteAt s j)=true) {m:Bool} (hm:m=(decide (scan digitZ s j < s.size) && wordZ (byteAt s (scan digitZ s j)))) (hz:¬ numberS (s.extract j (scan digitZ s j)) m=0):nxt s j = .err (numberS (s.extract j (scan digitZ s j)) m):=by
 subst hm
 unfold nxt;rw [if_neg (by rw [h0];simp),if_neg h,if_neg (by rw [hl];simp),if_pos hd,if_pos hz]
theorem nxt_num {s:ByteArray} {j:Nat} (h0:blankZ (byteAt s j)=false) (h:¬ byteAt s j=35) (hl:letterZ (byteAt s j)=false) (hd:digitZ (byteAt s j)=true) {m:Bool} (hm:m=(decide (scan digitZ s j < s.size) && wordZ (byteAt s (scan digitZ s j)))) (hz:numberS (s.extract j (scan digitZ s j)) m=0):nxt s j = .tok ⟨2,s.extract j (scan digitZ s j),j⟩ (scan digitZ s j):=by
 subst hm
 unfold nxt;rw [if_neg (by rw [h0];simp),if_neg h,if_neg (by rw [hl];simp),if_pos hd,if_neg (by simp [hz])]
theorem nxt_signE {s:ByteArray} {j:Nat} (h0:blankZ (byteAt s j)=false) (h:¬ byteAt s j=35) (hl:letterZ (byteAt s j)=false) (hd:digitZ (byteAt s j)=false) (hz:signS (s.extract j s.size)=0):nxt s j = .err 3:=by
 unfold nxt;rw [if_neg (by rw [h0];simp),if_neg h,if_neg (by rw [hl];simp),if_neg (by rw [hd];simp),if_pos hz]
theorem nxt_sign {s:ByteArray} {j:Nat} (h0:blankZ (byteAt s j)=false) (h:¬ byteAt s j=35) (hl:letterZ (byteAt s j)=false) (hd:digitZ (byteAt s j)=false) (hz:¬ signS (s.extract j s.size)=0):nxt s j = .tok ⟨4,s.extract j (j+signS (s.extract j s.size)),j⟩ (j+signS (s.extract j s.size)):=by
 unfold nxt;rw [if_neg (by rw [h0];simp),if_neg h,if_neg (by rw [hl];simp),if_neg (by rw [hd];simp),if_neg hz]
theorem scan_lt {p:Int→Bool} {s:ByteArray} {i:Nat} (h:i < s.size) (hp:p (byteAt s i)=true):i < scan p s i:=by
 rw [←scan_yes h hp]
 have:=scan_ge p s (i+1);omega
theorem Subp.rot {x y z t t':Nat × Res} (ht:t'=t):Subp [t',x,y] [x,y,z,t]:=by
 subst ht
 exact ⟨[t',x,y,z],(List.perm_append_comm:([t'] ++ [x,y,z]).Perm ([x,y,z] ++ [t'])),List.sublist_append_left [t',x,y] [z]⟩
theorem signS_le (s:ByteArray) (h:0 < s.size):signS s≤s.size:=by
 unfold signS
 split
 ·rename_i h;omega
 ·split<;>omega
theorem sign_side {s:ByteArray} {j:Nat} (h:j < s.size) (hs:s.size≤8192):0≤(j:Int)∧0≤IntKind.i64.wrap ((j:Int)+signS (s.extract (j:Int).toNat s.size))∧(j:Int).toNat≤(IntKind.i64.wrap ((j:Int)+signS (s.extract (j:Int).toNat s.size))).toNat∧(IntKind.i64.wrap ((j:Int)+signS (s.extract (j:Int).toNat s.size))).toNat≤s.size:=by
 have:=signS_le (s.extract (j:Int).toNat s.size) (by simp;omega)
 simp at this
 simp only [Int.toNat_natCast]
 rw [wrap64 (by omega)]
 omega
theorem lex_err {s:ByteArray} {j:Nat} {e:Int} {pre:List Tk} (h:j < s.size) (hn:nxt s j = .err e) (h3:comb pre (lexL s j)=lexL s 0):∃ l e0 at_,HEnd.ret (HV.tup [HV.v (Value.slice none 0 0),HV.v (.int .i64 e),ii j]) = .ret (.tup [l,ii e0,ii at_])∧∃ l',Weaker l l'∧lexV (lexL s 0) = .tup [l',ii e0,ii at_]:=by
 refine ⟨_,_,_,rfl,_,Weaker.nil 3,?_⟩
 rw [←h3,lexL_err h hn];rfl
set_option maxHeartbeats 4000000 in
theorem Lex_spec (s:ByteArray):Pur cx 9 [ss s] (lexV (lexR s)):=by
 refine ⟨HCalls.weaken (sem_calls cx (fn:=Tryz.f9) rfl rfl rfl rfl (R:=fun e st=>∃ l e0 at_,e = .ret (.tup [l,ii e0,ii at_])∧∃ l',Weaker l l'∧lexV (lexR s) = .tup [l',ii e0,ii at_]) ?_) ?_⟩
 ·repeat' first|((with_reducible refine Ops.id ?_);first|(refine Ops.cons rfl ?_;(conv=>arg 7;whnf)))|((with_reducible refine Stp.id ?_);first|refine Stp.eff ?_)|((with_reducible refine SemWp.id ?_);first|refine sem_seq ?_|refine sem_region rfl ?_)
  intro b _
  repeat' first|((with_reducible refine Ops.id ?_);first|(refine Ops.cons rfl ?_;(conv=>arg 7;whnf))|refine Ops.nil ?_)|((with_reducible refine Stp.id ?_);first|refine Stp.pure rfl ?_|refine Stp.val rfl ?_|refine Stp.look ?_|refine Stp.eff ?_)|((with_reducible refine PutK.id ?_);first|refine PutK.mk' rfl ?_)|((with_reducible refine Side.id ?_);first|refine Side.mk rfl ?_)|((with_reducible refine Br.id ?_);first|refine br_dec (fun _=>?_) (fun _=>?_))|((with_reducible refine Look.id ?_);first|(refine Look.hit ?_;try (conv=>arg 7;whnf)))|((with_reducible refine SemWp.id ?_);first|refine sem_seq ?_|refine sem_region rfl ?_|refine sem_cond rfl ?_|refine sem_ret ?_|refine sem_skip ?_)|((with_reducible refine qThen.id ?_);first|refine qThen.go ?_|refine qThen.ret ?_)|((with_reducible refine bodyQ.id ?_);first|refine bodyQ.ret2 rfl ?_)
  ·rename_i h
   refine Fin.mk ⟨_,_,_,rfl,_,Weaker.nil 3,?_⟩
   have h:s.size > 8192:=by omega
   unfold lexR
   rw [if_pos h];rfl
  ·rename_i h
   intro a hab
   simp only [keys,List.map_cons,List.map_nil,List.mem_cons,List.not_mem_nil,not_or,or_false,not_false_eq_true] at hab
   repeat' first|((with_reducible refine Ops.id ?_);first|(refine Ops.cons rfl ?_;(conv=>arg 7;whnf))|refine Ops.nil ?_)|((with_reducible refine Stp.id ?_);first|refine Stp.pure rfl ?_|refine Stp.look ?_|refine Stp.eff ?_)|((with_reducible refine PutK.id ?_);first|(refine PutK.set HsetIs.hit ?_)|refine PutK.mk' rfl ?_)|((with_reducible refine Upd.id ?_);(refine Upd.lit rfl ?_;(conv=>whnf)))|((with_reducible refine Look.id ?_);first|(refine Look.hit ?_;try (conv=>arg 7;whnf)))|((with_reducible refine SemWp.id ?_);first|refine sem_seq ?_|refine sem_region rfl ?_|refine sem_block ?_)|((with_reducible refine qThen.id ?_);first|refine qThen.go ?_)
   have hs:s.size≤8192:=by omega
   have hR:lexR s=lexL s 0:=by unfold lexR;rw [if_neg (by omega)]
   rw [hR]
   refine sem_nil_own cx 5 3 rfl ?_
   intro r hr
   simp only [keys,List.map_cons,List.map_nil,List.mem_cons,List.not_mem_nil,not_or,or_false,not_false_eq_true] at hr
   refine sem_loop cx (ι:=Nat × List Tk) (fun i=>i.1≤s.size∧i.2.length≤i.1∧comb i.2 (lexL s i.1)=lexL s 0)
    (fun i=>[(1,.sure,.ptr b 0),(6,.sure,.ptr a 0),(7,.sure,.fn (.func 17) [] [.ptr a 0,.ptr b 0]),(8,.sure,.fn (.func 18) [] []),(5,.sure,.list (.own r 0) 3 (i.2.map tokD))])
    (fun i=>[(r,.tok i.2.length),(a,.cells [ii i.1] 3),(b,.cells [ss s] 9)]) (fun i=>s.size - i.1) (0,[]) ⟨Nat.zero_le _,Nat.le_refl _,?_⟩ ?_ ?_ ?_
   ·cases lexL s 0<;>rfl
   ·exact Sub.cons rfl rfl (Sub.cons rfl rfl (Sub.cons rfl rfl (Sub.cons rfl rfl (Sub.cons rfl rfl (Sub.nil _)))))
   ·exact Subp.refl _
   rintro ⟨j,pre⟩ ⟨h1,h2,h3⟩
   simp only [] at h1 h2 h3
   dsimp only
   repeat' first|((with_reducible refine Ops.id ?_);first|(refine Ops.cons rfl ?_;(conv=>arg 7;whnf))|refine Ops.nil ?_)|((with_reducible refine Stp.id ?_);first|refine Stp.pure rfl ?_|refine Stp.val rfl ?_|refine Stp.call ?_|refine Stp.look ?_|refine Stp.eff ?_)|((with_reducible refine PutK.id ?_);first|(refine PutK.set HsetIs.hit ?_)|refine PutK.mk' rfl ?_)|((with_reducible refine Side.id ?_);first|refine Side.mk rfl ?_|(refine Side.mk ?_ ?_;focus (((repeat' apply And.intro)<;>first|assumption|omega|(simp;done)|(simp;omega));done)))|((with_reducible refine Br.id ?_);first|refine br_dec (fun _=>?_) (fun _=>?_))|((with_reducible refine Look.id ?_);first|(refine Look.hit ?_;try (conv=>arg 7;whnf))|refine Look.miss (by omega) ?_)|((with_reducible refine SemWp.id ?_);first|refine sem_seq ?_|refine sem_region rfl ?_|refine sem_cond rfl ?_|refine sem_block ?_|refine sem_exit ?_|refine sem_ret ?_|refine sem_skip ?_)|((with_reducible refine CallWp.id ?_);first|refine Pur.call (sort_spec _) ?_)|((with_reducible refine qThen.id ?_);first|refine qThen.go ?_)|((with_reducible refine bodyQ.id ?_);first|refine bodyQ.ret2 rfl ?_)
   intro tt htt
   simp only [keys,List.map_cons,List.map_nil,List.mem_cons,List.not_mem_nil,not_or,or_false,not_false_eq_true] at htt
   repeat' first|((with_reducible refine Ops.id ?_);first|(refine Ops.cons rfl ?_;(conv=>arg 7;whnf))|refine Ops.nil ?_)|((with_reducible refine Stp.id ?_);first|refine Stp.pure rfl ?_|refine Stp.val rfl ?_|refine Stp.call ?_|refine Stp.look ?_|refine Stp.eff ?_)|((with_reducible refine PutK.id ?_);first|(refine PutK.set HsetIs.hit ?_)|(refine PutK.set (HsetIs.miss ?_ HsetIs.hit) ?_;(focus omega))|(refine PutK.set (HsetIs.miss ?_ (HsetIs.miss ?_ HsetIs.hit)) ?_;(focus omega);(focus omega))|(refine PutK.set (HsetIs.miss ?_ (HsetIs.miss ?_ (HsetIs.miss ?_ HsetIs.hit))) ?_;(focus omega);(focus omega);(focus omega))|refine PutK.mk' rfl ?_)|((with_reducible refine Upd.id ?_);(refine Upd.lit rfl ?_;(conv=>whnf)))|((with_reducible refine Side.id ?_);first|refine Side.mk rfl ?_|refine Side.mk (sign_side (by omega) hs) ?_|(refine Side.mk ?_ ?_;focus (((repeat' apply And.intro)<;>first|exact True.intro|assumption|omega|(simp;done)|(simp;omega));done)))|((with_reducible refine Br.id ?_);first|refine br_dec (fun _=>?_) (fun _=>?_)|refine br_bne (fun _=>?_) (fun _=>?_)|refine br_split (fun _=>?_) (fun _=>?_))|((with_reducible refine Look.id ?_);first|(refine Look.hit ?_;try (conv=>arg 7;whnf))|refine Look.miss (by omega) ?_)|((with_reducible refine SemWp.id ?_);first|refine sem_seq ?_|refine sem_region rfl ?_|refine sem_cond rfl ?_|refine sem_block ?_|refine sem_exit ?_|refine sem_ret ?_|refine sem_skip ?_|refine sem_draw ?_)|((with_reducible refine CallWp.id ?_);first|(refine call_ret cx [_,_] (run_spec wordZ _ rfl word_spec _ _ _ hs _ (by omega) hab) (List.Perm.refl _) ?_;(conv=>whnf))|(refine call_ret cx [_,_] (run_spec digitZ _ rfl digit_spec _ _ _ hs _ (by omega) hab) (List.Perm.refl _) ?_;(conv=>whnf))|(refine call_ret cx [_,_] (run_spec (fun b=>b != 10) _ rfl line_spec _ _ _ hs _ (by omega) hab) (List.Perm.refl _) ?_;(conv=>whnf))|refine Pur.call (key_spec _) ?_|refine Pur.call (sign_spec _ (by simp;omega)) ?_)|((with_reducible refine qThen.id ?_);first|refine qThen.go ?_|refine qThen.ret ?_|refine qThen.exit ?_)|((with_reducible refine hinBlock.id ?_);first|refine hinBlock.go ?_|refine hinBlock.ret ?_|refine hinBlock.here rfl ?_|refine hinBlock.on rfl ?_)|((with_reducible refine hround.id ?_);first|refine hround.go ?_|refine hround.ret ?_)|((with_reducible refine bodyQ.id ?_);first|refine bodyQ.ret2 rfl ?_)|(refine drawQ cx (by decide +kernel) ?_;(conv=>whnf))|((conv=>whnf);first|((with_reducible refine Side.id ?_);first|refine Side.mk rfl ?_|refine Side.mk (fun h=>h) ?_|(refine Side.mk ?_ ?_;focus (((repeat' apply And.intro)<;>first|(simp;done));done))|(refine Side.mk ?_ ?_;focus (intro hside;((repeat' apply And.intro)<;>first|rfl);done)))|((with_reducible refine Look.id ?_);first|(refine Look.hit ?_;try (conv=>arg 7;whnf))|refine Look.miss (by omega) ?_)|((with_reducible refine QAsk.id ?_);first|(refine Pur.ask (number_spec _ _) ?_ ?_;focus (intro h;first|exact rfl))|(refine Pur.ask (word_spec _) ?_ ?_;focus (intro h;first|exact ⟨h,h,rfl⟩)))|((with_reducible refine SemWp.id ?_);first|refine sem_seq ?_|refine sem_ret ?_))
   ·rename_i hj hb
    exact Fin.mk ⟨(j+1,pre),⟨by simp only [];omega,by simp only [];omega,by rw [←h3,lexL_skip (by omega) (by omega) (nxt_blank hb)]⟩,by simp only [];omega,Sub.cons rfl rfl (Sub.cons rfl rfl (Sub.cons rfl rfl (Sub.cons rfl rfl (Sub.cons rfl rfl (Sub.nil _))))),Subp.skip (Subp.of_eq (by rw [wrap64 (by omega)];rfl)) _⟩
   ·rename_i hj h0 hb
    have g1:=scan_lt (p:=fun b=>b != 10) (s:=s) (i:=j) (by omega) (by rw [hb];rfl)
    have g2:=scan_le (fun b=>b != 10) s j (by omega)
    exact Fin.mk ⟨(scan (fun b=>b != 10) s j,pre),⟨g2,by simp only [];omega,by rw [←h3,lexL_skip (by omega) g1 (nxt_line h0 hb)]⟩,by simp only [];omega,Sub.cons rfl rfl (Sub.cons rfl rfl (Sub.cons rfl rfl (Sub.cons rfl rfl (Sub.cons rfl rfl (Sub.nil _))))),Subp.rot rfl⟩
   ·rename_i hj h0 hb hl hk hz
    exact Fin.mk (lex_err (by omega) (nxt_longE h0 hb hl (by omega)) h3)
   ·rename_i hj h0 hb hl hk hz
    have g1:=scan_lt (p:=wordZ) (s:=s) (i:=j) (by omega) (by simp [wordZ,hl])
    have g2:=scan_le wordZ s j (by omega)
    refine Fin.mk ⟨(scan wordZ s j,pre ++ [⟨3,s.extract j (scan wordZ s j),j⟩]),⟨g2,by simp;omega,?_⟩,by simp only [];omega,Sub.cons rfl rfl (Sub.cons rfl rfl (Sub.cons rfl rfl (Sub.cons rfl rfl (Sub.cons rfl (by simp [tokD,ii,ss]) (Sub.nil _))))),Subp.rot (by simp)⟩
    exact (lexL_tok (by omega) g1 (by rw [nxt_word h0 hb hl (by omega),hk];rfl) pre).trans h3
   ·rename_i hj h0 hb hl hk hz
    exact Fin.mk (lex_err (by omega) (nxt_longE h0 hb hl (by omega)) h3)
   ·rename_i hj h0 hb hl hk hz
    have g1:=scan_lt (p:=wordZ) (s:=s) (i:=j) (by omega) (by simp [wordZ,hl])
    have g2:=scan_le wordZ s j (by omega)
    refine Fin.mk ⟨(scan wordZ s j,pre ++ [⟨1,s.extract j (scan wordZ s j),j⟩]),⟨g2,by simp;omega,?_⟩,by simp only [];omega,Sub.cons rfl rfl (Sub.cons rfl rfl (Sub.cons rfl rfl (Sub.cons rfl rfl (Sub.cons rfl (by simp [tokD,ii,ss]) (Sub.nil _))))),Subp.rot (by simp)⟩
    exact (lexL_tok (by omega) g1 (by rw [nxt_word h0 hb hl (by omega),hk];rfl) pre).trans h3
   ·rename_i hj h0 hb hl hd hz
    exact Fin.mk (lex_err (by omega) (nxt_numE h0 hb hl hd (by simp) hz) h3)
   ·rename_i hj h0 hb hl hd hz
    have g1:=scan_lt (p:=digitZ) (s:=s) (i:=j) (by omega) hd
    have g2:=scan_le digitZ s j (by omega)
    refine Fin.mk ⟨(scan digitZ s j,pre ++ [⟨2,s.extract j (scan digitZ s j),j⟩]),⟨g2,by simp;omega,?_⟩,by simp only [];omega,Sub.cons rfl rfl (Sub.cons rfl rfl (Sub.cons rfl rfl (Sub.cons rfl rfl (Sub.cons rfl (by simp [tokD,ii,ss]) (Sub.nil _))))),Subp.rot (by simp)⟩
    exact (lexL_tok (by omega) g1 (nxt_num h0 hb hl hd (by simp) hz) pre).trans h3
   ·rename_i hj h0 hb hl hd hz
    exact Fin.mk (lex_err (by omega) (nxt_signE h0 hb hl hd (by simpa using hz)) h3)
   ·rename_i hj h0 hb hl hd hz
    have hz:¬ signS (s.extract j s.size)=0:=by simpa using hz
    have g1:=signS_le (s.extract j s.size) (by simp;omega)
    simp only [ByteArray.size_extract,Nat.min_self] at g1
    have e:IntKind.i64.wrap ((j:Int)+signS (s.extract (j:Int).toNat s.size))=((j+signS (s.extract j s.size):Nat):Int):=by
     rw [Int.toNat_natCast,wrap64 (by omega)];omega
    have e2:IntKind.i64.wrap ((j:Int)+(signS (s.extract j s.size):Int))=(j:Int)+signS (s.extract j s.size):=wrap64 (by omega)
    have e1:((j:Int)+(signS (s.extract j s.size):Int)).toNat=j+signS (s.extract j s.size):=by omega
    refine Fin.mk ⟨(j+signS (s.extract j s.size),pre ++ [⟨4,s.extract j (j+signS (s.extract j s.size)),j⟩]),⟨by simp only [];omega,by simp;omega,?_⟩,by simp only [];omega,Sub.cons rfl rfl (Sub.cons rfl rfl (Sub.cons rfl rfl (Sub.cons rfl rfl (Sub.cons rfl (by simp [tokD,ii,ss,e1,e2]) (Sub.nil _))))),Subp.skip (Subp.of_eq (by simp [ii,e2])) _⟩
    exact (lexL_tok (by omega) (by omega) (nxt_sign h0 hb hl hd hz) pre).trans h3
   ·rename_i hj
    refine Fin.mk ⟨_,_,_,rfl,_,Weaker.tok _ _ _,?_⟩
    rw [←h3,lexL_end (by omega)]
    simp only [comb,lexV,List.map_append];rfl
 ·rintro e s1 ⟨l,e0,at_,rfl,l',hw,h⟩
  exact ⟨_,[],.ret (.tup (.cons hw (.cons (.refl _) (.cons (.refl _) .nil)))),Subp.nil _,by rw [h],rfl⟩
end Go.Proofs.Hk

set_option linter.unusedSimpArgs false
set_option linter.unusedVariables false
set_option maxRecDepth 4000
namespace Go.Proofs.Hk
open Go Go.Proofs
theorem rletter_spec (b:Int):Pur cx 31 [cc b] (bb (letterZ b)):=by
 refine ⟨sem_calls cx (fn:=Tryz.f31) rfl rfl rfl rfl ?_⟩
 repeat' first|((with_reducible refine Ops.id ?_);first|(refine Ops.cons rfl ?_;(conv=>arg 7;whnf))|refine Ops.nil ?_)|((with_reducible refine Stp.id ?_);first|refine Stp.pure rfl ?_|refine Stp.val rfl ?_|refine Stp.valC rfl ?_)|((with_reducible refine Side.id ?_);first|refine Side.mk (fun h=>h) ?_)|((with_reducible refine SemWp.id ?_);first|refine sem_seq ?_|refine sem_region rfl ?_|refine sem_ret ?_)|((with_reducible refine qThen.id ?_);first|refine qThen.go ?_)|((with_reducible refine bodyQ.id ?_);first|refine bodyQ.ret rfl ?_)
 exact Fin.mk ⟨rfl,rfl⟩
theorem rdigit_spec (b:Int):Pur cx 32 [cc b] (bb (digitZ b)):=by
 refine ⟨sem_calls cx (fn:=Tryz.f32) rfl rfl rfl rfl ?_⟩
 repeat' first|((with_reducible refine Ops.id ?_);first|(refine Ops.cons rfl ?_;(conv=>arg 7;whnf))|refine Ops.nil ?_)|((with_reducible refine Stp.id ?_);first|refine Stp.pure rfl ?_|refine Stp.val rfl ?_|refine Stp.valC rfl ?_)|((with_reducible refine Side.id ?_);first|refine Side.mk (fun h=>h) ?_)|((with_reducible refine SemWp.id ?_);first|refine sem_seq ?_|refine sem_region rfl ?_|refine sem_ret ?_)|((with_reducible refine qThen.id ?_);first|refine qThen.go ?_)|((with_reducible refine bodyQ.id ?_);first|refine bodyQ.ret rfl ?_)
 exact Fin.mk ⟨rfl,rfl⟩
theorem rKey_spec (s:ByteArray):Pur cx 33 [ss s] (bb (keyS s)):=by
 refine ⟨sem_calls cx (fn:=Tryz.f33) rfl rfl rfl rfl ?_⟩
 repeat' first|((with_reducible refine Ops.id ?_);first|(refine Ops.cons rfl ?_;(conv=>arg 7;whnf))|refine Ops.nil ?_)|((with_reducible refine Stp.id ?_);first|refine Stp.pure rfl ?_)|((with_reducible refine Br.id ?_);first|refine br_true (by with_reducible assumption) ?_|refine br_split (fun _=>?_) (fun _=>?_))|((with_reducible refine SemWp.id ?_);first|refine sem_seq ?_|refine sem_region rfl ?_|refine sem_cond rfl ?_|refine sem_block ?_|refine sem_ret ?_|refine sem_skip ?_)|((with_reducible refine qThen.id ?_);first|refine qThen.go ?_|refine qThen.ret ?_)|((with_reducible refine hinBlock.id ?_);first|refine hinBlock.go ?_|refine hinBlock.ret ?_)|((with_reducible refine bodyQ.id ?_);first|refine bodyQ.ret rfl ?_)
 all_goals refine Fin.mk ⟨?_,rfl⟩
 all_goals simp [keyS,bb, *]
theorem byteAt_sub (s:ByteArray) (i:Nat) (h:i < s.size):byteAt (s.extract i s.size) 0=byteAt s i:=by
 unfold byteAt
 congr 2
 have h2:i < s.data.size:=h
 have e:(s.extract i s.size).data.toList=s.data.toList.drop i:=by
  rw [ByteArray.data_extract,Array.toList_extract]
  simp only [List.extract_eq_take_drop]
  exact List.take_of_length_le (by simp)
 rw [e]
 simp [List.getD_eq_getElem?_getD]
theorem signS_at (s:ByteArray) (i:Nat) (h:i < s.size):signS (s.extract i s.size)=if i+1 < s.size∧twoS (s.extract i (i+2))=true then 2 else if oneZ (byteAt s i)=true then 1 else 0:=by
 unfold signS
 rw [byteAt_sub s i h]
 have e1:1 < (s.extract i s.size).size↔i+1 < s.size:=by
  simp only [ByteArray.size_extract,Nat.min_self]
  omega
 by_cases h1:i+1 < s.size
 ·have e2:(s.extract i s.size).extract 0 2=s.extract i (i+2):=by
   rw [ByteArray.extract_extract,Nat.add_zero,Nat.min_eq_left (by omega)]
  simp only [e1,e2]
 ·have h2:¬ 1 < (s.extract i s.size).size:=fun h=>h1 (e1.1 h)
  simp only [h1,h2,false_and,if_false]
theorem rsign_spec (s:ByteArray) (hs:s.size≤8192) (i:Nat) (h0:i < s.size):Pur cx 34 [ss s,ii i] (ss (s.extract i (i+signS (s.extract i s.size)))):=by
 refine ⟨sem_calls cx (fn:=Tryz.f34) rfl rfl rfl rfl ?_⟩
 have e1:IntKind.i64.wrap ((i:Int)+1)=((i+1:Nat):Int):=wrap64 (by omega)
 have e2:IntKind.i64.wrap ((i:Int)+2)=((i+2:Nat):Int):=wrap64 (by omega)
 repeat' first|((with_reducible refine Ops.id ?_);first|(refine Ops.cons rfl ?_;(conv=>arg 7;whnf))|refine Ops.nil ?_)|((with_reducible refine Stp.id ?_);first|refine Stp.pure rfl ?_|refine Stp.val rfl ?_)|((with_reducible refine Side.id ?_);first|(refine Side.mk ?_ ?_;focus (((repeat' apply And.intro)<;>first|omega);done)))|((with_reducible refine Br.id ?_);first|refine br_true (by with_reducible assumption) ?_|refine br_dec_t (by with_reducible assumption) ?_|refine br_dec (fun _=>?_) (fun _=>?_)|refine br_split (fun _=>?_) (fun _=>?_))|((with_reducible refine SemWp.id ?_);first|refine sem_seq ?_|refine sem_region rfl ?_|refine sem_cond rfl ?_|refine sem_block ?_|refine sem_ret ?_|refine sem_skip ?_)|((with_reducible refine qThen.id ?_);first|refine qThen.go ?_|refine qThen.ret ?_)|((with_reducible refine hinBlock.id ?_);first|refine hinBlock.go ?_|refine hinBlock.ret ?_)|((with_reducible refine bodyQ.id ?_);first|refine bodyQ.ret rfl ?_)
 all_goals refine Fin.mk ⟨?_,rfl⟩
 all_goals simp only [show IntKind.i64.wrap ((i:Int)+1)=((i+1:Nat):Int) from wrap64 (by omega),show IntKind.i64.wrap ((i:Int)+2)=((i+2:Nat):Int) from wrap64 (by omega),Int.toNat_natCast] at *
 all_goals rw [signS_at s i h0]
 all_goals first
  |(have h1:i+1 < s.size:=by omega
    first
     |(simp [twoS,oneZ,ss,h1, *];done)
     |(simp [twoS,oneZ,ss,h1, *];rfl))
  |(have h1:¬ i+1 < s.size:=by omega
    first
     |(simp [twoS,oneZ,ss,h1, *];done)
     |(simp [twoS,oneZ,ss,h1, *];rfl))
theorem strEq_eqL {a b:ByteArray} (h:strEq a b=true):a=b:=by
 unfold strEq at h
 have h:=eq_of_beq h
 rw [ByteArray.toList_eq,ByteArray.toList_eq] at h
 apply ByteArray.ext
 exact Array.toList_inj.1 h
theorem scan_stop {p:Int→Bool} {s:ByteArray} {j k:Nat} (k3:scan p s k=scan p s j) (h:(decide ((k:Int) < s.size) && p (byteAt s k))=false):scan p s j=k:=by
 rw [←k3]
 by_cases hz:k < s.size
 ·exact scan_no (by simpa [hz] using h)
 ·exact scan_end hz
theorem byteAt_sub2 (s:ByteArray) (i n:Nat) (h:i < n) (hn:n≤s.size):byteAt (s.extract i n) 0=byteAt s i:=by
 unfold byteAt
 congr 2
 have e:(s.extract i n).data.toList=(s.data.toList.drop i).take (n - i):=by
  rw [ByteArray.data_extract,Array.toList_extract]
  first|done|simp only [List.extract_eq_take_drop]
 rw [e]
 have:0 < n - i:=by omega
 simp [List.getD_eq_getElem?_getD,this]
theorem number_at {s:ByteArray} {j k:Nat} (k1:j≤k) (h:j < k) (k2:k≤s.size) (hk:(decide ((k:Int) < s.size) && digitZ (byteAt s k))=false) (hz:k - j≤9) :
  numberS (s.extract j k) (decide (k < s.size) && wordZ (byteAt s k))=if (decide (((k:Int) - (j:Int)) > 1) && byteAt s j == 48||decide ((k:Int) < s.size) && (letterZ (byteAt s k)||byteAt s k == 95))=true then 3 else 0:=by
 unfold numberS
 have he:(s.extract j k).size=k - j:=by rw [ByteArray.size_extract,Nat.min_eq_left k2]
 rw [if_neg (by omega),byteAt_sub2 s j k h k2,he]
 have e1:decide (k - j > 1)=decide (((k:Int) - (j:Int)) > 1):=decide_eq_decide.2 (by omega)
 have e2:(decide (k < s.size) && wordZ (byteAt s k))=(decide ((k:Int) < s.size) && (letterZ (byteAt s k)||byteAt s k == 95)):=by
  by_cases hz:k < s.size
  ·have hd:digitZ (byteAt s k)=false:=by simpa [hz] using hk
   simp [hz,wordZ,hd]
  ·simp [hz]
 rw [e1,e2]
theorem rLex_spec (s:ByteArray):Pur cx 13 [ss s] (lexV (lexR s)):=by
 refine ⟨HCalls.weaken (sem_calls cx (fn:=Tryz.f13) rfl rfl rfl rfl (R:=fun e st=>∃ l e0 at_,e = .ret (.tup [l,ii e0,ii at_])∧∃ l',Weaker l l'∧lexV (lexR s) = .tup [l',ii e0,ii at_]) ?_) ?_⟩
 ·repeat' first|((with_reducible refine Ops.id ?_);first|(refine Ops.cons rfl ?_;(conv=>arg 7;whnf))|refine Ops.nil ?_)|((with_reducible refine Stp.id ?_);first|refine Stp.pure rfl ?_)|((with_reducible refine Br.id ?_);first|refine br_dec (fun _=>?_) (fun _=>?_))|((with_reducible refine SemWp.id ?_);first|refine sem_seq ?_|refine sem_region rfl ?_|refine sem_cond rfl ?_|refine sem_block ?_|refine sem_ret ?_|refine sem_skip ?_)|((with_reducible refine qThen.id ?_);first|refine qThen.go ?_|refine qThen.ret ?_)|((with_reducible refine bodyQ.id ?_);first|refine bodyQ.ret2 rfl ?_)
  ·rename_i h
   refine Fin.mk ⟨_,_,_,rfl,_,Weaker.nil 3,?_⟩
   have h:s.size > 8192:=by omega
   unfold lexR
   rw [if_pos h];rfl
  ·rename_i h
   have hs:s.size≤8192:=by omega
   have hR:lexR s=lexL s 0:=by unfold lexR;rw [if_neg (by omega)]
   rw [hR]
   refine sem_nil_own cx 5 3 rfl ?_
   intro r hr
   simp only [keys,List.map_cons,List.map_nil,List.mem_cons,List.not_mem_nil,not_or,or_false,not_false_eq_true] at hr
   refine sem_loop cx (ι:=Nat × List Tk) (fun i=>i.1≤s.size∧i.2.length≤i.1∧comb i.2 (lexL s i.1)=lexL s 0)
    (fun i=>[(0,.sure,ss s),(6,.sure,ii i.1),(5,.sure,.list (.own r 0) 3 (i.2.map tokD))])
    (fun i=>[(r,.tok i.2.length)]) (fun i=>s.size - i.1) (0,[]) ⟨Nat.zero_le _,Nat.le_refl _,?_⟩ ?_ ?_ ?_
   ·cases lexL s 0<;>rfl
   ·exact Sub.cons rfl rfl (Sub.cons rfl rfl (Sub.cons rfl rfl (Sub.nil _)))
   ·exact Subp.refl _
   rintro ⟨j,pre⟩ ⟨h1,h2,h3⟩
   simp only [] at h1 h2 h3
   dsimp only
   repeat' first|((with_reducible refine Ops.id ?_);first|(refine Ops.cons rfl ?_;(conv=>arg 7;whnf))|refine Ops.nil ?_)|((with_reducible refine Stp.id ?_);first|refine Stp.pure rfl ?_|refine Stp.val rfl ?_|refine Stp.valC rfl ?_|refine Stp.call ?_|refine Stp.look ?_|refine Stp.eff ?_)|((with_reducible refine PutK.id ?_);first|(refine PutK.set HsetIs.hit ?_)|refine PutK.mk' rfl ?_)|((with_reducible refine Side.id ?_);first|refine Side.mk rfl ?_|refine Side.mk (fun h=>h) ?_|(refine Side.mk ?_ ?_;focus (((repeat' apply And.intro)<;>first|assumption|omega|(simp;done)|(simp;omega));done)))|((with_reducible refine Br.id ?_);first|refine br_dec (fun _=>?_) (fun _=>?_)|refine br_split (fun _=>?_) (fun _=>?_))|((with_reducible refine Look.id ?_);first|(refine Look.hit ?_;try (conv=>arg 7;whnf)))|((with_reducible refine SemWp.id ?_);first|refine sem_seq ?_|refine sem_region rfl ?_|refine sem_cond rfl ?_|refine sem_block ?_|refine sem_exit ?_|refine sem_ret ?_|refine sem_skip ?_)|((with_reducible refine CallWp.id ?_);first|refine Pur.call (rletter_spec _) ?_|refine Pur.call (rdigit_spec _) ?_|refine Pur.call (rsign_spec _ hs _ (by omega)) ?_)|((with_reducible refine qThen.id ?_);first|refine qThen.go ?_|refine qThen.ret ?_)|((with_reducible refine hinBlock.id ?_);first|refine hinBlock.go ?_|refine hinBlock.ret ?_)|((with_reducible refine hround.id ?_);first|refine hround.go ?_|refine hround.ret ?_)|((with_reducible refine bodyQ.id ?_);first|refine bodyQ.ret2 rfl ?_)
   ·rename_i hj hb
    exact Fin.mk ⟨(j+1,pre),⟨by simp only [];omega,by simp only [];omega,by rw [←h3,lexL_skip (by omega) (by omega) (nxt_blank hb)]⟩,by simp only [];omega,Sub.cons rfl rfl (Sub.cons rfl (by rw [wrap64 (by omega)];rfl) (Sub.cons rfl rfl (Sub.nil _))),Subp.refl _⟩
   ·rename_i hj h0 hb
    have h0:blankZ (byteAt s j)=false:=h0
    have g1:=scan_lt (p:=fun b=>b != 10) (s:=s) (i:=j) (by omega) (by rw [hb];rfl)
    have g2:=scan_le (fun b=>b != 10) s j (by omega)
    refine sem_loop cx (fun k=>j≤k∧k≤s.size∧scan (fun b=>b != 10) s k=scan (fun b=>b != 10) s j) (fun k=>[(0,.sure,ss s),(6,.sure,ii k),(5,.sure,.list (.own r 0) 3 (pre.map tokD))]) (fun k=>[(r,.tok pre.length)]) (fun k=>s.size - k) j ⟨Nat.le_refl _,h1,rfl⟩ (Sub.cons rfl rfl (Sub.cons rfl rfl (Sub.cons rfl rfl (Sub.nil _)))) (Subp.refl _) ?_
    rintro k ⟨k1,k2,k3⟩
    repeat' first|((with_reducible refine Ops.id ?_);first|(refine Ops.cons rfl ?_;(conv=>arg 7;whnf))|refine Ops.nil ?_)|((with_reducible refine Stp.id ?_);first|refine Stp.pure rfl ?_|refine Stp.val rfl ?_|refine Stp.valC rfl ?_)|((with_reducible refine Side.id ?_);first|refine Side.mk (fun h=>h) ?_|(refine Side.mk ?_ ?_;focus (((repeat' apply And.intro)<;>first|(simp;done));done)))|((with_reducible refine Br.id ?_);first|refine br_split (fun _=>?_) (fun _=>?_))|((with_reducible refine SemWp.id ?_);first|refine sem_seq ?_|refine sem_region rfl ?_|refine sem_cond rfl ?_|refine sem_block ?_|refine sem_exit ?_|refine sem_skip ?_)|((with_reducible refine qThen.id ?_);first|refine qThen.go ?_|refine qThen.exit ?_)|((with_reducible refine hinBlock.id ?_);first|refine hinBlock.go ?_|refine hinBlock.here rfl ?_)|((with_reducible refine hround.id ?_);first|refine hround.go ?_|refine hround.exit ?_)
    ·rename_i hk
     simp only [Bool.and_eq_true,decide_eq_true_eq] at hk
     exact Fin.mk ⟨k+1,⟨by omega,by omega,by rw [scan_yes (p:=fun b=>b != 10) (by omega) hk.2,k3]⟩,by omega,Sub.cons rfl rfl (Sub.cons rfl (by rw [wrap64 (by omega)];rfl) (Sub.cons rfl rfl (Sub.nil _))),Subp.refl _⟩
    ·rename_i hk
     have e:scan (fun b=>b != 10) s j=k:=by
      rw [←k3]
      by_cases hz:k < s.size
      ·exact scan_no (p:=fun b=>b != 10) (by simpa [hz] using hk)
      ·exact scan_end hz
     rw [e] at g1 g2
     exact Fin.mk ⟨(k,pre),⟨g2,by simp only [];omega,by rw [←h3,lexL_skip (by omega) g1 (by rw [nxt_line h0 hb,e])]⟩,by simp only [];omega,Sub.cons rfl rfl (Sub.cons rfl rfl (Sub.cons rfl rfl (Sub.nil _))),Subp.refl _⟩
   ·rename_i hj h0 hb hl
    have h0:blankZ (byteAt s j)=false:=h0
    have g1:=scan_lt (p:=wordZ) (s:=s) (i:=j) (by omega) (by simp [wordZ,hl])
    have g2:=scan_le wordZ s j (by omega)
    refine sem_loop cx (fun k=>j≤k∧k≤s.size∧scan wordZ s k=scan wordZ s j) (fun k=>[(0,.sure,ss s),(6,.sure,ii j),(8,.sure,ii k),(5,.sure,.list (.own r 0) 3 (pre.map tokD))]) (fun k=>[(r,.tok pre.length)]) (fun k=>s.size - k) j ⟨Nat.le_refl _,h1,rfl⟩ (Sub.cons rfl rfl (Sub.cons rfl rfl (Sub.cons rfl rfl (Sub.cons rfl rfl (Sub.nil _))))) (Subp.refl _) ?_
    rintro k ⟨k1,k2,k3⟩
    repeat' first|((with_reducible refine Ops.id ?_);first|(refine Ops.cons rfl ?_;(conv=>arg 7;whnf))|refine Ops.nil ?_)|((with_reducible refine Stp.id ?_);first|refine Stp.pure rfl ?_|refine Stp.val rfl ?_|refine Stp.valC rfl ?_|refine Stp.call ?_|refine Stp.callC ?_|refine Stp.look ?_|refine Stp.eff ?_)|((with_reducible refine PutK.id ?_);first|(refine PutK.set HsetIs.hit ?_)|refine PutK.mk' rfl ?_)|((with_reducible refine Side.id ?_);first|refine Side.mk rfl ?_|refine Side.mk (fun h=>h) ?_|(refine Side.mk ?_ ?_;focus (((repeat' apply And.intro)<;>first|assumption|omega|(simp;done)|(simp;omega)|(simp +contextual;done));done)))|((with_reducible refine Br.id ?_);first|refine br_dec (fun _=>?_) (fun _=>?_)|refine br_split (fun _=>?_) (fun _=>?_))|((with_reducible refine Look.id ?_);first|(refine Look.hit ?_;try (conv=>arg 7;whnf)))|((with_reducible refine SemWp.id ?_);first|refine sem_seq ?_|refine sem_region rfl ?_|refine sem_cond rfl ?_|refine sem_block ?_|refine sem_exit ?_|refine sem_ret ?_|refine sem_skip ?_)|((with_reducible refine CallWp.id ?_);first|refine Pur.call (rKey_spec _) ?_)|((with_reducible refine CallC.id ?_);first|(refine Pur.askC (rletter_spec _) ?_ ?_;focus (intro h;first|exact ⟨h,rfl⟩))|(refine Pur.askC (rdigit_spec _) ?_ ?_;focus (intro h;first|exact ⟨h,rfl⟩)))|((with_reducible refine qThen.id ?_);first|refine qThen.go ?_|refine qThen.ret ?_)|((with_reducible refine hinBlock.id ?_);first|refine hinBlock.go ?_|refine hinBlock.ret ?_)|((with_reducible refine hround.id ?_);first|refine hround.go ?_|refine hround.ret ?_)|((with_reducible refine bodyQ.id ?_);first|refine bodyQ.ret2 rfl ?_)
    ·rename_i hk
     simp only [Bool.and_eq_true,decide_eq_true_eq] at hk
     exact Fin.mk ⟨k+1,⟨by omega,by omega,by rw [scan_yes (p:=wordZ) (by omega) hk.2,k3]⟩,by omega,Sub.cons rfl rfl (Sub.cons rfl rfl (Sub.cons rfl (by rw [wrap64 (by omega)];rfl) (Sub.cons rfl rfl (Sub.nil _)))),Subp.refl _⟩
    all_goals (rename_i hk hy hz)
    all_goals have e:scan wordZ s j=k:=scan_stop k3 hk
    all_goals (rw [e] at g1 g2;rw [wrap64 (by omega)] at hz)
    all_goals have he:(s.extract j (scan wordZ s j)).size=k - j:=by rw [e,ByteArray.size_extract,Nat.min_eq_left k2]
    all_goals simp only [Int.toNat_natCast] at hy
    ·exact Fin.mk (lex_err (by omega) (nxt_longE h0 hb hl (by omega)) h3)
    ·refine Fin.mk ⟨(k,pre ++ [⟨3,s.extract j k,j⟩]),⟨g2,by simp;omega,?_⟩,by simp only [];omega,Sub.cons rfl rfl (Sub.cons rfl rfl (Sub.cons rfl (by simp [tokD,ii,ss]) (Sub.nil _))),Subp.of_eq (by simp)⟩
     exact (lexL_tok (by omega) g1 (by rw [nxt_word h0 hb hl (by omega),e,hy];rfl) pre).trans h3
    ·exact Fin.mk (lex_err (by omega) (nxt_longE h0 hb hl (by omega)) h3)
    ·refine Fin.mk ⟨(k,pre ++ [⟨1,s.extract j k,j⟩]),⟨g2,by simp;omega,?_⟩,by simp only [];omega,Sub.cons rfl rfl (Sub.cons rfl rfl (Sub.cons rfl (by simp [tokD,ii,ss]) (Sub.nil _))),Subp.of_eq (by simp)⟩
     exact (lexL_tok (by omega) g1 (by rw [nxt_word h0 hb hl (by omega),e,hy];rfl) pre).trans h3
   ·rename_i hj h0 hb hl hd
    have h0:blankZ (byteAt s j)=false:=h0
    have g1:=scan_lt (p:=digitZ) (s:=s) (i:=j) (by omega) hd
    have g2:=scan_le digitZ s j (by omega)
    refine sem_loop cx (fun k=>j≤k∧k≤s.size∧scan digitZ s k=scan digitZ s j) (fun k=>[(0,.sure,ss s),(6,.sure,ii j),(7,.sure,cc (byteAt s j)),(10,.sure,ii k),(5,.sure,.list (.own r 0) 3 (pre.map tokD))]) (fun k=>[(r,.tok pre.length)]) (fun k=>s.size - k) j ⟨Nat.le_refl _,h1,rfl⟩ (Sub.cons rfl rfl (Sub.cons rfl rfl (Sub.cons rfl rfl (Sub.cons rfl rfl (Sub.cons rfl rfl (Sub.nil _)))))) (Subp.refl _) ?_
    rintro k ⟨k1,k2,k3⟩
    repeat' first|((with_reducible refine Ops.id ?_);first|(refine Ops.cons rfl ?_;(conv=>arg 7;whnf))|refine Ops.nil ?_)|((with_reducible refine Stp.id ?_);first|refine Stp.pure rfl ?_|refine Stp.val rfl ?_|refine Stp.valC rfl ?_|refine Stp.callC ?_|refine Stp.look ?_|refine Stp.eff ?_)|((with_reducible refine PutK.id ?_);first|(refine PutK.set HsetIs.hit ?_)|refine PutK.mk' rfl ?_)|((with_reducible refine Side.id ?_);first|refine Side.mk (fun h=>h) ?_|(refine Side.mk ?_ ?_;focus (((repeat' apply And.intro)<;>first|assumption|omega|(simp;done)|(simp;omega)|(simp +contextual;done));done))|(refine Side.mk ?_ ?_;focus (intro hside;((repeat' apply And.intro)<;>first|assumption);done)))|((with_reducible refine Br.id ?_);first|refine br_dec (fun _=>?_) (fun _=>?_)|refine br_split (fun _=>?_) (fun _=>?_))|((with_reducible refine Look.id ?_);first|(refine Look.hit ?_;try (conv=>arg 7;whnf)))|((with_reducible refine SemWp.id ?_);first|refine sem_seq ?_|refine sem_region rfl ?_|refine sem_cond rfl ?_|refine sem_block ?_|refine sem_exit ?_|refine sem_ret ?_|refine sem_skip ?_)|((with_reducible refine CallC.id ?_);first|(refine Pur.askC (rletter_spec _) ?_ ?_;focus (intro h;first|exact ⟨h,rfl⟩))|(refine Pur.askC (rdigit_spec _) ?_ ?_;focus (intro h;first|exact ⟨h,rfl⟩)))|((with_reducible refine qThen.id ?_);first|refine qThen.go ?_|refine qThen.ret ?_)|((with_reducible refine hinBlock.id ?_);first|refine hinBlock.go ?_|refine hinBlock.ret ?_)|((with_reducible refine hround.id ?_);first|refine hround.go ?_|refine hround.ret ?_)|((with_reducible refine bodyQ.id ?_);first|refine bodyQ.ret2 rfl ?_)
    ·rename_i hk
     simp only [Bool.and_eq_true,decide_eq_true_eq] at hk
     exact Fin.mk ⟨k+1,⟨by omega,by omega,by rw [scan_yes (p:=digitZ) (by omega) hk.2,k3]⟩,by omega,Sub.cons rfl rfl (Sub.cons rfl rfl (Sub.cons rfl rfl (Sub.cons rfl (by rw [wrap64 (by omega)];rfl) (Sub.cons rfl rfl (Sub.nil _))))),Subp.refl _⟩
    ·rename_i hk hz
     have e:scan digitZ s j=k:=scan_stop k3 hk
     rw [e] at g1 g2;rw [wrap64 (by omega)] at hz
     have he:(s.extract j (scan digitZ s j)).size=k - j:=by rw [e,ByteArray.size_extract,Nat.min_eq_left k2]
     have hn:numberS (s.extract j (scan digitZ s j)) (decide (scan digitZ s j < s.size) && wordZ (byteAt s (scan digitZ s j)))=2:=by
      unfold numberS;rw [if_pos (by omega)]
     refine Fin.mk ?_
     have:=lex_err (pre:=pre) (j:=j) (s:=s) (by omega) (nxt_numE h0 hb hl hd rfl (by rw [hn];decide)) h3
     rw [hn] at this
     exact this
    all_goals (rename_i hk hz hm)
    all_goals have e:scan digitZ s j=k:=scan_stop k3 hk
    all_goals (rw [wrap64 (by omega)] at hz hm)
    all_goals (rw [e] at g1 g2)
    all_goals have hn:=number_at k1 g1 k2 hk (by omega)
    all_goals rw [hm] at hn
    ·refine Fin.mk ?_
     have:=lex_err (pre:=pre) (j:=j) (s:=s) (by omega) (nxt_numE h0 hb hl hd rfl (by rw [e,hn];decide)) h3
     rw [e,hn] at this
     exact this
    ·refine Fin.mk ⟨(k,pre ++ [⟨2,s.extract j k,j⟩]),⟨g2,by simp;omega,?_⟩,by simp only [];omega,Sub.cons rfl rfl (Sub.cons rfl rfl (Sub.cons rfl (by simp [tokD,ii,ss]) (Sub.nil _))),Subp.of_eq (by simp)⟩
     exact (lexL_tok (by omega) g1 (by rw [nxt_num h0 hb hl hd rfl (by rw [e,hn];rfl),e]) pre).trans h3
   ·rename_i hj h0 hb hl hd hz
    have h0:blankZ (byteAt s j)=false:=h0
    have hq:signS (s.extract j s.size)=0:=by
     have g1:=signS_le (s.extract j s.size) (by simp;omega)
     simp only [ByteArray.size_extract,Nat.min_self] at g1
     have hz:=congrArg ByteArray.size (strEq_eqL hz)
     simp only [ByteArray.size_extract] at hz
     have:(ByteArray.mk #[]).size=0:=rfl
     omega
    exact Fin.mk (lex_err (by omega) (nxt_signE h0 hb hl hd hq) h3)
   ·rename_i hj h0 hb hl hd hz
    have h0:blankZ (byteAt s j)=false:=h0
    have g1:=signS_le (s.extract j s.size) (by simp;omega)
    simp only [ByteArray.size_extract,Nat.min_self] at g1
    have hq:¬ signS (s.extract j s.size)=0:=fun hq=>by
     rw [hq,Nat.add_zero,show s.extract j j=⟨#[]⟩ from by apply ByteArray.ext;simp [ByteArray.data_extract]] at hz
     simp [strEq] at hz
    have hsz:(s.extract j (j+signS (s.extract j s.size))).size=signS (s.extract j s.size):=by
     rw [ByteArray.size_extract,Nat.min_eq_left (by omega)];omega
    have e2:IntKind.i64.wrap ((j:Int)+((s.extract j (j+signS (s.extract j s.size))).size:Int))=((j+signS (s.extract j s.size):Nat):Int):=by
     rw [hsz,wrap64 (by omega)];omega
    refine Fin.mk ⟨(j+signS (s.extract j s.size),pre ++ [⟨4,s.extract j (j+signS (s.extract j s.size)),j⟩]),⟨by simp only [];omega,by simp;omega,?_⟩,by simp only [];omega,Sub.cons rfl rfl (Sub.cons rfl (by rw [e2];rfl) (Sub.cons rfl (by simp [tokD,ii,ss]) (Sub.nil _))),Subp.of_eq (by simp)⟩
    exact (lexL_tok (by omega) (by omega) (nxt_sign h0 hb hl hd hq) pre).trans h3
   ·rename_i hj
    refine Fin.mk ⟨_,_,_,rfl,_,Weaker.tok _ _ _,?_⟩
    rw [←h3,lexL_end (by omega)]
    simp only [comb,lexV,List.map_append];rfl
 ·rintro e s1 ⟨l,e0,at_,rfl,l',hw,h⟩
  exact ⟨_,[],.ret (.tup (.cons hw (.cons (.refl _) (.cons (.refl _) .nil)))),Subp.nil _,by rw [h],rfl⟩
end Go.Proofs.Hk
