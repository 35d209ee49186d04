import Derived.Test.YtdkkmmdghfbnaaaGreatDoorL1
set_option linter.unusedSimpArgs false
set_option linter.unusedVariables false
set_option maxRecDepth 4000
namespace Go.Proofs.Hk
open Go Go.Proofs
/-! What the tokens of a text are. -/
structure Tk where
 kind:Int
 text:ByteArray
 pos:Nat
def tokD (t:Tk):HV:=.agg [ii t.kind,ss t.text,ii t.pos]
inductive Nxt where
 |skip (j:Nat)
 |tok (t:Tk) (j:Nat)
 |err (e:Int)
def nxt (s:ByteArray) (i:Nat):Nxt:=
 if blankZ (byteAt s i)=true then .skip (i+1)
 else if byteAt s i=35 then .skip (scan (fun b=>b != 10) s i)
 else if letterZ (byteAt s i)=true then
  if (s.extract i (scan wordZ s i)).size > 16 then .err 2 else .tok ⟨if keyS (s.extract i (scan wordZ s i))=true then 3 else 1,s.extract i (scan wordZ s i),i⟩ (scan wordZ s i)
 else if digitZ (byteAt s i)=true then
  if numberS (s.extract i (scan digitZ s i)) (decide (scan digitZ s i < s.size) && wordZ (byteAt s (scan digitZ s i)))≠0 then .err (numberS (s.extract i (scan digitZ s i)) (decide (scan digitZ s i < s.size) && wordZ (byteAt s (scan digitZ s i))))
  else .tok ⟨2,s.extract i (scan digitZ s i),i⟩ (scan digitZ s i)
 else if signS (s.extract i s.size)=0 then .err 3
 else .tok ⟨4,s.extract i (i+signS (s.extract i s.size)),i⟩ (i+signS (s.extract i s.size))
/-- The tokens from a place on, or the error and its place. -/
def lexL (s:ByteArray) (i:Nat):Except (Int × Nat) (List Tk):=
 if h:i < s.size then
  match nxt s i with
  |.skip j=>lexL s (max (i+1) j)
  |.tok t j=>match lexL s (max (i+1) j) with
   |.ok l=>.ok (t::l)
   |.error e=>.error e
  |.err e=>.error (e,i)
 else .ok [⟨0,⟨#[]⟩,s.size⟩]
termination_by s.size - i
def comb (pre:List Tk):Except (Int × Nat) (List Tk)→Except (Int × Nat) (List Tk)
 |.ok l=>.ok (pre ++ l)
 |.error e=>.error e
def lexV (r:Except (Int × Nat) (List Tk)):HV:=
 match r with
 |.ok l=>.tup [.list .no 3 (l.map tokD),ii 0,ii 0]
 |.error (e,at_)=>.tup [.list .no 3 [],ii e,ii at_]
def lexR (s:ByteArray):Except (Int × Nat) (List Tk):=if s.size > 8192 then .error (2,8192) else lexL s 0
theorem lexL_end {s:ByteArray} {i:Nat} (h:¬ i < s.size):lexL s i = .ok [⟨0,⟨#[]⟩,s.size⟩]:=by
 unfold lexL
 rw [dif_neg h]
theorem lexL_skip {s:ByteArray} {i j:Nat} (h:i < s.size) (hj:i < j) (hn:nxt s i = .skip j):lexL s i=lexL s j:=by
 conv=>lhs;unfold lexL
 rw [dif_pos h,hn]
 simp only []
 rw [show max (i+1) j=j from by omega]
theorem lexL_tok {s:ByteArray} {i j:Nat} {t:Tk} (h:i < s.size) (hj:i < j) (hn:nxt s i = .tok t j) (pre:List Tk):comb (pre ++ [t]) (lexL s j)=comb pre (lexL s i):=by
 conv=>rhs;unfold lexL
 rw [dif_pos h,hn]
 simp only []
 rw [show max (i+1) j=j from by omega]
 cases lexL s j<;>simp [comb]
theorem lexL_err {s:ByteArray} {i:Nat} {e:Int} (h:i < s.size) (hn:nxt s i = .err e):lexL s i = .error (e,i):=by
 unfold lexL
 rw [dif_pos h,hn]
theorem nxt_blank {s:ByteArray} {j:Nat} (h:blankZ (byteAt s j)=true):nxt s j = .skip (j+1):=by simp [nxt,h]
theorem nxt_line {s:ByteArray} {j:Nat} (h0:blankZ (byteAt s j)=false) (h:byteAt s j=35):nxt s j = .skip (scan (fun b=>b != 10) s j):=by
 unfold nxt;rw [if_neg (by rw [h0];simp),if_pos h]
theorem nxt_longE {s:ByteArray} {j:Nat} (h0:blankZ (byteAt s j)=false) (h:¬ byteAt s j=35) (hl:letterZ (byteAt s j)=true) (hz:(s.extract j (scan wordZ s j)).size > 16):nxt s j = .err 2:=by
 unfold nxt;rw [if_neg (by rw [h0];simp),if_neg h,if_pos hl,if_pos hz]
theorem nxt_word {s:ByteArray} {j:Nat} (h0:blankZ (byteAt s j)=false) (h:¬ byteAt s j=35) (hl:letterZ (byteAt s j)=true) (hz:¬ (s.extract j (scan wordZ s j)).size > 16):nxt s j = .tok ⟨if keyS (s.extract j (scan wordZ s j))=true then 3 else 1,s.extract j (scan wordZ s j),j⟩ (scan wordZ s j):=by
 unfold nxt;rw [if_neg (by rw [h0];simp),if_neg h,if_pos hl,if_neg hz]
theorem nxt_numE {s:ByteArray} {j:Nat} (h0:blankZ (byteAt s j)=false) (h:¬ byteAt s j=35) (hl:letterZ (byteAt s j)=false) (hd:digitZ (byteAt s j)=true) {m:Bool} (hm:m=(decide (scan digitZ s j < s.size) && wordZ (byteAt s (scan digitZ s j)))) (hz:¬ numberS (s.extract j (scan digitZ s j)) m=0):nxt s j = .err (numberS (s.extract j (scan digitZ s j)) m):=by
 subst hm
 unfold nxt;rw [if_neg (by rw [h0];simp),if_neg h,if_neg (by rw [hl];simp),if_pos hd,if_pos hz]
theorem nxt_num {s:ByteArray} {j:Nat} (h0:blankZ (byteAt s j)=false) (h:¬ byteAt s j=35) (hl:letterZ (byteAt s j)=false) (hd:digitZ (byteAt s j)=true) {m:Bool} (hm:m=(decide (scan digitZ s j < s.size) && wordZ (byteAt s (scan digitZ s j)))) (hz:numberS (s.extract j (scan digitZ s j)) m=0):nxt s j = .tok ⟨2,s.extract j (scan digitZ s j),j⟩ (scan digitZ s j):=by
 subst hm
 unfold nxt;rw [if_neg (by rw [h0];simp),if_neg h,if_neg (by rw [hl];simp),if_pos hd,if_neg (by simp [hz])]
theorem nxt_signE {s:ByteArray} {j:Nat} (h0:blankZ (byteAt s j)=false) (h:¬ byteAt s j=35) (hl:letterZ (byteAt s j)=false) (hd:digitZ (byteAt s j)=false) (hz:signS (s.extract j s.size)=0):nxt s j = .err 3:=by
 unfold nxt;rw [if_neg (by rw [h0];simp),if_neg h,if_neg (by rw [hl];simp),if_neg (by rw [hd];simp),if_pos hz]
theorem nxt_sign {s:ByteArray} {j:Nat} (h0:blankZ (byteAt s j)=false) (h:¬ byteAt s j=35) (hl:letterZ (byteAt s j)=false) (hd:digitZ (byteAt s j)=false) (hz:¬ signS (s.extract j s.size)=0):nxt s j = .tok ⟨4,s.extract j (j+signS (s.extract j s.size)),j⟩ (j+signS (s.extract j s.size)):=by
 unfold nxt;rw [if_neg (by rw [h0];simp),if_neg h,if_neg (by rw [hl];simp),if_neg (by rw [hd];simp),if_neg hz]
theorem scan_lt {p:Int→Bool} {s:ByteArray} {i:Nat} (h:i < s.size) (hp:p (byteAt s i)=true):i < scan p s i:=by
 rw [←scan_yes h hp]
 have:=scan_ge p s (i+1);omega
theorem Subp.rot {x y z t t':Nat × Res} (ht:t'=t):Subp [t',x,y] [x,y,z,t]:=by
 subst ht
 exact ⟨[t',x,y,z],(List.perm_append_comm:([t'] ++ [x,y,z]).Perm ([x,y,z] ++ [t'])),List.sublist_append_left [t',x,y] [z]⟩
theorem signS_le (s:ByteArray) (h:0 < s.size):signS s≤s.size:=by
 unfold signS
 split
 ·rename_i h;omega
 ·split<;>omega
theorem sign_side {s:ByteArray} {j:Nat} (h:j < s.size) (hs:s.size≤8192):0≤(j:Int)∧0≤IntKind.i64.wrap ((j:Int)+signS (s.extract (j:Int).toNat s.size))∧(j:Int).toNat≤(IntKind.i64.wrap ((j:Int)+signS (s.extract (j:Int).toNat s.size))).toNat∧(IntKind.i64.wrap ((j:Int)+signS (s.extract (j:Int).toNat s.size))).toNat≤s.size:=by
 have:=signS_le (s.extract (j:Int).toNat s.size) (by simp;omega)
 simp at this
 simp only [Int.toNat_natCast]
 rw [wrap64 (by omega)]
 omega
theorem lex_err {s:ByteArray} {j:Nat} {e:Int} {pre:List Tk} (h:j < s.size) (hn:nxt s j = .err e) (h3:comb pre (lexL s j)=lexL s 0):∃ l e0 at_,HEnd.ret (HV.tup [HV.v (Value.slice none 0 0),HV.v (.int .i64 e),ii j]) = .ret (.tup [l,ii e0,ii at_])∧∃ l',Weaker l l'∧lexV (lexL s 0) = .tup [l',ii e0,ii at_]:=by
 refine ⟨_,_,_,rfl,_,Weaker.nil 3,?_⟩
 rw [←h3,lexL_err h hn];rfl
set_option maxHeartbeats 4000000 in
theorem Lex_spec (s:ByteArray):Pur cx 37 [ss s] (lexV (lexR s)):=by
 refine ⟨HCalls.weaken (sem_calls cx (fn:=Tryz.f37) rfl rfl rfl rfl (R:=fun e st=>∃ l e0 at_,e = .ret (.tup [l,ii e0,ii at_])∧∃ l',Weaker l l'∧lexV (lexR s) = .tup [l',ii e0,ii at_]) ?_) ?_⟩
 ·repeat' first|((with_reducible refine Ops.id ?_);first|(refine Ops.cons rfl ?_;(conv=>arg 7;whnf))|refine Ops.nil ?_)|((with_reducible refine Stp.id ?_);first|refine Stp.pure rfl ?_|refine Stp.val rfl ?_|refine Stp.valC rfl ?_|refine Stp.call ?_|refine Stp.callC ?_|refine Stp.look ?_|refine Stp.eff ?_|refine Stp.effC ?_|refine Stp.pan ?_|refine Stp.panC ?_)|((with_reducible refine PutK.id ?_);first|(refine PutK.set HsetIs.hit ?_)|(refine PutK.set (HsetIs.miss ?_ HsetIs.hit) ?_;(focus omega))|(refine PutK.set (HsetIs.miss ?_ (HsetIs.miss ?_ HsetIs.hit)) ?_;(focus omega);(focus omega))|(refine PutK.set (HsetIs.miss ?_ (HsetIs.miss ?_ (HsetIs.miss ?_ HsetIs.hit))) ?_;(focus omega);(focus omega);(focus omega))|(refine PutK.set (HsetIs.miss ?_ (HsetIs.miss ?_ (HsetIs.miss ?_ (HsetIs.miss ?_ HsetIs.hit)))) ?_;(focus omega);(focus omega);(focus omega);(focus omega))|(refine PutK.set (HsetIs.miss ?_ (HsetIs.miss ?_ (HsetIs.miss ?_ (HsetIs.miss ?_ (HsetIs.miss ?_ HsetIs.hit))))) ?_;(focus omega);(focus omega);(focus omega);(focus omega);(focus omega))|(refine PutK.set (HsetIs.miss ?_ (HsetIs.miss ?_ (HsetIs.miss ?_ (HsetIs.miss ?_ (HsetIs.miss ?_ (HsetIs.miss ?_ HsetIs.hit)))))) ?_;(focus omega);(focus omega);(focus omega);(focus omega);(focus omega);(focus omega))|refine PutK.mk' rfl ?_)|((with_reducible refine Upd.id ?_);(refine Upd.lit rfl ?_;(conv=>whnf)))|((with_reducible refine Grow2.id ?_);refine Grow2.own ?_)|((with_reducible refine Side.id ?_);first|refine Side.mk True.intro ?_|refine Side.mk rfl ?_|refine Side.mk (fun h=>h) ?_|(refine Side.mk ?_ ?_;focus (intro hside;rw [hside];done))|(refine Side.mk ?_ ?_;focus (((repeat' apply And.intro)<;>first|exact True.intro|assumption|rfl|omega|(simp;done)|(simp;omega)|(simp only [Bool.and_eq_true,Bool.or_eq_true,Bool.not_eq_true',decide_eq_true_eq,decide_eq_false_iff_not,beq_iff_eq,ne_eq,beq_eq_false_iff_ne,Bool.and_eq_false_iff,Bool.or_eq_false_iff] at *;omega)|(simp +contextual;done));done))|(refine Side.mk ?_ ?_;focus (intro hside;((repeat' apply And.intro)<;>first|exact True.intro|assumption|rfl|omega|(simp;done)|(simp;omega)|(simp only [Bool.and_eq_true,Bool.or_eq_true,Bool.not_eq_true',decide_eq_true_eq,decide_eq_false_iff_not,beq_iff_eq,ne_eq,beq_eq_false_iff_ne,Bool.and_eq_false_iff,Bool.or_eq_false_iff] at *;omega)|(simp +contextual;done));done)))|((with_reducible refine Br.id ?_);first|refine br_true rfl ?_|refine br_false rfl ?_|refine br_true (by with_reducible assumption) ?_|refine br_false (by with_reducible assumption) ?_|refine br_dec_t (by with_reducible assumption) ?_|refine br_dec_f (by with_reducible assumption) ?_|refine br_beq_t (by with_reducible assumption) ?_|refine br_beq_f (by with_reducible assumption) ?_|refine br_bne_t (by with_reducible assumption) ?_|refine br_bne_f (by with_reducible assumption) ?_|refine br_dec (fun _=>?_) (fun _=>?_)|refine br_beq (fun _=>?_) (fun _=>?_)|refine br_bne (fun _=>?_) (fun _=>?_)|refine br_split (fun _=>?_) (fun _=>?_))|((with_reducible refine Look.id ?_);first|(refine Look.hit ?_;try (conv=>arg 7;whnf))|refine Look.miss (by omega) ?_)|((with_reducible refine SemWp.id ?_);first|refine sem_seq ?_|refine sem_region rfl ?_|refine sem_cond rfl ?_|refine sem_block ?_|refine sem_exit ?_|refine sem_ret ?_|refine sem_skip ?_|refine sem_label ?_|refine sem_draw ?_)|((with_reducible refine CallC.id ?_);first|refine CallC.two ?_)|((with_reducible refine qThen.id ?_);first|refine qThen.go ?_|refine qThen.ret ?_|refine qThen.exit ?_|refine qThen.pan ?_)|((with_reducible refine hinBlock.id ?_);first|refine hinBlock.go ?_|refine hinBlock.ret ?_|refine hinBlock.pan ?_|refine hinBlock.here rfl ?_|refine hinBlock.on rfl ?_)|((with_reducible refine hround.id ?_);first|refine hround.go ?_|refine hround.ret ?_|refine hround.exit ?_|refine hround.pan ?_)|((with_reducible refine bodyQ.id ?_);first|refine bodyQ.ret rfl ?_|refine bodyQ.ret2 rfl ?_|refine bodyQ.ret0 rfl ?_|refine bodyQ.go ?_|refine bodyQ.pan ?_)|(refine drawQ cx (by decide +kernel) ?_;(conv=>whnf))|((conv=>whnf);first|((with_reducible refine Side.id ?_);first|refine Side.mk True.intro ?_|refine Side.mk rfl ?_|refine Side.mk (fun h=>h) ?_|(refine Side.mk ?_ ?_;focus (intro hside;rw [hside];done))|(refine Side.mk ?_ ?_;focus (((repeat' apply And.intro)<;>first|exact True.intro|assumption|rfl|omega|(simp;done)|(simp;omega)|(simp only [Bool.and_eq_true,Bool.or_eq_true,Bool.not_eq_true',decide_eq_true_eq,decide_eq_false_iff_not,beq_iff_eq,ne_eq,beq_eq_false_iff_ne,Bool.and_eq_false_iff,Bool.or_eq_false_iff] at *;omega)|(simp +contextual;done));done))|(refine Side.mk ?_ ?_;focus (intro hside;((repeat' apply And.intro)<;>first|exact True.intro|assumption|rfl|omega|(simp;done)|(simp;omega)|(simp only [Bool.and_eq_true,Bool.or_eq_true,Bool.not_eq_true',decide_eq_true_eq,decide_eq_false_iff_not,beq_iff_eq,ne_eq,beq_eq_false_iff_ne,Bool.and_eq_false_iff,Bool.or_eq_false_iff] at *;omega)|(simp +contextual;done));done)))|((with_reducible refine Look.id ?_);first|(refine Look.hit ?_;try (conv=>arg 7;whnf))|refine Look.miss (by omega) ?_)|((with_reducible refine SemWp.id ?_);first|refine sem_seq ?_|refine sem_region rfl ?_|refine sem_cond rfl ?_|refine sem_block ?_|refine sem_exit ?_|refine sem_ret ?_|refine sem_skip ?_|refine sem_label ?_|refine sem_draw ?_))|fail
  intro b _
  repeat' first|((with_reducible refine Ops.id ?_);first|(refine Ops.cons rfl ?_;(conv=>arg 7;whnf))|refine Ops.nil ?_)|((with_reducible refine Stp.id ?_);first|refine Stp.pure rfl ?_|refine Stp.val rfl ?_|refine Stp.valC rfl ?_|refine Stp.call ?_|refine Stp.callC ?_|refine Stp.look ?_|refine Stp.eff ?_|refine Stp.effC ?_|refine Stp.pan ?_|refine Stp.panC ?_)|((with_reducible refine PutK.id ?_);first|(refine PutK.set HsetIs.hit ?_)|(refine PutK.set (HsetIs.miss ?_ HsetIs.hit) ?_;(focus omega))|(refine PutK.set (HsetIs.miss ?_ (HsetIs.miss ?_ HsetIs.hit)) ?_;(focus omega);(focus omega))|(refine PutK.set (HsetIs.miss ?_ (HsetIs.miss ?_ (HsetIs.miss ?_ HsetIs.hit))) ?_;(focus omega);(focus omega);(focus omega))|(refine PutK.set (HsetIs.miss ?_ (HsetIs.miss ?_ (HsetIs.miss ?_ (HsetIs.miss ?_ HsetIs.hit)))) ?_;(focus omega);(focus omega);(focus omega);(focus omega))|(refine PutK.set (HsetIs.miss ?_ (HsetIs.miss ?_ (HsetIs.miss ?_ (HsetIs.miss ?_ (HsetIs.miss ?_ HsetIs.hit))))) ?_;(focus omega);(focus omega);(focus omega);(focus omega);(focus omega))|(refine PutK.set (HsetIs.miss ?_ (HsetIs.miss ?_ (HsetIs.miss ?_ (HsetIs.miss ?_ (HsetIs.miss ?_ (HsetIs.miss ?_ HsetIs.hit)))))) ?_;(focus omega);(focus omega);(focus omega);(focus omega);(focus omega);(focus omega))|refine PutK.mk' rfl ?_)|((with_reducible refine Upd.id ?_);(refine Upd.lit rfl ?_;(conv=>whnf)))|((with_reducible refine Grow2.id ?_);refine Grow2.own ?_)|((with_reducible refine Side.id ?_);first|refine Side.mk True.intro ?_|refine Side.mk rfl ?_|refine Side.mk (fun h=>h) ?_|(refine Side.mk ?_ ?_;focus (intro hside;rw [hside];done))|(refine Side.mk ?_ ?_;focus (((repeat' apply And.intro)<;>first|exact True.intro|assumption|rfl|omega|(simp;done)|(simp;omega)|(simp only [Bool.and_eq_true,Bool.or_eq_true,Bool.not_eq_true',decide_eq_true_eq,decide_eq_false_iff_not,beq_iff_eq,ne_eq,beq_eq_false_iff_ne,Bool.and_eq_false_iff,Bool.or_eq_false_iff] at *;omega)|(simp +contextual;done));done))|(refine Side.mk ?_ ?_;focus (intro hside;((repeat' apply And.intro)<;>first|exact True.intro|assumption|rfl|omega|(simp;done)|(simp;omega)|(simp only [Bool.and_eq_true,Bool.or_eq_true,Bool.not_eq_true',decide_eq_true_eq,decide_eq_false_iff_not,beq_iff_eq,ne_eq,beq_eq_false_iff_ne,Bool.and_eq_false_iff,Bool.or_eq_false_iff] at *;omega)|(simp +contextual;done));done)))|((with_reducible refine Br.id ?_);first|refine br_true rfl ?_|refine br_false rfl ?_|refine br_true (by with_reducible assumption) ?_|refine br_false (by with_reducible assumption) ?_|refine br_dec_t (by with_reducible assumption) ?_|refine br_dec_f (by with_reducible assumption) ?_|refine br_beq_t (by with_reducible assumption) ?_|refine br_beq_f (by with_reducible assumption) ?_|refine br_bne_t (by with_reducible assumption) ?_|refine br_bne_f (by with_reducible assumption) ?_|refine br_dec (fun _=>?_) (fun _=>?_)|refine br_beq (fun _=>?_) (fun _=>?_)|refine br_bne (fun _=>?_) (fun _=>?_)|refine br_split (fun _=>?_) (fun _=>?_))|((with_reducible refine Look.id ?_);first|(refine Look.hit ?_;try (conv=>arg 7;whnf))|refine Look.miss (by omega) ?_)|((with_reducible refine SemWp.id ?_);first|refine sem_seq ?_|refine sem_region rfl ?_|refine sem_cond rfl ?_|refine sem_block ?_|refine sem_exit ?_|refine sem_ret ?_|refine sem_skip ?_|refine sem_label ?_|refine sem_draw ?_)|((with_reducible refine CallC.id ?_);first|refine CallC.two ?_)|((with_reducible refine qThen.id ?_);first|refine qThen.go ?_|refine qThen.ret ?_|refine qThen.exit ?_|refine qThen.pan ?_)|((with_reducible refine hinBlock.id ?_);first|refine hinBlock.go ?_|refine hinBlock.ret ?_|refine hinBlock.pan ?_|refine hinBlock.here rfl ?_|refine hinBlock.on rfl ?_)|((with_reducible refine hround.id ?_);first|refine hround.go ?_|refine hround.ret ?_|refine hround.exit ?_|refine hround.pan ?_)|((with_reducible refine bodyQ.id ?_);first|refine bodyQ.ret rfl ?_|refine bodyQ.ret2 rfl ?_|refine bodyQ.ret0 rfl ?_|refine bodyQ.go ?_|refine bodyQ.pan ?_)|(refine drawQ cx (by decide +kernel) ?_;(conv=>whnf))|((conv=>whnf);first|((with_reducible refine Side.id ?_);first|refine Side.mk True.intro ?_|refine Side.mk rfl ?_|refine Side.mk (fun h=>h) ?_|(refine Side.mk ?_ ?_;focus (intro hside;rw [hside];done))|(refine Side.mk ?_ ?_;focus (((repeat' apply And.intro)<;>first|exact True.intro|assumption|rfl|omega|(simp;done)|(simp;omega)|(simp only [Bool.and_eq_true,Bool.or_eq_true,Bool.not_eq_true',decide_eq_true_eq,decide_eq_false_iff_not,beq_iff_eq,ne_eq,beq_eq_false_iff_ne,Bool.and_eq_false_iff,Bool.or_eq_false_iff] at *;omega)|(simp +contextual;done));done))|(refine Side.mk ?_ ?_;focus (intro hside;((repeat' apply And.intro)<;>first|exact True.intro|assumption|rfl|omega|(simp;done)|(simp;omega)|(simp only [Bool.and_eq_true,Bool.or_eq_true,Bool.not_eq_true',decide_eq_true_eq,decide_eq_false_iff_not,beq_iff_eq,ne_eq,beq_eq_false_iff_ne,Bool.and_eq_false_iff,Bool.or_eq_false_iff] at *;omega)|(simp +contextual;done));done)))|((with_reducible refine Look.id ?_);first|(refine Look.hit ?_;try (conv=>arg 7;whnf))|refine Look.miss (by omega) ?_)|((with_reducible refine SemWp.id ?_);first|refine sem_seq ?_|refine sem_region rfl ?_|refine sem_cond rfl ?_|refine sem_block ?_|refine sem_exit ?_|refine sem_ret ?_|refine sem_skip ?_|refine sem_label ?_|refine sem_draw ?_))|fail
  ·rename_i h
   refine Fin.mk ⟨_,_,_,rfl,_,Weaker.nil 3,?_⟩
   have h:s.size > 8192:=by omega
   unfold lexR
   rw [if_pos h];rfl
  ·rename_i h
   intro a hab
   simp only [keys,List.map_cons,List.map_nil,List.mem_cons,List.not_mem_nil,not_or,or_false,not_false_eq_true] at hab
   repeat' first|((with_reducible refine Ops.id ?_);first|(refine Ops.cons rfl ?_;(conv=>arg 7;whnf))|refine Ops.nil ?_)|((with_reducible refine Stp.id ?_);first|refine Stp.pure rfl ?_|refine Stp.val rfl ?_|refine Stp.valC rfl ?_|refine Stp.call ?_|refine Stp.callC ?_|refine Stp.look ?_|refine Stp.eff ?_|refine Stp.effC ?_|refine Stp.pan ?_|refine Stp.panC ?_)|((with_reducible refine PutK.id ?_);first|(refine PutK.set HsetIs.hit ?_)|(refine PutK.set (HsetIs.miss ?_ HsetIs.hit) ?_;(focus omega))|(refine PutK.set (HsetIs.miss ?_ (HsetIs.miss ?_ HsetIs.hit)) ?_;(focus omega);(focus omega))|(refine PutK.set (HsetIs.miss ?_ (HsetIs.miss ?_ (HsetIs.miss ?_ HsetIs.hit))) ?_;(focus omega);(focus omega);(focus omega))|(refine PutK.set (HsetIs.miss ?_ (HsetIs.miss ?_ (HsetIs.miss ?_ (HsetIs.miss ?_ HsetIs.hit)))) ?_;(focus omega);(focus omega);(focus omega);(focus omega))|(refine PutK.set (HsetIs.miss ?_ (HsetIs.miss ?_ (HsetIs.miss ?_ (HsetIs.miss ?_ (HsetIs.miss ?_ HsetIs.hit))))) ?_;(focus omega);(focus omega);(focus omega);(focus omega);(focus omega))|(refine PutK.set (HsetIs.miss ?_ (HsetIs.miss ?_ (HsetIs.miss ?_ (HsetIs.miss ?_ (HsetIs.miss ?_ (HsetIs.miss ?_ HsetIs.hit)))))) ?_;(focus omega);(focus omega);(focus omega);(focus omega);(focus omega);(focus omega))|refine PutK.mk' rfl ?_)|((with_reducible refine Upd.id ?_);(refine Upd.lit rfl ?_;(conv=>whnf)))|((with_reducible refine Grow2.id ?_);refine Grow2.own ?_)|((with_reducible refine Side.id ?_);first|refine Side.mk True.intro ?_|refine Side.mk rfl ?_|refine Side.mk (fun h=>h) ?_|(refine Side.mk ?_ ?_;focus (intro hside;rw [hside];done))|(refine Side.mk ?_ ?_;focus (((repeat' apply And.intro)<;>first|exact True.intro|assumption|rfl|omega|(simp;done)|(simp;omega)|(simp only [Bool.and_eq_true,Bool.or_eq_true,Bool.not_eq_true',decide_eq_true_eq,decide_eq_false_iff_not,beq_iff_eq,ne_eq,beq_eq_false_iff_ne,Bool.and_eq_false_iff,Bool.or_eq_false_iff] at *;omega)|(simp +contextual;done));done))|(refine Side.mk ?_ ?_;focus (intro hside;((repeat' apply And.intro)<;>first|exact True.intro|assumption|rfl|omega|(simp;done)|(simp;omega)|(simp only [Bool.and_eq_true,Bool.or_eq_true,Bool.not_eq_true',decide_eq_true_eq,decide_eq_false_iff_not,beq_iff_eq,ne_eq,beq_eq_false_iff_ne,Bool.and_eq_false_iff,Bool.or_eq_false_iff] at *;omega)|(simp +contextual;done));done)))|((with_reducible refine Br.id ?_);first|refine br_true rfl ?_|refine br_false rfl ?_|refine br_true (by with_reducible assumption) ?_|refine br_false (by with_reducible assumption) ?_|refine br_dec_t (by with_reducible assumption) ?_|refine br_dec_f (by with_reducible assumption) ?_|refine br_beq_t (by with_reducible assumption) ?_|refine br_beq_f (by with_reducible assumption) ?_|refine br_bne_t (by with_reducible assumption) ?_|refine br_bne_f (by with_reducible assumption) ?_|refine br_dec (fun _=>?_) (fun _=>?_)|refine br_beq (fun _=>?_) (fun _=>?_)|refine br_bne (fun _=>?_) (fun _=>?_)|refine br_split (fun _=>?_) (fun _=>?_))|((with_reducible refine Look.id ?_);first|(refine Look.hit ?_;try (conv=>arg 7;whnf))|refine Look.miss (by omega) ?_)|((with_reducible refine SemWp.id ?_);first|refine sem_seq ?_|refine sem_region rfl ?_|refine sem_cond rfl ?_|refine sem_block ?_|refine sem_exit ?_|refine sem_ret ?_|refine sem_skip ?_|refine sem_label ?_|refine sem_draw ?_)|((with_reducible refine CallC.id ?_);first|refine CallC.two ?_)|((with_reducible refine qThen.id ?_);first|refine qThen.go ?_|refine qThen.ret ?_|refine qThen.exit ?_|refine qThen.pan ?_)|((with_reducible refine hinBlock.id ?_);first|refine hinBlock.go ?_|refine hinBlock.ret ?_|refine hinBlock.pan ?_|refine hinBlock.here rfl ?_|refine hinBlock.on rfl ?_)|((with_reducible refine hround.id ?_);first|refine hround.go ?_|refine hround.ret ?_|refine hround.exit ?_|refine hround.pan ?_)|((with_reducible refine bodyQ.id ?_);first|refine bodyQ.ret rfl ?_|refine bodyQ.ret2 rfl ?_|refine bodyQ.ret0 rfl ?_|refine bodyQ.go ?_|refine bodyQ.pan ?_)|(refine drawQ cx (by decide +kernel) ?_;(conv=>whnf))|((conv=>whnf);first|((with_reducible refine Side.id ?_);first|refine Side.mk True.intro ?_|refine Side.mk rfl ?_|refine Side.mk (fun h=>h) ?_|(refine Side.mk ?_ ?_;focus (intro hside;rw [hside];done))|(refine Side.mk ?_ ?_;focus (((repeat' apply And.intro)<;>first|exact True.intro|assumption|rfl|omega|(simp;done)|(simp;omega)|(simp only [Bool.and_eq_true,Bool.or_eq_true,Bool.not_eq_true',decide_eq_true_eq,decide_eq_false_iff_not,beq_iff_eq,ne_eq,beq_eq_false_iff_ne,Bool.and_eq_false_iff,Bool.or_eq_false_iff] at *;omega)|(simp +contextual;done));done))|(refine Side.mk ?_ ?_;focus (intro hside;((repeat' apply And.intro)<;>first|exact True.intro|assumption|rfl|omega|(simp;done)|(simp;omega)|(simp only [Bool.and_eq_true,Bool.or_eq_true,Bool.not_eq_true',decide_eq_true_eq,decide_eq_false_iff_not,beq_iff_eq,ne_eq,beq_eq_false_iff_ne,Bool.and_eq_false_iff,Bool.or_eq_false_iff] at *;omega)|(simp +contextual;done));done)))|((with_reducible refine Look.id ?_);first|(refine Look.hit ?_;try (conv=>arg 7;whnf))|refine Look.miss (by omega) ?_)|((with_reducible refine SemWp.id ?_);first|refine sem_seq ?_|refine sem_region rfl ?_|refine sem_cond rfl ?_|refine sem_block ?_|refine sem_exit ?_|refine sem_ret ?_|refine sem_skip ?_|refine sem_label ?_|refine sem_draw ?_))|fail
   have hs:s.size≤8192:=by omega
   have hR:lexR s=lexL s 0:=by unfold lexR;rw [if_neg (by omega)]
   rw [hR]
   refine sem_nil_own cx 5 3 rfl ?_
   intro r hr
   simp only [keys,List.map_cons,List.map_nil,List.mem_cons,List.not_mem_nil,not_or,or_false,not_false_eq_true] at hr
   refine sem_loop cx (ι:=Nat × List Tk) (fun i=>i.1≤s.size∧i.2.length≤i.1∧comb i.2 (lexL s i.1)=lexL s 0)
    (fun i=>[(1,.sure,.ptr b 0),(6,.sure,.ptr a 0),(7,.sure,.fn (.func 69) [] [.ptr a 0,.ptr b 0]),(8,.sure,.fn (.func 70) [] []),(5,.sure,.list (.own r 0) 3 (i.2.map tokD))])
    (fun i=>[(r,.tok i.2.length),(a,.cells [ii i.1] 3),(b,.cells [ss s] 9)]) (fun i=>s.size - i.1) (0,[]) ⟨Nat.zero_le _,Nat.le_refl _,?_⟩ ?_ ?_ ?_
   ·cases lexL s 0<;>rfl
   ·exact Sub.cons rfl rfl (Sub.cons rfl rfl (Sub.cons rfl rfl (Sub.cons rfl rfl (Sub.cons rfl rfl (Sub.nil _)))))
   ·exact Subp.refl _
   rintro ⟨j,pre⟩ ⟨h1,h2,h3⟩
   simp only [] at h1 h2 h3
   dsimp only
   repeat' first|((with_reducible refine Ops.id ?_);first|(refine Ops.cons rfl ?_;(conv=>arg 7;whnf))|refine Ops.nil ?_)|((with_reducible refine Stp.id ?_);first|refine Stp.pure rfl ?_|refine Stp.val rfl ?_|refine Stp.valC rfl ?_|refine Stp.call ?_|refine Stp.callC ?_|refine Stp.look ?_|refine Stp.eff ?_|refine Stp.effC ?_|refine Stp.pan ?_|refine Stp.panC ?_)|((with_reducible refine PutK.id ?_);first|(refine PutK.set HsetIs.hit ?_)|(refine PutK.set (HsetIs.miss ?_ HsetIs.hit) ?_;(focus omega))|(refine PutK.set (HsetIs.miss ?_ (HsetIs.miss ?_ HsetIs.hit)) ?_;(focus omega);(focus omega))|(refine PutK.set (HsetIs.miss ?_ (HsetIs.miss ?_ (HsetIs.miss ?_ HsetIs.hit))) ?_;(focus omega);(focus omega);(focus omega))|(refine PutK.set (HsetIs.miss ?_ (HsetIs.miss ?_ (HsetIs.miss ?_ (HsetIs.miss ?_ HsetIs.hit)))) ?_;(focus omega);(focus omega);(focus omega);(focus omega))|(refine PutK.set (HsetIs.miss ?_ (HsetIs.miss ?_ (HsetIs.miss ?_ (HsetIs.miss ?_ (HsetIs.miss ?_ HsetIs.hit))))) ?_;(focus omega);(focus omega);(focus omega);(focus omega);(focus omega))|(refine PutK.set (HsetIs.miss ?_ (HsetIs.miss ?_ (HsetIs.miss ?_ (HsetIs.miss ?_ (HsetIs.miss ?_ (HsetIs.miss ?_ HsetIs.hit)))))) ?_;(focus omega);(focus omega);(focus omega);(focus omega);(focus omega);(focus omega))|refine PutK.mk' rfl ?_)|((with_reducible refine Upd.id ?_);(refine Upd.lit rfl ?_;(conv=>whnf)))|((with_reducible refine Grow2.id ?_);refine Grow2.own ?_)|((with_reducible refine Side.id ?_);first|refine Side.mk True.intro ?_|refine Side.mk rfl ?_|refine Side.mk (fun h=>h) ?_|(refine Side.mk ?_ ?_;focus (intro hside;rw [hside];done))|(refine Side.mk ?_ ?_;focus (((repeat' apply And.intro)<;>first|exact True.intro|assumption|rfl|omega|(simp;done)|(simp;omega)|(simp only [Bool.and_eq_true,Bool.or_eq_true,Bool.not_eq_true',decide_eq_true_eq,decide_eq_false_iff_not,beq_iff_eq,ne_eq,beq_eq_false_iff_ne,Bool.and_eq_false_iff,Bool.or_eq_false_iff] at *;omega)|(simp +contextual;done));done))|(refine Side.mk ?_ ?_;focus (intro hside;((repeat' apply And.intro)<;>first|exact True.intro|assumption|rfl|omega|(simp;done)|(simp;omega)|(simp only [Bool.and_eq_true,Bool.or_eq_true,Bool.not_eq_true',decide_eq_true_eq,decide_eq_false_iff_not,beq_iff_eq,ne_eq,beq_eq_false_iff_ne,Bool.and_eq_false_iff,Bool.or_eq_false_iff] at *;omega)|(simp +contextual;done));done)))|((with_reducible refine Br.id ?_);first|refine br_true rfl ?_|refine br_false rfl ?_|refine br_true (by with_reducible assumption) ?_|refine br_false (by with_reducible assumption) ?_|refine br_dec_t (by with_reducible assumption) ?_|refine br_dec_f (by with_reducible assumption) ?_|refine br_beq_t (by with_reducible assumption) ?_|refine br_beq_f (by with_reducible assumption) ?_|refine br_bne_t (by with_reducible assumption) ?_|refine br_bne_f (by with_reducible assumption) ?_|refine br_dec (fun _=>?_) (fun _=>?_)|refine br_beq (fun _=>?_) (fun _=>?_)|refine br_bne (fun _=>?_) (fun _=>?_)|refine br_split (fun _=>?_) (fun _=>?_))|((with_reducible refine Look.id ?_);first|(refine Look.hit ?_;try (conv=>arg 7;whnf))|refine Look.miss (by omega) ?_)|((with_reducible refine SemWp.id ?_);first|refine sem_seq ?_|refine sem_region rfl ?_|refine sem_cond rfl ?_|refine sem_block ?_|refine sem_exit ?_|refine sem_ret ?_|refine sem_skip ?_|refine sem_label ?_|refine sem_draw ?_)|((with_reducible refine CallWp.id ?_);first|refine Pur.call (sort_spec _) ?_)|((with_reducible refine QAsk.id ?_);first|(refine Pur.ask (sort_spec _) ?_ ?_;focus (intro h;first|exact True.intro|exact h|exact rfl|exact ⟨h,rfl⟩|exact ⟨h,h,rfl⟩|exact hk|exact ⟨h,hk⟩|exact ⟨h,h,hk⟩|(simp +contextual at h ⊢;done);done)))|((with_reducible refine CallC.id ?_);first|(refine Pur.askC (sort_spec _) ?_ ?_;focus (intro h;first|exact True.intro|exact h|exact rfl|exact ⟨h,rfl⟩|exact ⟨h,h,rfl⟩|exact hk|exact ⟨h,hk⟩|exact ⟨h,h,hk⟩|(simp +contextual at h ⊢;done);done))|refine CallC.two ?_)|((with_reducible refine qThen.id ?_);first|refine qThen.go ?_|refine qThen.ret ?_|refine qThen.exit ?_|refine qThen.pan ?_)|((with_reducible refine hinBlock.id ?_);first|refine hinBlock.go ?_|refine hinBlock.ret ?_|refine hinBlock.pan ?_|refine hinBlock.here rfl ?_|refine hinBlock.on rfl ?_)|((with_reducible refine hround.id ?_);first|refine hround.go ?_|refine hround.ret ?_|refine hround.exit ?_|refine hround.pan ?_)|((with_reducible refine bodyQ.id ?_);first|refine bodyQ.ret rfl ?_|refine bodyQ.ret2 rfl ?_|refine bodyQ.ret0 rfl ?_|refine bodyQ.go ?_|refine bodyQ.pan ?_)|(refine drawQ cx (by decide +kernel) ?_;(conv=>whnf))|((conv=>whnf);first|((with_reducible refine Side.id ?_);first|refine Side.mk True.intro ?_|refine Side.mk rfl ?_|refine Side.mk (fun h=>h) ?_|(refine Side.mk ?_ ?_;focus (intro hside;rw [hside];done))|(refine Side.mk ?_ ?_;focus (((repeat' apply And.intro)<;>first|exact True.intro|assumption|rfl|omega|(simp;done)|(simp;omega)|(simp only [Bool.and_eq_true,Bool.or_eq_true,Bool.not_eq_true',decide_eq_true_eq,decide_eq_false_iff_not,beq_iff_eq,ne_eq,beq_eq_false_iff_ne,Bool.and_eq_false_iff,Bool.or_eq_false_iff] at *;omega)|(simp +contextual;done));done))|(refine Side.mk ?_ ?_;focus (intro hside;((repeat' apply And.intro)<;>first|exact True.intro|assumption|rfl|omega|(simp;done)|(simp;omega)|(simp only [Bool.and_eq_true,Bool.or_eq_true,Bool.not_eq_true',decide_eq_true_eq,decide_eq_false_iff_not,beq_iff_eq,ne_eq,beq_eq_false_iff_ne,Bool.and_eq_false_iff,Bool.or_eq_false_iff] at *;omega)|(simp +contextual;done));done)))|((with_reducible refine Look.id ?_);first|(refine Look.hit ?_;try (conv=>arg 7;whnf))|refine Look.miss (by omega) ?_)|((with_reducible refine QAsk.id ?_);first|(refine Pur.ask (sort_spec _) ?_ ?_;focus (intro h;first|exact True.intro|exact h|exact rfl|exact ⟨h,rfl⟩|exact ⟨h,h,rfl⟩|exact hk|exact ⟨h,hk⟩|exact ⟨h,h,hk⟩|(simp +contextual at h ⊢;done);done)))|((with_reducible refine SemWp.id ?_);first|refine sem_seq ?_|refine sem_region rfl ?_|refine sem_cond rfl ?_|refine sem_block ?_|refine sem_exit ?_|refine sem_ret ?_|refine sem_skip ?_|refine sem_label ?_|refine sem_draw ?_))|fail
   intro tt htt
   simp only [keys,List.map_cons,List.map_nil,List.mem_cons,List.not_mem_nil,not_or,or_false,not_false_eq_true] at htt
   repeat' first|((with_reducible refine Ops.id ?_);first|(refine Ops.cons rfl ?_;(conv=>arg 7;whnf))|refine Ops.nil ?_)|((with_reducible refine Stp.id ?_);first|refine Stp.pure rfl ?_|refine Stp.val rfl ?_|refine Stp.valC rfl ?_|refine Stp.call ?_|refine Stp.callC ?_|refine Stp.look ?_|refine Stp.eff ?_|refine Stp.effC ?_|refine Stp.pan ?_|refine Stp.panC ?_)|((with_reducible refine PutK.id ?_);first|(refine PutK.set HsetIs.hit ?_)|(refine PutK.set (HsetIs.miss ?_ HsetIs.hit) ?_;(focus omega))|(refine PutK.set (HsetIs.miss ?_ (HsetIs.miss ?_ HsetIs.hit)) ?_;(focus omega);(focus omega))|(refine PutK.set (HsetIs.miss ?_ (HsetIs.miss ?_ (HsetIs.miss ?_ HsetIs.hit))) ?_;(focus omega);(focus omega);(focus omega))|(refine PutK.set (HsetIs.miss ?_ (HsetIs.miss ?_ (HsetIs.miss ?_ (HsetIs.miss ?_ HsetIs.hit)))) ?_;(focus omega);(focus omega);(focus omega);(focus omega))|(refine PutK.set (HsetIs.miss ?_ (HsetIs.miss ?_ (HsetIs.miss ?_ (HsetIs.miss ?_ (HsetIs.miss ?_ HsetIs.hit))))) ?_;(focus omega);(focus omega);(focus omega);(focus omega);(focus omega))|(refine PutK.set (HsetIs.miss ?_ (HsetIs.miss ?_ (HsetIs.miss ?_ (HsetIs.miss ?_ (HsetIs.miss ?_ (HsetIs.miss ?_ HsetIs.hit)))))) ?_;(focus omega);(focus omega);(focus omega);(focus omega);(focus omega);(focus omega))|refine PutK.mk' rfl ?_)|((with_reducible refine Upd.id ?_);(refine Upd.lit rfl ?_;(conv=>whnf)))|((with_reducible refine Grow2.id ?_);refine Grow2.own ?_)|((with_reducible refine Side.id ?_);first|refine Side.mk True.intro ?_|refine Side.mk rfl ?_|refine Side.mk (fun h=>h) ?_|refine Side.mk (sign_side (by omega) hs) ?_|(refine Side.mk ?_ ?_;focus (intro hside;rw [hside];done))|(refine Side.mk ?_ ?_;focus (((repeat' apply And.intro)<;>first|exact True.intro|assumption|rfl|omega|(simp;done)|(simp;omega)|(simp only [Bool.and_eq_true,Bool.or_eq_true,Bool.not_eq_true',decide_eq_true_eq,decide_eq_false_iff_not,beq_iff_eq,ne_eq,beq_eq_false_iff_ne,Bool.and_eq_false_iff,Bool.or_eq_false_iff] at *;omega)|(simp +contextual;done));done))|(refine Side.mk ?_ ?_;focus (intro hside;((repeat' apply And.intro)<;>first|exact True.intro|assumption|rfl|omega|(simp;done)|(simp;omega)|(simp only [Bool.and_eq_true,Bool.or_eq_true,Bool.not_eq_true',decide_eq_true_eq,decide_eq_false_iff_not,beq_iff_eq,ne_eq,beq_eq_false_iff_ne,Bool.and_eq_false_iff,Bool.or_eq_false_iff] at *;omega)|(simp +contextual;done));done)))|((with_reducible refine Br.id ?_);first|refine br_true rfl ?_|refine br_false rfl ?_|refine br_true (by with_reducible assumption) ?_|refine br_false (by with_reducible assumption) ?_|refine br_dec_t (by with_reducible assumption) ?_|refine br_dec_f (by with_reducible assumption) ?_|refine br_beq_t (by with_reducible assumption) ?_|refine br_beq_f (by with_reducible assumption) ?_|refine br_bne_t (by with_reducible assumption) ?_|refine br_bne_f (by with_reducible assumption) ?_|refine br_dec (fun _=>?_) (fun _=>?_)|refine br_beq (fun _=>?_) (fun _=>?_)|refine br_bne (fun _=>?_) (fun _=>?_)|refine br_split (fun _=>?_) (fun _=>?_))|((with_reducible refine Look.id ?_);first|(refine Look.hit ?_;try (conv=>arg 7;whnf))|refine Look.miss (by omega) ?_)|((with_reducible refine SemWp.id ?_);first|refine sem_seq ?_|refine sem_region rfl ?_|refine sem_cond rfl ?_|refine sem_block ?_|refine sem_exit ?_|refine sem_ret ?_|refine sem_skip ?_|refine sem_label ?_|refine sem_draw ?_)|((with_reducible refine CallWp.id ?_);first|refine Pur.call (sort_spec _) ?_|(refine call_ret cx [_,_] (run_spec wordZ _ rfl word_spec _ _ _ hs _ (by omega) hab) (List.Perm.refl _) ?_;(conv=>whnf))|(refine call_ret cx [_,_] (run_spec digitZ _ rfl digit_spec _ _ _ hs _ (by omega) hab) (List.Perm.refl _) ?_;(conv=>whnf))|(refine call_ret cx [_,_] (run_spec (fun b=>b != 10) _ rfl line_spec _ _ _ hs _ (by omega) hab) (List.Perm.refl _) ?_;(conv=>whnf))|refine Pur.call (key_spec _) ?_|refine Pur.call (sign_spec _ (by simp;omega)) ?_|refine Pur.call (number_spec _ _) ?_|refine Pur.call (word_spec _) ?_)|((with_reducible refine QAsk.id ?_);first|(refine Pur.ask (sort_spec _) ?_ ?_;focus (intro h;first|exact True.intro|exact h|exact rfl|exact ⟨h,rfl⟩|exact ⟨h,h,rfl⟩|exact hk|exact ⟨h,hk⟩|exact ⟨h,h,hk⟩|(simp +contextual at h ⊢;done);done))|(refine Pur.ask (key_spec _) ?_ ?_;focus (intro h;first|exact True.intro|exact h|exact rfl|exact ⟨h,rfl⟩|exact ⟨h,h,rfl⟩|exact hk|exact ⟨h,hk⟩|exact ⟨h,h,hk⟩|(simp +contextual at h ⊢;done);done))|(refine Pur.ask (sign_spec _ (by simp;omega)) ?_ ?_;focus (intro h;first|exact True.intro|exact h|exact rfl|exact ⟨h,rfl⟩|exact ⟨h,h,rfl⟩|exact hk|exact ⟨h,hk⟩|exact ⟨h,h,hk⟩|(simp +contextual at h ⊢;done);done))|(refine Pur.ask (number_spec _ _) ?_ ?_;focus (intro h;first|exact True.intro|exact h|exact rfl|exact ⟨h,rfl⟩|exact ⟨h,h,rfl⟩|exact hk|exact ⟨h,hk⟩|exact ⟨h,h,hk⟩|(simp +contextual at h ⊢;done);done))|(refine Pur.ask (word_spec _) ?_ ?_;focus (intro h;first|exact True.intro|exact h|exact rfl|exact ⟨h,rfl⟩|exact ⟨h,h,rfl⟩|exact hk|exact ⟨h,hk⟩|exact ⟨h,h,hk⟩|(simp +contextual at h ⊢;done);done)))|((with_reducible refine CallC.id ?_);first|(refine Pur.askC (sort_spec _) ?_ ?_;focus (intro h;first|exact True.intro|exact h|exact rfl|exact ⟨h,rfl⟩|exact ⟨h,h,rfl⟩|exact hk|exact ⟨h,hk⟩|exact ⟨h,h,hk⟩|(simp +contextual at h ⊢;done);done))|(refine Pur.askC (key_spec _) ?_ ?_;focus (intro h;first|exact True.intro|exact h|exact rfl|exact ⟨h,rfl⟩|exact ⟨h,h,rfl⟩|exact hk|exact ⟨h,hk⟩|exact ⟨h,h,hk⟩|(simp +contextual at h ⊢;done);done))|(refine Pur.askC (sign_spec _ (by simp;omega)) ?_ ?_;focus (intro h;first|exact True.intro|exact h|exact rfl|exact ⟨h,rfl⟩|exact ⟨h,h,rfl⟩|exact hk|exact ⟨h,hk⟩|exact ⟨h,h,hk⟩|(simp +contextual at h ⊢;done);done))|(refine Pur.askC (number_spec _ _) ?_ ?_;focus (intro h;first|exact True.intro|exact h|exact rfl|exact ⟨h,rfl⟩|exact ⟨h,h,rfl⟩|exact hk|exact ⟨h,hk⟩|exact ⟨h,h,hk⟩|(simp +contextual at h ⊢;done);done))|(refine Pur.askC (word_spec _) ?_ ?_;focus (intro h;first|exact True.intro|exact h|exact rfl|exact ⟨h,rfl⟩|exact ⟨h,h,rfl⟩|exact hk|exact ⟨h,hk⟩|exact ⟨h,h,hk⟩|(simp +contextual at h ⊢;done);done))|refine CallC.two ?_)|((with_reducible refine qThen.id ?_);first|refine qThen.go ?_|refine qThen.ret ?_|refine qThen.exit ?_|refine qThen.pan ?_)|((with_reducible refine hinBlock.id ?_);first|refine hinBlock.go ?_|refine hinBlock.ret ?_|refine hinBlock.pan ?_|refine hinBlock.here rfl ?_|refine hinBlock.on rfl ?_)|((with_reducible refine hround.id ?_);first|refine hround.go ?_|refine hround.ret ?_|refine hround.exit ?_|refine hround.pan ?_)|((with_reducible refine bodyQ.id ?_);first|refine bodyQ.ret rfl ?_|refine bodyQ.ret2 rfl ?_|refine bodyQ.ret0 rfl ?_|refine bodyQ.go ?_|refine bodyQ.pan ?_)|(refine drawQ cx (by decide +kernel) ?_;(conv=>whnf))|((conv=>whnf);first|((with_reducible refine Side.id ?_);first|refine Side.mk True.intro ?_|refine Side.mk rfl ?_|refine Side.mk (fun h=>h) ?_|refine Side.mk (sign_side (by omega) hs) ?_|(refine Side.mk ?_ ?_;focus (intro hside;rw [hside];done))|(refine Side.mk ?_ ?_;focus (((repeat' apply And.intro)<;>first|exact True.intro|assumption|rfl|omega|(simp;done)|(simp;omega)|(simp only [Bool.and_eq_true,Bool.or_eq_true,Bool.not_eq_true',decide_eq_true_eq,decide_eq_false_iff_not,beq_iff_eq,ne_eq,beq_eq_false_iff_ne,Bool.and_eq_false_iff,Bool.or_eq_false_iff] at *;omega)|(simp +contextual;done));done))|(refine Side.mk ?_ ?_;focus (intro hside;((repeat' apply And.intro)<;>first|exact True.intro|assumption|rfl|omega|(simp;done)|(simp;omega)|(simp only [Bool.and_eq_true,Bool.or_eq_true,Bool.not_eq_true',decide_eq_true_eq,decide_eq_false_iff_not,beq_iff_eq,ne_eq,beq_eq_false_iff_ne,Bool.and_eq_false_iff,Bool.or_eq_false_iff] at *;omega)|(simp +contextual;done));done)))|((with_reducible refine Look.id ?_);first|(refine Look.hit ?_;try (conv=>arg 7;whnf))|refine Look.miss (by omega) ?_)|((with_reducible refine QAsk.id ?_);first|(refine Pur.ask (sort_spec _) ?_ ?_;focus (intro h;first|exact True.intro|exact h|exact rfl|exact ⟨h,rfl⟩|exact ⟨h,h,rfl⟩|exact hk|exact ⟨h,hk⟩|exact ⟨h,h,hk⟩|(simp +contextual at h ⊢;done);done))|(refine Pur.ask (key_spec _) ?_ ?_;focus (intro h;first|exact True.intro|exact h|exact rfl|exact ⟨h,rfl⟩|exact ⟨h,h,rfl⟩|exact hk|exact ⟨h,hk⟩|exact ⟨h,h,hk⟩|(simp +contextual at h ⊢;done);done))|(refine Pur.ask (sign_spec _ (by simp;omega)) ?_ ?_;focus (intro h;first|exact True.intro|exact h|exact rfl|exact ⟨h,rfl⟩|exact ⟨h,h,rfl⟩|exact hk|exact ⟨h,hk⟩|exact ⟨h,h,hk⟩|(simp +contextual at h ⊢;done);done))|(refine Pur.ask (number_spec _ _) ?_ ?_;focus (intro h;first|exact True.intro|exact h|exact rfl|exact ⟨h,rfl⟩|exact ⟨h,h,rfl⟩|exact hk|exact ⟨h,hk⟩|exact ⟨h,h,hk⟩|(simp +contextual at h ⊢;done);done))|(refine Pur.ask (word_spec _) ?_ ?_;focus (intro h;first|exact True.intro|exact h|exact rfl|exact ⟨h,rfl⟩|exact ⟨h,h,rfl⟩|exact hk|exact ⟨h,hk⟩|exact ⟨h,h,hk⟩|(simp +contextual at h ⊢;done);done)))|((with_reducible refine SemWp.id ?_);first|refine sem_seq ?_|refine sem_region rfl ?_|refine sem_cond rfl ?_|refine sem_block ?_|refine sem_exit ?_|refine sem_ret ?_|refine sem_skip ?_|refine sem_label ?_|refine sem_draw ?_))|fail
   ·rename_i hj hb
    exact Fin.mk ⟨(j+1,pre),⟨by simp only [];omega,by simp only [];omega,by rw [←h3,lexL_skip (by omega) (by omega) (nxt_blank hb)]⟩,by simp only [];omega,Sub.cons rfl rfl (Sub.cons rfl rfl (Sub.cons rfl rfl (Sub.cons rfl rfl (Sub.cons rfl rfl (Sub.nil _))))),Subp.skip (Subp.of_eq (by rw [wrap64 (by omega)];rfl)) _⟩
   ·rename_i hj h0 hb
    have g1:=scan_lt (p:=fun b=>b != 10) (s:=s) (i:=j) (by omega) (by rw [hb];rfl)
    have g2:=scan_le (fun b=>b != 10) s j (by omega)
    exact Fin.mk ⟨(scan (fun b=>b != 10) s j,pre),⟨g2,by simp only [];omega,by rw [←h3,lexL_skip (by omega) g1 (nxt_line h0 hb)]⟩,by simp only [];omega,Sub.cons rfl rfl (Sub.cons rfl rfl (Sub.cons rfl rfl (Sub.cons rfl rfl (Sub.cons rfl rfl (Sub.nil _))))),Subp.rot rfl⟩
   ·rename_i hj h0 hb hl hk hz
    exact Fin.mk (lex_err (by omega) (nxt_longE h0 hb hl (by omega)) h3)
   ·rename_i hj h0 hb hl hk hz
    have g1:=scan_lt (p:=wordZ) (s:=s) (i:=j) (by omega) (by simp [wordZ,hl])
    have g2:=scan_le wordZ s j (by omega)
    refine Fin.mk ⟨(scan wordZ s j,pre ++ [⟨3,s.extract j (scan wordZ s j),j⟩]),⟨g2,by simp;omega,?_⟩,by simp only [];omega,Sub.cons rfl rfl (Sub.cons rfl rfl (Sub.cons rfl rfl (Sub.cons rfl rfl (Sub.cons rfl (by simp [tokD,ii,ss]) (Sub.nil _))))),Subp.rot (by simp)⟩
    exact (lexL_tok (by omega) g1 (by rw [nxt_word h0 hb hl (by omega),hk];rfl) pre).trans h3
   ·rename_i hj h0 hb hl hk hz
    exact Fin.mk (lex_err (by omega) (nxt_longE h0 hb hl (by omega)) h3)
   ·rename_i hj h0 hb hl hk hz
    have g1:=scan_lt (p:=wordZ) (s:=s) (i:=j) (by omega) (by simp [wordZ,hl])
    have g2:=scan_le wordZ s j (by omega)
    refine Fin.mk ⟨(scan wordZ s j,pre ++ [⟨1,s.extract j (scan wordZ s j),j⟩]),⟨g2,by simp;omega,?_⟩,by simp only [];omega,Sub.cons rfl rfl (Sub.cons rfl rfl (Sub.cons rfl rfl (Sub.cons rfl rfl (Sub.cons rfl (by simp [tokD,ii,ss]) (Sub.nil _))))),Subp.rot (by simp)⟩
    exact (lexL_tok (by omega) g1 (by rw [nxt_word h0 hb hl (by omega),hk];rfl) pre).trans h3
   ·rename_i hj h0 hb hl hd hz
    exact Fin.mk (lex_err (by omega) (nxt_numE h0 hb hl hd (by simp) hz) h3)
   ·rename_i hj h0 hb hl hd hz
    have g1:=scan_lt (p:=digitZ) (s:=s) (i:=j) (by omega) hd
    have g2:=scan_le digitZ s j (by omega)
    refine Fin.mk ⟨(scan digitZ s j,pre ++ [⟨2,s.extract j (scan digitZ s j),j⟩]),⟨g2,by simp;omega,?_⟩,by simp only [];omega,Sub.cons rfl rfl (Sub.cons rfl rfl (Sub.cons rfl rfl (Sub.cons rfl rfl (Sub.cons rfl (by simp [tokD,ii,ss]) (Sub.nil _))))),Subp.rot (by simp)⟩
    exact (lexL_tok (by omega) g1 (nxt_num h0 hb hl hd (by simp) hz) pre).trans h3
   ·rename_i hj h0 hb hl hd hz
    exact Fin.mk (lex_err (by omega) (nxt_signE h0 hb hl hd (by simpa using hz)) h3)
   ·rename_i hj h0 hb hl hd hz
    have hz:¬ signS (s.extract j s.size)=0:=by simpa using hz
    have g1:=signS_le (s.extract j s.size) (by simp;omega)
    simp only [ByteArray.size_extract,Nat.min_self] at g1
    have e:IntKind.i64.wrap ((j:Int)+signS (s.extract (j:Int).toNat s.size))=((j+signS (s.extract j s.size):Nat):Int):=by
     rw [Int.toNat_natCast,wrap64 (by omega)];omega
    have e2:IntKind.i64.wrap ((j:Int)+(signS (s.extract j s.size):Int))=(j:Int)+signS (s.extract j s.size):=wrap64 (by omega)
    have e1:((j:Int)+(signS (s.extract j s.size):Int)).toNat=j+signS (s.extract j s.size):=by omega
    refine Fin.mk ⟨(j+signS (s.extract j s.size),pre ++ [⟨4,s.extract j (j+signS (s.extract j s.size)),j⟩]),⟨by simp only [];omega,by simp;omega,?_⟩,by simp only [];omega,Sub.cons rfl rfl (Sub.cons rfl rfl (Sub.cons rfl rfl (Sub.cons rfl rfl (Sub.cons rfl (by simp [tokD,ii,ss,e1,e2]) (Sub.nil _))))),Subp.skip (Subp.of_eq (by simp [ii,e2])) _⟩
    exact (lexL_tok (by omega) (by omega) (nxt_sign h0 hb hl hd hz) pre).trans h3
   ·rename_i hj
    refine Fin.mk ⟨_,_,_,rfl,_,Weaker.tok _ _ _,?_⟩
    rw [←h3,lexL_end (by omega)]
    simp only [comb,lexV,List.map_append];rfl
 ·rintro e s1 ⟨l,e0,at_,rfl,l',hw,h⟩
  exact ⟨_,[],.ret (.tup (.cons hw (.cons (.refl _) (.cons (.refl _) .nil)))),Subp.nil _,by rw [h],rfl⟩
end Go.Proofs.Hk

set_option linter.unusedSimpArgs false
set_option linter.unusedVariables false
namespace Go.Proofs.Hk
open Go Go.Proofs
/-! The parser, in plain Lean. -/
structure ND where
 kind:Int
 num:Int
 name:ByteArray
 a:Int
 b:Int
def encN' (k n:Int) (s:ByteArray) (a b:Int):HV:=.agg [ii k,ii n,ss s,ii a,ii b]
def encN (n:ND):HV:=encN' n.kind n.num n.name n.a n.b
def LNs (l:List ND):HV:=.list .no 5 (l.map encN)
def LLNs (l:List (List ND)):HV:=.list .no 1 (l.map LNs)
inductive Ex where
 |num (n:Int)
 |var (s:ByteArray)
 |leaf (k:Int)
 |un (k:Int) (e:Ex)
 |bin (k:Int) (a b:Ex)
def noS:ByteArray:=⟨#[]⟩
/-- The nodes of an expression that stand behind so many others. -/
def Ex.flat:Nat→Ex→List ND
 |_,.num n=>[⟨1,n,noS,-1,-1⟩]
 |_,.var s=>[⟨2,0,s,-1,-1⟩]
 |_,.leaf k=>[⟨k,0,noS,-1,-1⟩]
 |o,.un k e=>e.flat o ++ [⟨k,0,noS,(o+(e.flat o).length:Nat) - 1,-1⟩]
 |o,.bin k a b=>a.flat o ++ b.flat (o+(a.flat o).length) ++ [⟨k,0,noS,(o+(a.flat o).length:Nat) - 1,(o+(a.flat o).length+(b.flat (o+(a.flat o).length)).length:Nat) - 1⟩]
inductive SD where
 |mk (kind:Int) (name proc:ByteArray) (e:List ND) (args:List (List ND)) (body els:List SD)
def encS7 (k:Int) (n p:ByteArray) (e:List ND) (a:List (List ND)) (b el:List HV):HV:=.agg [ii k,ss n,ss p,LNs e,LLNs a,.list .no 7 b,.list .no 7 el]
mutual
def encSD:SD→HV
 |.mk k n p e a b el=>encS7 k n p e a (encSDs b) (encSDs el)
def encSDs:List SD→List HV
 |[]=>[]
 |s::l=>encSD s::encSDs l
end
theorem encSDs_map:∀ l:List SD,encSDs l=l.map encSD
 |[]=>by simp [encSDs]
 |s::l=>by simp [encSDs,encSDs_map l]
def LSDs (l:List SD):HV:=.list .no 7 (l.map encSD)
structure PD where
 name:ByteArray
 params:List ByteArray
 result:ByteArray
 vars:List ByteArray
 body:List SD
def LSs' (l:List ByteArray):HV:=.list .no 1 (l.map ss)
def encPD' (n:ByteArray) (p:List ByteArray) (r:ByteArray) (v:List ByteArray) (b:List SD):HV:=.agg [ss n,LSs' p,ss r,LSs' v,LSDs b]
def encPD (p:PD):HV:=encPD' p.name p.params p.result p.vars p.body
def LPDs (l:List PD):HV:=.list .no 5 (l.map encPD)
/-- What a parser comes to: out of fuel; an error, the token at which, and how deep; something, and the token behind. -/
abbrev Res' (α:Type):=Option (Except (Int × Nat × Int) (α × Nat))
def errR {α:Type} (e:Int) (i:Nat) (d:Int):Res' α:=some (.error (e,i,d))
def okR {α:Type} (x:α) (i:Nat):Res' α:=some (.ok (x,i))
def bindR {α β:Type} (r:Res' α) (k:α→Nat→Res' β):Res' β:=
 match r with
 |none=>none
 |some (.error e)=>some (.error e)
 |some (.ok (x,i))=>k x i
def tk (l:List Tk) (i:Nat):Tk:=l.getD i ⟨0,noS,0⟩
def isT (l:List Tk) (i:Nat) (s:ByteArray):Bool:=((tk l i).kind == 4||(tk l i).kind == 3) && strEq (tk l i).text s
def tOr:ByteArray:=⟨#[111,114]⟩
def tAnd:ByteArray:=⟨#[97,110,100]⟩
def tNot:ByteArray:=⟨#[110,111,116]⟩
def tTrue:ByteArray:=⟨#[116,114,117,101]⟩
def tFalse:ByteArray:=⟨#[102,97,108,115,101]⟩
def tc (n:UInt8):ByteArray:=⟨#[n]⟩
def tEq:ByteArray:=⟨#[61,61]⟩
def tNe:ByteArray:=⟨#[33,61]⟩
def tLe:ByteArray:=⟨#[60,61]⟩
def tGe:ByteArray:=⟨#[62,61]⟩
def addK (l:List Tk) (i:Nat):Option Int:=if isT l i (tc 43)=true then some 4 else if isT l i (tc 45)=true then some 5 else none
def mulK (l:List Tk) (i:Nat):Option Int:=if isT l i (tc 42)=true then some 6 else if isT l i (tc 47)=true then some 7 else if isT l i (tc 37)=true then some 8 else none
def orK (l:List Tk) (i:Nat):Option Int:=if isT l i tOr=true then some 20 else none
def andK (l:List Tk) (i:Nat):Option Int:=if isT l i tAnd=true then some 19 else none
def relK (l:List Tk) (i:Nat):Option Int:=
 if isT l i tEq=true then some 12 else if isT l i tNe=true then some 13 else if isT l i (tc 60)=true then some 14 else if isT l i tLe=true then some 15 else if isT l i (tc 62)=true then some 16 else if isT l i tGe=true then some 17 else none
/-- The number that digits are. -/
def numS (s:ByteArray):Int:=s.data.toList.foldl (fun n b=>10 * n+((b.toNat:Int) - 48)) 0
inductive Lv where
 |cond|conj|lit|expr|term|unary
 |condL (e:Ex)|conjL (e:Ex)|exprL (e:Ex)|termL (e:Ex)
def pE (l:List Tk):Nat→Lv→Int→Nat→Res' Ex
 |0,_,_,_=>none
 |f+1,.cond,d,i=>bindR (pE l f .conj d i) fun e j=>pE l f (.condL e) d j
 |f+1,.condL e,d,i=>match orK l i with
  |some k=>bindR (pE l f .conj d (i+1)) fun e2 j=>pE l f (.condL (.bin k e e2)) d j
  |none=>okR e i
 |f+1,.conj,d,i=>bindR (pE l f .lit d i) fun e j=>pE l f (.conjL e) d j
 |f+1,.conjL e,d,i=>match andK l i with
  |some k=>bindR (pE l f .lit d (i+1)) fun e2 j=>pE l f (.conjL (.bin k e e2)) d j
  |none=>okR e i
 |f+1,.expr,d,i=>bindR (pE l f .term d i) fun e j=>pE l f (.exprL e) d j
 |f+1,.exprL e,d,i=>match addK l i with
  |some k=>bindR (pE l f .term d (i+1)) fun e2 j=>pE l f (.exprL (.bin k e e2)) d j
  |none=>okR e i
 |f+1,.term,d,i=>bindR (pE l f .unary d i) fun e j=>pE l f (.termL e) d j
 |f+1,.termL e,d,i=>match mulK l i with
  |some k=>bindR (pE l f .unary d (i+1)) fun e2 j=>pE l f (.termL (.bin k e e2)) d j
  |none=>okR e i
 |f+1,.lit,d,i=>
  if isT l i tNot=true then (if 50≤d then errR 5 i d else bindR (pE l f .lit (d+1) (i+1)) fun e j=>okR (.un 18 e) j)
  else if isT l i (tc 91)=true then (if 50≤d then errR 5 i d else bindR (pE l f .cond (d+1) (i+1)) fun e j=>if isT l j (tc 93)=true then okR e (j+1) else errR 4 j (d+1))
  else if isT l i tTrue=true then okR (.leaf 9) (i+1)
  else if isT l i tFalse=true then okR (.leaf 10) (i+1)
  else if isT l i (tc 42)=true then okR (.leaf 11) (i+1)
  else bindR (pE l f .expr d i) fun a j=>match relK l j with
   |some k=>bindR (pE l f .expr d (j+1)) fun b m=>okR (.bin k a b) m
   |none=>errR 4 j d
 |f+1,.unary,d,i=>
  if isT l i (tc 45)=true then (if 50≤d then errR 5 i d else bindR (pE l f .unary (d+1) (i+1)) fun e j=>okR (.un 3 e) j)
  else if isT l i (tc 40)=true then (if 50≤d then errR 5 i d else bindR (pE l f .expr (d+1) (i+1)) fun e j=>if isT l j (tc 41)=true then okR e (j+1) else errR 4 j (d+1))
  else if (tk l i).kind=2 then okR (.num (numS (tk l i).text)) (i+1)
  else if (tk l i).kind=1 then okR (.var (tk l i).text) (i+1)
  else errR 4 i d
/-- A name, and a sign. -/
def pName (l:List Tk) (d:Int) (i:Nat):Res' ByteArray:=if (tk l i).kind=1 then okR (tk l i).text (i+1) else errR 4 i d
def pMust (l:List Tk) (s:ByteArray) (d:Int) (i:Nat):Res' Unit:=if isT l i s=true then okR () (i+1) else errR 4 i d
/-- Arguments, names: from the first on, up to the bracket. -/
def pArgs (l:List Tk):Nat→List (List ND)→Int→Nat→Res' (List (List ND))
 |0,_,_,_=>none
 |f+1,acc,d,i=>bindR (pE l f .expr d i) fun e j=>if isT l j (tc 44)=true then pArgs l f (acc ++ [e.flat 0]) d (j+1) else if isT l j (tc 41)=true then okR (acc ++ [e.flat 0]) (j+1) else errR 4 j d
def pNames (l:List Tk):Nat→List ByteArray→Int→Nat→Res' (List ByteArray)
 |0,_,_,_=>none
 |f+1,acc,d,i=>bindR (pName l d i) fun e j=>if isT l j (tc 44)=true then pNames l f (acc ++ [e]) d (j+1) else if isT l j (tc 41)=true then okR (acc ++ [e]) (j+1) else errR 4 j d
/-- Behind the bracket. -/
def pArgs0 (l:List Tk) (f:Nat) (d:Int) (i:Nat):Res' (List (List ND)):=if isT l i (tc 41)=true then okR [] (i+1) else pArgs l f [] d i
def pNames0 (l:List Tk) (f:Nat) (d:Int) (i:Nat):Res' (List ByteArray):=if isT l i (tc 41)=true then okR [] (i+1) else pNames l f [] d i
/-- A statement behind which a semicolon stands. -/
def ended (l:List Tk) (d:Int) (r:Res' SD):Res' SD:=bindR r fun s j=>bindR (pMust l (tc 59) d j) fun _ m=>okR s m
def sdE (k:Int) (n:ByteArray) (e:List ND):SD:=.mk k n noS e [] [] []
def isOpen (l:List Tk) (i:Nat):Bool:=(tk l i).kind == 4 && strEq (tk l i).text (tc 40)
def pCall (l:List Tk) (f:Nat) (n p:ByteArray) (d:Int) (i:Nat):Res' SD:=
 bindR (pMust l (tc 40) d i) fun _ j=>bindR (pArgs0 l f d j) fun a m=>okR (.mk 8 n p [] a [] []) m
/-- What stands behind a name. -/
def pNamed (l:List Tk) (f:Nat) (n:ByteArray) (d:Int) (i:Nat):Res' SD:=
 if isT l i (tc 40)=true then ended l d (pCall l f noS n d i)
 else bindR (pMust l (tc 61) d i) fun _ j=>
  if ((tk l j).kind == 1 && isOpen l (j+1))=true then ended l d (pCall l f n (tk l j).text d (j+1))
  else ended l d (bindR (pE l f .expr d j) fun e m=>okR (sdE 1 n (e.flat 0)) m)
def kHavoc:ByteArray:=⟨#[104,97,118,111,99]⟩
def kAssume:ByteArray:=⟨#[97,115,115,117,109,101]⟩
def kAssert:ByteArray:=⟨#[97,115,115,101,114,116]⟩
def kSkip:ByteArray:=⟨#[115,107,105,112]⟩
def kIf:ByteArray:=⟨#[105,102]⟩
def kElse:ByteArray:=⟨#[101,108,115,101]⟩
def kWhile:ByteArray:=⟨#[119,104,105,108,101]⟩
def kEither:ByteArray:=⟨#[101,105,116,104,101,114]⟩
def kProc:ByteArray:=⟨#[112,114,111,99]⟩
def kVar:ByteArray:=⟨#[118,97,114]⟩
inductive Ls where
 |stmts (acc:List SD)
 |block
 |stmt
def pS (l:List Tk):Nat→Ls→Int→Nat→Res' (List SD)
 |0,_,_,_=>none
 |f+1,.stmts acc,d,i=>if isT l i (tc 125)=true then okR acc i else bindR (pS l f .stmt d i) fun s j=>pS l f (.stmts (acc ++ s)) d j
 |f+1,.block,d,i=>
  if isT l i (tc 123)=true then (if 50≤d then errR 5 i d else bindR (pS l f (.stmts []) (d+1) (i+1)) fun b j=>if isT l j (tc 125)=true then okR b (j+1) else errR 4 j (d+1))
  else errR 4 i d
 |f+1,.stmt,d,i=>
  if (tk l i).kind=1 then bindR (pNamed l f (tk l i).text d (i+1)) fun s j=>okR [s] j
  else if isT l i kHavoc=true then bindR (ended l d (bindR (pName l d (i+1)) fun n j=>okR (sdE 2 n []) j)) fun s j=>okR [s] j
  else if isT l i kAssume=true then bindR (ended l d (bindR (pE l f .cond d (i+1)) fun e j=>okR (sdE 3 noS (e.flat 0)) j)) fun s j=>okR [s] j
  else if isT l i kAssert=true then bindR (ended l d (bindR (pE l f .cond d (i+1)) fun e j=>okR (sdE 4 noS (e.flat 0)) j)) fun s j=>okR [s] j
  else if isT l i kSkip=true then bindR (ended l d (okR (sdE 9 noS []) (i+1))) fun s j=>okR [s] j
  else if isT l i kIf=true then bindR (pE l f .cond d (i+1)) fun e j=>bindR (pS l f .block d j) fun b m=>
   if isT l m kElse=true then bindR (pS l f .block d (m+1)) fun b2 m2=>okR [.mk 5 noS noS (e.flat 0) [] b b2] m2 else okR [.mk 5 noS noS (e.flat 0) [] b []] m
  else if isT l i kWhile=true then bindR (pE l f .cond d (i+1)) fun e j=>bindR (pS l f .block d j) fun b m=>okR [.mk 6 noS noS (e.flat 0) [] b []] m
  else if isT l i kEither=true then bindR (pS l f .block d (i+1)) fun b j=>bindR (pMust l tOr d j) fun _ m=>bindR (pS l f .block d m) fun b2 m2=>okR [.mk 7 noS noS [] [] b b2] m2
  else errR 4 i d
def pVars (l:List Tk):Nat→List ByteArray→Int→Nat→Res' (List ByteArray)
 |0,_,_,_=>none
 |f+1,acc,d,i=>if isT l i kVar=true then bindR (pName l d (i+1)) fun n j=>bindR (pMust l (tc 59) d j) fun _ m=>pVars l f (acc ++ [n]) d m else okR acc i
def pProc (l:List Tk) (f:Nat) (i:Nat):Res' PD:=
 bindR (pMust l kProc 0 i) fun _ i1=>bindR (pName l 0 i1) fun n i2=>bindR (pMust l (tc 40) 0 i2) fun _ i3=>bindR (pNames0 l f 0 i3) fun ps i4=>
 bindR (if isT l i4 ⟨#[45,62]⟩=true then pName l 0 (i4+1) else okR noS i4) fun r i5=>bindR (pMust l (tc 123) 0 i5) fun _ i6=>
 bindR (pVars l f [] 0 i6) fun vs i7=>bindR (pS l f (.stmts []) 0 i7) fun b i8=>bindR (pMust l (tc 125) 0 i8) fun _ i9=>okR ⟨n,ps,r,vs,b⟩ i9
def pProg (l:List Tk):Nat→List PD→Nat→Res' (List PD)
 |0,_,_=>none
 |f+1,acc,i=>bindR (pProc l f i) fun p j=>if (tk l j).kind=0 then okR (acc ++ [p]) j else pProg l f (acc ++ [p]) j
end Go.Proofs.Hk

set_option linter.unusedSimpArgs false
set_option linter.unusedVariables false
namespace Go.Proofs.Hk
open Go Go.Proofs
/-! Trees, in plain Lean: their parts, their weight. -/
theorem encSD_mk (k:Int) (n p:ByteArray) (e:List ND) (a:List (List ND)) (b el:List SD):encSD (.mk k n p e a b el) = .agg [ii k,ss n,ss p,LNs e,LLNs a,LSDs b,LSDs el]:=by
 simp only [encSD,encS7,encSDs_map,LSDs]
def SD.k:SD→Int|.mk k _ _ _ _ _ _=>k
def SD.n:SD→ByteArray|.mk _ n _ _ _ _ _=>n
def SD.p:SD→ByteArray|.mk _ _ p _ _ _ _=>p
def SD.e:SD→List ND|.mk _ _ _ e _ _ _=>e
def SD.as:SD→List (List ND)|.mk _ _ _ _ a _ _=>a
def SD.b:SD→List SD|.mk _ _ _ _ _ b _=>b
def SD.el:SD→List SD|.mk _ _ _ _ _ _ el=>el
def encSDq (s:SD):HV:=.agg [ii s.k,ss s.n,ss s.p,LNs s.e,LLNs s.as,LSDs s.b,LSDs s.el]
theorem encSD_q (s:SD):encSD s=encSDq s:=by obtain ⟨k,n,p,e,a,b,el⟩:=s;exact encSD_mk ..
theorem SD.b_lt (s:SD):SizeOf.sizeOf s.b < SizeOf.sizeOf s:=by obtain ⟨k,n,p,e,a,b,el⟩:=s;simp [SD.b];omega
theorem SD.el_lt (s:SD):SizeOf.sizeOf s.el < SizeOf.sizeOf s:=by obtain ⟨k,n,p,e,a,b,el⟩:=s;simp [SD.el];omega
theorem mem_lt {s:SD} {l:List SD} (h:s∈l):SizeOf.sizeOf s < SizeOf.sizeOf l:=List.sizeOf_lt_of_mem h
/-- By trees. -/
theorem SDs.ind {p:List SD→Prop} (h:∀ l,(∀ s∈l,p s.b∧p s.el)→p l) (l:List SD):p l:=by
 have key:∀ n,∀ l:List SD,SizeOf.sizeOf l < n→p l:=by
  intro n
  induction n with
  |zero=>intro l hl;omega
  |succ n ih=>
   intro l hl
   refine h l fun s hs=>?_
   have h1:=mem_lt hs
   have h2:=s.b_lt
   have h3:=s.el_lt
   exact ⟨ih _ (by omega),ih _ (by omega)⟩
 exact key _ l (Nat.lt_succ_self _)
/-- So many, of arguments. -/
def wA:List (List ND)→Nat→Nat
 |[],n=>n
 |x::l,n=>if n < 400 then wA l (n+min x.length 400) else n
def capW (d:Nat) (n:Nat):Nat:=if 60 < d then 400 else min n 400
mutual
def wS (d:Nat):SD→Nat→Nat
 |.mk k n p e a b el,m=>
  if 100 < n.size∨100 < p.size then 400 else
   let m1:=wA a (m+min e.length 400+min a.length 400)
   let m2:=m1+capW (d+1) (wL (d+1) b (min b.length 400))
   if m2 < 400 then m2+capW (d+1) (wL (d+1) el (min el.length 400)) else m2
def wL (d:Nat):List SD→Nat→Nat
 |[],n=>n
 |s::l,n=>if n < 400 then wL d l (wS d s n) else n
end
def weightS (d:Nat) (l:List SD):Nat:=capW d (wL d l (min l.length 400))
theorem wS_eq (d:Nat) (s:SD) (m:Nat):wS d s m=if 100 < s.n.size∨100 < s.p.size then 400 else
  if wA s.as (m+min s.e.length 400+min s.as.length 400)+weightS (d+1) s.b < 400 then wA s.as (m+min s.e.length 400+min s.as.length 400)+weightS (d+1) s.b+weightS (d+1) s.el else wA s.as (m+min s.e.length 400+min s.as.length 400)+weightS (d+1) s.b:=by
 obtain ⟨k,n,p,e,a,b,el⟩:=s
 rw [wS]
 rfl
def wP (p:PD):Nat:=min p.params.length 400+min p.vars.length 400+weightS 0 p.body
/-- More than a statement goes through? -/
def grL:List PD→Nat→Bool
 |[],n=>decide (300 < n)
 |p::l,n=>if 300 < n then true else if 100 < p.name.size∨100 < p.result.size then true else grL l (n+wP p)
def greatS (l:List PD):Bool:=grL l l.length
mutual
def ptS:SD→List SD
 |.mk k n p e a b el=>.mk k n p e a b el::(ptL b ++ ptL el)
def ptL:List SD→List SD
 |[]=>[]
 |s::l=>ptS s ++ ptL l
end
theorem ptS_eq (s:SD):ptS s=s::(ptL s.b ++ ptL s.el):=by obtain ⟨k,n,p,e,a,b,el⟩:=s;simp only [ptS,SD.b,SD.el]
theorem min_is (k:Nat):(if (400:Int) < (k:Int) then (400:Int) else (k:Int))=((min k 400:Nat):Int):=by
 by_cases h:(400:Int) < (k:Int)
 ·rw [if_pos h];omega
 ·rw [if_neg h];omega
theorem getD_sd {l:List SD} {i:Nat} (h:i < l.length):(l.map encSD).getD (i:Int).toNat default=encSDq l[i]:=by
 rw [←encSD_q];simp [List.getD_eq_getElem?_getD,h]
theorem getD_pd {l:List PD} {i:Nat} (h:i < l.length):(l.map encPD).getD (i:Int).toNat default=encPD' l[i].name l[i].params l[i].result l[i].vars l[i].body:=by
 simp [List.getD_eq_getElem?_getD,h,encPD]
theorem getD_ln {l:List (List ND)} {i:Nat} (h:i < l.length):(l.map LNs).getD (i:Int).toNat default=LNs l[i]:=by
 simp [List.getD_eq_getElem?_getD,h]
theorem wA_le:∀ (a:List (List ND)) (n:Nat),n≤wA a n∧wA a n≤max n 800
 |[],n=>by simp [wA];omega
 |x::l,n=>by
  simp only [wA]
  split
  ·have:=wA_le l (n+min x.length 400);omega
  ·omega
theorem weightS_le (d:Nat) (l:List SD):weightS d l≤400:=by simp only [weightS,capW];split<;>omega
theorem drop_cons {α:Type} {l:List α} {i:Nat} (h:i < l.length):l.drop i=l[i]::l.drop (i+1):=List.drop_eq_getElem_cons h
theorem drop_nil' {α:Type} {l:List α} {i:Nat} (h:l.length≤i):l.drop i=[]:=List.drop_eq_nil_of_le h
theorem wL_full (d:Nat) (l:List SD) {n:Nat} (h:400≤n):wL d l n=n:=by
 cases l with
 |nil=>rw [wL]
 |cons s l=>rw [wL,if_neg (by omega)]
end Go.Proofs.Hk

set_option linter.unusedSimpArgs false
set_option linter.unusedVariables false
namespace Go.Proofs.Hk
open Go Go.Proofs
/-! Are trees one? -/
def eqL {α β:Type} (f:α→β→Bool):List α→List β→Bool
 |[],[]=>true
 |x::l,y::m=>f x y && eqL f l m
 |_,_=>false
theorem eqL_len {α β:Type} (f:α→β→Bool):∀ {l:List α} {m:List β},l.length≠m.length→eqL f l m=false
 |[],[],h=>absurd rfl h
 |[],_::_,_=>rfl
 |_::_,[],_=>rfl
 |x::l,y::m,h=>by
  rw [eqL,eqL_len f (l:=l) (m:=m) (fun e=>h (by simp [e]))];simp
theorem eqL_drop {α β:Type} (f:α→β→Bool) {l:List α} {m:List β} {i:Nat} (h1:i < l.length) (h2:i < m.length):eqL f (l.drop i) (m.drop i)=(f l[i] m[i] && eqL f (l.drop (i+1)) (m.drop (i+1))):=by
 rw [drop_cons h1,drop_cons h2,eqL]
theorem eqL_end {α β:Type} (f:α→β→Bool) {l:List α} {m:List β} {i:Nat} (h1:l.length≤i) (h2:m.length≤i):eqL f (l.drop i) (m.drop i)=true:=by
 rw [drop_nil' h1,drop_nil' h2,eqL]
theorem eqL_refl {α:Type} (f:α→α→Bool):∀ {l:List α},(∀ x∈l,f x x=true)→eqL f l l=true
 |[],_=>rfl
 |x::l,h=>by rw [eqL,h x List.mem_cons_self,eqL_refl f fun y hy=>h y (List.mem_cons_of_mem _ hy)];rfl
def sameN (x y:ND):Bool:=(x.kind == y.kind) && ((x.num == y.num) && (strEq x.name y.name && ((x.a == y.a) && ((x.b == y.b) && true))))
def sameNs (a b:List ND):Bool:=eqL sameN a b
def sameTs (a b:List ByteArray):Bool:=eqL (fun x y=>strEq x y) a b
mutual
def sameS:SD→SD→Bool
 |.mk k n p e a b el,.mk k' n' p' e' a' b' el'=>(k == k') && (strEq n n' && (strEq p p' && (sameNs e e' && (eqL sameNs a a' && (sameSL b b' && sameSL el el')))))
def sameSL:List SD→List SD→Bool
 |[],[]=>true
 |x::l,y::m=>sameS x y && sameSL l m
 |_,_=>false
end
theorem sameSL_eq:∀ (l m:List SD),sameSL l m=eqL sameS l m
 |[],[]=>by rw [sameSL,eqL]
 |[],_::_=>by rw [sameSL,eqL]<;>simp
 |_::_,[]=>by rw [sameSL,eqL]<;>simp
 |x::l,y::m=>by rw [sameSL,eqL,sameSL_eq l m]
theorem sameS_eq (s t:SD):sameS s t=((s.k == t.k) && (strEq s.n t.n && (strEq s.p t.p && (sameNs s.e t.e && (eqL sameNs s.as t.as && (eqL sameS s.b t.b && eqL sameS s.el t.el)))))):=by
 obtain ⟨k,n,p,e,a,b,el⟩:=s
 obtain ⟨k',n',p',e',a',b',el'⟩:=t
 rw [sameS,sameSL_eq,sameSL_eq]
 rfl
def sameP (x y:PD):Bool:=strEq x.name y.name && (strEq x.result y.result && (sameTs x.params y.params && (sameTs x.vars y.vars && eqL sameS x.body y.body)))
def samePr (l m:List PD):Bool:=eqL sameP l m
theorem strEq_refl (a:ByteArray):strEq a a=true:=strEq_eq.2 rfl
theorem sameN_refl (x:ND):sameN x x=true:=by simp [sameN,strEq_refl]
theorem sameNs_refl (l:List ND):sameNs l l=true:=eqL_refl _ fun x _=>sameN_refl x
theorem sameSs_refl:∀ l:List SD,eqL sameS l l=true:=by
 intro l
 refine SDs.ind (p:=fun l=>eqL sameS l l=true) (fun l ih=>?_) l
 refine eqL_refl _ fun s hs=>?_
 obtain ⟨h1,h2⟩:=ih s hs
 rw [sameS_eq,h1,h2,strEq_refl,strEq_refl,sameNs_refl,eqL_refl sameNs fun l _=>sameNs_refl l]
 simp
theorem samePr_refl (l:List PD):samePr l l=true:=eqL_refl _ fun p _=>by
 rw [sameP,strEq_refl,strEq_refl,sameSs_refl,sameTs,eqL_refl _ (fun x _=>strEq_refl x),sameTs,eqL_refl _ (fun x _=>strEq_refl x)];rfl
end Go.Proofs.Hk

set_option linter.unusedSimpArgs false
set_option linter.unusedVariables false
namespace Go.Proofs.Hk
open Go Go.Proofs
/-! Locations. -/
structure LD where
 path:List Int
 point:Int
def LInts (l:List Int):HV:=.list .no 1 (l.map ii)
def encLD' (p:List Int) (q:Int):HV:=.agg [LInts p,ii q]
def encLD (x:LD):HV:=encLD' x.path x.point
def LLDs (l:List LD):HV:=.list .no 2 (l.map encLD)
def eqI (a b:List Int):Bool:=eqL (fun x y=>x == y) a b
def sameLoc (a b:LD):Bool:=(a.point == b.point) && eqI a.path b.path
/-- The first that is so. -/
def idxL (f:LD→Bool):List LD→Nat→Int
 |[],_=>-1
 |y::l,i=>if f y then (i:Int) else idxL f l (i+1)
theorem idxL_drop (f:LD→Bool) {l:List LD} {i:Nat} (h:i < l.length):idxL f (l.drop i) i=if f l[i] then (i:Int) else idxL f (l.drop (i+1)) (i+1):=by
 rw [drop_cons h,idxL]
theorem idxL_end (f:LD→Bool) {l:List LD} {i:Nat} (h:l.length≤i):idxL f (l.drop i) i = -1:=by
 rw [drop_nil' h,idxL]
theorem getD_ld {l:List LD} {i:Nat} (h:i < l.length):(l.map encLD).getD (i:Int).toNat default=encLD' l[i].path l[i].point:=by
 simp [List.getD_eq_getElem?_getD,h,encLD]
theorem getD_int {l:List Int} {i:Nat} (h:i < l.length):(l.map ii).getD (i:Int).toNat default=ii l[i]:=by
 simp [List.getD_eq_getElem?_getD,h]
end Go.Proofs.Hk
