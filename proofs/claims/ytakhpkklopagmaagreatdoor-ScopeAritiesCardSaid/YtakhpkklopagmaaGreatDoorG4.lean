import Derived.Test.YtakhpkklopagmaaGreatDoorG1
import Derived.Test.YtakhpkklopagmaaGreatDoorL1
set_option linter.unusedVariables false
set_option linter.unusedSimpArgs false
namespace Go.Proofs.Hk
noncomputable section
open Go Go.Proofs
/-! The lexer's contract, its tokens laid open. -/
def fTok {β:Sort _} (t:Tk) (k:HV→β):β:=forceI t.kind fun a=>forceL t.text.data.toList fun b=>forceN t.pos fun p=>k (.agg [.v (.int .i64 a),.v (.string ⟨⟨b⟩⟩),.v (.int .i64 (.ofNat p))])
theorem fTok_eq {β:Sort _} (t:Tk) (k:HV→β):fTok t k=k (tokD t):=by
 rw [fTok,forceI_eq,forceL_eq,forceN_eq];rfl
def fToks {β:Sort _} : List Tk→(List HV→β)→β
 |[],k=>k []
 |t::l,k=>fTok t fun x=>fToks l fun xs=>k (x::xs)
theorem fToks_eq {β:Sort _} : ∀ (l:List Tk) (k:List HV→β),fToks l k=k (l.map tokD)
 |[],_=>rfl
 |t::l,k=>by rw [fToks,fTok_eq,fToks_eq l];rfl
def fLex (r:Except (Int × Nat) (List Tk)):Option LibR:=
 match r with
 |.ok l=>fToks l fun l=>some (.val (.tup [.list .no 3 l,ii 0,ii 0]))
 |.error e=>forceI e.1 fun c=>forceN e.2 fun p=>some (.val (.tup [.list .no 3 [],.v (.int .i64 c),.v (.int .i64 (.ofNat p))]))
theorem fLex_eq (r:Except (Int × Nat) (List Tk)):fLex r=some (.val (lexV r)):=by
 cases r with
 |ok l=>simp only [fLex,fToks_eq,lexV]
 |error e=>obtain ⟨c,p⟩:=e;simp only [fLex,forceI_eq,forceN_eq,lexV];rfl
def libLex (xs:List HV):Option LibR:=
 match xs with
 |[.v (.string s)]=>fLex (lexR s)
 |_=>none
theorem libLex_ok:LibF cx 38 libLex:=by
 intro xs
 refine ⟨fun x h=>?_,fun X Y h r=>?_⟩
 ·unfold libLex at h
  split at h
  ·rename_i s
   rw [fLex_eq] at h
   cases h
   exact (Lex_spec s).lib
  ·cases h
 ·unfold libLex at h
  split at h
  ·rw [fLex_eq] at h;cases h
  ·cases h
def libAwake (xs:List HV):Option LibR:=
 match xs with
 |[]=>some (.val (.v (.bool true)))
 |_=>none
theorem libAwake_ok:LibF cx 12 libAwake:=by
 intro xs
 refine ⟨fun x h=>?_,fun X Y h r=>?_⟩
 ·unfold libAwake at h
  split at h
  ·cases h;exact awake_pur.lib
  ·cases h
 ·unfold libAwake at h
  split at h<;>cases h
def lib1 (f:FuncId) (xs:List HV):Option LibR:=
 match Nat.beq f 38 with
 |true=>libLex xs
 |false=>match Nat.beq f 12 with
  |true=>libAwake xs
  |false=>lib0 f xs
theorem lib1_ok:LibOk cx lib1:=LibOk.ite libLex_ok (LibOk.ite libAwake_ok lib0_ok)
end
end Go.Proofs.Hk

set_option linter.unusedVariables false
set_option linter.unusedSimpArgs false
namespace Go.Proofs.Hk
open Go Go.Proofs
/-! A function whose beginning is walked, and whose rest is reckoned. -/
noncomputable def evTail (c:Cx) (lib:FuncId→List HV→Option LibR) (m:Nat) (fn:Func) (rest:Code) (a:Fr) (K d:Nat):Rs:=
 evAhead c fn (fun a s k=>evFin c fn a s k) (run c lib m (.code fn.ntmps rest a) [] 0 K d)
theorem evTail_ok {c:Cx} {lib:FuncId→List HV→Option LibR} (hlib:LibOk c lib) {m K d:Nat} {fn:Func} {rest:Code} {a:Fr} {x:HV} {s:HS} {j:Nat} (h:evTail c lib m fn rest a K d = .ret x s j):SemWp c.P fn.ntmps rest (BodyR c fn.results.toList (fun e st=>e = .ret x∧st=s ++ V j K)) a ([] ++ V 0 K):=by
 unfold evTail at h
 cases hr:run c lib m (.code fn.ntmps rest a) [] 0 K d with
 |out _ _=>rw [hr] at h;cases h
 |ret _ _ _=>rw [hr] at h;cases h
 |pan _ _ _=>rw [hr] at h;cases h
 |ok e a1 s1 k1=>
  rw [hr] at h
  obtain ⟨q1,q2,q3⟩:=(run_ok c lib hlib m).1 _ _ _ _ _ _ _ _ _ _ _ hr (Nat.zero_le _)
  cases e with
  |exit j=>cases h
  |pan v=>cases h
  |normal=>
   have h:evFin c fn a1 s1 k1 = .ret x s j:=h
   obtain ⟨e1,e2,_⟩:=evFin_ret h
   subst e1 e2
   exact q3 _ ⟨evFin_resQ (t:=V j K) h (fun e st=>e = .ret x∧st=s ++ V j K) ⟨rfl,rfl⟩⟩
  |ret=>
   have h:evFin c fn a1 s1 k1 = .ret x s j:=h
   obtain ⟨e1,e2,_⟩:=evFin_ret h
   subst e1 e2
   exact q3 _ ⟨evFin_resQ (t:=V j K) h (fun e st=>e = .ret x∧st=s ++ V j K) ⟨rfl,rfl⟩⟩
theorem cut_pur {c:Cx} {lib:FuncId→List HV→Option LibR} (hlib:LibOk c lib) {m K d:Nat} {f:FuncId} {fn:Func} {code rest:Code} {xs:List HV} {a:Fr} {x:HV} {s:HS} {j:Nat} (hf:c.P.funcs[f]? = some fn) (hb:fn.body=some code) (hn:Nat.ble xs.length fn.ntmps=true)
  (hpre:∀ Q s,SemWp c.P fn.ntmps rest Q a s→SemWp c.P fn.ntmps code Q (initFr xs 0) s) (h:evTail c lib m fn rest a K d = .ret x s j) (hxs:namelessL xs=true) (hx:nameless x=true):Pur c f xs x:=by
 have h1:=sem_calls' c hf hb hn rfl (hpre _ _ (evTail_ok hlib h))
 have h2:HCalls c.P f xs ([] ++ V 0 K) fun e st=>e = .ret x∧st=[] ++ V K K:=by
  have e:[] ++ V K K=([]:HS):=by simp [V]
  rw [e]
  exact h1.lessS (Subp.nil _)
 exact closed_calls h2 hxs hx
theorem cut_true {lib:FuncId→List HV→Option LibR} (hlib:LibOk cx lib) {m K d:Nat} {f:FuncId} {fn:Func} {code rest:Code} {xs:List HV} {a:Fr} (hf:cx.P.funcs[f]? = some fn) (hb:fn.body=some code) (hn:Nat.ble xs.length fn.ntmps=true)
  (hpre:∀ Q s,SemWp cx.P fn.ntmps rest Q a s→SemWp cx.P fn.ntmps code Q (initFr xs 0) s) (h:okR (evTail cx lib m fn rest a K d)=true) (hxs:namelessL xs=true):Pur cx f xs (.v (.bool true)):=by
 obtain ⟨s,j,e⟩:=okR_ret h
 exact cut_pur hlib hf hb hn hpre e hxs rfl
/-- A function's body, cut. -/
def bodyOf (fn:Func):Code:=fn.body.getD .skip
def hdC:Code→Code
 |.seq x _=>x
 |x=>x
def tlC:Code→Code
 |.seq _ y=>y
 |x=>x
def dropC:Nat→Code→Code
 |0,x=>x
 |n+1,x=>dropC n (tlC x)
theorem mod_cases {p:Nat→Prop} {k:Nat} (hk:0 < k) (h:∀ r,r < k→p r) (n:Nat):p (n % k):=h _ (Nat.mod_lt _ hk)
end Go.Proofs.Hk
