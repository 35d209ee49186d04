import Derived.Test.YtbbapmfmijiibaaGreatDoorN22
import Derived.Test.YtbbapmfmijiibaaGreatDoorE12
import Derived.Test.YtbbapmfmijiibaaGreatDoorCX
import Derived.WalkKit
import Derived.Lib.Walk
import Derived.Lib.SliceRun
import Derived.Lib.AppendZerosOnto
import Derived.Test.YtbbapmfmijiibaaGreatDoorL1
import Derived.Test.YtbbapmfmijiibaaGreatDoorCards
set_option linter.unusedSimpArgs false
set_option linter.unusedVariables false
set_option maxRecDepth 4000
namespace Go.Proofs.Hk
open Go Go.Proofs
theorem smA_of {a:GA} (h:bigA a=false) (hx:∀ g∈a.x,Lim g.l) (hw:∀ g∈a.w,Lim g.l) (hk:Lim a.k.l):SmA a:=by
 simp only [bigA,Bool.or_eq_false_iff,decide_eq_false_iff_not,bigI,bigL,List.any_eq_false,decide_eq_true_eq] at h
 obtain ⟨⟨⟨⟨h1,h2⟩,h3⟩,h4⟩,h5⟩:=h
 exact ⟨fun g hg=>⟨hx g hg,by have:=h4 g hg;omega⟩,fun g hg=>⟨hw g hg,by have:=h5 g hg;omega⟩,⟨hk,by omega⟩,by omega,by omega⟩
theorem smL_of {l:List GI} (h:bigL l=false) (hl:∀ g∈l,Lim g.l):∀ g∈l,Sm g:=fun g hg=>by
 simp only [bigL,bigI,List.any_eq_false,decide_eq_true_eq] at h
 exact ⟨hl g hg,by have:=h g hg;omega⟩
/-- The limbs of a structure are limbs. -/
structure LimA (a:GA):Prop where
 x:∀ g∈a.x,Lim g.l
 w:∀ g∈a.w,Lim g.l
 k:Lim a.k.l
theorem smE_of {e:GE} (h:bigE e=false) (hg:∀ a∈e.g,LimA a) (hs:∀ a∈e.s,LimA a):SmE e:=by
 simp only [bigE,Bool.or_eq_false_iff,decide_eq_false_iff_not,bigAs,List.any_eq_false] at h
 obtain ⟨⟨⟨h1,h2⟩,h3⟩,h4⟩:=h
 exact ⟨fun a ha=>smA_of (by simpa using h3 a ha) (hg a ha).x (hg a ha).w (hg a ha).k,fun a ha=>smA_of (by simpa using h4 a ha) (hs a ha).x (hs a ha).w (hs a ha).k,by omega,by omega⟩
structure LimLow (l:GLow):Prop where
 es:∀ e∈l.es,(∀ a∈e.g,LimA a)∧∀ a∈e.s,LimA a
 vs:∀ v∈l.vs,∀ a∈v.g,LimA a
theorem smLow_of {l:GLow} (h:bigLow l=false) (hl:LimLow l):SmLow l:=by
 simp only [bigLow,Bool.or_eq_false_iff,List.any_eq_false] at h
 refine ⟨fun e he=>smE_of (by simpa using h.1.2 e he) (hl.es e he).1 (hl.es e he).2,fun v hv=>?_⟩
 have hb:bigV v=false:=by simpa using h.2 v hv
 simp only [bigV,Bool.or_eq_false_iff,decide_eq_false_iff_not,bigAs,List.any_eq_false] at hb
 exact ⟨fun a ha=>smA_of (by simpa using hb.2 a ha) (hl.vs v hv a ha).x (hl.vs v hv a ha).w (hl.vs v hv a ha).k,by omega⟩
theorem LowerRights_pure (A:Pur cx 7 [] (bb true)) (l:GLow) (nl:LenLow l) (ll:LimLow l):Pur cx 3 [encLow l] (bb true):=by
 have G:=GreatLow_spec l nl
 cases hb:bigLow l with
 |true=>
  rw [hb] at G
  unfold encLow encLow' at G ⊢
  refine Pur.ofW (sem_calls' cx (fn:=Tryz.f3) rfl rfl rfl rfl ?_)
  refine wk (c1:=G) (c2:=A) ?_
  (refine ⟨?_,?_,?_,?_,?_,?_⟩<;>try exact True.intro)
 |false=>
  rw [hb] at G
  have sm:=smLow_of hb ll
  have R:=Right_spec l sm
  have S:=rRight_spec l sm
  clear sm hb
  unfold encLow encLow' at G R S ⊢
  generalize rightB l=b at *
  cases b
  all_goals
   refine Pur.ofW (sem_calls' cx (fn:=Tryz.f3) rfl rfl rfl rfl ?_)
   refine wk (c1:=G) (c2:=R) (c3:=S) (c4:=A) ?_
   (refine ⟨?_,?_,?_,?_,?_,?_⟩<;>try exact True.intro)
end Go.Proofs.Hk

set_option linter.unusedVariables false
set_option maxRecDepth 4000
set_option linter.unusedSimpArgs false
namespace Go.Proofs
open Go
theorem info9':Tryz.prog.info? 9=some Tryz.t9:=by kernel_rfl
theorem undSS:Tryz.prog.underlying 23=some (.slice 9):=by kernel_rfl
theorem und3:Tryz.prog.underlying 3=some (.int .i64):=by kernel_rfl
set_option maxHeartbeats 4000000 in
set_option maxRecDepth 100000 in
theorem grow_calls (n:Nat) (h0:0 < n) (hn:n≤1000000) (w:World):Calls Tryz.prog 201 #[.slice none 0 0,.int .i64 n] w fun e w'=>
  e = .returned (.slice (some ⟨w.heap.size,0,none⟩) 0 (grownCap w n 0 9))∧w'=w.drew.alloc (.cells (Builtin.zeroCells #[.string ⟨#[]⟩] n ++ Builtin.zeroCells #[.string ⟨#[]⟩] (grownCap w n 0 9 - n)) 9):=by
 have h1:¬ ((n:Int) < 0):=by omega
 have h4:(n:Int) > 0:=by omega
 have hbz:Tryz.t9.bytes=16:=by kernel_rfl
 have hsz:Tryz.t9.size=1:=by kernel_rfl
 have hGn:n≤grownCap w n 0 9:=grownCap_ge w _ _ _
 have hfit:¬ (281474976710656 < Builtin.nextslicecap n 0 * 16):=by
  have:=growslice_fits (need:=0+n) (old:=0) (bytes:=16) (by omega) (by omega)
  simp only [Nat.zero_add] at this
  omega
 go_enter Tryz.func201,Tryz.ntmps201
 go_wp2
 go_ret
 exact ⟨rfl,rfl⟩
set_option maxHeartbeats 4000000 in
set_option maxRecDepth 100000 in
theorem grow_calls0 (w:World):Calls Tryz.prog 201 #[.slice none 0 0,.int .i64 0] w fun e w'=>e = .returned (.slice none 0 0)∧w'=w:=by
 go_enter Tryz.func201,Tryz.ntmps201
 go_wp2
 go_ret
 exact ⟨rfl,rfl⟩
end Go.Proofs

set_option linter.unusedVariables false
set_option maxRecDepth 4000
set_option linter.unusedSimpArgs false
namespace Go.Proofs
open Go
theorem infoI':Tryz.prog.info? 51=some Tryz.t51:=by kernel_rfl
theorem undI:Tryz.prog.underlying 48=some (.slice 51):=by kernel_rfl
set_option maxHeartbeats 4000000 in
set_option maxRecDepth 100000 in
theorem grow_callsI (n:Nat) (h0:0 < n) (hn:n≤1000000) (w:World):Calls Tryz.prog 226 #[.slice none 0 0,.int .i64 n] w fun e w'=>
  e = .returned (.slice (some ⟨w.heap.size,0,none⟩) 0 (grownCap w n 0 51))∧w'=w.drew.alloc (.cells (Builtin.zeroCells #[.bool false,.slice none 0 0] n ++ Builtin.zeroCells #[.bool false,.slice none 0 0] (grownCap w n 0 51 - n)) 51):=by
 have h1:¬ ((n:Int) < 0):=by omega
 have h4:(n:Int) > 0:=by omega
 have hbz:Tryz.t51.bytes=32:=by kernel_rfl
 have hsz:Tryz.t51.size=2:=by kernel_rfl
 have hGn:n≤grownCap w n 0 51:=grownCap_ge w _ _ _
 have hfit:¬ (281474976710656 < Builtin.nextslicecap n 0 * 32):=by
  have:=growslice_fits (need:=0+n) (old:=0) (bytes:=32) (by omega) (by omega)
  simp only [Nat.zero_add] at this
  omega
 go_enter Tryz.func226,Tryz.ntmps226
 go_wp2
 go_ret
 exact ⟨rfl,rfl⟩
set_option maxHeartbeats 4000000 in
set_option maxRecDepth 100000 in
theorem grow_calls0I (w:World):Calls Tryz.prog 226 #[.slice none 0 0,.int .i64 0] w fun e w'=>e = .returned (.slice none 0 0)∧w'=w:=by
 go_enter Tryz.func226,Tryz.ntmps226
 go_wp2
 go_ret
 exact ⟨rfl,rfl⟩
theorem infoA':Tryz.prog.info? 53=some Tryz.t53:=by kernel_rfl
theorem undA:Tryz.prog.underlying 30=some (.slice 53):=by kernel_rfl
set_option maxHeartbeats 4000000 in
set_option maxRecDepth 100000 in
theorem grow_callsA (n:Nat) (h0:0 < n) (hn:n≤1000000) (w:World):Calls Tryz.prog 222 #[.slice none 0 0,.int .i64 n] w fun e w'=>
  e = .returned (.slice (some ⟨w.heap.size,0,none⟩) 0 (grownCap w n 0 53))∧w'=w.drew.alloc (.cells (Builtin.zeroCells #[.slice none 0 0,.slice none 0 0,.bool false,.slice none 0 0] n ++ Builtin.zeroCells #[.slice none 0 0,.slice none 0 0,.bool false,.slice none 0 0] (grownCap w n 0 53 - n)) 53):=by
 have h1:¬ ((n:Int) < 0):=by omega
 have h4:(n:Int) > 0:=by omega
 have hbz:Tryz.t53.bytes=80:=by kernel_rfl
 have hsz:Tryz.t53.size=4:=by kernel_rfl
 have hGn:n≤grownCap w n 0 53:=grownCap_ge w _ _ _
 have hfit:¬ (281474976710656 < Builtin.nextslicecap n 0 * 80):=by
  have:=growslice_fits (need:=0+n) (old:=0) (bytes:=80) (by omega) (by omega)
  simp only [Nat.zero_add] at this
  omega
 go_enter Tryz.func222,Tryz.ntmps222
 go_wp2
 go_ret
 exact ⟨rfl,rfl⟩
set_option maxHeartbeats 4000000 in
set_option maxRecDepth 100000 in
theorem grow_calls0A (w:World):Calls Tryz.prog 222 #[.slice none 0 0,.int .i64 0] w fun e w'=>e = .returned (.slice none 0 0)∧w'=w:=by
 go_enter Tryz.func222,Tryz.ntmps222
 go_wp2
 go_ret
 exact ⟨rfl,rfl⟩
theorem infoB':Tryz.prog.info? 4=some Tryz.t4:=by kernel_rfl
theorem undB:Tryz.prog.underlying 31=some (.slice 4):=by kernel_rfl
set_option maxHeartbeats 4000000 in
set_option maxRecDepth 100000 in
theorem grow_callsB (n:Nat) (h0:0 < n) (hn:n≤1000000) (w:World):Calls Tryz.prog 195 #[.slice none 0 0,.int .i64 n] w fun e w'=>
  e = .returned (.slice (some ⟨w.heap.size,0,none⟩) 0 (grownCap w n 0 4))∧w'=w.drew.alloc (.cells (Builtin.zeroCells #[.bool false] n ++ Builtin.zeroCells #[.bool false] (grownCap w n 0 4 - n)) 4):=by
 have h1:¬ ((n:Int) < 0):=by omega
 have h4:(n:Int) > 0:=by omega
 have hbz:Tryz.t4.bytes=1:=by kernel_rfl
 have hsz:Tryz.t4.size=1:=by kernel_rfl
 have hGn:n≤grownCap w n 0 4:=grownCap_ge w _ _ _
 have hfit:¬ (281474976710656 < Builtin.nextslicecap n 0 * 1):=by
  have:=growslice_fits (need:=0+n) (old:=0) (bytes:=1) (by omega) (by omega)
  simp only [Nat.zero_add] at this
  omega
 go_enter Tryz.func195,Tryz.ntmps195
 go_wp2
 go_ret
 exact ⟨rfl,rfl⟩
set_option maxHeartbeats 4000000 in
set_option maxRecDepth 100000 in
theorem grow_calls0B (w:World):Calls Tryz.prog 195 #[.slice none 0 0,.int .i64 0] w fun e w'=>e = .returned (.slice none 0 0)∧w'=w:=by
 go_enter Tryz.func195,Tryz.ntmps195
 go_wp2
 go_ret
 exact ⟨rfl,rfl⟩
end Go.Proofs

set_option linter.unusedVariables false
set_option maxRecDepth 4000
set_option linter.unusedSimpArgs false
namespace Go.Proofs.Hk
open Go Go.Proofs
/-- slices.Grow of nil: an empty row of one's own. -/
theorem grow_new (n:Nat) (h0:0 < n) (hn:n≤1000000) (k:IntKind) (hk:k = .i64) (r:Nat):HCalls cx.P 201 [.v (.slice none 0 0),.v (.int k (.ofNat n))] [(r,.void)] fun e st=>e = .ret (.list (.own r 0) 1 [])∧st=[(r,.tok 0)]:=by
 subst hk
 refine ⟨fun G w vs hs ha=>?_⟩
 have hvs:vs = #[.slice none 0 0,.int .i64 n]:=by
  simp only [relVs_cons,relVs] at ha
  obtain ⟨u1,l1,e1,h1,u2,l2,e2,h2,e3⟩:=ha
  have a1:=rel_v_eq h1
  have a2:=rel_v_eq h2
  subst a1 a2 e3 e2
  rw [←Array.toArray_toList (xs:=vs),e1]
  rfl
 subst hvs
 obtain ⟨a0,a1,a2,a3⟩:=hs.holds r .void List.mem_cons_self
 refine (grow_calls n h0 hn w).mono fun e w' ⟨he,hw⟩=>?_
 subst he hw
 have post:=post_grown (w':=w.drew) (t:=9) (r:=r) (n:=0) (e:=0) (ce:=grownCap w n 0 9) (lim:=G.lim) (vs:=Builtin.zeroCells #[.string ⟨#[]⟩] n ++ Builtin.zeroCells #[.string ⟨#[]⟩] (grownCap w n 0 9 - n)) hs rfl rfl rfl rfl (s':=[(r,.tok 0)])
  (.inr ⟨by simp [keys],rfl,(hset_head _ _ _ _).symm,fun tp e=>by rw [a2] at e;cases e⟩) (by
   have:=grownCap_ge w n 0 9
   simp only [Array.size_append,zeroCells_size]
   simp
   omega)
 refine ⟨.ret (.list (.own r 0) 1 []),[(r,.tok 0)],_,⟨rfl,rfl⟩,?_,post⟩
 refine list_rel (by simp) (by simp only [relAts]) ?_
 exact ⟨⟨0,w.heap.size,0,_⟩,by simp only [Ghost.grown,if_true];rfl,by simp,fun _=>.inl ⟨rfl,by simp,by simp⟩⟩
theorem grow_nil:HCalls cx.P 201 [.v (.slice none 0 0),.v (.int .i64 0)] [] fun e st=>e = .ret (.v (.slice none 0 0))∧st=[]:=by
 refine ⟨fun G w vs hs ha=>?_⟩
 have hvs:vs = #[.slice none 0 0,.int .i64 0]:=by
  simp only [relVs_cons,relVs] at ha
  obtain ⟨u1,l1,e1,h1,u2,l2,e2,h2,e3⟩:=ha
  have a1:=rel_v_eq h1
  have a2:=rel_v_eq h2
  subst a1 a2 e3 e2
  rw [←Array.toArray_toList (xs:=vs),e1]
 subst hvs
 refine (grow_calls0 w).mono fun e w' ⟨he,hw⟩=>?_
 subst he hw
 exact ⟨_,[],G,⟨rfl,rfl⟩,rel_v G,.refl hs⟩
def isI64:IntKind→Bool
 |.i64=>true
 |_=>false
def libGrow (xs:List HV):Option LibR:=
 match xs with
 |[.v (.slice none 0 0),.v (.int k (.ofNat n))]=>match isI64 k && Nat.ble 1 n && Nat.ble n 1000000 with
  |true=>some (.new (fun r=>.list (.own r 0) 1 []) (fun _=>.tok 0))
  |false=>match isI64 k && Nat.beq n 0 with
   |true=>some (.val (.v (.slice none 0 0)))
   |false=>none
 |_=>none
noncomputable section
def cxR:Cx:={ cx with rowsZ:=fun t=>Nat.beq t 72||Nat.beq t 87}
theorem Pur.lib {c:Cx} {f:FuncId} {xs:List HV} {x:HV} (h:Pur c f xs x):HCalls c.P f xs [] fun e st=>e = .ret x∧st=[]:=h.calls []
theorem isI64_eq {k:IntKind} (h:isI64 k=true):k = .i64:=by cases k<;>first|rfl|cases h
/-- One function's contracts. -/
def LibF (c:Cx) (f:FuncId) (q:List HV→Option LibR):Prop:=
 ∀ xs,(∀ x,q xs=some (.val x)→HCalls c.P f xs [] fun e st=>e = .ret x∧st=[])∧
  (∀ X Y,q xs=some (.new X Y)→∀ r,HCalls c.P f xs [(r,.void)] fun e st=>e = .ret (X r)∧st=[(r,Y r)])∧
  (∀ r k,q xs=some (.look r k)→∀ y x,k y=some x→HCalls c.P f xs [(r,y)] fun e st=>e = .ret x∧st=[(r,y)])∧
  (∀ r k,q xs=some (.turn r k)→∀ y z,k y=some z→HCalls c.P f xs [(r,y)] fun e st=>e = .ret (.tup [])∧st=[(r,z)])∧
  (∀ g,q xs=some (.st g)→∀ s x s',g s=some (x,s')→HCalls c.P f xs s fun e st=>e = .ret x∧st=s')
theorem libGrow_ok:LibF cx 201 libGrow:=by
 intro xs
 refine ⟨fun x h=>?_,fun X Y h r=>?_,fun r k h=>?_,fun r k h=>?_,fun g h=>?_⟩
 ·unfold libGrow at h
  split at h
  ·rename_i k n
   split at h
   ·cases h
   ·split at h
    ·rename_i hc
     simp only [Bool.and_eq_true] at hc
     have h1:=isI64_eq hc.1
     have h2:=Nat.eq_of_beq_eq_true hc.2
     subst h1 h2
     cases h
     exact grow_nil
    ·cases h
  ·cases h
 ·unfold libGrow at h
  split at h
  ·rename_i k n
   split at h
   ·rename_i hc
    simp only [Bool.and_eq_true] at hc
    cases h
    exact grow_new n (Nat.le_of_ble_eq_true hc.1.2) (Nat.le_of_ble_eq_true hc.2) k (isI64_eq hc.1.1) r
   ·split at h<;>cases h
  ·cases h
 all_goals
  unfold libGrow at h
  split at h
  ·split at h
   ·cases h
   ·split at h<;>cases h
  ·cases h
theorem LibOk.ite {c:Cx} {g:FuncId} {q:List HV→Option LibR} {lib:FuncId→List HV→Option LibR} (h1:LibF c g q) (h2:LibOk c lib):LibOk c (fun f xs=>match Nat.beq f g with|true=>q xs|false=>lib f xs):=by
 intro f xs
 simp only
 cases h:Nat.beq f g with
 |true=>have:=Nat.eq_of_beq_eq_true h;subst this;exact h1 xs
 |false=>exact h2 f xs
theorem LibOk.none (c:Cx):LibOk c (fun _ _=>none):=fun f xs=>⟨fun x h=>(by cases h),fun X Y h=>(by cases h),fun _ _ h=>(by cases h),fun _ _ h=>(by cases h),fun _ h=>(by cases h)⟩
def lib0 (f:FuncId) (xs:List HV):Option LibR:=
 match Nat.beq f 201 with
 |true=>libGrow xs
 |false=>none
theorem lib0_ok:LibOk cx lib0:=LibOk.ite libGrow_ok (LibOk.none cx)
theorem lib0_okR:LibOk cxR lib0:=lib0_ok
/-- The answer is true. -/
def okRs:Rs→Bool
 |.ret (.v (.bool true)) _ _=>true
 |_=>false
theorem okRs_ret {r:Rs} (h:okRs r=true):∃ s j,r = .ret (.v (.bool true)) s j:=by
 unfold okRs at h
 split at h
 ·exact ⟨_,_,rfl⟩
 ·cases h
theorem run_true {c:Cx} {lib:FuncId→List HV→Option LibR} (hlib:LibOk c lib) {m K d:Nat} {f:FuncId} {xs:List HV} (h:okRs (run c lib m (.call f xs) [] 0 K d)=true) (hxs:namelessL xs=true):Pur c f xs (.v (.bool true)):=by
 obtain ⟨s,j,e⟩:=okRs_ret h
 exact run_pur hlib m K d e hxs rfl
abbrev KK:Nat:=2 ^ (24 * 31)
def aw15:Rs:=run cxR lib0 100000 (.call 7 []) [] 0 KK 30
end
end Go.Proofs.Hk

set_option linter.unusedVariables false
set_option maxRecDepth 4000
set_option linter.unusedSimpArgs false
namespace Go.Proofs.Hk
open Go Go.Proofs
noncomputable section
def libGrowS (sz:Nat) (xs:List HV):Option LibR:=
 match xs with
 |[.v (.slice none 0 0),.v (.int k (.ofNat n))]=>match isI64 k && Nat.ble 1 n && Nat.ble n 1000000 with
  |true=>some (.new (fun r=>.list (.own r 0) sz []) (fun _=>.tok 0))
  |false=>match isI64 k && Nat.beq n 0 with
   |true=>some (.val (.v (.slice none 0 0)))
   |false=>none
 |_=>none
theorem libGrowS_ok {c:Cx} {f:FuncId} (sz:Nat) (hnew:∀ (n:Nat),0 < n→n≤1000000→∀ r,HCalls c.P f [.v (.slice none 0 0),.v (.int .i64 (.ofNat n))] [(r,.void)] fun e st=>e = .ret (.list (.own r 0) sz [])∧st=[(r,.tok 0)])
  (hnil:HCalls c.P f [.v (.slice none 0 0),.v (.int .i64 0)] [] fun e st=>e = .ret (.v (.slice none 0 0))∧st=[]):LibF c f (libGrowS sz):=by
 intro xs
 refine ⟨fun x h=>?_,fun X Y h r=>?_,fun r k h=>?_,fun r k h=>?_,fun g h=>?_⟩
 ·unfold libGrowS at h
  split at h
  ·rename_i k n
   split at h
   ·cases h
   ·split at h
    ·rename_i hc
     simp only [Bool.and_eq_true] at hc
     have h1:=isI64_eq hc.1
     have h2:=Nat.eq_of_beq_eq_true hc.2
     subst h1 h2
     cases h
     exact hnil
    ·cases h
  ·cases h
 ·unfold libGrowS at h
  split at h
  ·rename_i k n
   split at h
   ·rename_i hc
    simp only [Bool.and_eq_true] at hc
    have h1:=isI64_eq hc.1.1
    subst h1
    cases h
    exact hnew n (Nat.le_of_ble_eq_true hc.1.2) (Nat.le_of_ble_eq_true hc.2) r
   ·split at h<;>cases h
  ·cases h
 all_goals
  unfold libGrowS at h
  split at h
  ·split at h
   ·cases h
   ·split at h<;>cases h
  ·cases h
theorem grow_newI (n:Nat) (h0:0 < n) (hn:n≤1000000) (r:Nat):HCalls cx.P 226 [.v (.slice none 0 0),.v (.int .i64 (.ofNat n))] [(r,.void)] fun e st=>e = .ret (.list (.own r 0) 2 [])∧st=[(r,.tok 0)]:=by
 refine ⟨fun G w vs hs ha=>?_⟩
 have hvs:vs = #[.slice none 0 0,.int .i64 n]:=by
  simp only [relVs_cons,relVs] at ha
  obtain ⟨u1,l1,e1,h1,u2,l2,e2,h2,e3⟩:=ha
  have a1:=rel_v_eq h1
  have a2:=rel_v_eq h2
  subst a1 a2 e3 e2
  rw [←Array.toArray_toList (xs:=vs),e1]
  rfl
 subst hvs
 obtain ⟨a0,a1,a2,a3⟩:=hs.holds r .void List.mem_cons_self
 refine (grow_callsI n h0 hn w).mono fun e w' ⟨he,hw⟩=>?_
 subst he hw
 have hG:=grownCap_ge w n 0 51
 have post:=post_grown (w':=w.drew) (t:=51) (r:=r) (n:=0) (e:=0) (ce:=grownCap w n 0 51 * 2) (lim:=G.lim) (vs:=Builtin.zeroCells #[.bool false,.slice none 0 0] n ++ Builtin.zeroCells #[.bool false,.slice none 0 0] (grownCap w n 0 51 - n)) hs rfl rfl rfl rfl (s':=[(r,.tok 0)])
  (.inr ⟨by simp [keys],rfl,(hset_head _ _ _ _).symm,fun tp e=>by rw [a2] at e;cases e⟩) (by
   simp only [Array.size_append,zeroCells_size]
   simp
   omega)
 refine ⟨.ret (.list (.own r 0) 2 []),[(r,.tok 0)],_,⟨rfl,rfl⟩,?_,post⟩
 refine list_rel (by simp) (by simp only [relAts]) ?_
 exact ⟨⟨0,w.heap.size,0,_⟩,by simp only [Ghost.grown,if_true];rfl,by simp,fun _=>.inl ⟨rfl,by simp,by simp⟩⟩
theorem grow_nilI:HCalls cx.P 226 [.v (.slice none 0 0),.v (.int .i64 0)] [] fun e st=>e = .ret (.v (.slice none 0 0))∧st=[]:=by
 refine ⟨fun G w vs hs ha=>?_⟩
 have hvs:vs = #[.slice none 0 0,.int .i64 0]:=by
  simp only [relVs_cons,relVs] at ha
  obtain ⟨u1,l1,e1,h1,u2,l2,e2,h2,e3⟩:=ha
  have a1:=rel_v_eq h1
  have a2:=rel_v_eq h2
  subst a1 a2 e3 e2
  rw [←Array.toArray_toList (xs:=vs),e1]
 subst hvs
 refine (grow_calls0I w).mono fun e w' ⟨he,hw⟩=>?_
 subst he hw
 exact ⟨_,[],G,⟨rfl,rfl⟩,rel_v G,.refl hs⟩
theorem grow_newA (n:Nat) (h0:0 < n) (hn:n≤1000000) (r:Nat):HCalls cx.P 222 [.v (.slice none 0 0),.v (.int .i64 (.ofNat n))] [(r,.void)] fun e st=>e = .ret (.list (.own r 0) 4 [])∧st=[(r,.tok 0)]:=by
 refine ⟨fun G w vs hs ha=>?_⟩
 have hvs:vs = #[.slice none 0 0,.int .i64 n]:=by
  simp only [relVs_cons,relVs] at ha
  obtain ⟨u1,l1,e1,h1,u2,l2,e2,h2,e3⟩:=ha
  have a1:=rel_v_eq h1
  have a2:=rel_v_eq h2
  subst a1 a2 e3 e2
  rw [←Array.toArray_toList (xs:=vs),e1]
  rfl
 subst hvs
 obtain ⟨a0,a1,a2,a3⟩:=hs.holds r .void List.mem_cons_self
 refine (grow_callsA n h0 hn w).mono fun e w' ⟨he,hw⟩=>?_
 subst he hw
 have hG:=grownCap_ge w n 0 53
 have post:=post_grown (w':=w.drew) (t:=53) (r:=r) (n:=0) (e:=0) (ce:=grownCap w n 0 53 * 4) (lim:=G.lim) (vs:=Builtin.zeroCells #[.slice none 0 0,.slice none 0 0,.bool false,.slice none 0 0] n ++ Builtin.zeroCells #[.slice none 0 0,.slice none 0 0,.bool false,.slice none 0 0] (grownCap w n 0 53 - n)) hs rfl rfl rfl rfl (s':=[(r,.tok 0)])
  (.inr ⟨by simp [keys],rfl,(hset_head _ _ _ _).symm,fun tp e=>by rw [a2] at e;cases e⟩) (by
   simp only [Array.size_append,zeroCells_size]
   simp
   omega)
 refine ⟨.ret (.list (.own r 0) 4 []),[(r,.tok 0)],_,⟨rfl,rfl⟩,?_,post⟩
 refine list_rel (by simp) (by simp only [relAts]) ?_
 exact ⟨⟨0,w.heap.size,0,_⟩,by simp only [Ghost.grown,if_true];rfl,by simp,fun _=>.inl ⟨rfl,by simp,by simp⟩⟩
theorem grow_nilA:HCalls cx.P 222 [.v (.slice none 0 0),.v (.int .i64 0)] [] fun e st=>e = .ret (.v (.slice none 0 0))∧st=[]:=by
 refine ⟨fun G w vs hs ha=>?_⟩
 have hvs:vs = #[.slice none 0 0,.int .i64 0]:=by
  simp only [relVs_cons,relVs] at ha
  obtain ⟨u1,l1,e1,h1,u2,l2,e2,h2,e3⟩:=ha
  have a1:=rel_v_eq h1
  have a2:=rel_v_eq h2
  subst a1 a2 e3 e2
  rw [←Array.toArray_toList (xs:=vs),e1]
 subst hvs
 refine (grow_calls0A w).mono fun e w' ⟨he,hw⟩=>?_
 subst he hw
 exact ⟨_,[],G,⟨rfl,rfl⟩,rel_v G,.refl hs⟩
theorem grow_newB (n:Nat) (h0:0 < n) (hn:n≤1000000) (r:Nat):HCalls cx.P 195 [.v (.slice none 0 0),.v (.int .i64 (.ofNat n))] [(r,.void)] fun e st=>e = .ret (.list (.own r 0) 1 [])∧st=[(r,.tok 0)]:=by
 refine ⟨fun G w vs hs ha=>?_⟩
 have hvs:vs = #[.slice none 0 0,.int .i64 n]:=by
  simp only [relVs_cons,relVs] at ha
  obtain ⟨u1,l1,e1,h1,u2,l2,e2,h2,e3⟩:=ha
  have a1:=rel_v_eq h1
  have a2:=rel_v_eq h2
  subst a1 a2 e3 e2
  rw [←Array.toArray_toList (xs:=vs),e1]
  rfl
 subst hvs
 obtain ⟨a0,a1,a2,a3⟩:=hs.holds r .void List.mem_cons_self
 refine (grow_callsB n h0 hn w).mono fun e w' ⟨he,hw⟩=>?_
 subst he hw
 have hG:=grownCap_ge w n 0 4
 have post:=post_grown (w':=w.drew) (t:=4) (r:=r) (n:=0) (e:=0) (ce:=grownCap w n 0 4 * 1) (lim:=G.lim) (vs:=Builtin.zeroCells #[.bool false] n ++ Builtin.zeroCells #[.bool false] (grownCap w n 0 4 - n)) hs rfl rfl rfl rfl (s':=[(r,.tok 0)])
  (.inr ⟨by simp [keys],rfl,(hset_head _ _ _ _).symm,fun tp e=>by rw [a2] at e;cases e⟩) (by
   simp only [Array.size_append,zeroCells_size]
   simp
   omega)
 refine ⟨.ret (.list (.own r 0) 1 []),[(r,.tok 0)],_,⟨rfl,rfl⟩,?_,post⟩
 refine list_rel (by simp) (by simp only [relAts]) ?_
 exact ⟨⟨0,w.heap.size,0,_⟩,by simp only [Ghost.grown,if_true];rfl,by simp,fun _=>.inl ⟨rfl,by simp,by simp⟩⟩
theorem grow_nilB:HCalls cx.P 195 [.v (.slice none 0 0),.v (.int .i64 0)] [] fun e st=>e = .ret (.v (.slice none 0 0))∧st=[]:=by
 refine ⟨fun G w vs hs ha=>?_⟩
 have hvs:vs = #[.slice none 0 0,.int .i64 0]:=by
  simp only [relVs_cons,relVs] at ha
  obtain ⟨u1,l1,e1,h1,u2,l2,e2,h2,e3⟩:=ha
  have a1:=rel_v_eq h1
  have a2:=rel_v_eq h2
  subst a1 a2 e3 e2
  rw [←Array.toArray_toList (xs:=vs),e1]
 subst hvs
 refine (grow_calls0B w).mono fun e w' ⟨he,hw⟩=>?_
 subst he hw
 exact ⟨_,[],G,⟨rfl,rfl⟩,rel_v G,.refl hs⟩
def libI (f:FuncId) (xs:List HV):Option LibR:=
 match Nat.beq f 226 with
 |true=>libGrowS 2 xs
 |false=>lib0 f xs
theorem libI_ok:LibOk cx libI:=LibOk.ite (libGrowS_ok 2 grow_newI grow_nilI) lib0_ok
def libA (f:FuncId) (xs:List HV):Option LibR:=
 match Nat.beq f 222 with
 |true=>libGrowS 4 xs
 |false=>libI f xs
theorem libA_ok:LibOk cx libA:=LibOk.ite (libGrowS_ok 4 grow_newA grow_nilA) libI_ok
def libB (f:FuncId) (xs:List HV):Option LibR:=
 match Nat.beq f 195 with
 |true=>libGrowS 1 xs
 |false=>libA f xs
theorem libB_ok:LibOk cx libB:=LibOk.ite (libGrowS_ok 1 grow_newB grow_nilB) libA_ok
def lib2:FuncId→List HV→Option LibR:=libB
theorem lib2_okR:LibOk cxR lib2:=libB_ok
end
end Go.Proofs.Hk

set_option linter.unusedVariables false
set_option linter.unusedSimpArgs false
set_option maxRecDepth 4000
namespace Go.Proofs.Hk
open Go Go.Proofs
noncomputable section
/-- parse.Prog. -/
def p15_v:HV:=.tup [.agg [.list .no 5 [.agg [.v (.string ⟨#[109]⟩),.v (.slice none 0 0),.v (.string ⟨#[120]⟩),.v (.slice none 0 0),.list .no 7 [.agg [.v (.int .i64 1),.v (.string ⟨#[120]⟩),.v (.string ⟨#[]⟩),.list .no 5 [.agg [.v (.int .i64 2),.v (.int .i64 0),.v (.string ⟨#[120]⟩),.v (.int .i64 (-1)),.v (.int .i64 (-1))],.agg [.v (.int .i64 1),.v (.int .i64 1),.v (.string ⟨#[]⟩),.v (.int .i64 (-1)),.v (.int .i64 (-1))],.agg [.v (.int .i64 4),.v (.int .i64 0),.v (.string ⟨#[]⟩),.v (.int .i64 0),.v (.int .i64 1)]],.v (.slice none 0 0),.v (.slice none 0 0),.v (.slice none 0 0)]]]]],.v (.int .i64 0),.v (.int .i64 0)]
theorem p15_r:Pur cxR 13 [.v (.string ⟨#[112,114,111,99,32,109,32,40,32,41,32,45,62,32,120,32,123,32,120,32,61,32,120,32,43,32,49,32,59,32,125]⟩)] p15_v:=run_at lib2_okR (m:=100000) (K:=KK) (d:=30) (by kernel_rfl) rfl rfl
def p15_l:FuncId→List HV→Option LibR:=libAdd 13 [.v (.string ⟨#[112,114,111,99,32,109,32,40,32,41,32,45,62,32,120,32,123,32,120,32,61,32,120,32,43,32,49,32,59,32,125]⟩)] p15_v lib2
theorem p15_k:LibOk cxR p15_l:=libAdd_ok p15_r lib2_okR
/-- place.Places. -/
def pl15_v:HV:=.tup [.list .no 2 [.agg [.v (.slice none 0 0),.v (.int .i64 0)],.agg [.v (.slice none 0 0),.v (.int .i64 1)]],.list .no 1 [.v (.string ⟨#[120]⟩)],.v (.int .i64 0)]
theorem pl15_r:Pur cxR 31 [.agg [.list .no 5 [.agg [.v (.string ⟨#[109]⟩),.v (.slice none 0 0),.v (.string ⟨#[120]⟩),.v (.slice none 0 0),.list .no 7 [.agg [.v (.int .i64 1),.v (.string ⟨#[120]⟩),.v (.string ⟨#[]⟩),.list .no 5 [.agg [.v (.int .i64 2),.v (.int .i64 0),.v (.string ⟨#[120]⟩),.v (.int .i64 (-1)),.v (.int .i64 (-1))],.agg [.v (.int .i64 1),.v (.int .i64 1),.v (.string ⟨#[]⟩),.v (.int .i64 (-1)),.v (.int .i64 (-1))],.agg [.v (.int .i64 4),.v (.int .i64 0),.v (.string ⟨#[]⟩),.v (.int .i64 0),.v (.int .i64 1)]],.v (.slice none 0 0),.v (.slice none 0 0),.v (.slice none 0 0)]]]]]] pl15_v:=run_at p15_k (m:=100000) (K:=KK) (d:=30) (by kernel_rfl) rfl rfl
def pl15_l:FuncId→List HV→Option LibR:=libAdd 31 [.agg [.list .no 5 [.agg [.v (.string ⟨#[109]⟩),.v (.slice none 0 0),.v (.string ⟨#[120]⟩),.v (.slice none 0 0),.list .no 7 [.agg [.v (.int .i64 1),.v (.string ⟨#[120]⟩),.v (.string ⟨#[]⟩),.list .no 5 [.agg [.v (.int .i64 2),.v (.int .i64 0),.v (.string ⟨#[120]⟩),.v (.int .i64 (-1)),.v (.int .i64 (-1))],.agg [.v (.int .i64 1),.v (.int .i64 1),.v (.string ⟨#[]⟩),.v (.int .i64 (-1)),.v (.int .i64 (-1))],.agg [.v (.int .i64 4),.v (.int .i64 0),.v (.string ⟨#[]⟩),.v (.int .i64 0),.v (.int .i64 1)]],.v (.slice none 0 0),.v (.slice none 0 0),.v (.slice none 0 0)]]]]]] pl15_v p15_l
theorem pl15_k:LibOk cxR pl15_l:=libAdd_ok pl15_r p15_k
/-- lower.Low. -/
def lo15_v:HV:=.tup [.agg [.list .no 2 [.agg [.v (.slice none 0 0),.v (.int .i64 0)],.agg [.v (.slice none 0 0),.v (.int .i64 1)]],.list .no 1 [.v (.string ⟨#[120]⟩)],.list .no 6 [.agg [.v (.int .i64 0),.v (.int .i64 1),.v (.int .i64 0),.v (.slice none 0 0),.list .no 4 [.agg [.list .no 2 [.agg [.v (.bool false),.list .no 1 [.v (.int .u32 1)]]],.v (.slice none 0 0),.v (.bool false),.list .no 1 [.v (.int .u32 1)]]],.v (.slice none 0 0)]],.v (.slice none 0 0)],.v (.int .i64 0)]
theorem lo15_r:Pur cxR 14 [.agg [.list .no 5 [.agg [.v (.string ⟨#[109]⟩),.v (.slice none 0 0),.v (.string ⟨#[120]⟩),.v (.slice none 0 0),.list .no 7 [.agg [.v (.int .i64 1),.v (.string ⟨#[120]⟩),.v (.string ⟨#[]⟩),.list .no 5 [.agg [.v (.int .i64 2),.v (.int .i64 0),.v (.string ⟨#[120]⟩),.v (.int .i64 (-1)),.v (.int .i64 (-1))],.agg [.v (.int .i64 1),.v (.int .i64 1),.v (.string ⟨#[]⟩),.v (.int .i64 (-1)),.v (.int .i64 (-1))],.agg [.v (.int .i64 4),.v (.int .i64 0),.v (.string ⟨#[]⟩),.v (.int .i64 0),.v (.int .i64 1)]],.v (.slice none 0 0),.v (.slice none 0 0),.v (.slice none 0 0)]]]]]] lo15_v:=run_at pl15_k (m:=100000) (K:=KK) (d:=30) (by kernel_rfl) rfl rfl
def lo15_l:FuncId→List HV→Option LibR:=libAdd 14 [.agg [.list .no 5 [.agg [.v (.string ⟨#[109]⟩),.v (.slice none 0 0),.v (.string ⟨#[120]⟩),.v (.slice none 0 0),.list .no 7 [.agg [.v (.int .i64 1),.v (.string ⟨#[120]⟩),.v (.string ⟨#[]⟩),.list .no 5 [.agg [.v (.int .i64 2),.v (.int .i64 0),.v (.string ⟨#[120]⟩),.v (.int .i64 (-1)),.v (.int .i64 (-1))],.agg [.v (.int .i64 1),.v (.int .i64 1),.v (.string ⟨#[]⟩),.v (.int .i64 (-1)),.v (.int .i64 (-1))],.agg [.v (.int .i64 4),.v (.int .i64 0),.v (.string ⟨#[]⟩),.v (.int .i64 0),.v (.int .i64 1)]],.v (.slice none 0 0),.v (.slice none 0 0),.v (.slice none 0 0)]]]]]] lo15_v pl15_l
theorem lo15_k:LibOk cxR lo15_l:=libAdd_ok lo15_r pl15_k
/-- escarpmentlaw15.awake. -/
def aw15_v:HV:=.v (.bool true)
theorem aw15_r:Pur cxR 7 [] aw15_v:=run_at lo15_k (m:=100000) (K:=KK) (d:=30) (by kernel_rfl) rfl rfl
def aw15_l:FuncId→List HV→Option LibR:=libAdd 7 [] aw15_v lo15_l
theorem aw15_k:LibOk cxR aw15_l:=libAdd_ok aw15_r lo15_k
end
end Go.Proofs.Hk

set_option linter.unusedSimpArgs false
set_option linter.unusedVariables false
set_option maxRecDepth 4000
namespace Go.Proofs.YtbbapmfmijiibaaGreatDoor
open Go Go.Proofs.Hk Go.RowKit Go.WideShapes Go.ChangeShapes
theorem Tryz.cells4:Tryz.prog.cellsOf 4=1:=by kernel_rfl
theorem Tryz.cells3:Tryz.prog.cellsOf 3=1:=by kernel_rfl
theorem Tryz.cells106:Tryz.prog.cellsOf 106=1:=by kernel_rfl
theorem Tryz.cells49:Tryz.prog.cellsOf 49=1:=by kernel_rfl
theorem Tryz.cells51:Tryz.prog.cellsOf 51=2:=by kernel_rfl
theorem Tryz.cells48:Tryz.prog.cellsOf 48=1:=by kernel_rfl
theorem Tryz.cells53:Tryz.prog.cellsOf 53=4:=by kernel_rfl
theorem Tryz.cells30:Tryz.prog.cellsOf 30=1:=by kernel_rfl
theorem Tryz.cells31:Tryz.prog.cellsOf 31=1:=by kernel_rfl
theorem Tryz.cells33:Tryz.prog.cellsOf 33=6:=by kernel_rfl
theorem Tryz.cells9:Tryz.prog.cellsOf 9=1:=by kernel_rfl
theorem Tryz.cells85:Tryz.prog.cellsOf 85=1:=by kernel_rfl
theorem Tryz.cells132:Tryz.prog.cellsOf 132=2:=by kernel_rfl
theorem Tryz.cells36:Tryz.prog.cellsOf 36=4:=by kernel_rfl
theorem Tryz.cells27:Tryz.prog.cellsOf 27=4:=by kernel_rfl
theorem Tryz.cells24:Tryz.prog.cellsOf 24=1:=by kernel_rfl
theorem Tryz.cells22:Tryz.prog.cellsOf 22=1:=by kernel_rfl
theorem Tryz.cells23:Tryz.prog.cellsOf 23=1:=by kernel_rfl
theorem Tryz.cells25:Tryz.prog.cellsOf 25=1:=by kernel_rfl
section
variable {H:Type} {enc:TypeId × Value→H} {w:World}
theorem len2 {α:Type} {l:List α} (h:l.length=2):∃ a b,l=[a,b]:=by
 match l,h with
 |[a,b],_=>exact ⟨a,b,rfl⟩
theorem len4 {α:Type} {l:List α} (h:l.length=4):∃ a b c d,l=[a,b,c,d]:=by
 match l,h with
 |[a,b,c,d],_=>exact ⟨a,b,c,d,rfl⟩
theorem len6 {α:Type} {l:List α} (h:l.length=6):∃ a b c d e f,l=[a,b,c,d,e,f]:=by
 match l,h with
 |[a,b,c,d,e,f],_=>exact ⟨a,b,c,d,e,f,rfl⟩
theorem maxLen_le:maxLen≤9223372036854775807:=by decide
/-- A number of the program. -/
structure LenI (g:GI):Prop where
 lim:Lim g.l
 len:g.l.length≤9223372036854775807
theorem u32_wf {n:Int} (h:(Lit.int .u32 n).wf=true):0≤n∧n < 4294967296:=by
 have h1:IntKind.u32.min≤n∧n≤IntKind.u32.max:=by simpa [Lit.wf] using h
 have e1:IntKind.u32.min=0:=by decide +kernel
 have e2:IntKind.u32.max=4294967295:=by decide +kernel
 omega
theorem opInt:Opens enc Tryz.prog w 51 GI encI LenI:=by
 refine ⟨fun _=>by simp [HV.kd,encI,encP],fun fuel cs d h=>?_⟩
 obtain ⟨hl,⟨f0,y0,h0⟩,⟨f1,y1,h1⟩,_⟩:=struct_of Tryz.underlying51 h
 rw [Tryz.cells51] at hl
 obtain ⟨c0,c1,rfl⟩:=len2 hl
 simp only [Tryz.cells4,Tryz.cells49] at h0 h1
 obtain ⟨n,_,r0⟩:=(opens_bool Tryz.underlying4).2 _ _ _ h0
 obtain ⟨l,⟨q1,q2⟩,r1⟩:=(opens_slice Tryz.underlying49 Tryz.cells106 (by decide) (opens_int Tryz.underlying106)).2 _ _ _ h1
 have hu:∀ x∈l,0≤x∧x < 4294967296:=fun x hx=>u32_wf (q1 x hx)
 have e:(l.map Int.toNat).map u32=l.map fun n=>HV.v (.int .u32 n):=by
  rw [List.map_map]
  refine List.map_congr_left fun x hx=>?_
  have:=(hu x hx).1
  simp only [Function.comp,u32]
  rw [Int.toNat_of_nonneg this]
 refine ⟨⟨n,l.map Int.toNat⟩,⟨?_,by rw [List.length_map];exact Nat.le_trans q2 maxLen_le⟩,?_⟩
 ·intro x hx
  obtain ⟨y,hy,rfl⟩:=List.mem_map.1 hx
  have:=hu y hy
  show y.toNat < B
  simp only [B]
  omega
 ·simp only [encI,encP,LL,relC,relCs,e]
  exact ⟨c0,[c1],rfl,⟨rfl,by simpa [bb,relC] using r0⟩,c1,[],rfl,⟨rfl,by simpa [relC] using r1⟩,rfl⟩
theorem opInts:Opens enc Tryz.prog w 48 (List GI) LIs (fun l=>(∀ g∈l,LenI g)∧l.length≤maxLen):=opens_slice Tryz.underlying48 Tryz.cells51 (by decide) opInt
structure LenAf (a:GA):Prop where
 x:∀ g∈a.x,LenI g
 w:∀ g∈a.w,LenI g
 k:LenI a.k
 lx:a.x.length≤maxLen
 lw:a.w.length≤maxLen
theorem opAff:Opens enc Tryz.prog w 53 GA encA LenAf:=by
 refine ⟨fun _=>by simp [HV.kd,encA,encA'],fun fuel cs d h=>?_⟩
 obtain ⟨hl,⟨f0,y0,h0⟩,⟨f1,y1,h1⟩,⟨f2,y2,h2⟩,_⟩:=struct_of Tryz.underlying53 h
 rw [Tryz.cells53] at hl
 obtain ⟨c0,c1,c2,c3,rfl⟩:=len4 hl
 simp only [Tryz.cells48,Tryz.cells51] at h0 h1 h2
 obtain ⟨x,q0,r0⟩:=opInts.2 _ _ _ h0
 obtain ⟨w,q1,r1⟩:=opInts.2 _ _ _ h1
 obtain ⟨k,q2,r2⟩:=opInt.2 _ _ _ h2
 refine ⟨⟨x,w,k⟩,⟨q0.1,q1.1,q2,q0.2,q1.2⟩,?_⟩
 simp only [encI,encP,relC] at r2
 simp only [encA,encA',relC,relCs]
 exact ⟨c0,_,rfl,⟨rfl,by simpa using r0⟩,c1,_,rfl,⟨rfl,by simpa using r1⟩,by simpa [relCs] using r2⟩
theorem opAffs:Opens enc Tryz.prog w 30 (List GA) LAs (fun l=>(∀ g∈l,LenAf g)∧l.length≤maxLen):=opens_slice Tryz.underlying30 Tryz.cells53 (by decide) opAff
theorem opBools:Opens enc Tryz.prog w 31 (List Bool) LBs (fun l=>l.length≤maxLen):=
 ⟨fun _=>by simp [HV.kd,LBs],fun f cs d h=>by
  obtain ⟨l,q,r⟩:=(opens_slice Tryz.underlying31 Tryz.cells4 (by decide) (opens_bool Tryz.underlying4)).2 f cs d h
  exact ⟨l,q.2,r⟩⟩
structure LenEd (e:GE):Prop where
 g:∀ a∈e.g,LenAf a
 s:∀ a∈e.s,LenAf a
 lg:e.g.length≤maxLen
 ls:e.s.length≤maxLen
 lp:e.p.length≤maxLen
 fr:(Lit.int .i64 e.fr).wf=true
 to:(Lit.int .i64 e.to).wf=true
 m:(Lit.int .i64 e.m).wf=true
theorem opEdge:Opens enc Tryz.prog w 33 GE encE LenEd:=by
 refine ⟨fun _=>by simp [HV.kd,encE,encE'],fun fuel cs d h=>?_⟩
 obtain ⟨hl,⟨f0,y0,h0⟩,⟨f1,y1,h1⟩,⟨f2,y2,h2⟩,⟨f3,y3,h3⟩,⟨f4,y4,h4⟩,⟨f5,y5,h5⟩,_⟩:=struct_of Tryz.underlying33 h
 rw [Tryz.cells33] at hl
 obtain ⟨c0,c1,c2,c3,c4,c5,rfl⟩:=len6 hl
 simp only [Tryz.cells3,Tryz.cells30,Tryz.cells31] at h0 h1 h2 h3 h4 h5
 obtain ⟨fr,q0,r0⟩:=(opens_int Tryz.underlying3).2 _ _ _ h0
 obtain ⟨to,q1,r1⟩:=(opens_int Tryz.underlying3).2 _ _ _ h1
 obtain ⟨m,q2,r2⟩:=(opens_int Tryz.underlying3).2 _ _ _ h2
 obtain ⟨g,q3,r3⟩:=opAffs.2 _ _ _ h3
 obtain ⟨s,q4,r4⟩:=opAffs.2 _ _ _ h4
 obtain ⟨p,q5,r5⟩:=opBools.2 _ _ _ h5
 refine ⟨⟨fr,to,m,g,s,p⟩,⟨q3.1,q4.1,q3.2,q4.2,q5,q0,q1,q2⟩,?_⟩
 simp only [encE,encE',relC,relCs]
 exact ⟨c0,_,rfl,⟨rfl,r0⟩,c1,_,rfl,⟨rfl,r1⟩,c2,_,rfl,⟨rfl,r2⟩,c3,_,rfl,⟨rfl,r3⟩,c4,_,rfl,⟨rfl,r4⟩,c5,_,rfl,⟨rfl,r5⟩,rfl⟩
theorem opStrs:Opens enc Tryz.prog w 23 (List ByteArray) LSs (fun l=>(∀ x∈l,x.size≤maxLen)∧l.length≤maxLen):=opens_slice Tryz.underlying23 Tryz.cells9 (by decide) (opens_string Tryz.underlying9)
theorem opPath:Opens enc Tryz.prog w 85 (List Int) (fun l=>.list .no 1 (l.map ii)) (fun l=>(∀ x∈l,(Lit.int .i64 x).wf=true)∧l.length≤maxLen):=opens_slice Tryz.underlying85 Tryz.cells3 (by decide) (opens_int Tryz.underlying3)
theorem opLoc:Opens enc Tryz.prog w 132 GLoc encLoc (fun _=>True):=by
 refine ⟨fun _=>by simp [HV.kd,encLoc],fun fuel cs d h=>?_⟩
 obtain ⟨hl,⟨f0,y0,h0⟩,⟨f1,y1,h1⟩,_⟩:=struct_of Tryz.underlying132 h
 rw [Tryz.cells132] at hl
 obtain ⟨c0,c1,rfl⟩:=len2 hl
 simp only [Tryz.cells85,Tryz.cells3] at h0 h1
 obtain ⟨p,_,r0⟩:=opPath.2 _ _ _ h0
 obtain ⟨n,_,r1⟩:=(opens_int Tryz.underlying3).2 _ _ _ h1
 refine ⟨⟨p,n⟩,trivial,?_⟩
 simp only [encLoc,relC,relCs]
 exact ⟨c0,_,rfl,⟨rfl,by simpa [relC] using r0⟩,c1,_,rfl,⟨rfl,r1⟩,rfl⟩
theorem opLocs:Opens enc Tryz.prog w 22 (List GLoc) LLocs (fun l=>(∀ q∈l,True)∧l.length≤maxLen):=opens_slice Tryz.underlying22 Tryz.cells132 (by decide) opLoc
theorem opEdges:Opens enc Tryz.prog w 24 (List GE) LEs (fun l=>(∀ e∈l,LenEd e)∧l.length≤maxLen):=opens_slice Tryz.underlying24 Tryz.cells33 (by decide) opEdge
structure LenVi (v:GV):Prop where
 g:∀ a∈v.g,LenAf a
 lg:v.g.length≤maxLen
theorem opViol:Opens enc Tryz.prog w 36 GV encV LenVi:=by
 refine ⟨fun _=>by simp [HV.kd,encV,encV'],fun fuel cs d h=>?_⟩
 obtain ⟨hl,⟨f0,y0,h0⟩,⟨f1,y1,h1⟩,⟨f2,y2,h2⟩,⟨f3,y3,h3⟩,_⟩:=struct_of Tryz.underlying36 h
 rw [Tryz.cells36] at hl
 obtain ⟨c0,c1,c2,c3,rfl⟩:=len4 hl
 simp only [Tryz.cells3,Tryz.cells30] at h0 h1 h2 h3
 obtain ⟨x0,q0,r0⟩:=(opens_int Tryz.underlying3).2 _ _ _ h0
 obtain ⟨x1,q1,r1⟩:=(opens_int Tryz.underlying3).2 _ _ _ h1
 obtain ⟨x2,q2,r2⟩:=(opens_int Tryz.underlying3).2 _ _ _ h2
 obtain ⟨g,q3,r3⟩:=opAffs.2 _ _ _ h3
 refine ⟨⟨x0,x1,x2,g⟩,⟨q3.1,q3.2⟩,?_⟩
 simp only [encV,encV',relC,relCs]
 exact ⟨c0,_,rfl,⟨rfl,r0⟩,c1,_,rfl,⟨rfl,r1⟩,c2,_,rfl,⟨rfl,r2⟩,c3,_,rfl,⟨rfl,r3⟩,rfl⟩
theorem opViols:Opens enc Tryz.prog w 25 (List GV) LVs (fun l=>(∀ v∈l,LenVi v)∧l.length≤maxLen):=opens_slice Tryz.underlying25 Tryz.cells36 (by decide) opViol
structure LenLo (l:GLow):Prop where
 locs:l.locs.length≤maxLen
 slots:l.slots.length≤maxLen
 es:∀ e∈l.es,LenEd e
 les:l.es.length≤maxLen
 vs:∀ v∈l.vs,LenVi v
 lvs:l.vs.length≤maxLen
theorem opLow:Opens enc Tryz.prog w 27 GLow encLow LenLo:=by
 refine ⟨fun _=>by simp [HV.kd,encLow,encLow'],fun fuel cs d h=>?_⟩
 obtain ⟨hl,⟨f0,y0,h0⟩,⟨f1,y1,h1⟩,⟨f2,y2,h2⟩,⟨f3,y3,h3⟩,_⟩:=struct_of Tryz.underlying27 h
 rw [Tryz.cells27] at hl
 obtain ⟨c0,c1,c2,c3,rfl⟩:=len4 hl
 simp only [Tryz.cells24,Tryz.cells22,Tryz.cells23,Tryz.cells25] at h0 h1 h2 h3
 obtain ⟨x0,q0,r0⟩:=opLocs.2 _ _ _ h0
 obtain ⟨x1,q1,r1⟩:=opStrs.2 _ _ _ h1
 obtain ⟨x2,q2,r2⟩:=opEdges.2 _ _ _ h2
 obtain ⟨x3,q3,r3⟩:=opViols.2 _ _ _ h3
 refine ⟨⟨x0,x1,x2,x3⟩,⟨q0.2,q1.2,q2.1,q2.2,q3.1,q3.2⟩,?_⟩
 simp only [encLow,encLow',relC,relCs]
 exact ⟨c0,_,rfl,⟨rfl,r0⟩,c1,_,rfl,⟨rfl,r1⟩,c2,_,rfl,⟨rfl,r2⟩,c3,_,rfl,⟨rfl,r3⟩,rfl⟩
end
theorem limAf {a:GA} (h:LenAf a):LimA a:=⟨fun g hg=>(h.x g hg).lim,fun g hg=>(h.w g hg).lim,h.k.lim⟩
theorem lenAf {a:GA} (h:LenAf a):LenA a:=⟨Nat.le_trans h.lx maxLen_le,Nat.le_trans h.lw maxLen_le⟩
theorem lenEd {e:GE} (h:LenEd e):LenE e:=⟨fun a ha=>lenAf (h.g a ha),fun a ha=>lenAf (h.s a ha),Nat.le_trans h.lg maxLen_le,Nat.le_trans h.ls maxLen_le⟩
theorem lenVi {v:GV} (h:LenVi v):LenV v:=⟨fun a ha=>lenAf (h.g a ha),Nat.le_trans h.lg maxLen_le⟩
theorem lenLo {l:GLow} (h:LenLo l):LenLow l:=⟨Nat.le_trans h.locs maxLen_le,Nat.le_trans h.slots maxLen_le,Nat.le_trans h.les maxLen_le,Nat.le_trans h.lvs maxLen_le,fun e he=>lenEd (h.es e he),fun v hv=>lenVi (h.vs v hv)⟩
theorem limLo {l:GLow} (h:LenLo l):LimLow l:=⟨fun e he=>⟨fun a ha=>limAf ((h.es e he).g a ha),fun a ha=>limAf ((h.es e he).s a ha)⟩,fun v hv a ha=>limAf ((h.vs v hv).g a ha)⟩
theorem LowerRights_args (l:GLow) (hl:LenLo l):Pur cx 3 [encLow l] (bb true):=LowerRights_pure ⟨aw15_r.out⟩ l (lenLo hl) (limLo hl)
end Go.Proofs.YtbbapmfmijiibaaGreatDoor
