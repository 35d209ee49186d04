import Derived.Test.YtoaccdmeojjdjaaGreatDoorG1
import Derived.Test.YtoaccdmeojjdjaaGreatDoorG6
import Derived.Test.YtoaccdmeojjdjaaGreatDoorE11
set_option linter.unusedVariables false
set_option maxRecDepth 4000
set_option linter.unusedSimpArgs false
namespace Go.Proofs.Hk
open Go Go.Proofs
/-- slices.Grow of nil: an empty row of one's own. -/
theorem grow_new (n:Nat) (h0:0 < n) (hn:n≤1000000) (k:IntKind) (hk:k = .i64) (r:Nat):HCalls cx.P 95 [.v (.slice none 0 0),.v (.int k (.ofNat n))] [(r,.void)] fun e st=>e = .ret (.list (.own r 0) 1 [])∧st=[(r,.tok 0)]:=by
 subst hk
 refine ⟨fun G w vs hs ha=>?_⟩
 have hvs:vs = #[.slice none 0 0,.int .i64 n]:=by
  simp only [relVs_cons,relVs] at ha
  obtain ⟨u1,l1,e1,h1,u2,l2,e2,h2,e3⟩:=ha
  have a1:=rel_v_eq h1
  have a2:=rel_v_eq h2
  subst a1 a2 e3 e2
  rw [←Array.toArray_toList (xs:=vs),e1]
  rfl
 subst hvs
 obtain ⟨a0,a1,a2,a3⟩:=hs.holds r .void List.mem_cons_self
 refine (grow_calls n h0 hn w).mono fun e w' ⟨he,hw⟩=>?_
 subst he hw
 have post:=post_grown (w':=w.drew) (t:=9) (r:=r) (n:=0) (e:=0) (ce:=grownCap w n 0 9) (lim:=G.lim) (vs:=Builtin.zeroCells #[.string ⟨#[]⟩] n ++ Builtin.zeroCells #[.string ⟨#[]⟩] (grownCap w n 0 9 - n)) hs rfl rfl rfl rfl (s':=[(r,.tok 0)])
  (.inr ⟨by simp [keys],rfl,(hset_head _ _ _ _).symm,fun tp e=>by rw [a2] at e;cases e⟩) (by
   have:=grownCap_ge w n 0 9
   simp only [Array.size_append,zeroCells_size]
   simp
   omega)
 refine ⟨.ret (.list (.own r 0) 1 []),[(r,.tok 0)],_,⟨rfl,rfl⟩,?_,post⟩
 refine list_rel (by simp) (by simp only [relAts]) ?_
 exact ⟨⟨0,w.heap.size,0,_⟩,by simp only [Ghost.grown,if_true];rfl,by simp,fun _=>.inl ⟨rfl,by simp,by simp⟩⟩
theorem grow_nil:HCalls cx.P 95 [.v (.slice none 0 0),.v (.int .i64 0)] [] fun e st=>e = .ret (.v (.slice none 0 0))∧st=[]:=by
 refine ⟨fun G w vs hs ha=>?_⟩
 have hvs:vs = #[.slice none 0 0,.int .i64 0]:=by
  simp only [relVs_cons,relVs] at ha
  obtain ⟨u1,l1,e1,h1,u2,l2,e2,h2,e3⟩:=ha
  have a1:=rel_v_eq h1
  have a2:=rel_v_eq h2
  subst a1 a2 e3 e2
  rw [←Array.toArray_toList (xs:=vs),e1]
 subst hvs
 refine (grow_calls0 w).mono fun e w' ⟨he,hw⟩=>?_
 subst he hw
 exact ⟨_,[],G,⟨rfl,rfl⟩,rel_v G,.refl hs⟩
def isI64:IntKind→Bool
 |.i64=>true
 |_=>false
def libGrow (xs:List HV):Option LibR:=
 match xs with
 |[.v (.slice none 0 0),.v (.int k (.ofNat n))]=>match isI64 k && Nat.ble 1 n && Nat.ble n 1000000 with
  |true=>some (.new (fun r=>.list (.own r 0) 1 []) (fun _=>.tok 0))
  |false=>match isI64 k && Nat.beq n 0 with
   |true=>some (.val (.v (.slice none 0 0)))
   |false=>none
 |_=>none
noncomputable section
def cxR:Cx:={ cx with rows:=fun t=>Nat.beq t 37}
def libS (f:FuncId) (xs:List HV):Option LibR:=
 match Nat.beq f 90 with
 |true=>libCC 85 xs
 |false=>match Nat.beq f 51 with
  |true=>libStr 85 5 xs
  |false=>match Nat.beq f 95 with
   |true=>libGrow xs
   |false=>none
theorem Pur.lib {c:Cx} {f:FuncId} {xs:List HV} {x:HV} (h:Pur c f xs x):HCalls c.P f xs [] fun e st=>e = .ret x∧st=[]:=h.calls []
theorem isI64_eq {k:IntKind} (h:isI64 k=true):k = .i64:=by cases k<;>first|rfl|cases h
/-- One function's contracts. -/
def LibF (c:Cx) (f:FuncId) (q:List HV→Option LibR):Prop:=
 ∀ xs,(∀ x,q xs=some (.val x)→HCalls c.P f xs [] fun e st=>e = .ret x∧st=[])∧
  (∀ X Y,q xs=some (.new X Y)→∀ r,HCalls c.P f xs [(r,.void)] fun e st=>e = .ret (X r)∧st=[(r,Y r)])∧
  (∀ r k,q xs=some (.look r k)→∀ y x,k y=some x→HCalls c.P f xs [(r,y)] fun e st=>e = .ret x∧st=[(r,y)])∧
  (∀ r k,q xs=some (.turn r k)→∀ y z,k y=some z→HCalls c.P f xs [(r,y)] fun e st=>e = .ret (.tup [])∧st=[(r,z)])∧
  (∀ g,q xs=some (.st g)→∀ s x s',g s=some (x,s')→HCalls c.P f xs s fun e st=>e = .ret x∧st=s')
theorem libGrow_ok:LibF cx 95 libGrow:=by
 intro xs
 refine ⟨fun x h=>?_,fun X Y h r=>?_,fun r k h=>?_,fun r k h=>?_,fun g h=>?_⟩
 ·unfold libGrow at h
  split at h
  ·rename_i k n
   split at h
   ·cases h
   ·split at h
    ·rename_i hc
     simp only [Bool.and_eq_true] at hc
     have h1:=isI64_eq hc.1
     have h2:=Nat.eq_of_beq_eq_true hc.2
     subst h1 h2
     cases h
     exact grow_nil
    ·cases h
  ·cases h
 ·unfold libGrow at h
  split at h
  ·rename_i k n
   split at h
   ·rename_i hc
    simp only [Bool.and_eq_true] at hc
    cases h
    exact grow_new n (Nat.le_of_ble_eq_true hc.1.2) (Nat.le_of_ble_eq_true hc.2) k (isI64_eq hc.1.1) r
   ·split at h<;>cases h
  ·cases h
 all_goals
  unfold libGrow at h
  split at h
  ·split at h
   ·cases h
   ·split at h<;>cases h
  ·cases h
theorem libCC_ok:LibF cx 90 (libCC 85):=by
 intro xs
 refine ⟨fun x h=>?_,fun X Y h r=>?_,fun r k h=>?_,fun r k h y z hz=>?_,fun g h=>?_⟩
 all_goals
  unfold libCC at h
  split at h
  ·cases h<;>exact cc_ok (c:=cx) cc_used cc_fresh hz
  ·cases h
theorem libStr_ok:LibF cx 51 (libStr 85 5):=by
 intro xs
 refine ⟨fun x h=>?_,fun X Y h r=>?_,fun r k h=>?_,fun r k h=>?_,fun g h s x s' hz=>?_⟩
 all_goals
  unfold libStr at h
  split at h
  ·cases h<;>exact str_ok (c:=cx) str_nil str_row hz
  ·cases h
theorem LibOk.ite {c:Cx} {g:FuncId} {q:List HV→Option LibR} {lib:FuncId→List HV→Option LibR} (h1:LibF c g q) (h2:LibOk c lib):LibOk c (fun f xs=>match Nat.beq f g with|true=>q xs|false=>lib f xs):=by
 intro f xs
 simp only
 cases h:Nat.beq f g with
 |true=>have:=Nat.eq_of_beq_eq_true h;subst this;exact h1 xs
 |false=>exact h2 f xs
theorem LibOk.none (c:Cx):LibOk c (fun _ _=>none):=fun f xs=>⟨fun x h=>(by cases h),fun X Y h=>(by cases h),fun _ _ h=>(by cases h),fun _ _ h=>(by cases h),fun _ h=>(by cases h)⟩
theorem libS_ok:LibOk cx libS:=
 LibOk.ite libCC_ok (LibOk.ite libStr_ok (LibOk.ite libGrow_ok (LibOk.none cx)))
theorem libS_okR:LibOk cxR libS:=libS_ok
/-- The answer is true. -/
def okRs:Rs→Bool
 |.ret (.v (.bool true)) _ _=>true
 |_=>false
theorem okRs_ret {r:Rs} (h:okRs r=true):∃ s j,r = .ret (.v (.bool true)) s j:=by
 unfold okRs at h
 split at h
 ·exact ⟨_,_,rfl⟩
 ·cases h
theorem run_true {c:Cx} {lib:FuncId→List HV→Option LibR} (hlib:LibOk c lib) {m K d:Nat} {f:FuncId} {xs:List HV} (h:okRs (run c lib m (.call f xs) [] 0 K d)=true) (hxs:namelessL xs=true):Pur c f xs (.v (.bool true)):=by
 obtain ⟨s,j,e⟩:=okRs_ret h
 exact run_pur hlib m K d e hxs rfl
abbrev KK:Nat:=2 ^ (24 * 31)
/-- The document's example. -/
theorem awake9R:Pur cxR 25 [] (.v (.bool true)):=run_true libS_okR (m:=100000) (K:=KK) (d:=30) (by kernel_rfl) rfl
theorem awake9:Pur cx 25 [] (.v (.bool true)):=⟨awake9R.out⟩
end
end Go.Proofs.Hk
