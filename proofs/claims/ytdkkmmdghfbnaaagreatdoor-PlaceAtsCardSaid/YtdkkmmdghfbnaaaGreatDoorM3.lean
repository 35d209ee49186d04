import Derived.Test.YtdkkmmdghfbnaaaGreatDoorE5
import Derived.Test.YtdkkmmdghfbnaaaGreatDoorH40
set_option linter.unusedVariables false
set_option linter.unusedSimpArgs false
namespace Go.Proofs.Hk
open Go
/-! Rows of one's own, whose room is not known. -/
theorem holds.moveAll {G G':Ghost} {w w':World} {q:Nat} {y:Res} (le:G.Le0 G') (hb:∀ b,G.role b=some q→w'.heap[b]? = w.heap[b]?∧G'.role b=some q∧∀ o,G'.K b o=G.K b o) (ht:G'.top q=G.top q)
  (hv:G.om q=none→(∀ b,G.role b≠some q)→q < G.lim→q < G'.lim∧G'.om q=none∧∀ b,G'.role b≠some q) (k:holds G w q y):holds G' w' q y:=by
 cases y with
 |cells cs t=>
  obtain ⟨b,vs,e,ro,hh,hc,hK⟩:=k
  obtain ⟨h1,h2,h3⟩:=hb b ro
  exact ⟨b,vs,le.om q b e,h2,h1.trans hh,relCs.mono0 le _ _ hc,fun o=>(h3 o).trans (hK o)⟩
 |map es=>
  obtain ⟨b,ents,cl,e,ro,hh,hc⟩:=k
  obtain ⟨h1,h2,h3⟩:=hb b ro
  exact ⟨b,ents,cl,le.om q b e,h2,h1.trans hh,relMap.mono0 le _ _ hc⟩
 |tok n=>
  obtain ⟨tp,e,hn,hq⟩:=k
  refine ⟨tp,ht.trans e,hn,fun hlt=>?_⟩
  obtain ⟨ro,vs,t,hh,hce,hK⟩:=hq hlt
  obtain ⟨h1,h2,h3⟩:=hb tp.b ro
  exact ⟨h2,vs,t,h1.trans hh,hce,fun o ho=>(h3 o).trans (hK o ho)⟩
 |void=>
  obtain ⟨h0,h1,h2,h3⟩:=k
  obtain ⟨a,b,c⟩:=hv h1 h3 h0
  exact ⟨a,b,ht.trans h2,c⟩
 |loop L=>exact holds.move rfl le hb k
 |row cs sz t=>exact holds.move rfl le hb k
theorem post_own {m s0:HS} {G G':Ghost} {w w':World} {v b0:Nat} {x:Res} (h:SRel G (m ++ s0) w) (hv:v∈keys m)
  (hK:G'.K=G.K) (htop:G'.top=G.top) (hlim:G'.lim=G.lim) (hdf:G'.df=G.df)
  (hom:∀ q b,G.om q=some b→G'.om q=some b) (homn:∀ q,q∉keys m→G'.om q=G.om q)
  (hrole:∀ b,b≠b0→G'.role b=G.role b) (hrole0:G'.role b0=some v)
  (hb0:w.heap.size≤b0∨∃ q,G.role b0=some q∧q∈keys m)
  (hheap:∀ b,b≠b0→b < w.heap.size→w'.heap[b]? = w.heap[b]?) (hsz:w.heap.size≤w'.heap.size) (hb0':b0 < w'.heap.size)
  (hKb:∀ o,G.K b0 o=none) (hos:w'.os=w.os) (htape:w'.tape=w.tape) (hout:w'.output=w.output)
  (hx:holds G' w' v x):Post (m ++ s0) G w ((v,x)::s0) G' w':=by
 have hnd:=h.keys
 rw [keys_append,List.nodup_append] at hnd
 obtain ⟨n1,n2,n3⟩:=hnd
 have hvlim:∀ q,q∈keys m→q < G.lim:=fun q hq=>h.lt_key (by rw [keys_append];exact List.mem_append_left _ hq)
 have le:G.Le G':=⟨fun b o u e=>by rw [hK];exact e,hom,fun q t e=>⟨t,by rw [htop];exact e,Nat.le_refl _,fun _=>rfl⟩,hdf⟩
 have nb:∀ b q,G.role b=some q→q∉keys m→b≠b0:=fun b q e hq hb=>by
  subst hb
  rcases hb0 with h1|⟨q',h1,h2⟩
  ·have:=(h.role b q e).1;omega
  ·rw [e] at h1;cases h1;exact hq h2
 refine ⟨⟨fun b o u e=>?_,?_,fun q y hy=>?_,fun q hq=>?_,fun b q e=>?_⟩,⟨le,hsz,fun b hb hr=>?_,fun q tp e _=>by rw [htop];exact e,by rw [hlim];exact Nat.le_refl _,hos,htape,hout,fun q hq hk h1 h2 h3=>?_⟩,fun q hq=>.inl ?_⟩
 ·rw [hK] at e
  have hne:b≠b0:=fun hb=>by rw [hb,hKb] at e;cases e
  have:=h.kw b o u e
  have hlt:=h.K_lt e
  simp only [World.cell?,hheap b hne hlt] at this ⊢
  exact this
 ·simp only [keys,List.map_cons,List.nodup_cons]
  exact ⟨fun hm=>n3 v hv v hm rfl,n2⟩
 ·rcases List.mem_cons.1 hy with hy|hy
  ·cases hy;exact hx
  ·have hqk:q∈keys s0:=List.mem_map.2 ⟨_,hy,rfl⟩
   have hqm:q∉keys m:=fun hq=>n3 q hq q hqk rfl
   refine (h.holds q y (List.mem_append_right _ hy)).moveAll le.to0 (fun b e=>?_) (by rw [htop]) fun a1 a2 a3=>⟨by rw [hlim];exact a3,(homn q hqm).trans a1,fun b e=>?_⟩
   ·have hne:=nb b q e hqm
    exact ⟨hheap b hne (h.role b q e).1,(hrole b hne).trans e,fun o=>by rw [hK]⟩
   ·by_cases hb:b=b0
    ·subst hb;rw [hrole0] at e;cases e;exact hqm hv
    ·rw [hrole b hb] at e;exact a2 b e
 ·rw [hlim] at hq
  have:=h.fresh q hq
  have hqm:q∉keys m:=fun hm=>by have:=hvlim q hm;omega
  exact ⟨(homn q hqm).trans this.1,by rw [htop];exact this.2⟩
 ·by_cases hb:b=b0
  ·subst hb;rw [hrole0] at e;cases e;exact ⟨hb0',by rw [hlim];exact hvlim v hv⟩
  ·rw [hrole b hb] at e
   obtain ⟨q1,q2⟩:=h.role b q e
   exact ⟨Nat.lt_of_lt_of_le q1 hsz,by rw [hlim];exact q2⟩
 ·have hne:b≠b0:=fun e=>by
   subst e
   rcases hb0 with h1|⟨q',h1,h2⟩
   ·omega
   ·exact hr q' h1 (by rw [keys_append];exact List.mem_append_left _ h2)
  exact ⟨hheap b hne hb,hrole b hne,fun o=>by rw [hK]⟩
 ·have hqm:q∉keys m:=fun hm=>hk (by rw [keys_append];exact List.mem_append_left _ hm)
  refine ⟨(homn q hqm).trans h1,by rw [htop];exact h2,fun b e=>?_⟩
  by_cases hb:b=b0
  ·subst hb;rw [hrole0] at e;cases e;exact hqm hv
  ·rw [hrole b hb] at e;exact h3 b e
 ·simp only [keys,List.map_cons,List.mem_cons] at hq
  rw [keys_append,List.mem_append]
  rcases hq with rfl|hq
  ·exact .inl hv
  ·exact .inr hq
/-- The ghost of a new row. -/
def Ghost.rowAs (G:Ghost) (v b cap:Nat):Ghost:=
 {G with om:=fun q=>if q=v then some b else if q=v+1 then some cap else G.om q,role:=fun b'=>if b'=b then some v else G.role b'}
theorem rowAs_post {m s0:HS} {G:Ghost} {w w':World} {v b cap:Nat} {x:Res} (h:SRel G (m ++ s0) w) (hv:(v,Res.void)∈m) (hv1:(v+1,Res.void)∈m)
  (hb0:w.heap.size≤b∨∃ q,G.role b=some q∧q∈keys m)
  (hheap:∀ b',b'≠b→b' < w.heap.size→w'.heap[b']? = w.heap[b']?) (hsz:w.heap.size≤w'.heap.size) (hb0':b < w'.heap.size)
  (hKb:∀ o,G.K b o=none) (hos:w'.os=w.os) (htape:w'.tape=w.tape) (hout:w'.output=w.output)
  (hx:G.Le (G.rowAs v b cap)→holds (G.rowAs v b cap) w' v x):Post (m ++ s0) G w ((v,x)::s0) (G.rowAs v b cap) w':=by
 have k1:v∈keys m:=List.mem_map.2 ⟨_,hv,rfl⟩
 have k2:v+1∈keys m:=List.mem_map.2 ⟨_,hv1,rfl⟩
 obtain ⟨a0,a1,a2,a3⟩:=h.holds v _ (List.mem_append_left _ hv)
 obtain ⟨c0,c1,c2,c3⟩:=h.holds (v+1) _ (List.mem_append_left _ hv1)
 have hom:∀ q b',G.om q=some b'→(G.rowAs v b cap).om q=some b':=fun q b' e=>by
  simp only [Ghost.rowAs]
  split
  ·rename_i hq;subst hq;rw [a1] at e;cases e
  ·split
   ·rename_i hq;subst hq;rw [c1] at e;cases e
   ·exact e
 have le:G.Le (G.rowAs v b cap):=⟨fun _ _ _ e=>e,hom,fun q t e=>⟨t,e,Nat.le_refl _,fun _=>rfl⟩,rfl⟩
 exact post_own h k1 rfl rfl rfl rfl hom (fun q hq=>by
  simp only [Ghost.rowAs]
  rw [if_neg (fun e=>hq (by rw [e];exact k1)),if_neg (fun e=>hq (by rw [e];exact k2))]) (fun b' hb=>by simp only [Ghost.rowAs];rw [if_neg hb]) (by simp [Ghost.rowAs]) hb0 hheap hsz hb0' hKb hos htape hout (hx le)
theorem row_rel {G:Ghost} {v b cap n sz:Nat} (h:n≤cap):rel (G.rowAs v b cap) (.row v n sz) (.slice (some ⟨b,0,none⟩) n cap):=
 rel_leaf (by simp only [relC];exact ⟨b,cap,by simp [Ghost.rowAs],by simp [Ghost.rowAs],h,rfl⟩) rfl
theorem rel_row {G:Ghost} {r n sz:Nat} {u:Value} (h:rel G (.row r n sz) u):∃ b c,G.om r=some b∧G.om (r+1)=some c∧n≤c∧u = .slice (some ⟨b,0,none⟩) n c:=by
 obtain ⟨h1,_⟩:=leaf_of h rfl
 simp only [relC] at h1
 obtain ⟨b,c,e,e',hn,h⟩:=h1
 exact ⟨b,c,e,e',hn,by simpa using h⟩
/-- A row that moves to a block of its own. -/
theorem row_moved {c:Cx} {m s0:HS} {G:Ghost} {w:World} {v:Nat} (h:SRel G (m ++ s0) w) (hv:(v,Res.void)∈m) (hv1:(v+1,Res.void)∈m) {t u ty e:TypeId} {d:TyD} {du:TypeDesc} (ht:∀ w:World,(underlying t).run c.P w = .ok (.slice e) w) (hu:∀ w:World,(underlying u).run c.P w = .ok du w) (hdu:du = .string∨∃ e',du = .slice e') (hd:TyOK c.P e d)
  {base:Option Addr} {n cp:Nat} {ys:List HV} {z:Value} {olds news:List Value} {cs:List HV}
  (hold:∀ w',w'.heap=w.heap→(Builtin.firstCells d.size n (.slice base n cp)).run c.P w' = .ok olds.toArray w') (hol:olds.length=n * d.size) (hor:relCs G cs olds) (hsrc:Src c.P G w d.size z ys news)
  (hc:cp < n+ys.length) (hb:0 < d.bytes) (hfit:(n+ys.length) * d.bytes≤140737488355328) :
  Gives (m ++ s0) G w ((do pure (Next.value (←Builtin.append_ #[t,u] ty #[.slice base n cp,z])):Sem Next).run c.P w) (.row v (n+ys.length) d.size) ((v,.row (cs ++ ys.flatMap HV.cells) d.size e)::s0):=by
 have run:=run_append_new (ty:=ty) ht hu hdu hd hold hsrc hc hb hfit
 have hcap:=capOf_ge w (n+ys.length) cp e
 have hz:=new_size d hd hol hsrc.length hcap
 have c2:relCs G (ys.flatMap HV.cells) news:=relAts_flatMap (rd:=fun j=>news[j]?) (hsrc.rel G _ 0 (.refl G) fun j _=>by rw [Nat.zero_add]) hsrc.length fun j _=>by rw [Nat.zero_add]
 refine ⟨.slice (some ⟨w.heap.size,0,none⟩) (n+ys.length) (capOf w (n+ys.length) cp e),World.pushed w.drew (.cells (olds.toArray ++ news.toArray ++ Builtin.zeroCells d.zero.cells (capOf w (n+ys.length) cp e - (n+ys.length))) e),G.rowAs v w.heap.size (capOf w (n+ys.length) cp e),.inl (by rw [Sem.run_bind,run];rfl),row_rel hcap,rowAs_post (b:=w.heap.size) h hv hv1 (.inl (Nat.le_refl _)) (fun b' _ hb'=>?_) (show w.heap.size≤(w.heap.push _).size by simp) (show w.heap.size < (w.heap.push _).size by simp) (fun o=>h.K_new (Nat.le_refl _) o) rfl rfl rfl fun le=>?_⟩
 ·have hw:w.drew.heap=w.heap:=rfl
  rw [pushed_lt _ _ (by rw [hw];exact hb'),hw]
 ·refine ⟨w.heap.size,_,_,by simp [Ghost.rowAs],by simp [Ghost.rowAs],by simp [Ghost.rowAs],pushed_new w.drew _,hz,?_,?_,fun o=>h.K_new (Nat.le_refl _) o⟩
  ·have h1:=relCs_length hor
   have h2:=relCs_length c2
   simp only [List.length_append,Array.size_append,List.size_toArray]
   omega
  ·have h1:=relCs_length hor
   have h2:=relCs_length c2
   have:=relCs.mono le _ _ (relCs_append hor c2)
   rw [show (olds.toArray ++ news.toArray ++ Builtin.zeroCells d.zero.cells (capOf w (n+ys.length) cp e - (n+ys.length))).toList=(olds ++ news) ++ (Builtin.zeroCells d.zero.cells (capOf w (n+ys.length) cp e - (n+ys.length))).toList by simp]
   rw [List.take_append_of_le_length (by simp only [List.length_append];omega),List.take_of_length_le (by simp only [List.length_append];omega)]
   exact this
/-- To nil. -/
theorem row_nil {c:Cx} {s0:HS} {G:Ghost} {w:World} {v:Nat} (h:SRel G ([(v,.void),(v+1,.void)] ++ s0) w) {t u ty e:TypeId} {d:TyD} {du:TypeDesc} (ht:∀ w:World,(underlying t).run c.P w = .ok (.slice e) w) (hu:∀ w:World,(underlying u).run c.P w = .ok du w) (hdu:du = .string∨∃ e',du = .slice e') (hd:TyOK c.P e d)
  {ys:List HV} {z:Value} {news:List Value} (hsrc:Src c.P G w d.size z ys news) (h0:0 < ys.length) (hb:0 < d.bytes) (hfit:ys.length * d.bytes≤140737488355328) :
  Gives ([(v,.void),(v+1,.void)] ++ s0) G w ((do pure (Next.value (←Builtin.append_ #[t,u] ty #[.slice none 0 0,z])):Sem Next).run c.P w) (.row v ys.length d.size) ((v,.row (ys.flatMap HV.cells) d.size e)::s0):=by
 have:=row_moved (ty:=ty) (base:=none) (n:=0) (v:=v) (cp:=0) (cs:=[]) (olds:=[]) h (by simp) (by simp) ht hu hdu hd (fun w' _=>by simp [Builtin.firstCells]) (by simp) (by simp [relCs]) hsrc (by omega) hb (by simpa using hfit)
 simpa using this
/-- To a row. -/
theorem row_app {c:Cx} {s0:HS} {G:Ghost} {w:World} {v r n:Nat} {cs:List HV} {t u ty e:TypeId} {d:TyD} {du:TypeDesc} (h:SRel G ([(v,.void),(v+1,.void),(r,.row cs d.size e)] ++ s0) w) (ht:∀ w:World,(underlying t).run c.P w = .ok (.slice e) w) (hu:∀ w:World,(underlying u).run c.P w = .ok du w) (hdu:du = .string∨∃ e',du = .slice e') (hd:TyOK c.P e d)
  {ys:List HV} {p z:Value} {news:List Value} (hp:rel G (.row r n d.size) p) (hn:n * d.size≤cs.length) (hsrc:Src c.P G w d.size z ys news) (h0:0 < ys.length) (hb:0 < d.bytes) (hs:0 < d.size) (hfit:(n+ys.length) * d.bytes≤140737488355328) :
  Gives ([(v,.void),(v+1,.void),(r,.row cs d.size e)] ++ s0) G w ((do pure (Next.value (←Builtin.append_ #[t,u] ty #[p,z])):Sem Next).run c.P w) (.row v (n+ys.length) d.size) ((v,.row (cs.take (n * d.size) ++ ys.flatMap HV.cells) d.size e)::s0):=by
 obtain ⟨b,cp,e1,e2,hle,rfl⟩:=rel_row hp
 obtain ⟨b',cp',vs,o1,o2,ro,hh,hsz,hlen,hcs,hK⟩:=h.holds r (.row cs d.size e) (by simp)
 rw [e1] at o1;cases o1
 rw [e2] at o2;cases o2
 have hl:=relCs_length hcs
 have hcs1:relCs G (cs.take (n * d.size)) (vs.toList.take (n * d.size)):=by
  have:=relCs_take (n * d.size) hcs
  rwa [List.take_take,Nat.min_eq_left hn] at this
 have hol:(vs.toList.take (n * d.size)).length=n * d.size:=by simp;omega
 rcases Nat.lt_or_ge cp (n+ys.length) with hlt|hge
 ·refine row_moved (ty:=ty) (v:=v) (olds:=vs.toList.take (n * d.size)) h (by simp) (by simp) ht hu hdu hd (fun w' hw=>?_) hol hcs1 hsrc hlt hb hfit
  refine run_firstCells_some w' d.size n ⟨b,0,none⟩ n cp (vs.toList.take (n * d.size)) hol fun j u hj=>?_
  have hj':=(List.getElem?_eq_some_iff.1 hj).1
  rw [add_plain,cell_of_heap hw]
  simp only [World.cell?,hh,Option.isSome_none,Bool.false_eq_true,if_false,Nat.zero_add]
  rw [List.getElem?_take_of_lt (by omega)] at hj
  rw [←Array.getElem?_toList];exact hj
 ·have hnl:=hsrc.length
  have hge2:(n+ys.length) * d.size≤cp * d.size:=Nat.mul_le_mul_right _ hge
  rw [Nat.add_mul] at hge2
  have run:=run_append_room' (ty:=ty) ht hu hdu hd (n:=n) (c:=cp) (o:=0) hh hsrc hge (by omega)
  simp only [Nat.zero_add] at run
  have c2:relCs G (ys.flatMap HV.cells) news:=relAts_flatMap (rd:=fun j=>news[j]?) (hsrc.rel G _ 0 (.refl G) fun j _=>by rw [Nat.zero_add]) hsrc.length fun j _=>by rw [Nat.zero_add]
  have h2:=relCs_length c2
  have hlt:b < w.heap.size:=(h.role b r ro).1
  have get:=setRow_get w b vs (vs.toList.take (n * d.size) ++ news ++ vs.toList.drop (n * d.size+news.length)).toArray e hh
  have hcl:(vs.toList.take (n * d.size) ++ news ++ vs.toList.drop (n * d.size+news.length)).toArray.size=vs.size:=by simp;omega
  refine ⟨.slice (some ⟨b,0,none⟩) (n+ys.length) cp,w.setRow b (vs.toList.take (n * d.size) ++ news ++ vs.toList.drop (n * d.size+news.length)).toArray,G.rowAs v b cp,.inl (by rw [Sem.run_bind,run];rfl),row_rel hge,rowAs_post (b:=b) (v:=v) h (by simp) (by simp) (.inr ⟨r,ro,by simp [keys]⟩) (fun b' hne _=>by rw [get,if_neg hne]) (by rw [setRow_size];exact Nat.le_refl _) (by rw [setRow_size];exact hlt) hK rfl rfl rfl fun le=>?_⟩
  refine ⟨b,cp,(vs.toList.take (n * d.size) ++ news ++ vs.toList.drop (n * d.size+news.length)).toArray,by simp [Ghost.rowAs],by simp [Ghost.rowAs],by simp [Ghost.rowAs],setRow_heap w b vs _ e _ hh,by rw [hcl];exact hsz,?_,?_,hK⟩
  ·rw [hcl]
   have h1:=relCs_length hcs1
   simp only [List.length_append]
   omega
  ·have h1:=relCs_length hcs1
   have:=relCs.mono le _ _ (relCs_append hcs1 c2)
   have el:(vs.toList.take (n * d.size) ++ news ++ vs.toList.drop (n * d.size+news.length)).toArray.toList.take (cs.take (n * d.size) ++ ys.flatMap HV.cells).length=vs.toList.take (n * d.size) ++ news:=by
    have h1:=relCs_length hcs1
    rw [List.take_append_of_le_length (by simp only [List.length_append] at h1 ⊢;omega),List.take_of_length_le (by simp only [List.length_append] at h1 ⊢;omega)]
   rw [el]
   exact this
end Go.Proofs.Hk

set_option linter.unusedVariables false
namespace Go.Proofs.Hk
noncomputable section
open Go
/-- A call that tells something out of a family. -/
theorem callTX (c:Cx) {α:Type} {φ:α→Prop} {v:α→HV} {S:α→HS} {f:FuncId} {xs:List HV} {s1 s t:HS} {K E:HV→HS→Prop} (h:HCalls c.P f xs s1 fun e st=>∃ x,φ x∧e = .ret (v x)∧st=S x) (p:HTake s s1 t) (hk:∀ x,φ x→forceL (S x ++ t) (K (v x))):CallWp c f xs s K E:=
 callWp c (HCalls.use (t:=t) (R':=fun e st=>∃ x,φ x∧e = .ret (v x)∧st=S x ++ t) h (List.perm_append_comm.trans (List.perm_append_comm.trans p.perm)) fun e s3 ⟨x,h0,h1,h2⟩=>⟨x,h0,h1,by rw [h2]⟩) (fun y s' ⟨x,h0,h1,h2⟩=>by
  cases h1
  subst h2
  have:=hk x h0
  rw [forceL_eq] at this
  exact this) (fun y s' ⟨x,h0,h1,h2⟩=>by cases h1)
theorem HCalls.toX {P:Program} {f:FuncId} {xs:List HV} {s:HS} {α:Type} {φ:α→Prop} {v:α→HV} {S:α→HS} (h:HCalls P f xs s fun e st=>∃ x,φ x∧WeakerE e (.ret (v x))∧Subp (S x) st):HCalls P f xs s fun e st=>∃ x,φ x∧e = .ret (v x)∧st=S x:=
 HCalls.weaken h fun e s1 ⟨x,h0,h1,h2⟩=>⟨.ret (v x),S x,h1,h2,x,h0,rfl,rfl⟩
theorem HCalls.one {P:Program} {f:FuncId} {xs:List HV} {s:HS} {α:Type} {φ:α→Prop} {v:α→HV} {S:α→HS} (x:α) (h0:φ x) (h:HCalls P f xs s fun e st=>e = .ret (v x)∧st=S x):HCalls P f xs s fun e st=>∃ x,φ x∧e = .ret (v x)∧st=S x:=
 h.mono fun e st ⟨h1,h2⟩=>⟨x,h0,h1,h2⟩
theorem relVs_nilOwn {G:Ghost} {i sz:Nat} {tp:Top} (ht:G.top i=some tp):∀ {pre post:List HV} {us:List Value},relVs G (pre ++ .v (.slice none 0 0)::post) us→relVs G (pre ++ .list (.own i 0) sz []::post) us
 |[],post,us,h=>by
  simp only [List.nil_append,relVs_cons] at h ⊢
  obtain ⟨u,us',e,h1,h2⟩:=h
  refine ⟨u,us',e,?_,h2⟩
  have:=rel_v_eq h1
  subst this
  exact list_rel_nil ⟨_,ht,Nat.zero_le _⟩
 |x::pre,post,us,h=>by
  simp only [List.cons_append,relVs_cons] at h ⊢
  obtain ⟨u,us',e,h1,h2⟩:=h
  exact ⟨u,us',e,h1,relVs_nilOwn ht h2⟩
/-- Nothing handed on is a row of one's own. -/
theorem HCalls.nilOwn {P:Program} {f:FuncId} {pre post:List HV} {s:HS} {R:HEnd→HS→Prop} (sz:Nat) (h:∀ q,q∉keys s→HCalls P f (pre ++ .list (.own q 0) sz []::post) ((q,.tok 0)::s) R):HCalls P f (pre ++ .v (.slice none 0 0)::post) s R:=
 ⟨fun G w vs hs ha=>by
  obtain ⟨G',le,ht,P1⟩:=post_tok hs 0
  have hq:G.lim∉keys s:=fun hm=>by have:=hs.lt_key hm;omega
  exact ((h G.lim hq).out G' w vs P1.srel (relVs_nilOwn ht (relVs.mono0 le.to0 _ _ ha))).mono fun e w' ⟨he,s',G2,hR,hr,hp⟩=>⟨he,s',G2,hR,hr,P1.trans hs hp⟩⟩
end
end Go.Proofs.Hk

set_option linter.unusedVariables false
namespace Go.Proofs.Hk
noncomputable section
open Go
/-! A region whose order is drawn, in which one operation calls a function whose result is one of a family. -/
section
variable (P:Program) (n:Nat) (ops:Array Oper) (t:HS) (E R:Nat→Option Nat) (X p:Nat) (oX:Oper)
def YX (g:GF) (qs:List HS) (Φ:HV→HS→Prop):Prop:=
 (∀ d,oX.dst=some d→d < n)∧∀ G w ra,SRel G (qs.flatten ++ t) w→FOn (oX.looksAt ops) G n g ra→
  Region.wanted oX (yielded ops ra.tmps)=true∧OpTo P oX ra w fun u w'=>∃ x m' G',Φ x m'∧rel G' x u∧Post (qs.flatten ++ t) G w ((qs.set p m').flatten ++ t) G' w'
def Fam (g:GF) (a:List HS) (K:GF→List HS→Prop):Prop:=
 ∃ Φ:HV→HS→Prop,(∀ qs:List HS,qs[p]? = a[p]?→YX P n ops t p oX g qs Φ)∧∀ x m',Φ x m'→K (gput g oX.dst (.sure,x)) (a.set p m')
variable {P n ops t p oX} in
theorem Fam.mono {g:GF} {a:List HS} {K K':GF→List HS→Prop} (h:Fam P n ops t p oX g a K) (hk:∀ g a,K g a→K' g a):Fam P n ops t p oX g a K':=by
 obtain ⟨Φ,h1,h2⟩:=h
 exact ⟨Φ,h1,fun x m' hx=>hk _ _ (h2 x m' hx)⟩
def qOpX (i:Nat) (K:GF→List HS→Prop) (g:GF) (a:List HS):Prop:=if i=X then Fam P n ops t p oX g a K else qOpN P n ops t E R i K g a
theorem qOpX_mono {i:Nat} {K K':GF→List HS→Prop} (h:∀ g a,K g a→K' g a) {g:GF} {a:List HS} (hh:qOpX P n ops t E R X p oX i K g a):qOpX P n ops t E R X p oX i K' g a:=by
 unfold qOpX at *
 split
 ·rename_i e;rw [if_pos e] at hh;exact hh.mono h
 ·rename_i e;rw [if_neg e] at hh;exact qOpN_mono P n ops t E R h hh
theorem YX.put {g:GF} {qs:List HS} {Φ:HV→HS→Prop} (h:YX P n ops t p oX g qs Φ) {dst:Option Tmp} (hd:∀ d,dst=some d→d∉oX.looksAt ops) (e':Tag × HV):YX P n ops t p oX (gput g dst e') qs Φ:=by
 refine ⟨h.1,fun G w ra hs hf=>h.2 G w ra hs ⟨hf.size,hf.defers,fun s hs' tg x eq=>hf.slots s hs' tg x ?_⟩⟩
 cases dst with
 |none=>exact eq
 |some d=>
  simp only [gput]
  rw [if_neg (fun hh:s=d=>hd d rfl (hh ▸ hs'))]
  exact eq
theorem YX.unput {g:GF} {qs:List HS} {Φ:HV→HS→Prop} {dst:Option Tmp} {e':Tag × HV} (h:YX P n ops t p oX (gput g dst e') qs Φ) (hd:∀ d,dst=some d→d∉oX.looksAt ops):YX P n ops t p oX g qs Φ:=by
 refine ⟨h.1,fun G w ra hs hf=>h.2 G w ra hs ⟨hf.size,hf.defers,fun s hs' tg x eq=>hf.slots s hs' tg x ?_⟩⟩
 cases dst with
 |none=>exact eq
 |some d=>
  simp only [gput] at eq
  rw [if_neg (fun hh:s=d=>hd d rfl (hh ▸ hs'))] at eq
  exact eq
theorem Fam.put {i:Nat} {oi:Oper} {e:Tag × HV} (hE:E X=some p) (hap:apartN ops E R i X oi oX=true) {K:GF→List HS→Prop} {g:GF} {a a':List HS}
  (hy:YFN P n ops t E R i oi g a e a') (h:Fam P n ops t p oX (gput g oi.dst e) a' K) :
  Fam P n ops t p oX g a (fun g1 a1=>∃ a2,YFN P n ops t E R i oi g1 a1 e a2∧K (gput g1 oi.dst e) a2):=by
 simp only [apartN,Bool.and_eq_true] at hap
 obtain ⟨hap0,hap1⟩:=hap
 obtain ⟨h1,h2,h3⟩:=Oper.apart_spec hap0
 have ne:∀ {p q:Nat},(!(Nat.beq p q))=true→p≠q:=fun {p q} h e=>by subst e;simp at h
 obtain ⟨Φ,k1,k2⟩:=h
 unfold YFN at hy ⊢
 simp only [hE] at hap1
 cases hEi:E i with
 |some q=>
  simp only [hEi] at hy ⊢ hap1
  obtain ⟨m',hy1,rfl,hy2⟩:=hy
  have hpq:q≠p:=ne hap1
  refine ⟨Φ,fun qs hqs=>YX.unput P n ops t p oX (k1 qs (by rw [hqs,List.getElem?_set_ne hpq])) h1,fun x mx hx=>⟨_,⟨m',hy1,rfl,fun qs hqs=>(hy2 qs ?_).put P n ops t h3 _⟩,?_⟩⟩
  ·rw [hqs,List.getElem?_set_ne (Ne.symm hpq)]
  ·rw [←gput_comm g e _ h2,List.set_comm _ _ (Ne.symm hpq)];exact k2 x mx hx
 |none=>
  simp only [hEi] at hy ⊢ hap1
  cases hRi:R i with
  |some q=>
   simp only [hRi] at hy ⊢ hap1
   obtain ⟨rfl,hy⟩:=hy
   have hpq:p≠q:=Ne.symm (ne hap1)
   refine ⟨Φ,fun qs hqs=>YX.unput P n ops t p oX (k1 qs hqs) h1,fun x mx hx=>⟨_,⟨rfl,fun qs hqs=>(hy qs (by rw [hqs,List.getElem?_set_ne hpq])).put P n ops t h3 _⟩,?_⟩⟩
   rw [←gput_comm g e _ h2];exact k2 x mx hx
  |none=>
   simp only [hRi] at hy ⊢
   obtain ⟨rfl,hy⟩:=hy
   refine ⟨Φ,fun qs hqs=>YX.unput P n ops t p oX (k1 qs hqs) h1,fun x mx hx=>⟨_,⟨rfl,fun m0=>(hy m0).put P n ops t h3 _⟩,?_⟩⟩
   rw [←gput_comm g e _ h2];exact k2 x mx hx
def wpAnyX (Q:GF→List HS→Prop):Nat→Array Bool→GF→List HS→Prop
 |0,listed,g,a=>Region.ready .any ops listed=[]∧Q g a
 |fuel+1,listed,g,a=>
  (Region.ready .any ops listed=[]→Q g a)∧
  ∀ i∈Region.ready .any ops listed,qOpX P n ops t E R X p oX i (wpAnyX Q fuel (listed.setIfInBounds i true)) g a
theorem wpAny_of_X (hX:ops[X]? = some oX) {Q:GF→List HS→Prop} {Q':Exit→Act→World→Prop} {s0:HS} {G0:Ghost} {w0:World} (h0:SRel G0 s0 w0)
  (hQ:∀ g a G w ra,Post s0 G0 w0 (a.flatten ++ t) G w→FAll G n g ra→Q g a→Q' .normal ra w) :
  ∀ (fuel:Nat) (listed:Array Bool) (g:GF) (a:List HS) (G:Ghost) (w:World) (ra:Act),Post s0 G0 w0 (a.flatten ++ t) G w→FAll G n g ra→wpAnyX P n ops t E R X p oX Q fuel listed g a→wpAnyY P .any ops Q' fuel listed ra w
 |0,_,g,a,G,w,ra,hp,hf,h=>⟨h.1,hQ g a G w ra hp hf h.2⟩
 |fuel+1,listed,g,a,G,w,ra,hp,hf,h=>⟨fun h1=>hQ g a G w ra hp hf (h.1 h1),fun i hi=>by
   have hi:=h.2 i hi
   unfold qOpX at hi
   split at hi
   ·rename_i hiX
    obtain ⟨Φ,k1,k2⟩:=hi
    obtain ⟨hd,hy⟩:=k1 a rfl
    obtain ⟨hw,hto⟩:=hy G w ra hp.srel (hf.on _)
    unfold wpOpY
    rw [hiX] at k2 ⊢
    simp only [hX]
    rw [hw,if_pos rfl]
    refine .inl (hto.wp fun u w' ⟨x,m',G',hΦ,hr,hp'⟩=>?_)
    exact wpAny_of_X hX h0 hQ fuel _ _ (a.set p m') G' w' _ (hp.trans h0 hp') ((hf.mono hp'.ext.le).put hd (tg:=.sure) hr) (k2 x m' hΦ)
   unfold qOpN at hi
   unfold wpOpY
   have step:∀ {o:Oper} {e:Tag × HV} {a':List HS},YH P n ops t o g a.flatten e a'.flatten→(tgB e.1=false→a'=a)→wpAnyX P n ops t E R X p oX Q fuel (listed.setIfInBounds i true) (gput g o.dst e) a'→
     if Region.wanted o (yielded ops ra.tmps)=true then Oper.wpY P o ra w (wpAnyY P .any ops Q' fuel (listed.setIfInBounds i true)) Q'∨(False∧LetsOut Q') else wpAnyY P .any ops Q' fuel (listed.setIfInBounds i true) (ra.put o.dst undef) w:=by
    intro o e a' hy hoff hK
    obtain ⟨hd,hy⟩:=hy
    obtain ⟨hw,hto⟩:=hy G w ra hp.srel (hf.on _)
    rw [hw]
    cases hb:tgB e.1 with
    |true=>
     rw [if_pos rfl]
     refine .inl ((hto hb).wp fun u w' ⟨G',hr,hp'⟩=>?_)
     refine wpAny_of_X hX h0 hQ fuel _ _ a' G' w' _ (hp.trans h0 hp') ((hf.mono hp'.ext.le).put hd ?_) hK
     cases he:e.1 with
     |sure=>exact hr
     |cond b=>rw [he] at hb;exact ⟨fun _=>hr,(fun hb'=>by rw [show b=true from hb] at hb';cases hb')⟩
    |false=>
     rw [if_neg (by simp)]
     obtain rfl:=hoff hb
     refine wpAny_of_X hX h0 hQ fuel _ _ a' G w _ hp (hf.put hd ?_) hK
     cases he:e.1 with
     |sure=>rw [he] at hb;cases hb
     |cond b=>rw [he] at hb;exact ⟨(fun hb'=>by rw [show b=false from hb] at hb';cases hb'),fun _=>rfl⟩
   split
   ·rename_i ho;simp only [ho] at hi;exact wpAny_of_X hX h0 hQ fuel _ g a G w ra hp hf hi
   ·rename_i o ho
    simp only [ho] at hi
    split at hi
    ·obtain ⟨e,a',h1,h2,h3⟩:=hi
     exact step (h2 a rfl) (fun h=>by rw [h1] at h;cases h) h3
    ·split at hi
     ·obtain ⟨e,h2,h3⟩:=hi
      exact step (h2 a rfl) (fun _=>rfl) h3
     ·obtain ⟨e,h2,h3⟩:=hi
      exact step (h2 a.flatten) (fun _=>rfl) h3⟩
theorem qOpX_put {i j:Nat} {oi oj:Oper} {e:Tag × HV} (hX:ops[X]? = some oX) (hE:E X=some p) (hj:ops[j]? = some oj) (hap:apartN ops E R i j oi oj=true) {K:GF→List HS→Prop} {g:GF} {a a':List HS}
  (hy:YFN P n ops t E R i oi g a e a') (h:qOpX P n ops t E R X p oX j K (gput g oi.dst e) a') :
  qOpX P n ops t E R X p oX j (fun g1 a1=>∃ a2,YFN P n ops t E R i oi g1 a1 e a2∧K (gput g1 oi.dst e) a2) g a:=by
 unfold qOpX at *
 split
 ·rename_i hjX
  rw [if_pos hjX] at h
  subst hjX
  have:oj=oX:=by rw [hX] at hj;cases hj;rfl
  subst this
  exact Fam.put P n ops t E R j p oj hE hap hy h
 ·rename_i hjX
  rw [if_neg hjX] at h
  exact qOpN_put P n ops t E R hj hap hy h
theorem wpAnyX_first (hX:ops[X]? = some oX) (hE:E X=some p) {Q:GF→List HS→Prop} {i:Nat} {oi:Oper} {e:Tag × HV} (hi:ops[i]? = some oi) (hiX:i≠X) :
  ∀ (fuel:Nat) (listed:Array Bool) (g:GF) (a a':List HS),
   (∀ j oj,ops[j]? = some oj→j≠i→listed.getD j true=false→(∀ e∈oj.after,Region.binds .any e=true→e.on≠i)→apartN ops E R i j oi oj=true)→
   i∈Region.ready .any ops listed→YFN P n ops t E R i oi g a e a'→
   wpAnyX P n ops t E R X p oX Q fuel (listed.setIfInBounds i true) (gput g oi.dst e) a'→wpAnyX P n ops t E R X p oX Q (fuel+1) listed g a:=by
 intro fuel
 induction fuel with
 |zero=>
  intro listed g a a' _ hr hy H
  refine ⟨fun h=>(by rw [h] at hr;cases hr),fun j hj=>?_⟩
  by_cases hji:j=i
  ·subst hji;unfold qOpX;rw [if_neg hiX];exact hy.qOp P n ops t E R hi H
  ·have:=ready_mono hj hji
   rw [H.1] at this
   cases this
 |succ fuel ih=>
  intro listed g a a' hfree hr hy H
  refine ⟨fun h=>(by rw [h] at hr;cases hr),fun j hj=>?_⟩
  by_cases hji:j=i
  ·subst hji;unfold qOpX;rw [if_neg hiX];exact hy.qOp P n ops t E R hi H
  ·have h1:=H.2 j (ready_mono hj hji)
   obtain ⟨hjun,oj,hoj,hall⟩:=mem_ready.1 hj
   have hnot:∀ e∈oj.after,Region.binds .any e=true→e.on≠i:=fun e he hb heq=>by
    have h1:=hall e he hb
    have h0:=(mem_ready.1 hr).1
    rw [heq] at h1
    rcases Nat.lt_or_ge i listed.size with h'|h'
    ·simp [h'] at h0 h1;rw [h0] at h1;cases h1
    ·simp [Array.getElem?_eq_none h'] at h1
   have h2:=qOpX_put P n ops t E R X p oX hX hE hoj (hfree j oj hoj hji hjun hnot) hy h1
   have hfree':∀ k ok,ops[k]? = some ok→k≠i→(listed.setIfInBounds j true).getD k true=false→
     (∀ e∈ok.after,Region.binds .any e=true→e.on≠i)→apartN ops E R i k oi ok=true:=fun k ok hk hki hun hno=>by
    refine hfree k ok hk hki ?_ hno
    by_cases hjk:j=k
    ·subst hjk;exact hjun
    ·rw [getD_set_ne true hjk] at hun;exact hun
   refine qOpX_mono P n ops t E R X p oX (fun g1 a1 ⟨a2,h3,h4⟩=>ih (listed.setIfInBounds j true) g1 a1 a2 hfree' (ready_mono hr (Ne.symm hji)) h3 ?_) h2
   rw [Array.setIfInBounds_comm _ _ hji]
   exact h4
theorem textN_mono {Q Q':GF→List HS→Prop} (h:∀ g a,Q g a→Q' g a):∀ (l:List Nat) (g:GF) (a:List HS),textN P n ops t E R Q l g a→textN P n ops t E R Q' l g a
 |[],_,_,k=>h _ _ k
 |k::l,g,a,hh=>qOpN_mono P n ops t E R (fun g a=>textN_mono h l g a) hh
def lexX2:List Nat→Array Bool→Bool
 |[],listed=>(Region.ready .any ops listed).isEmpty
 |k::l,listed=>(Region.ready .any ops listed).contains k && freeN ops E R listed k && !(Nat.beq k X) && lexX2 l (listed.setIfInBounds k true)
def lexX1 (l2:List Nat):List Nat→Array Bool→Bool
 |[],listed=>(match Region.ready .any ops listed with
  |[k]=>Nat.beq k X
  |_=>false) && lexX2 ops E R X l2 (listed.setIfInBounds X true)
 |k::l,listed=>(Region.ready .any ops listed).contains k && freeN ops E R listed k && !(Nat.beq k X) && lexX1 l2 l (listed.setIfInBounds k true)
theorem neX {k X:Nat} (h:(!(Nat.beq k X))=true):k≠X:=fun e=>by subst e;simp at h
theorem wpAnyX_end (hX:ops[X]? = some oX) (hE:E X=some p) {Q:GF→List HS→Prop} : ∀ (l:List Nat) (listed:Array Bool) (g:GF) (a:List HS),lexX2 ops E R X l listed=true→textN P n ops t E R Q l g a→wpAnyX P n ops t E R X p oX Q l.length listed g a
 |[],_,_,_,hB,h=>⟨by simpa [lexX2] using hB,h⟩
 |k::l,listed,g,a,hB,h=>by
  simp only [lexX2,Bool.and_eq_true] at hB
  obtain ⟨⟨⟨hr,hf⟩,hk⟩,hB'⟩:=hB
  have hr':k∈Region.ready .any ops listed:=by simpa using hr
  obtain ⟨_,o,h0,_⟩:=mem_ready.1 hr'
  obtain ⟨e,a',hy,hK⟩:=yfN_of_qOp P n ops t E R h0 h
  exact wpAnyX_first P n ops t E R X p oX hX hE h0 (neX hk) l.length listed g a a' (freeN_spec ops E R h0 hf) hr' hy (wpAnyX_end hX hE l _ _ _ hB' hK)
theorem wpAnyX_lex (hX:ops[X]? = some oX) (hE:E X=some p) {Q:GF→List HS→Prop} (l2:List Nat):∀ (l:List Nat) (listed:Array Bool) (g:GF) (a:List HS),lexX1 ops E R X l2 l listed=true→textN P n ops t E R (fun g a=>Fam P n ops t p oX g a (textN P n ops t E R Q l2)) l g a→wpAnyX P n ops t E R X p oX Q (l2.length+1+l.length) listed g a
 |[],listed,g,a,hB,h=>by
  simp only [lexX1,Bool.and_eq_true] at hB
  obtain ⟨hr,hB'⟩:=hB
  have hr:Region.ready .any ops listed=[X]:=by
   split at hr
   ·rename_i k hk;rw [hk,Nat.eq_of_beq_eq_true hr]
   ·cases hr
  refine ⟨fun h=>(by rw [hr] at h;cases h),fun i hi=>?_⟩
  rw [hr] at hi
  have:i=X:=by simpa using hi
  subst this
  unfold qOpX
  rw [if_pos rfl]
  exact Fam.mono h fun g a h=>wpAnyX_end P n ops t E R _ p oX hX hE l2 _ g a hB' h
 |k::l,listed,g,a,hB,h=>by
  simp only [lexX1,Bool.and_eq_true] at hB
  obtain ⟨⟨⟨hr,hf⟩,hk⟩,hB'⟩:=hB
  have hr':k∈Region.ready .any ops listed:=by simpa using hr
  obtain ⟨_,o,h0,_⟩:=mem_ready.1 hr'
  obtain ⟨e,a',hy,hK⟩:=yfN_of_qOp P n ops t E R h0 h
  exact wpAnyX_first P n ops t E R X p oX hX hE h0 (neX hk) (l2.length+1+l.length) listed g a a' (freeN_spec ops E R h0 hf) hr' hy (wpAnyX_lex hX hE l2 l _ _ _ hB' hK)
end
/-- What comes before the call. -/
structure DX (c:Cx) (n:Nat) (all:Array Oper) (t:HS) (E R:List (List Nat)) (Z:Fr→List HS→Prop) (l:List Nat) (f:Fr) (ps:List HS):Prop where
 out:textN c.P n all t (partOf E 0) (partOf R 0) (fun g ps=>∃ f',(fun t=>f'.get t)=g∧Z f' ps) l (fun t=>f.get t) ps
/-- The call, and what comes behind it. -/
structure DFam (c:Cx) (n:Nat) (all:Array Oper) (t:HS) (E R:List (List Nat)) (Q:HExit→Fr→HS→Prop) (p:Nat) (o:Oper) (l2:List Nat) (f:Fr) (ps:List HS):Prop where
 out:Fam c.P n all t p o (fun t=>f.get t) ps (textN c.P n all t (partOf E 0) (partOf R 0) (fun g ps=>∃ f',(fun t=>f'.get t)=g∧Q .normal f' (ps.flatten ++ t)) l2)
section
variable {c:Cx} {n:Nat} {all:Array Oper} {t:HS} {E R:List (List Nat)} {Q:HExit→Fr→HS→Prop} {Z:Fr→List HS→Prop} {f:Fr} {ps:List HS}
theorem DX.nil (h:Z f ps):DX c n all t E R Z [] f ps:=⟨f,rfl,h⟩
def dstB (n:Nat):Option Tmp→Bool
 |none=>true
 |some d=>Nat.blt d n
theorem DFam.call {o:Oper} {p:Nat} {l2:List Nat} {a:HS} {α:Type} {ψ:α→Prop} {v:α→HV} {S:α→HS} {fn:FuncId} {φ:Prop} {xs:List HV} (ha:ps[p]? = some a) (hact:active all f o=some .sure) (hb:dstB n o.dst=true) {s:HS} (e:a ++ t=s)
  (ho:hop c o.op f s = .call φ fn xs) (hφ:φ) (h:HCalls c.P fn xs a fun e st=>∃ x,ψ x∧e = .ret (v x)∧st=S x)
  (k:∀ x,ψ x→PutD n o.dst .sure (fun f'=>DN c n all t E R Q l2 f' (ps.set p (S x))) f (v x)):DFam c n all t E R Q p o l2 f ps:=by
 subst e
 refine ⟨fun y m=>∃ x,ψ x∧y=v x∧m=S x,fun qs hqs=>⟨fun d hd=>?_,fun G w ra hs hf=>⟨d2_want hact hf,?_⟩⟩,?_⟩
 ·rw [hd] at hb;exact Nat.lt_of_lt_of_le (Nat.le_of_ble_eq_true (m:=n) hb) (Nat.le_refl _)
 ·rw [ha] at hqs
  have hs1:SRel G ((a ++ t) ++ (qs.eraseIdx p).flatten) w:=hs.permd (perm_join hqs t).symm
  have hs2:=hs1.perm (List.sublist_append_left _ _)
  have sem:ResOK c.P (a ++ t) G w ((execOp ra.eval o).run c.P w) (hop c o.op f (a ++ t)):=d2_sem hs2 hf.rel
  rw [ho] at sem
  obtain ⟨vs,hr,hx⟩:=sem hφ
  have hc:=HCalls.use (t:=t) (R':=fun e st=>∃ x,ψ x∧e = .ret (v x)∧st=S x ++ t) h (.refl _) fun e s1 ⟨x,h0,h1,h2⟩=>⟨x,h0,h1,by rw [h2]⟩
  unfold OpTo
  rw [hr]
  refine (hc.out G w vs hs2 hx).mono fun e w'' ⟨he,s1,G',⟨x,h0,h1,h2⟩,h3,h4⟩=>?_
  subst h1 h2
  cases e<;>first|exact h3.elim|skip
  exact ⟨_,rfl,v x,S x,G',⟨x,h0,rfl,rfl⟩,h3,((Post.frame hs1 h4).permL (perm_join hqs t)).permR (perm_join2 hqs t)⟩
 ·rintro y m ⟨x,h0,rfl,rfl⟩
  obtain ⟨f',hf',hK⟩:=k x h0
  obtain ⟨g1,g2⟩:=hput_get hf'
  exact g1 ▸ hK.out
theorem DX.quiet {k:Nat} {l:List Nat} {o:Oper} {tg:Tag} (hk:all[k]? = some o) (h1:partOf E 0 k=none) (h2:partOf R 0 k=none) (hact:active all f o=some tg)
  (h:DStp c n t tg o.dst (fun f'=>DX c n all t E R Z l f' ps) (hop c o.op f t) f):DX c n all t E R Z (k::l) f ps:=by
 constructor
 simp only [textN,qOpN,hk,h1,h2]
 have quiet:∀ {x:HV},(∀ d,o.dst=some d→d < n)→(∀ G w ra,SRel G t w→FRel G n (Fr.only (o.looksAt all) f) ra→tgB tg=true→OpTo c.P o ra w fun u w'=>∃ G',rel G' x u∧Post t G w t G' w')→YQ c.P n all t o (fun t=>f.get t) (tg,x):=fun hd hy m=>
  ⟨hd,fun G w ra hs hf=>⟨d2_want hact hf,fun hb=>(hy G w ra hs.right hf.rel hb).mono fun u w' ⟨G',hr,hp⟩=>⟨G',hr,hp.frameL hs⟩⟩⟩
 have step:∀ {x:HV},PutD n o.dst tg (fun f'=>DX c n all t E R Z l f' ps) f x→(∀ d,o.dst=some d→d < n)∧textN c.P n all t (partOf E 0) (partOf R 0) (fun g ps=>∃ f',(fun t=>f'.get t)=g∧Z f' ps) l (gput (fun t=>f.get t) o.dst (tg,x)) ps:=fun {x} ⟨f',hf',hK⟩=>by
  obtain ⟨h1,h2⟩:=hput_get hf'
  exact ⟨h2,h1 ▸ hK.out⟩
 have sem:∀ G w ra,SRel G t w→FRel G n (Fr.only (o.looksAt all) f) ra→ResOK c.P t G w ((execOp ra.eval o).run c.P w) (hop c o.op f t):=fun G w ra hs hf=>d2_sem hs hf
 have h:=h.out
 generalize hop c o.op f t=q at h sem
 induction q with
 |bad=>
  cases tg with
  |sure=>exact h.elim
  |cond b=>
   obtain ⟨hb0,x,hx⟩:=h
   obtain ⟨hd,hK⟩:=step hx
   exact ⟨(.cond b,x),quiet hd fun G w ra hs hf hb=>absurd hb (by simp [tgB,hb0]),hK⟩
 |pan φ x=>exact h.elim
 |eff W=>exact h.elim
 |pure x=>
  obtain ⟨hd,hK⟩:=step h
  exact ⟨(tg,x),quiet hd fun G w ra hs hf _=>opTo_gives (sem G w ra hs hf),hK⟩
 |val φ x=>
  have h:(tgB tg=true→φ)∧PutD n o.dst tg (fun f'=>DX c n all t E R Z l f' ps) f x:=by
   cases tg with
   |sure=>exact ⟨fun _=>h.1,h.2⟩
   |cond b=>exact ⟨h.1,h.2⟩
  obtain ⟨hφ,h⟩:=h
  obtain ⟨hd,hK⟩:=step h
  exact ⟨(tg,x),quiet hd fun G w ra hs hf hb=>opTo_gives (sem G w ra hs hf (hφ hb)),hK⟩
 |call φ g xs=>
  have h:∃ x,(tgB tg=true→φ∧QCall c g xs t x)∧PutD n o.dst tg (fun f'=>DX c n all t E R Z l f' ps) f x:=by
   cases tg with
   |sure=>obtain ⟨x,h1,h2⟩:=h;exact ⟨x,fun _=>h1 trivial,h2⟩
   |cond b=>obtain ⟨x,h1,h2⟩:=h;exact ⟨x,h1,h2⟩
  obtain ⟨x,hφ,h⟩:=h
  obtain ⟨hd,hK⟩:=step h
  refine ⟨(tg,x),quiet hd fun G w ra hs hf hb=>?_,hK⟩
  have hφ:=hφ hb
  obtain ⟨vs,hr,hx⟩:=sem G w ra hs hf hφ.1
  exact opTo_call hs hr hx hφ.2.out
 |look r k ihq=>
  obtain ⟨x,hx,h⟩:=h
  exact ihq x h fun G w ra hs hf=>sem G w ra hs hf x hx
theorem DX.turn {k p:Nat} {l:List Nat} {o:Oper} {a:HS} (hk:all[k]? = some o) (h1:partOf E 0 k=some p) (ha:ps[p]? = some a) (hact:active all f o=some .sure) {s:HS} (e:a ++ t=s)
  (h:TStp c n a t o.dst (fun f' a'=>DX c n all t E R Z l f' (ps.set p a')) (hop c o.op f s) f):DX c n all t E R Z (k::l) f ps:=by
 subst e
 constructor
 simp only [textN,qOpN,hk,h1]
 obtain ⟨x,a',⟨f',hf',hK⟩,hto⟩:=turn_to (all:=all) (f:=f) (n:=n) (o:=o) h.out (fun G w ra hs hf=>d2_sem hs hf)
 obtain ⟨g1,g2⟩:=hput_get hf'
 refine ⟨(.sure,x),a',rfl,fun qs hqs=>⟨g2,fun G w ra hs hf=>⟨d2_want hact hf,fun _=>?_⟩⟩,g1 ▸ hK.out⟩
 rw [ha] at hqs
 have hs1:SRel G ((a ++ t) ++ (qs.eraseIdx p).flatten) w:=hs.permd (perm_join hqs t).symm
 exact (hto G w ra (hs1.perm (List.sublist_append_left _ _)) hf.rel).mono fun u w' ⟨G',hr,hp⟩=>⟨G',hr,((Post.frame hs1 hp).permL (perm_join hqs t)).permR (perm_join2 hqs t)⟩
/-- An operation that reads a part and leaves it. -/
theorem DX.read {k p:Nat} {l:List Nat} {o:Oper} {tg:Tag} {a:HS} (hk:all[k]? = some o) (h1:partOf E 0 k=none) (h2:partOf R 0 k=some p) (ha:ps[p]? = some a) (hact:active all f o=some tg) {s:HS} (e:a ++ t=s)
  (h:DStp c n s tg o.dst (fun f'=>DX c n all t E R Z l f' ps) (hop c o.op f s) f):DX c n all t E R Z (k::l) f ps:=by
 subst e
 constructor
 simp only [textN,qOpN,hk,h1,h2]
 have quiet:∀ {x:HV},(∀ d,o.dst=some d→d < n)→(∀ G w ra,SRel G (a ++ t) w→FRel G n (Fr.only (o.looksAt all) f) ra→tgB tg=true→OpTo c.P o ra w fun u w'=>∃ G',rel G' x u∧Post (a ++ t) G w (a ++ t) G' w')→∀ qs:List HS,qs[p]? = ps[p]?→YH c.P n all t o (fun t=>f.get t) qs.flatten (tg,x) qs.flatten:=fun hd hy qs hqs=>
  ⟨hd,fun G w ra hs hf=>⟨d2_want hact hf,fun hb=>by
   rw [ha] at hqs
   have hs1:SRel G ((a ++ t) ++ (qs.eraseIdx p).flatten) w:=hs.permd (perm_join hqs t).symm
   exact (hy G w ra (hs1.perm (List.sublist_append_left _ _)) hf.rel hb).mono fun u w' ⟨G',hr,hp⟩=>⟨G',hr,((Post.frame hs1 hp).permL (perm_join hqs t)).permR (perm_join hqs t)⟩⟩⟩
 have step:∀ {x:HV},PutD n o.dst tg (fun f'=>DX c n all t E R Z l f' ps) f x→(∀ d,o.dst=some d→d < n)∧textN c.P n all t (partOf E 0) (partOf R 0) (fun g ps=>∃ f',(fun t=>f'.get t)=g∧Z f' ps) l (gput (fun t=>f.get t) o.dst (tg,x)) ps:=fun {x} ⟨f',hf',hK⟩=>by
  obtain ⟨h1,h2⟩:=hput_get hf'
  exact ⟨h2,h1 ▸ hK.out⟩
 have sem:∀ G w ra,SRel G (a ++ t) w→FRel G n (Fr.only (o.looksAt all) f) ra→ResOK c.P (a ++ t) G w ((execOp ra.eval o).run c.P w) (hop c o.op f (a ++ t)):=fun G w ra hs hf=>d2_sem hs hf
 have h:=h.out
 generalize hop c o.op f (a ++ t)=q at h sem
 induction q with
 |bad=>
  cases tg with
  |sure=>exact h.elim
  |cond b=>
   obtain ⟨hb0,x,hx⟩:=h
   obtain ⟨hd,hK⟩:=step hx
   exact ⟨(.cond b,x),quiet hd fun G w ra hs hf hb=>absurd hb (by simp [tgB,hb0]),hK⟩
 |pan φ x=>exact h.elim
 |eff W=>exact h.elim
 |pure x=>
  obtain ⟨hd,hK⟩:=step h
  exact ⟨(tg,x),quiet hd fun G w ra hs hf _=>opTo_gives (sem G w ra hs hf),hK⟩
 |val φ x=>
  have h:(tgB tg=true→φ)∧PutD n o.dst tg (fun f'=>DX c n all t E R Z l f' ps) f x:=by
   cases tg with
   |sure=>exact ⟨fun _=>h.1,h.2⟩
   |cond b=>exact ⟨h.1,h.2⟩
  obtain ⟨hφ,h⟩:=h
  obtain ⟨hd,hK⟩:=step h
  exact ⟨(tg,x),quiet hd fun G w ra hs hf hb=>opTo_gives (sem G w ra hs hf (hφ hb)),hK⟩
 |call φ g xs=>
  have h:∃ x,(tgB tg=true→φ∧QCall c g xs (a ++ t) x)∧PutD n o.dst tg (fun f'=>DX c n all t E R Z l f' ps) f x:=by
   cases tg with
   |sure=>obtain ⟨x,h1,h2⟩:=h;exact ⟨x,fun _=>h1 trivial,h2⟩
   |cond b=>obtain ⟨x,h1,h2⟩:=h;exact ⟨x,h1,h2⟩
  obtain ⟨x,hφ,h⟩:=h
  obtain ⟨hd,hK⟩:=step h
  refine ⟨(tg,x),quiet hd fun G w ra hs hf hb=>?_,hK⟩
  have hφ:=hφ hb
  obtain ⟨vs,hr,hx⟩:=sem G w ra hs hf hφ.1
  exact opTo_call hs hr hx hφ.2.out
 |look r k ihq=>
  obtain ⟨x,hx,h⟩:=h
  exact ihq x h fun G w ra hs hf=>sem G w ra hs hf x hx
/-- An alloc, by a name that was kept free. -/
theorem DX.alloc {k p:Nat} {l:List Nat} {o:Oper} {r:Nat} {m0:HS} {f':Fr} {tt:TypeId} {z:HV} {zs:List HV} (hk:all[k]? = some o) (h1:partOf E 0 k=some p) (ha:ps[p]? = some ((r,.void)::m0)) (hact:active all f o=some .sure) (ho:o.op = .alloc tt)
  (hz:hzero c tt=some z) (hkd:kdOk z=true) (hs:z.cells=zs) (hp:hput n o.dst .sure (.ptr r 0) f=some f') (h:DX c n all t E R Z l f' (ps.set p ((r,.cells zs tt)::m0))):DX c n all t E R Z (k::l) f ps:=by
 subst hs
 constructor
 simp only [textN,qOpN,hk,h1]
 obtain ⟨g1,g2⟩:=hput_get hp
 refine ⟨(.sure,.ptr r 0),(r,.cells z.cells tt)::m0,rfl,fun qs hqs=>⟨g2,fun G w ra hs hf=>⟨d2_want hact hf,fun _=>?_⟩⟩,g1 ▸ h.out⟩
 rw [ha] at hqs
 have hs1:SRel G ((r,.void)::(m0 ++ (t ++ (qs.eraseIdx p).flatten))) w:=hs.permd (by
  have:=(perm_join hqs t).symm
  simpa using this)
 obtain ⟨d,hd',hr⟩:=zero_ok c (G:=G) hz
 have ht:=c.ty_ok tt d hd'
 have g:=newAs_ok c.P (s:=m0 ++ (t ++ (qs.eraseIdx p).flatten)) hs1 tt hr hkd
 have e:(execOp ra.eval o).run c.P w=(do pure (Next.value (←(do pure (Value.pointer (some (←newVar tt d.zero)))))):Sem Next).run c.P w:=by
  simp [execOp,ho,Instr.alloc,ht.zero]
 rw [←e] at g
 refine (opTo_gives g).mono fun u w' ⟨G',hr,hp⟩=>⟨G',hr,(hp.permL ?_).permR ?_⟩
 ·have:=perm_join hqs t
  simpa using this
 ·have:=perm_join2 (m:=(r,.cells z.cells tt)::m0) hqs t
  simpa using this
end
theorem DX.id {c:Cx} {n:Nat} {all:Array Oper} {t:HS} {E R:List (List Nat)} {Z:Fr→List HS→Prop} {l:List Nat} {f:Fr} {ps:List HS} (h:DX c n all t E R Z l f ps):DX c n all t E R Z l f ps:=h
theorem drawX (c:Cx) {n id:Nat} {ops:Array Oper} {Q:HExit→Fr→HS→Prop} {f:Fr} {s:HS} (ps:List HS) {m t:HS} (e:ps.flatten=m) (E R:List (List Nat)) (X p:Nat) (l1 l2:List Nat) (hp:HTake s m t) {oX:Oper} (hX:ops[X]? = some oX) (hE:partOf E 0 X=some p) (hl:l2.length+1+l1.length=ops.size) (hB:lexX1 ops (partOf E 0) (partOf R 0) X l2 l1 (Array.replicate ops.size false)=true)
  (h:DX c n ops t E R (DFam c n ops t E R Q p oX l2) l1 f ps):DrawReg c.P n id ops Q f s:=
 ⟨⟨fun G w ra hs hf=>by
  subst e
  have hs':SRel G (ps.flatten ++ t) w:=hs.permd hp.perm.symm
  refine wpB_region_any c.orders ?_
  have h1:textN c.P n ops t (partOf E 0) (partOf R 0) (fun g ps=>Fam c.P n ops t p oX g ps (textN c.P n ops t (partOf E 0) (partOf R 0) (fun g ps=>∃ f',(fun t=>f'.get t)=g∧Q .normal f' (ps.flatten ++ t)) l2)) l1 (fun t=>f.get t) ps:=
   textN_mono c.P n ops t (partOf E 0) (partOf R 0) (fun g ps ⟨f',e,hZ⟩=>e ▸ hZ.out) l1 _ _ h.out
  have H:=wpAnyX_lex c.P n ops t (partOf E 0) (partOf R 0) X p oX hX hE l2 l1 _ _ _ hB h1
  rw [hl] at H
  have hp0:Post (ps.flatten ++ t) G w (ps.flatten ++ t) G { w with drawn:=w.drawn+1}:=Post.drawn hs' rfl rfl rfl rfl
  refine wpAny_of_X c.P n ops t (partOf E 0) (partOf R 0) X p oX hX hs' (fun g a' G' w' ra' hp' hf' ⟨f',e,hQ⟩=>?_) ops.size _ _ ps G _ ra hp0 ⟨hf.size,hf.defers,hf.slots⟩ H
  subst e
  exact ⟨.normal,f',a'.flatten ++ t,G',hQ,trivial,⟨hf'.size,hf'.defers,hf'.slots⟩,hp'.permL hp.perm⟩⟩⟩
end
end Go.Proofs.Hk

set_option linter.unusedVariables false
namespace Go.Proofs.Hk
noncomputable section
open Go
/-- An operation whose guard does not hold is passed by. -/
theorem DN.dead {c:Cx} {n:Nat} {all:Array Oper} {t:HS} {E R:List (List Nat)} {Q:HExit→Fr→HS→Prop} {f f':Fr} {ps:List HS} {k:Nat} {l:List Nat} {o:Oper} (hk:all[k]? = some o) (h1:partOf E 0 k=none) (h2:partOf R 0 k=none) (hact:active all f o=some (.cond false))
  (hp:hput n o.dst (.cond false) (.v (.bool false)) f=some f') (h:DN c n all t E R Q l f' ps):DN c n all t E R Q (k::l) f ps:=by
 constructor
 simp only [textN,qOpN,hk,h1,h2]
 obtain ⟨g1,g2⟩:=hput_get hp
 exact ⟨(.cond false,.v (.bool false)),fun m=>⟨g2,fun G w ra hs hf=>⟨d2_want hact hf,fun hb=>absurd hb (by simp [tgB])⟩⟩,g1 ▸ h.out⟩
end
end Go.Proofs.Hk
