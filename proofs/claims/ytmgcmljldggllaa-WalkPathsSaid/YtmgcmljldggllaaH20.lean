import Derived.Test.YtmgcmljldggllaaH19
set_option linter.unusedSimpArgs false
set_option linter.unusedVariables false
namespace Go.Proofs.Hk
open Go

/-! The same walk by small rules, so that nothing is worked out twice. -/

/-- What goes on behind an operation that comes to x. -/
structure PutK (n : Nat) (dst : Option Tmp) (g : Tag) (K : Fr → HS → Prop) (a : Fr) (x : HV) (s : HS) : Prop where
  out : ∃ a', hput n dst g x a = some a' ∧ K a' s
theorem PutK.mk' {n : Nat} {dst : Option Tmp} {g : Tag} {K : Fr → HS → Prop} {a a' : Fr} {x : HV} {s : HS} (h : hput n dst g x a = some a') (k : K a' s) : PutK n dst g K a x s := ⟨a', h, k⟩

/-- One operation. -/
structure Stp (c : Cx) (n : Nat) (g : Tag) (dst : Option Tmp) (K : Fr → HS → Prop) (Q : HExit → Fr → HS → Prop) (q : OpRes) (a : Fr) (s : HS) : Prop where
  out : match g with
    | .sure => q.wp s (fun x s' => PutK n dst .sure K a x s') (fun f xs => CallWp c f xs s (fun x s' => PutK n dst .sure K a x s') (fun x s' => Q (.pan x) a s')) (fun x => Q (.pan x) a s)
    | .cond b => q.wpc c s b (fun x => PutK n dst (.cond b) K a x s) (PutK n dst (.cond false) K a (.v undef) s) (fun x s' => PutK n dst .sure K a x s')
        (fun f xs => CallWp c f xs s (fun x s' => PutK n dst .sure K a x s') (fun x s' => Q (.pan x) a s')) (fun x => Q (.pan x) a s)

section
variable {c : Cx} {n : Nat} {dst : Option Tmp} {K : Fr → HS → Prop} {Q : HExit → Fr → HS → Prop} {a a' : Fr} {s : HS}
theorem Stp.pure {g : Tag} {x : HV} (h : hput n dst g x a = some a') (k : K a' s) : Stp c n g dst K Q (.pure x) a s := by
  cases g with
  | sure => exact ⟨⟨a', h, k⟩⟩
  | cond b => exact ⟨⟨a', h, k⟩⟩
theorem Stp.val {φ : Prop} {x : HV} (h : hput n dst .sure x a = some a') (k : Side φ (K a' s)) : Stp c n .sure dst K Q (.val φ x) a s := ⟨⟨k.1, a', h, k.2⟩⟩
theorem Stp.valC {b : Bool} {φ : Prop} {x : HV} (h : hput n dst (.cond b) x a = some a') (k : Side (b = true → φ) (K a' s)) : Stp c n (.cond b) dst K Q (.val φ x) a s := ⟨⟨k.1, a', h, k.2⟩⟩
theorem Stp.call {φ : Prop} {f : FuncId} {xs : List HV} (k : Side φ (CallWp c f xs s (fun x s' => PutK n dst .sure K a x s') (fun x s' => Q (.pan x) a s'))) : Stp c n .sure dst K Q (.call φ f xs) a s := ⟨k⟩
theorem Stp.callC {b : Bool} {φ : Prop} {f : FuncId} {xs : List HV} (k : CallC c b f xs s φ (fun x => PutK n dst (.cond b) K a x s) (CallWp c f xs s (fun x s' => PutK n dst .sure K a x s') (fun x s' => Q (.pan x) a s')) (PutK n dst (.cond false) K a (.v undef) s)) : Stp c n (.cond b) dst K Q (.call φ f xs) a s := ⟨k⟩
theorem Stp.pan {φ : Prop} {x : HV} (k : Side φ (Q (.pan x) a s)) : Stp c n .sure dst K Q (.pan φ x) a s := ⟨k⟩
theorem Stp.panC {b : Bool} {φ : Prop} {x : HV} (k : Br b (Side φ (Q (.pan x) a s)) (PutK n dst (.cond false) K a (.v undef) s)) : Stp c n (.cond b) dst K Q (.pan φ x) a s := ⟨k⟩
theorem Stp.look {g : Tag} {r : Nat} {k : Res → OpRes} (h : Look s r fun x => Stp c n g dst K Q (k x) a s) : Stp c n g dst K Q (.look r k) a s := by
  obtain ⟨x, hx, h⟩ := h
  cases g with
  | sure => exact ⟨⟨x, hx, h.out⟩⟩
  | cond b => exact ⟨⟨x, hx, h.out⟩⟩
theorem Stp.eff {W : (HV → HS → Prop) → Prop} (k : W fun x s' => PutK n dst .sure K a x s') : Stp c n .sure dst K Q (.eff W) a s := ⟨k⟩
theorem Stp.effC {b : Bool} {W : (HV → HS → Prop) → Prop} (k : Br b (W fun x s' => PutK n dst .sure K a x s') (PutK n dst (.cond false) K a (.v undef) s)) : Stp c n (.cond b) dst K Q (.eff W) a s := ⟨k⟩
end

/-- What is left of a region's operations. -/
structure Ops (c : Cx) (n : Nat) (all : Array Oper) (l : List Oper) (Q : HExit → Fr → HS → Prop) (a : Fr) (s : HS) : Prop where
  out : ∀ s0 G0 w0, SRel G0 s0 w0 → ∀ k, all.toList.drop k = l → ∀ G w ra, Post s0 G0 w0 s G w → FRel G n a ra → wpOps c.P all (Lift n s0 G0 w0 Q) (List.range' k l.length) ra w
theorem Ops.nil {c : Cx} {n : Nat} {all : Array Oper} {Q : HExit → Fr → HS → Prop} {a : Fr} {s : HS} (h : Q .normal a s) : Ops c n all [] Q a s :=
  ⟨fun _ _ _ _ _ _ G _ _ hp hf => ⟨.normal, a, s, G, h, trivial, hf, hp⟩⟩

theorem Ops.cons {c : Cx} {n : Nat} {all : Array Oper} {o : Oper} {rest : List Oper} {Q : HExit → Fr → HS → Prop} {a : Fr} {s : HS} {tg : Tag} (hact : active all a o = some tg)
    (h : Stp c n tg o.dst (fun a' s' => Ops c n all rest Q a' s') Q (hop c o.op a s) a s) : Ops c n all (o :: rest) Q a s := by
  refine ⟨fun s0 G0 w0 h0 k hk G w ra hp hf => ?_⟩
  have hko : all[k]? = some o := by
    have : (all.toList.drop k)[0]? = some o := by rw [hk]; rfl
    rw [List.getElem?_drop] at this
    simpa using this
  have hrest : all.toList.drop (k + 1) = rest := by rw [← List.drop_drop, hk]; rfl
  simp only [List.length_cons, List.range'_succ, wpOps, hko]
  have next : ∀ {g : Tag} {x : HV} {s' : HS} {G' : Ghost} {w' : World} {u : Value}, Post s G w s' G' w' → tagRel G' g x u → PutK n o.dst g (fun a' s' => Ops c n all rest Q a' s') a x s' → wpOps c.P all (Lift n s0 G0 w0 Q) (List.range' (k + 1) rest.length) (ra.put o.dst u) w' := by
    intro g x s' G' w' u hp' hu ⟨a', ha, hm⟩
    exact hm.out s0 G0 w0 h0 (k + 1) hrest G' w' _ (hp.trans h0 hp') ((hf.mono hp'.ext.le).put ha hu)
  have off : PutK n o.dst (.cond false) (fun a' s' => Ops c n all rest Q a' s') a (.v undef) s → wpOps c.P all (Lift n s0 G0 w0 Q) (List.range' (k + 1) rest.length) (ra.put o.dst undef) w := fun hm =>
    next (g := .cond false) (.refl hp.srel) ⟨(fun e => by cases e), fun _ => rfl⟩ hm
  have hsem := hop_ok c hp.srel hf o
  have called : ∀ {f : FuncId} {xs : List HV} {vs : Array Value}, (execOp ra.eval o).run c.P w = .ok (.enter f vs) w → relVs G xs vs.toList → CallWp c f xs s (fun x s' => PutK n o.dst .sure (fun a' s' => Ops c n all rest Q a' s') a x s') (fun x s' => Q (.pan x) a s') → o.wp c.P ra w (wpOps c.P all (Lift n s0 G0 w0 Q) (List.range' (k + 1) rest.length)) (Lift n s0 G0 w0 Q) := by
    intro f xs vs hr hx hc
    unfold Oper.wp
    rw [hr, Oper.upon_enter]
    refine (hc.out.out G w vs hp.srel hx).mono fun e w' ⟨he, s', G', hR, hrel, hp'⟩ => ?_
    cases he with
    | ret x =>
      cases e <;> first | exact hrel.elim | skip
      exact next (g := .sure) hp' hrel hR
    | pan x =>
      cases e <;> first | exact hrel.elim | skip
      exact ⟨.pan x, a, s', G', hR, hrel, hf.mono hp'.ext.le, hp.trans h0 hp'⟩
  have h := h.out
  cases tg with
  | sure =>
    have hw := active_ok hf hact
    simp only [] at hw h
    rw [hw]
    simp only [if_true]
    refine .inl ?_
    generalize hop c o.op a s = q at h hsem
    induction q with
    | bad => exact h.elim
    | pure x =>
      obtain ⟨u, w', G', hy, hr, hp'⟩ := hsem
      exact upon_gives hy (next (g := .sure) hp' hr h)
    | val φ x =>
      obtain ⟨hφ, h⟩ := h
      obtain ⟨u, w', G', hy, hr, hp'⟩ := hsem hφ
      exact upon_gives hy (next (g := .sure) hp' hr h)
    | call φ f xs =>
      obtain ⟨hφ, h⟩ := h
      obtain ⟨vs, hr, hx⟩ := hsem hφ
      exact called hr hx h
    | pan φ x =>
      obtain ⟨hφ, h⟩ := h
      obtain ⟨u, hr, hu⟩ := hsem hφ
      unfold Oper.wp
      rw [hr, Oper.upon_panic]
      exact ⟨.pan _, a, s, G, h, ⟨u, rfl, hu⟩, hf, hp⟩
    | eff W =>
      obtain ⟨x, s', hK, u, w', G', hy, hr, hp'⟩ := hsem _ h
      exact upon_gives hy (next (g := .sure) hp' hr hK)
    | look r k ihq =>
      obtain ⟨x, hx, h⟩ := h
      exact ihq x h (hsem x hx)
  | cond b =>
    have hw := active_ok hf hact
    simp only [] at hw h
    rw [hw]
    generalize hop c o.op a s = q at h hsem
    induction q with
    | bad => exact h.elim
    | pure x =>
      obtain ⟨u, w', G', hy, hr, hp'⟩ := hsem
      cases b with
      | true => exact .inl (upon_gives hy (next (g := .cond true) hp' ⟨fun _ => hr, (fun e => by cases e)⟩ h))
      | false => exact next (g := .cond false) (.refl hp.srel) ⟨(fun e => by cases e), fun _ => rfl⟩ h
    | val φ x =>
      obtain ⟨hφ, h⟩ := h
      cases b with
      | true =>
        obtain ⟨u, w', G', hy, hr, hp'⟩ := hsem (hφ rfl)
        exact .inl (upon_gives hy (next (g := .cond true) hp' ⟨fun _ => hr, (fun e => by cases e)⟩ h))
      | false => exact next (g := .cond false) (.refl hp.srel) ⟨(fun e => by cases e), fun _ => rfl⟩ h
    | call φ f xs =>
      rcases h with ⟨⟨x, hq, h⟩ | h⟩
      · cases b with
        | true =>
          obtain ⟨hφ, hc⟩ := hq rfl
          obtain ⟨vs, hr, hx⟩ := hsem hφ
          refine .inl ?_
          unfold Oper.wp
          rw [hr, Oper.upon_enter]
          refine (hc.out.out G w vs hp.srel hx).mono fun e w' ⟨he, s', G', ⟨h1, h2⟩, hrel, hp'⟩ => ?_
          subst h1 h2
          cases e <;> first | exact hrel.elim | skip
          exact next (g := .cond true) hp' ⟨fun _ => hrel, (fun e => by cases e)⟩ h
        | false => exact next (g := .cond false) (.refl hp.srel) ⟨(fun e => by cases e), fun _ => rfl⟩ h
      · cases b with
        | true =>
          obtain ⟨hφ, h⟩ := h.1 rfl
          obtain ⟨vs, hr, hx⟩ := hsem hφ
          exact .inl (called hr hx h)
        | false => exact off (h.2 rfl)
    | pan φ x =>
      cases b with
      | true =>
        obtain ⟨hφ, h⟩ := h.1 rfl
        obtain ⟨u, hr, hu⟩ := hsem hφ
        refine .inl ?_
        unfold Oper.wp
        rw [hr, Oper.upon_panic]
        exact ⟨.pan _, a, s, G, h, ⟨u, rfl, hu⟩, hf, hp⟩
      | false => exact off (h.2 rfl)
    | eff W =>
      cases b with
      | true =>
        obtain ⟨x, s', hK, u, w', G', hy, hr, hp'⟩ := hsem _ (h.1 rfl)
        exact .inl (upon_gives hy (next (g := .sure) hp' hr hK))
      | false => exact off (h.2 rfl)
    | look r k ihq =>
      obtain ⟨x, hx, h⟩ := h
      exact ihq x h (hsem x hx)

/-! Ends of pieces. -/
def qThen (P : Program) (n : Nat) (y : Code) (Q : HExit → Fr → HS → Prop) : HExit → Fr → HS → Prop
  | .normal, a, s => SemWp P n y Q a s
  | e, a, s => Q e a s
section
variable {c : Cx} {n : Nat} {x y : Code} {Q : HExit → Fr → HS → Prop} {a : Fr} {s : HS}
theorem sem_seq (h : SemWp c.P n x (qThen c.P n y Q) a s) : SemWp c.P n (.seq x y) Q a s :=
  .seq (h.mono fun e a s q => by cases e <;> exact q)
theorem sem_cond {t : Operand} {b : Bool} (e : ev a t = some (.sure, .v (.bool b))) (h : Br b (SemWp c.P n x Q a s) (SemWp c.P n y Q a s)) : SemWp c.P n (.cond t x y) Q a s :=
  ⟨fun G w ra hs hf => by
    have hb := rel_v_eq (ev_ok hf e)
    cases b with
    | true => exact wp_cond_true hb ((h.1 rfl).out G w ra hs hf)
    | false => exact wp_cond_false hb ((h.2 rfl).out G w ra hs hf)⟩
theorem sem_block {id : Nat} (h : SemWp c.P n x (hinBlock id Q) a s) : SemWp c.P n (.block id x) Q a s := .block h
theorem sem_exit {id : Nat} (h : Q (.exit id) a s) : SemWp c.P n (.exit id) Q a s := hwp_sound c n (.exit id) Q a s h
theorem sem_ret (h : Q .ret a s) : SemWp c.P n .ret Q a s := hwp_sound c n .ret Q a s h
theorem sem_skip (h : Q .normal a s) : SemWp c.P n .skip Q a s := hwp_sound c n .skip Q a s h
theorem sem_label {l : Nat} (h : Q .normal a s) : SemWp c.P n (.label l) Q a s := hwp_sound c n (.label l) Q a s h
theorem sem_region {id : Nat} {ops : Array Oper} {l : List Oper} (e : ops.toList = l) (h : Ops c n ops l Q a s) : SemWp c.P n (.region id ops false) Q a s :=
  ⟨fun G w ra hs hf => wp_region (by
    have := h.out s G w hs 0 e G w ra (.refl hs) hf
    rw [List.range_eq_range', ← Array.length_toList, e]
    exact this)⟩
theorem sem_draw {id : Nat} {ops : Array Oper} (h : DrawReg c.P n id ops Q a s) : SemWp c.P n (.region id ops true) Q a s := h.out

theorem qThen.go (h : SemWp c.P n y Q a s) : qThen c.P n y Q .normal a s := h
theorem qThen.ret (h : Q .ret a s) : qThen c.P n y Q .ret a s := h
theorem qThen.exit {j : Nat} (h : Q (.exit j) a s) : qThen c.P n y Q (.exit j) a s := h
theorem qThen.pan {v : HV} (h : Q (.pan v) a s) : qThen c.P n y Q (.pan v) a s := h
theorem hinBlock.go {id : Nat} (h : Q .normal a s) : hinBlock id Q .normal a s := h
theorem hinBlock.ret {id : Nat} (h : Q .ret a s) : hinBlock id Q .ret a s := h
theorem hinBlock.pan {id : Nat} {v : HV} (h : Q (.pan v) a s) : hinBlock id Q (.pan v) a s := h
theorem hinBlock.here {id j : Nat} (e : Nat.beq j id = true) (h : Q .normal a s) : hinBlock id Q (.exit j) a s := by
  simp only [hinBlock, e]; exact h
theorem hinBlock.on {id j : Nat} (e : Nat.beq j id = false) (h : Q (.exit j) a s) : hinBlock id Q (.exit j) a s := by
  simp only [hinBlock, e]; exact h
theorem hround.go {R : Fr → HS → Prop} (h : Fin (R a s)) : hround R Q .normal a s := h
theorem hround.ret {R : Fr → HS → Prop} (h : Q .ret a s) : hround R Q .ret a s := h
theorem hround.exit {R : Fr → HS → Prop} {j : Nat} (h : Q (.exit j) a s) : hround R Q (.exit j) a s := h
theorem hround.pan {R : Fr → HS → Prop} {v : HV} (h : Q (.pan v) a s) : hround R Q (.pan v) a s := h
theorem bodyQ.ret {rs : List ResultVar} {R : HEnd → HS → Prop} {x : HV} (e : resH a rs = some [x]) (h : Fin (R (.ret x) s)) : bodyQ rs R .ret a s := by
  simp only [bodyQ, e]; exact h
theorem bodyQ.ret2 {rs : List ResultVar} {R : HEnd → HS → Prop} {x y : HV} {l : List HV} (e : resH a rs = some (x :: y :: l)) (h : Fin (R (.ret (.tup (x :: y :: l))) s)) : bodyQ rs R .ret a s := by
  simp only [bodyQ, e]; exact h
theorem bodyQ.ret0 {rs : List ResultVar} {R : HEnd → HS → Prop} (e : resH a rs = some []) (h : Fin (R (.ret (.tup [])) s)) : bodyQ rs R .ret a s := by
  simp only [bodyQ, e]; exact h
theorem bodyQ.go {rs : List ResultVar} {R : HEnd → HS → Prop} (h : bodyQ rs R .ret a s) : bodyQ rs R .normal a s := h
theorem bodyQ.pan {rs : List ResultVar} {R : HEnd → HS → Prop} {v : HV} (h : Fin (R (.pan v) s)) : bodyQ rs R (.pan v) a s := h
end

theorem sem_calls (c : Cx) {f : FuncId} {fn : Func} {code : Code} {args : List HV} {a : Fr} {s : HS} {R : HEnd → HS → Prop} (hf : c.P.funcs[f]? = some fn) (hb : fn.body = some code) (hn : Nat.ble args.length fn.ntmps = true) (ha : initFr args 0 = a)
    (h : SemWp c.P fn.ntmps code (bodyQ fn.results.toList R) a s) : HCalls c.P f args s R := hcalls_of c hf hb hn (by rw [ha]; exact h)

theorem sem_loop (c : Cx) {n : Nat} {b : Code} {Q : HExit → Fr → HS → Prop} {a : Fr} {s : HS} {ι : Type} (J : ι → Prop) (F : ι → Fr) (S : ι → HS) (μ : ι → Nat) (i0 : ι) (hJ : J i0) (hF : (F i0).Sub a) (hS : Subp (S i0) s)
    (round : ∀ i, J i → SemWp c.P n b (hround (fun a s => ∃ i', J i' ∧ μ i' < μ i ∧ (F i').Sub a ∧ Subp (S i') s) Q) (F i) (S i)) : SemWp c.P n (.loop b) Q a s := by
  refine SemWp.loop (fun m a s => ∃ i, μ i = m ∧ J i ∧ (F i).Sub a ∧ Subp (S i) s) (μ i0) ⟨i0, rfl, hJ, hF, hS⟩ ?_
  rintro m a s ⟨i, rfl, hJ, hF, hS⟩
  refine SemWp.less hS (SemWp.forget ((round i hJ).mono fun e a s q => ?_) hF)
  cases e with
  | normal =>
    obtain ⟨⟨i', h1, h2, h3, h4⟩⟩ := q
    exact ⟨μ i', h2, i', rfl, h1, h3, h4⟩
  | exit j => exact q
  | ret => exact q
  | pan x => exact q


/-- What a state is with one thing changed. -/
inductive HsetIs : HS → Nat → Res → HS → Prop
  | hit {r : Nat} {x y : Res} {s : HS} : HsetIs ((r, x) :: s) r y ((r, y) :: s)
  | miss {q r : Nat} {x y : Res} {s s' : HS} (h : q ≠ r) (k : HsetIs s r y s') : HsetIs ((q, x) :: s) r y ((q, x) :: s')
theorem HsetIs.eq {s s' : HS} {r : Nat} {y : Res} (h : HsetIs s r y s') : hset s r y = s' := by
  induction h with
  | hit => exact hset_hit _ _ _ _
  | miss h _ ih => rw [hset_miss _ _ _ h, ih]
theorem PutK.set {n : Nat} {dst : Option Tmp} {g : Tag} {K : Fr → HS → Prop} {a : Fr} {x : HV} {s s' : HS} {r : Nat} {y : Res} (h : HsetIs s r y s') (k : PutK n dst g K a x s') : PutK n dst g K a x (hset s r y) := h.eq ▸ k

theorem sem_nil_own (c : Cx) {n : Nat} {code : Code} {Q : HExit → Fr → HS → Prop} {a : Fr} {s : HS} (t sz : Nat) (ha : a.get t = some (.sure, .v (.slice none 0 0))) (h : ∀ r, r ∉ keys s → SemWp c.P n code Q ((t, .sure, .list (.own r 0) sz []) :: a) ((r, .tok 0) :: s)) : SemWp c.P n code Q a s :=
  ⟨fun G w ra hs hf => by
    let G' : Ghost := { G with top := fun q => if q = G.lim then some ⟨0, 0, 0, 0⟩ else G.top q, lim := G.lim + 1 }
    have le : G.Le G' := ⟨fun _ _ _ e => e, fun _ _ e => e, fun q tp e => by
      have := hs.lt_top e
      simp only [G']
      rw [if_neg (by omega)]
      exact ⟨tp, e, Nat.le_refl _, fun _ => rfl⟩⟩
    have post : Post s G w ((G.lim, .tok 0) :: s) G' w := by
      refine ⟨⟨hs.kw, ?_, fun r x hx => ?_, fun r hr => ?_, fun b r e => ?_⟩, ⟨le, Nat.le_refl _, fun _ _ _ => ⟨rfl, rfl, fun _ => rfl⟩, fun r tp e _ => ?_, by simp [G'], rfl, rfl, rfl, fun r h0 _ h1 h2 h3 => ⟨h1, by simp only [G']; rw [if_neg (by omega)]; exact h2, h3⟩⟩, fun r hr => ?_⟩
      · simp only [keys, List.map_cons, List.nodup_cons]
        exact ⟨fun hm => by have := hs.lt_key hm; omega, hs.keys⟩
      · rcases List.mem_cons.1 hx with hx | hx
        · cases hx
          exact ⟨⟨0, 0, 0, 0⟩, by simp [G'], rfl, fun h => by simp at h⟩
        · exact (hs.holds r x hx).agree hs le (fun b _ => ⟨rfl, rfl, fun _ => rfl⟩) (fun q tp e => by
            have := hs.lt_top e
            simp only [G']
            rw [if_neg (by omega)]; exact e) (fun r h0 h1 h2 h3 => ⟨by simp only [G']; omega, h1, by simp only [G']; rw [if_neg (by omega)]; exact h2, h3⟩)
      · simp only [G'] at hr ⊢
        rw [if_neg (by omega)]
        exact hs.fresh r (by omega)
      · have := hs.role b r e
        simp only [G']; omega
      · have := hs.lt_top e
        simp only [G']
        rw [if_neg (by omega)]; exact e
      · simp only [keys, List.map_cons, List.mem_cons] at hr
        rcases hr with rfl | hr
        · exact .inr (Nat.le_refl _)
        · exact .inl hr
    obtain ⟨h1, h2⟩ := hf.slots t _ _ ha
    have hu := rel_v_eq h2
    have hw := h G.lim (fun hm => by have := hs.lt_key hm; omega)
    refine hw.lift hs post ⟨hf.size, hf.defers, fun t' g x e => ?_⟩
    simp only [Fr.get] at e
    split at e
    · rename_i ht
      have := Nat.eq_of_beq_eq_true ht
      subst this
      cases e
      refine ⟨h1, ?_⟩
      show rel G' _ _
      rw [hu]
      exact list_rel_nil ⟨⟨0, 0, 0, 0⟩, by simp [G'], Nat.le_refl _⟩
    · exact ⟨(hf.slots t' g x e).1, (hf.slots t' g x e).2.mono le⟩⟩

theorem Stp.id {c : Cx} {n : Nat} {g : Tag} {dst : Option Tmp} {K : Fr → HS → Prop} {Q : HExit → Fr → HS → Prop} {q : OpRes} {a : Fr} {s : HS} (h : Stp c n g dst K Q q a s) : Stp c n g dst K Q q a s := h
theorem Ops.id {c : Cx} {n : Nat} {all : Array Oper} {l : List Oper} {Q : HExit → Fr → HS → Prop} {a : Fr} {s : HS} (h : Ops c n all l Q a s) : Ops c n all l Q a s := h
theorem PutK.id {n : Nat} {dst : Option Tmp} {g : Tag} {K : Fr → HS → Prop} {a : Fr} {x : HV} {s : HS} (h : PutK n dst g K a x s) : PutK n dst g K a x s := h
theorem SemWp.id {P : Program} {n : Nat} {x : Code} {Q : HExit → Fr → HS → Prop} {a : Fr} {s : HS} (h : SemWp P n x Q a s) : SemWp P n x Q a s := h
theorem Side.id {φ K : Prop} (h : Side φ K) : Side φ K := h
theorem Br.id {b : Bool} {X Y : Prop} (h : Br b X Y) : Br b X Y := h
theorem Look.id {s : HS} {r : Nat} {K : Res → Prop} (h : Look s r K) : Look s r K := h
theorem CallWp.id {c : Cx} {f : FuncId} {xs : List HV} {s : HS} {K E : HV → HS → Prop} (h : CallWp c f xs s K E) : CallWp c f xs s K E := h
theorem QAsk.id {on : Prop} {c : Cx} {f : FuncId} {xs : List HV} {t : HS} {φ : Prop} {K : HV → Prop} (h : QAsk on c f xs t φ K) : QAsk on c f xs t φ K := h
theorem CallC.id {c : Cx} {b : Bool} {f : FuncId} {xs : List HV} {s : HS} {φ : Prop} {K : HV → Prop} {on off : Prop} (h : CallC c b f xs s φ K on off) : CallC c b f xs s φ K on off := h
theorem qThen.id {P : Program} {n : Nat} {y : Code} {Q : HExit → Fr → HS → Prop} {e : HExit} {a : Fr} {s : HS} (h : qThen P n y Q e a s) : qThen P n y Q e a s := h
theorem hinBlock.id {i : Nat} {Q : HExit → Fr → HS → Prop} {e : HExit} {a : Fr} {s : HS} (h : hinBlock i Q e a s) : hinBlock i Q e a s := h
theorem hround.id {R : Fr → HS → Prop} {Q : HExit → Fr → HS → Prop} {e : HExit} {a : Fr} {s : HS} (h : hround R Q e a s) : hround R Q e a s := h
theorem bodyQ.id {rs : List ResultVar} {R : HEnd → HS → Prop} {e : HExit} {a : Fr} {s : HS} (h : bodyQ rs R e a s) : bodyQ rs R e a s := h

end Go.Proofs.Hk
