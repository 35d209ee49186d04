import Derived.Test.YtoaccdmeojjdjaaGreatDoorY7
import Derived.Test.YtoaccdmeojjdjaaGreatDoorH26
import Derived.Test.YtoaccdmeojjdjaaGreatDoorCards
set_option linter.unusedSimpArgs false
set_option linter.unusedVariables false
set_option maxRecDepth 4000
namespace Go.Proofs.YtoaccdmeojjdjaaGreatDoor
open Go Go.Proofs.Hk Go.RowKit Go.WideShapes Go.ChangeShapes
theorem Tryz.cells3:Tryz.prog.cellsOf 3=1:=by kernel_rfl
theorem Tryz.cells9:Tryz.prog.cellsOf 9=1:=by kernel_rfl
theorem Tryz.cells23:Tryz.prog.cellsOf 23=1:=by kernel_rfl
theorem Tryz.cells62:Tryz.prog.cellsOf 62=1:=by kernel_rfl
theorem Tryz.cells59:Tryz.prog.cellsOf 59=1:=by kernel_rfl
theorem Tryz.cells58:Tryz.prog.cellsOf 58=1:=by kernel_rfl
theorem Tryz.cells44:Tryz.prog.cellsOf 44=1:=by kernel_rfl
theorem Tryz.cells41:Tryz.prog.cellsOf 41=5:=by kernel_rfl
theorem Tryz.cells64:Tryz.prog.cellsOf 64=7:=by kernel_rfl
theorem Tryz.cells61:Tryz.prog.cellsOf 61=5:=by kernel_rfl
theorem Tryz.cells46:Tryz.prog.cellsOf 46=1:=by kernel_rfl
section
variable {H:Type} {enc:TypeId × Value→H} {w:World}
theorem len1 {α:Type} {l:List α} (h:l.length=1):∃ a,l=[a]:=by
 match l,h with
 |[a],_=>exact ⟨a,rfl⟩
theorem len5 {α:Type} {l:List α} (h:l.length=5):∃ a b c d e,l=[a,b,c,d,e]:=by
 match l,h with
 |[a,b,c,d,e],_=>exact ⟨a,b,c,d,e,rfl⟩
theorem len7 {α:Type} {l:List α} (h:l.length=7):∃ a b c d e f g,l=[a,b,c,d,e,f,g]:=by
 match l,h with
 |[a,b,c,d,e,f,g],_=>exact ⟨a,b,c,d,e,f,g,rfl⟩
theorem opNode:Opens enc Tryz.prog w 41 ND encN (fun _=>True):=by
 refine ⟨fun _=>by simp [HV.kd,encN,encN'],fun fuel cs d h=>?_⟩
 obtain ⟨hl,⟨f0,y0,h0⟩,⟨f1,y1,h1⟩,⟨f2,y2,h2⟩,⟨f3,y3,h3⟩,⟨f4,y4,h4⟩,_⟩:=struct_of Tryz.underlying41 h
 rw [Tryz.cells41] at hl
 obtain ⟨c0,c1,c2,c3,c4,rfl⟩:=len5 hl
 simp only [Tryz.cells3,Tryz.cells9] at h0 h1 h2 h3 h4
 obtain ⟨k,_,r0⟩:=(opens_int Tryz.underlying3).2 _ _ _ h0
 obtain ⟨n,_,r1⟩:=(opens_int Tryz.underlying3).2 _ _ _ h1
 obtain ⟨s,_,r2⟩:=(opens_string Tryz.underlying9).2 _ _ _ h2
 obtain ⟨a,_,r3⟩:=(opens_int Tryz.underlying3).2 _ _ _ h3
 obtain ⟨b,_,r4⟩:=(opens_int Tryz.underlying3).2 _ _ _ h4
 refine ⟨⟨k,n,s,a,b⟩,trivial,?_⟩
 simp only [encN,encN',relC,relCs]
 exact ⟨c0,_,rfl,⟨rfl,r0⟩,c1,_,rfl,⟨rfl,r1⟩,c2,_,rfl,⟨rfl,r2⟩,c3,_,rfl,⟨rfl,r3⟩,c4,_,rfl,⟨rfl,r4⟩,rfl⟩
theorem opNodes:Opens enc Tryz.prog w 23 (List ND) LNs (fun l=>(∀ x∈l,True)∧l.length≤maxLen):=opens_slice Tryz.underlying23 Tryz.cells41 (by decide) opNode
theorem opArgs:Opens enc Tryz.prog w 62 (List (List ND)) LLNs (fun l=>(∀ x∈l,(∀ y∈x,True)∧x.length≤maxLen)∧l.length≤maxLen):=opens_slice Tryz.underlying62 Tryz.cells23 (by decide) opNodes
theorem opStrs:Opens enc Tryz.prog w 58 (List ByteArray) LSs' (fun l=>(∀ x∈l,x.size≤maxLen)∧l.length≤maxLen):=opens_slice Tryz.underlying58 Tryz.cells9 (by decide) (opens_string Tryz.underlying9)
theorem opStmtU:∀ N,OpensU N enc Tryz.prog w 64 SD encSD (fun _=>True)
 |0=>⟨fun x=>by rw [encSD_q];simp [HV.kd,encSDq],fun fuel hf=>by omega⟩
 |N+1=>by
  refine ⟨fun x=>by rw [encSD_q];simp [HV.kd,encSDq],fun fuel hf cs d h=>?_⟩
  obtain ⟨f,rfl,hl,⟨y0,h0⟩,⟨y1,h1⟩,⟨y2,h2⟩,⟨y3,h3⟩,⟨y4,h4⟩,⟨y5,h5⟩,⟨y6,h6⟩,_⟩:=struct_ofF Tryz.underlying64 h
  have L:=opens_sliceU (enc:=enc) (w:=w) Tryz.underlying59 Tryz.cells64 (by decide) (opStmtU N)
  rw [Tryz.cells64] at hl
  obtain ⟨c0,c1,c2,c3,c4,c5,c6,rfl⟩:=len7 hl
  simp only [Tryz.cells3,Tryz.cells9,Tryz.cells23,Tryz.cells62,Tryz.cells59] at h0 h1 h2 h3 h4 h5 h6
  obtain ⟨k,_,r0⟩:=(opens_int Tryz.underlying3).2 _ _ _ h0
  obtain ⟨n,_,r1⟩:=(opens_string Tryz.underlying9).2 _ _ _ h1
  obtain ⟨p,_,r2⟩:=(opens_string Tryz.underlying9).2 _ _ _ h2
  obtain ⟨e,_,r3⟩:=opNodes.2 _ _ _ h3
  obtain ⟨a,_,r4⟩:=opArgs.2 _ _ _ h4
  obtain ⟨b,_,r5⟩:=L.2 _ (by omega) _ _ h5
  obtain ⟨el,_,r6⟩:=L.2 _ (by omega) _ _ h6
  refine ⟨.mk k n p e a b el,trivial,?_⟩
  rw [encSD_mk]
  simp only [relC,relCs]
  exact ⟨c0,_,rfl,⟨rfl,r0⟩,c1,_,rfl,⟨rfl,r1⟩,c2,_,rfl,⟨rfl,r2⟩,c3,_,rfl,⟨rfl,r3⟩,c4,_,rfl,⟨rfl,r4⟩,c5,_,rfl,⟨rfl,r5⟩,c6,_,rfl,⟨rfl,r6⟩,rfl⟩
theorem opStmts:Opens enc Tryz.prog w 59 (List SD) LSDs (fun l=>(∀ x∈l,True)∧l.length≤maxLen):=opens_slice Tryz.underlying59 Tryz.cells64 (by decide) (OpensU.all opStmtU)
theorem opProc:Opens enc Tryz.prog w 61 PD encPD (fun _=>True):=by
 refine ⟨fun _=>by simp [HV.kd,encPD,encPD'],fun fuel cs d h=>?_⟩
 obtain ⟨hl,⟨f0,y0,h0⟩,⟨f1,y1,h1⟩,⟨f2,y2,h2⟩,⟨f3,y3,h3⟩,⟨f4,y4,h4⟩,_⟩:=struct_of Tryz.underlying61 h
 rw [Tryz.cells61] at hl
 obtain ⟨c0,c1,c2,c3,c4,rfl⟩:=len5 hl
 simp only [Tryz.cells9,Tryz.cells58,Tryz.cells59] at h0 h1 h2 h3 h4
 obtain ⟨n,_,r0⟩:=(opens_string Tryz.underlying9).2 _ _ _ h0
 obtain ⟨p,_,r1⟩:=opStrs.2 _ _ _ h1
 obtain ⟨r,_,r2⟩:=(opens_string Tryz.underlying9).2 _ _ _ h2
 obtain ⟨v,_,r3⟩:=opStrs.2 _ _ _ h3
 obtain ⟨b,_,r4⟩:=opStmts.2 _ _ _ h4
 refine ⟨⟨n,p,r,v,b⟩,trivial,?_⟩
 simp only [encPD,encPD',relC,relCs]
 exact ⟨c0,_,rfl,⟨rfl,r0⟩,c1,_,rfl,⟨rfl,r1⟩,c2,_,rfl,⟨rfl,r2⟩,c3,_,rfl,⟨rfl,r3⟩,c4,_,rfl,⟨rfl,r4⟩,rfl⟩
theorem opProcs:Opens enc Tryz.prog w 44 (List PD) LPDs (fun l=>(∀ x∈l,True)∧l.length≤maxLen):=opens_slice Tryz.underlying44 Tryz.cells61 (by decide) opProc
theorem opProg:Opens enc Tryz.prog w 46 (List PD) encPr (fun l=>l.length≤maxLen):=by
 refine ⟨fun _=>by simp [HV.kd,encPr],fun fuel cs d h=>?_⟩
 obtain ⟨hl,⟨f0,y0,h0⟩,_⟩:=struct_of Tryz.underlying46 h
 rw [Tryz.cells46] at hl
 obtain ⟨c0,rfl⟩:=len1 hl
 simp only [Tryz.cells44] at h0
 obtain ⟨l,q,r0⟩:=opProcs.2 _ _ _ h0
 refine ⟨l,q.2,?_⟩
 simp only [encPr,relC,relCs]
 exact ⟨c0,_,rfl,⟨rfl,r0⟩,rfl⟩
end
theorem ShowSames_args (l:List PD) (_:l.length≤maxLen) (m:List PD) (_:m.length≤maxLen):Pur cx 10 [encPr l,encPr m] (bb true):=ShowSames_pur l m
end Go.Proofs.YtoaccdmeojjdjaaGreatDoor
