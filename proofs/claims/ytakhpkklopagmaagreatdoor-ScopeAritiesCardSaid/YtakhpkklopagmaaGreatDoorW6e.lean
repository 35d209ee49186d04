import Derived.Test.YtakhpkklopagmaaGreatDoorW6a
import Derived.Test.YtakhpkklopagmaaGreatDoorW6b
import Derived.Test.YtakhpkklopagmaaGreatDoorW6c
import Derived.Test.YtakhpkklopagmaaGreatDoorW6d
set_option linter.unusedSimpArgs false
set_option linter.unusedVariables false
set_option maxRecDepth 10000
namespace Go.Proofs.Hk
open Go Go.Proofs
theorem ev6 (x y:Bool) (i j:Nat) (hi:i < 5) (hj:j < 5):go6 x y i j=true:=by
 cases x<;>cases y
 ·exact ev6_0 i j hi hj
 ·exact ev6_1 i j hi hj
 ·exact ev6_2 i j hi hj
 ·exact ev6_3 i j hi hj
theorem ScopeArities_spec (a:Int) (wa:(Lit.int .u8 a).wf=true) (b:Int) (wb:(Lit.int .u8 b).wf=true) (x y:Bool):Pur cx 6 [.v (.int .u8 a),.v (.int .u8 b),bb x,bb y] (bb true):=by
 have h0:=u8_is' wa
 have h1:=u8_is' wb
 obtain ⟨i,hi,ei⟩:=tmod_is' h0.1 5 (by decide)
 obtain ⟨j,hj,ej⟩:=tmod_is' h1.1 5 (by decide)
 exact cut_true lib1_ok (fn:=Tryz.f6) (code:=bodyOf Tryz.f6) rfl rfl rfl (fun Q s h=>pre6 a b x y h0 h1 i j ei ej Q s _ h) (ev6 x y i j hi hj) rfl
end Go.Proofs.Hk
