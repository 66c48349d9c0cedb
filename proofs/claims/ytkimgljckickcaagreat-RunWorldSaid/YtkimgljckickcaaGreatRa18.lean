/-
  Contracts of the walk:LvF.
-/
import Derived.Test.YtkimgljckickcaaGreatRa14
set_option maxHeartbeats 16000000
set_option maxRecDepth 100000
set_option linter.unusedVariables false
set_option linter.unusedSimpArgs false
namespace Go.Proofs.YtkimgljckickcaaGreat
open Go.RowKit
open Go.Proofs.Tryz
theorem aaJ(l:List Ev)(e:Ev)(hk:e.k=3)(hc:l.any (JL e)=true)(hr:l.filter (dO 3 (λ a=>decide (a.l=e.l)) e)=[])(hl:l.length<=1000000000):
  aj prog 188 [(0,jM l)] [.own 0,e.av] (.own 1) [(1,jM ([]++[e]))]:=by
 have hw:=yZ 223 (λ a=>decide (a.l=e.l)) 3 e (Y2 e) l hr hl;have hcr:=iH l e o_;rw[hc]at hcr;have hlf:=anj (dO 3 (λ a=>decide (a.l=e.l)) e) l;rw[hr]at hlf;simp only[anD]at hlf;dsimp only[Ev.av,Ev.cs]at hw hcr⊢;refine K1.M 0x2020021041bb func188 10 ?_;repeat' ((conv=>whnf);first|refine K1.u ?_|refine K1.P1 hcr ?_|refine K1.C 2 [(0,_),(1,_)] (hw) rfl ?_|refine fU.ag4 16 (id:=9) bU (dS bU _) ⟨[(4,.own 13)],[(13,jM ([]++[e]))],[[]],14⟩ iy (by kernel_rfl) 8 _ rfl rfl ?_ ?_|refine aX.fin rfl ?_|refine Iw.LV gQ ⟨⟨_,rfl, ?_⟩,trivial⟩ rfl rfl|refine ay1 ?_|refine ay2 ?_ ?_|refine ay3 ?_ ?_ ?_|fail)
 all_goals first
  |exact iF [(13,1)]
  |(refine dK.row rfl (λ m hm=>?_)
    have hm:m<1:=hm;obtain rfl:m=0:=o_
    rfl)
theorem aaK(l:List Ev)(e:Ev)(hk:e.k=4)(hc:l.any (JL e)=true)(hr:l.filter (dO 4 (λ a=>decide (a.l=e.l)&&decide (a.v=e.v)) e)=[])(hl:l.length<=1000000000):
  aj prog 188 [(0,jM l)] [.own 0,e.av] (.own 1) [(1,jM ([]++[e]))]:=by
 have hw:=yZ 224 (λ a=>decide (a.l=e.l)&&decide (a.v=e.v)) 4 e (Ic e) l hr hl;have hcr:=iH l e o_;rw[hc]at hcr;have hlf:=anj (dO 4 (λ a=>decide (a.l=e.l)&&decide (a.v=e.v)) e) l;rw[hr]at hlf;simp only[anD]at hlf;dsimp only[Ev.av,Ev.cs]at hw hcr⊢;refine K1.M 0x2020021041bb func188 10 ?_;repeat' ((conv=>whnf);first|refine K1.u ?_|refine K1.P1 hcr ?_|refine K1.C 2 [(0,_),(1,_)] (hw) rfl ?_|refine fU.ag4 16 (id:=15) bU (dS bU _) ⟨[(4,.own 13)],[(13,jM ([]++[e]))],[[]],14⟩ iy (by kernel_rfl) 8 _ rfl rfl ?_ ?_|refine aX.fin rfl ?_|refine Iw.LV gQ ⟨⟨_,rfl, ?_⟩,trivial⟩ rfl rfl|refine ay1 ?_|refine ay2 ?_ ?_|fail)
 all_goals first
  |exact iF [(13,1)]
  |(refine dK.row rfl (λ m hm=>?_)
    have hm:m<1:=hm;obtain rfl:m=0:=o_
    rfl)
end Go.Proofs.YtkimgljckickcaaGreat
