/-
  Contracts of the walk:LvF.
-/
import Derived.Test.YtifjccndenojlaaGreatWf14
set_option maxHeartbeats 16000000
set_option maxRecDepth 100000
set_option linter.unusedVariables false
set_option linter.unusedSimpArgs false
namespace Go.Proofs.YtifjccndenojlaaGreat
open Go.RowKit
open Go.Proofs.Tryz
theorem ab8(l:List Ev)(e:Ev)(hk:e.k=3)(hc:l.any (KW e)=true)(hr:l.filter (dY 3 (λ a=>decide (a.l=e.l)) e)=[])(hl:l.length<=1000000000):
  aj prog 134 [(0,jT l)] [.own 0,e.av] (.own 1) [(1,jT ([]++[e]))]:=by
 have hw:=zT 170 (λ a=>decide (a.l=e.l)) 3 e (aaw e) l hr hl;have hcr:=iM l e o_;rw[hc]at hcr;have hlf:=aoI (dY 3 (λ a=>decide (a.l=e.l)) e) l;rw[hr]at hlf;simp only[aoZ]at hlf;dsimp only[Ev.av,Ev.cs]at hw hcr⊢;refine K1.M 0x2020021041bb func134 10 ?_;repeat' ((conv=>whnf);first|refine K1.u ?_|refine K1.P1 hcr ?_|refine K1.C 2 [(0,_),(1,_)] (hw) rfl ?_|refine fO.aiC 16 (id:=9) bQ (dM bQ _) ⟨[(4,.own 13)],[(13,jT ([]++[e]))],[[]],14⟩ fG (by kernel_rfl) 8 _ rfl rfl ?_ ?_|refine bD.fin rfl ?_|refine Jw.NM ⟨au,trivial⟩ ⟨⟨_,rfl, ?_⟩,trivial⟩ rfl rfl|refine ay1 ?_|refine ay2 ?_ ?_|refine ay3 ?_ ?_ ?_|fail)
 all_goals first
  |exact⟨[(13,1)],rfl,rfl,⟨ay rfl,trivial⟩,rfl,rfl,au⟩
  |(refine dK.row rfl (λ m hm=>?_)
    have hm:m<1:=hm;obtain rfl:m=0:=o_
    rfl)
theorem ab9(l:List Ev)(e:Ev)(hk:e.k=4)(hc:l.any (KW e)=true)(hr:l.filter (dY 4 (λ a=>decide (a.l=e.l)&&decide (a.v=e.v)) e)=[])(hl:l.length<=1000000000):
  aj prog 134 [(0,jT l)] [.own 0,e.av] (.own 1) [(1,jT ([]++[e]))]:=by
 have hw:=zT 171 (λ a=>decide (a.l=e.l)&&decide (a.v=e.v)) 4 e (Jg e) l hr hl;have hcr:=iM l e o_;rw[hc]at hcr;have hlf:=aoI (dY 4 (λ a=>decide (a.l=e.l)&&decide (a.v=e.v)) e) l;rw[hr]at hlf;simp only[aoZ]at hlf;dsimp only[Ev.av,Ev.cs]at hw hcr⊢;refine K1.M 0x2020021041bb func134 10 ?_;repeat' ((conv=>whnf);first|refine K1.u ?_|refine K1.P1 hcr ?_|refine K1.C 2 [(0,_),(1,_)] (hw) rfl ?_|refine fO.aiC 16 (id:=15) bQ (dM bQ _) ⟨[(4,.own 13)],[(13,jT ([]++[e]))],[[]],14⟩ fG (by kernel_rfl) 8 _ rfl rfl ?_ ?_|refine bD.fin rfl ?_|refine Jw.NM ⟨au,trivial⟩ ⟨⟨_,rfl, ?_⟩,trivial⟩ rfl rfl|refine ay1 ?_|refine ay2 ?_ ?_|fail)
 all_goals first
  |exact⟨[(13,1)],rfl,rfl,⟨ay rfl,trivial⟩,rfl,rfl,au⟩
  |(refine dK.row rfl (λ m hm=>?_)
    have hm:m<1:=hm;obtain rfl:m=0:=o_
    rfl)
end Go.Proofs.YtifjccndenojlaaGreat
