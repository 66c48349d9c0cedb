/-
  Contracts of the walk:NdF,AmO,PmO,EvEq,NdA,NdB,ClG,RcD,Vin,FitP.
-/
import Derived.Test.YtifjccndenojlaaGreatWf11
import Derived.Test.YtifjccndenojlaaGreatWf10
import Derived.Test.YtifjccndenojlaaGreatWf9
import Derived.Laws.StructEq
import Derived.Laws.Cover2
import Derived.Test.YtifjccndenojlaaGreatWf1
set_option maxHeartbeats 16000000
set_option maxRecDepth 100000
set_option linter.unusedVariables false
set_option linter.unusedSimpArgs false
namespace Go.Proofs.YtifjccndenojlaaGreat
open Go.RowKit
open Go.Proofs.Tryz
variable{sc:Bool}{key:ByteArray}{X:CX}{f:FuncId}{n r:Int}{ho hs:List (Nat×AO)}{aZ:List AV}{l:List Cont}{us:List Value}{d j k s:Nat}{P:Program}{Y:Type}{e t:TypeId}
def Gj(l:List Cont)(key:ByteArray):Int:=match l.findIdx? (λ c=>decide (c.key=key))with|some i=>(i:Int)|none=> -1
def inS(s:List (List UInt8))(v:ByteArray):Bool:=s.any λ x=>decide (v=⟨x.toArray⟩)
theorem air(hj:j<l.length)(hq:∀i,i<j->(l.getD i default).key≠key)(h:(l.getD j default).key=key):Gj l key=j:=by
 have:l.findIdx? (λ c=>decide (c.key=key))=some j:=by
  rw[List.findIdx?_eq_some_iff_getElem];refine⟨hj, ?_,λ i hi=>?_⟩
  ·rw[show l[j]=l.getD j default by simp[List.getD,hj]];exact decide_eq_true h
  ·have:=hq i hi;rw[show l.getD i default=l[i] by simp[List.getD,show i<l.length by omega]]at this;simpa using this
 unfold Gj;rw[this]
theorem ais(hq:∀i,i<l.length->(l.getD i default).key≠key):Gj l key= -1:=by
 have:l.findIdx? (λ c=>decide (c.key=key))=none:=by
  rw[List.findIdx?_eq_none_iff];intro c hc;obtain⟨i,hi,rfl⟩:=ape hc;have:=hq i hi;rw[show l.getD i default=l[i] by simp[List.getD,hi]]at this;simpa using this
 unfold Gj;rw[this]
theorem ait(l:List Cont)(key:ByteArray):Gj l key= -1\/ ∃i:Nat,i<l.length/\Gj l key=i:=by
 unfold Gj;cases h:l.findIdx? (λ c=>decide (c.key=key))with
 |none=>exact .inl rfl
 |some i=>exact .inr ⟨i,(List.findIdx?_eq_some_iff_getElem.1 h).1,rfl⟩
theorem akZ(ed:Ed)(l:List Cont)(hl:l.length<=1000000000):aj prog 79 [(0,.box 35 ed.cs)] [.sl 7 l.length false (F8 l),.fn 80 [.box 0 0]] (.v (.int .i64 (Gj l ed.key))) [(0,.box 35 ed.cs)]:=by
 dsimp only[Ed.cs];refine K1.M 0x103b3 func79 10 ?_
 conv=>whnf
 refine aI.mk {j:Nat//j<=l.length/\ ∀i,i<j->(l.getD i default).key≠ed.key} (λ j=>⟨[(8,.v (.int .i64 (j.1:Int))),(7,.v (.int .i64 (l.length:Int))),(0,.sl 7 l.length false (F8 l)),(1,.fn 80 [.box 0 0])],[(0,.box 35 [.v (.int .i64 ed.k),.v (.string ed.key),.v (.int .i64 ed.l),.v (.string ed.v)])],[[(0,.box 0 0)]],11⟩)
  (λ j=>l.length-j.1) ⟨0,aoB _,λ i h=>absurd h (aoM i)⟩ _ (dO.mk' [] _ _ _ rfl ⟨aY.int rfl,au,au,au,trivial⟩ ⟨ay rfl,trivial⟩ rfl) ?_
 rintro⟨j,hj,hq⟩;dsimp only;by_cases hjl:j<l.length
 ·by_cases hk:(l.getD j default).key=ed.key
  ·rw[air hjl hq hk];have hk:(l.getD (j:Int).toNat default).key=ed.key:=hk;clear hq;repeat' ((conv=>whnf);first|refine K1.u ?_|refine K1.I 0xf func80 ?_|fail)
   all_goals(conv=>whnf)
   exact⟨[],rfl,rfl,⟨ay rfl,trivial⟩,rfl,rfl,au⟩
  ·have hq2:∀i,i<j+1->(l.getD i default).key≠ed.key:=λ i hi=>by
    rcases aoP i j with h|h
    ·exact hq i h
    ·obtain rfl:=Nat.le_antisymm (Nat.le_of_lt_succ hi) h;exact hk
   have hk:¬ (l.getD (j:Int).toNat default).key=ed.key:=hk;clear hq;repeat' ((conv=>whnf);first|refine K1.u ?_|refine K1.I 0xf func80 ?_|fail)
   all_goals(conv=>whnf)
   exact⟨⟨j+1,hjl,hq2⟩,_,dO.mk' [] _ _ _ rfl ⟨aY.int rfl,au,au,au,trivial⟩ ⟨ay rfl,trivial⟩ rfl,by show l.length-(j+1)<l.length-j;omega⟩
 ·obtain rfl:j=l.length:=o_
  rw[ais hq];repeat' ((conv=>whnf);first|refine K1.u ?_|fail)
  all_goals(conv=>whnf)
  exact⟨[],rfl,rfl,⟨ay rfl,trivial⟩,rfl,rfl,au⟩
theorem Pj(s:List (List UInt8))(v:ByteArray)(hl:s.length<=1000000000):aH prog 81 [.sl 1 s.length true (iD s),.v (.string v)] (.v (.bool (inS s v))) []:=by
 refine K1.E 0x13 func81 ?_;repeat' ((conv=>whnf);first|refine K1.I 0x103b3 func119 ?_|fail)
 conv=>whnf
 refine aI.mk {j:Nat//j<=s.length/\ ∀i,i<j-> ¬v=⟨(s.getD i []).toArray⟩} (λ j=>⟨[(8,.v (.int .i64 (j.1:Int))),(7,.v (.int .i64 (s.length:Int))),(0,.sl 1 s.length true (iD s)),(1,.v (.string v))],[],
   [[(6,.v (.string v)),(5,.sl 1 s.length true (iD s)),(4,.v (.bool false)),(0,.sl 1 s.length true (iD s)),(1,.v (.string v))]],0⟩)
  (λ j=>s.length-j.1) ⟨0,aoB _,λ i h=>absurd h (aoM i)⟩ _ (dO.mk' [] _ _ _ rfl ⟨aY.int rfl,au,au,au,trivial⟩ trivial rfl) ?_
 rintro⟨j,hj,hq⟩;dsimp only;by_cases hjl:j<s.length
 ·by_cases hk:v=⟨(s.getD j []).toArray⟩
  ·have hin:inS s v=true:=aps.2 ⟨s[j],ao1 hjl,by rw[show s.getD j []=s[j] by simp[List.getD,hjl]]at hk;exact decide_eq_true hk⟩;rw[hin];have hk:v=⟨(s.getD (j:Int).toNat []).toArray⟩:=hk;clear hq;repeat' ((conv=>whnf);first|refine K1.u ?_|refine aU.fF ?_|fail)
   all_goals(conv=>whnf)
   exact bn.mk (au)
  ·have hq2:∀i,i<j+1-> ¬v=⟨(s.getD i []).toArray⟩:=λ i hi=>by
    rcases aoP i j with h|h
    ·exact hq i h
    ·obtain rfl:=Nat.le_antisymm (Nat.le_of_lt_succ hi) h;exact hk
   have hk:¬v=⟨(s.getD (j:Int).toNat []).toArray⟩:=hk;clear hq;repeat' ((conv=>whnf);first|refine K1.u ?_|fail)
   all_goals(conv=>whnf)
   exact⟨⟨j+1,hjl,hq2⟩,_,dO.mk' [] _ _ _ rfl ⟨aY.int rfl,au,au,au,trivial⟩ trivial rfl,by show s.length-(j+1)<s.length-j;omega⟩
 ·obtain rfl:j=s.length:=o_
  have hin:inS s v=false:=by
   rw[aoU];intro h;obtain⟨x,hx,hv⟩:=aps.1 h;obtain⟨i,hi,rfl⟩:=ape hx;exact hq i hi (by rw[show s.getD i []=s[i] by simp[List.getD,hi]];exact of_decide_eq_true hv)
  rw[hin];repeat' ((conv=>whnf);first|refine K1.u ?_|refine aU.fF ?_|fail)
  all_goals(conv=>whnf)
  exact bn.mk (au)
def abB(c:Cont)(n:Int):List (List UInt8):=if n=0 then c.s0 else c.s1
def nO(cL cP:Int)(l:List Cont)(e:Ed):Int:=
 if lS e≠0 then lS e
 else if e.k=1 then(if Gj l e.key= -1 then(if cL<=(l.length:Int)then 15 else 0)else 13)
 else if Gj l e.key= -1 then 14
 else if e.k=4 then(if cP<=((abB (l.getD (Gj l e.key).toNat default) e.l).length:Int)then 15 else 0)
 else if e.k=5 then(if inS (abB (l.getD (Gj l e.key).toNat default) e.l) e.v=true then 0 else 16)
 else 0
theorem xK(c:kR)(l:List Cont)(e:Ed)(hl:l.length<=1000000)(hs:∀x∈l,x.s0.length<=1000000/\x.s1.length<=1000000):aH prog 44 [c.av,.sl 7 l.length false (F8 l),e.av] (.v (.int .i64 (nO c.l c.p l e))) []:=by
 have hed:=OQ e;have hix:=akZ e l o_;have hin:=ait l e.key;generalize hi:Gj l e.key=ix at hix hin;unfold nO;rw[hi];clear hi;obtain⟨cn,cw,cq,ch,cl,cp⟩:=c;obtain⟨k,key,lab,v⟩:=e;dsimp only[kR.av,kR.cs,Ed.av,Ed.cs]at hed hix⊢;refine Vp bQ 9 0x8004001a81011ef 0x43 func44 rfl rfl rfl func78 rfl rfl rfl (i:=6) (j:=7) rfl rfl rfl rfl rfl rfl rfl ?_;by_cases he:lS ⟨k,key,lab,v⟩=0
 ·rw[if_neg (by simp[he])];rw[he]at hed;have hlab:k=4\/k=5->lab=0\/lab=1:=λ h=>by
   have g:=(wU he).2.2.2.2.2.1 (by unfold jF;rcases h with rfl|rfl<;>rfl);have g1:=g.1;have g2:=g.2.1;dsimp only at g1 g2;omega
  clear he;rcases hin with rfl|⟨i,hil,rfl⟩
  ·rw[if_pos rfl,if_pos rfl];clear hlab hs;by_cases hk1:k=1
   ·rw[if_pos hk1];by_cases hcl:cl<=(l.length:Int);all_goals first|rw[if_pos hcl]|rw[if_neg hcl]
    all_goals repeat' ((conv=>whnf);first|refine K1.u ?_|refine K1.P1 hed ?_|refine K1.C 1 [(0,_)] (hix) rfl ?_|refine aU.fF ?_|fail)
    all_goals(conv=>whnf)
    all_goals exact bn.mk (au)
   ·rw[if_neg hk1];repeat' ((conv=>whnf);first|refine K1.u ?_|refine K1.P1 hed ?_|refine K1.C 1 [(0,_)] (hix) rfl ?_|refine aU.fF ?_|fail)
    all_goals(conv=>whnf)
    all_goals exact bn.mk (au)
  ·have hne:¬ ((i:Int)= -1):=o_
   rw[if_neg hne,if_neg hne,apc];by_cases hk1:k=1
   ·rw[if_pos hk1];clear hlab hs;repeat' ((conv=>whnf);first|refine K1.u ?_|refine K1.P1 hed ?_|refine K1.C 1 [(0,_)] (hix) rfl ?_|refine aU.fF ?_|refine K1.y (λ _=>?_) (λ _=>?_)|fail)
    all_goals(conv=>whnf)
    all_goals exact bn.mk (au)
   ·rw[if_neg hk1];have hmem:l.getD i default∈l:=by rw[show l.getD i default=l[i] by simp[List.getD,hil]];exact ao1 hil
    have hb:=hs _ hmem;have c0:=Pj (l.getD i default).s0 v o_;have c1:=Pj (l.getD i default).s1 v o_;clear hs hmem;rw[show l.getD i default=l.getD (i:Int).toNat default from rfl]at c0 c1 hb⊢;by_cases hk4:k=4
    ·rw[if_pos hk4];rcases hlab (.inl hk4)with rfl|rfl;all_goals first|rw[show abB (l.getD (i:Int).toNat default) 0=(l.getD (i:Int).toNat default).s0 from rfl]|rw[show abB (l.getD (i:Int).toNat default) 1=(l.getD (i:Int).toNat default).s1 from rfl]
     all_goals split
     all_goals repeat' ((conv=>whnf);first|refine K1.u ?_|refine K1.P1 hed ?_|refine K1.C 1 [(0,_)] (hix) rfl ?_|refine nV.mk d_ ?_|refine aU.fF ?_|refine K1.o (id:=16) (nN [0,1,2,3,4,5,6,7,8,9,10,11] [(12,some [11,10,7,3])]) ?_|fail)
     all_goals(conv=>whnf)
     all_goals exact bn.mk (au)
    ·rw[if_neg hk4];by_cases hk5:k=5
     ·rw[if_pos hk5];rcases hlab (.inr hk5)with rfl|rfl;all_goals first|rw[show abB (l.getD (i:Int).toNat default) 0=(l.getD (i:Int).toNat default).s0 from rfl];generalize inS (l.getD (i:Int).toNat default).s0 v=b at c0⊢|rw[show abB (l.getD (i:Int).toNat default) 1=(l.getD (i:Int).toNat default).s1 from rfl];generalize inS (l.getD (i:Int).toNat default).s1 v=b at c1⊢
      all_goals cases b
      all_goals first|rw[if_pos rfl]|rw[if_neg Bool.false_ne_true]
      all_goals repeat' ((conv=>whnf);first|refine K1.u ?_|refine K1.P1 hed ?_|refine K1.C 1 [(0,_)] (hix) rfl ?_|refine K1.P1 c0 ?_|refine K1.P1 c1 ?_|refine nV.mk d_ ?_|refine aU.fF ?_|refine K1.o (id:=18) (nN [0,1,2,3,4,5,6,7,8,9] [(10,some [9,7,3]),(11,none)]) ?_|fail)
      all_goals(conv=>whnf)
      all_goals exact bn.mk (au)
     ·rw[if_neg hk5];repeat' ((conv=>whnf);first|refine K1.u ?_|refine K1.P1 hed ?_|refine K1.C 1 [(0,_)] (hix) rfl ?_|refine aU.fF ?_|fail)
      all_goals(conv=>whnf)
      all_goals exact bn.mk (au)
 ·rw[if_pos he];generalize lS ⟨k,key,lab,v⟩=x at hed he⊢;repeat' ((conv=>whnf);first|refine K1.u ?_|refine K1.P1 hed ?_|refine aU.fF ?_|fail)
  all_goals(conv=>whnf)
  all_goals exact bn.mk (au)
def Opens(o:OB)(j:Nat){Y:Type}(hs:Y->List (Nat×AO)):Prop:=
 ∀(w:World)(k:Nat->Prop)(v:Value),o.R w k v-> ∃(y:Y) (ρ:Nat->Value),dJ (ρ j)=dJ v/\(ah ρ (hs y)).Perm (blks v)/\ ∀p∈hs y,aT ⟨w,k,ρ⟩ p.1 p.2
def Closes(hs:List (Nat×AO))(j:Nat)(o:OB):Prop:=
 ∀(w:World)(k:Nat->Prop)(ρ:Nat->Value),(ah ρ hs).Nodup->(∀p∈hs,aT ⟨w,k,ρ⟩ p.1 p.2)-> ∃us,o.R w k (.tuple us)/\dJ (.tuple us)=dJ (ρ j)/\ ∀b∈blks (.tuple us),b∈ah ρ hs
def Pm(q:Nat->Bool)(j:Nat):AV->Bool
 | .own i=>q i||Nat.beq i j
 | .box i _=>q i||Nat.beq i j
 | .dG i .. =>q i
 | .jH i .. =>q i||Nat.beq i j
 | .cf _ i _=>q i||Nat.beq i j
 |_=>true
def pO(q:Nat->Bool)(j:Nat):AV->Bool
 | .agg cs=>cs.all (Pm q j)
 | .fn _ cs=>cs.all (Pm q j)
 |x=>Pm q j x
def fV(q:Nat->Bool)(j:Nat):AV->Bool
 | .bI vs=>vs.all (pO q j)
 |x=>pO q j x
section
variable{X Y:CX}{q:Nat->Bool}{j:Nat}(hk:∀b,X.keep b->Y.keep b)(hm:Y.w=X.w)(hρ:∀i,q i=true->Y.ρ i=X.ρ i)(hj:dJ (Y.ρ j)=dJ (X.ρ j))
include hk hm hρ hj
theorem C0.jX{av:AV}{u:Value}(hr:Pm q j av=true)(hc:C0 X av u):C0 Y av u:=by
 have hmm:∀b,X.keep b->Y.w.heap[b]? =X.w.heap[b]? :=λ _ _=>by rw[hm]
 have hh:∀i,(q i||Nat.beq i j)=true->dJ (Y.ρ i)=dJ (X.ρ i):=λ i h=>by
  simp only[apf]at h;rcases h with h|h
  ·rw[hρ i h]
  ·rw[aos h];exact hj
 cases av with
 |own id=>exact(show u=dJ (X.ρ id)from hc).trans (hh id hr).symm
 |dG id s i k=>obtain⟨b,n,c,h1,h2⟩:=hc;exact⟨b,n,c,(hρ id hr).trans h1,h2⟩
 |jH id s i k=>exact Or.imp (λ⟨b,c,h1,h2⟩=>⟨b,c,(congrArg iQ (hh id hr)).trans h1,h2⟩) _root_.id hc
 |box id off=>obtain⟨b,h1,h2⟩:=hc;exact⟨b,(hh id hr).trans h1,h2⟩
 |cf gg id off=>obtain⟨b,h1,h2⟩:=hc;exact⟨b,(hh id hr).trans h1,h2⟩
 |el cs k=>
  obtain⟨b,o,us,e,kb,ha,hcell⟩:=hc;exact⟨b,o,us,e,hk b kb,ha.imp (λ _ _=>PC.mono hk hmm),λ j y hj=>(ap7 (hmm b kb)).trans (hcell j y hj)⟩
 |sl s n sc f=>exact PC.mono hk hmm hc
 |v x=>exact hc
 |junk=>trivial
 |agg cs=>exact hc
 |bI cs=>exact hc
 |fn g caps=>exact hc
theorem C1.jX{av:AV}{u:Value}(hr:pO q j av=true)(hc:C1 X av u):C1 Y av u:=by
 cases av with
 |agg cs=>obtain⟨us,e,ha⟩:=hc;exact⟨us,e,ha.FV hr λ _ _ q k=>C0.jX hk hm hρ hj q k⟩
 |fn g cs=>obtain⟨us,e,ha⟩:=hc;exact⟨us,e,ha.FV hr λ _ _ q k=>C0.jX hk hm hρ hj q k⟩
 |own id=>exact C1.vG (C0.jX hk hm hρ hj (av:= .own id) hr hc)
 |dG id s i k=>exact C1.vG (C0.jX hk hm hρ hj (av:= .dG id s i k) hr hc)
 |jH id s i k=>exact C1.vG (C0.jX hk hm hρ hj (av:= .jH id s i k) hr hc)
 |box id k=>exact C1.vG (C0.jX hk hm hρ hj (av:= .box id k) hr hc)
 |cf gg id k=>exact C1.vG (C0.jX hk hm hρ hj (av:= .cf gg id k) hr hc)
 |el cs k=>exact C1.vG (C0.jX hk hm hρ hj (av:= .el cs k) hr hc)
 |sl s n sc f=>exact C1.vG (C0.jX hk hm hρ hj (av:= .sl s n sc f) hr hc)
 |v x=>exact hc
 |junk=>trivial
 |bI cs=>exact hc
theorem C2.jX{av:AV}{u:Value}(hr:fV q j av=true)(hc:C2 X av u):C2 Y av u:=by
 cases av with
 |bI vs=>obtain⟨us,e,ha⟩:=hc;exact⟨us,e,ha.FV hr λ _ _ q k=>C1.jX hk hm hρ hj q k⟩
 |agg cs=>exact C2.mP (C1.jX hk hm hρ hj (av:= .agg cs) hr hc)
 |fn g cs=>exact C2.mP (C1.jX hk hm hρ hj (av:= .fn g cs) hr hc)
 |own id=>exact C2.mP (C1.jX hk hm hρ hj (av:= .own id) hr hc)
 |dG id s i k=>exact C2.mP (C1.jX hk hm hρ hj (av:= .dG id s i k) hr hc)
 |jH id s i k=>exact C2.mP (C1.jX hk hm hρ hj (av:= .jH id s i k) hr hc)
 |box id k=>exact C2.mP (C1.jX hk hm hρ hj (av:= .box id k) hr hc)
 |cf gg id k=>exact C2.mP (C1.jX hk hm hρ hj (av:= .cf gg id k) hr hc)
 |el cs k=>exact C2.mP (C1.jX hk hm hρ hj (av:= .el cs k) hr hc)
 |sl s n sc f=>exact C2.mP (C1.jX hk hm hρ hj (av:= .sl s n sc f) hr hc)
 |v x=>exact hc
 |junk=>trivial
end
theorem uZ(ρ:Nat->Value)(p:Nat×AO):ah ρ [p]=blks (ρ p.1):=by rw[aS];simp[ah]
theorem aj.opn{o o':OB}{hs:Y->List (Nat×AO)}{r:AV}(hE:Enters P f)(hO:Opens o j hs)
  (h:∀y,∃hs',Closes hs' j o'/\bP j (hs y)=true/\bP j hs'=true/\aj P f (hs y) aZ r (hs'++ho))
  (hb:(aZ.all (pO (λ _=>false) j)&&fV (λ i=>bP i ho) j r&&fU ho ho&& !(bP j ho))=true):aj P f [(j,.obs o)] aZ r ((j,.obs o')::ho):=by
 simp only[aon,aoX]at hb;obtain⟨⟨⟨hav,hrr⟩,hcl⟩,hne⟩:=hb;refine⟨hE,λ w keep ρ args hkeep jo hnd hbl hargs=>?_⟩;obtain⟨us,eu,hR⟩:=jo _ (aoo.2 rfl);have eu:ρ j= .tuple us:=eu;have hR:o.R w keep (ρ j):=hR;have hsb:=uZ ρ (j,.obs o);rw[hsb]at hnd hbl;obtain⟨y,ρ',hhd,hperm,hok⟩:=hO w keep (ρ j) hR;obtain⟨hs',hC,hj1,hj2,hM⟩:=h y;have hmem:∀b,b∈ah ρ' (hs y)↔b∈blks (ρ j):=λ b=>hperm.mem_iff;refine(hM.2 w keep ρ' args hkeep hok (hperm.nodup_iff.2 hnd) (λ b hb=>hbl b ((hmem b).1 hb)) (hargs.FV hav λ _ _ q k=>C1.jX (X:=⟨w,keep,ρ⟩) (Y:=⟨w,keep,ρ'⟩) (λ _ h=>h) rfl (λ _ h=>by cases h) hhd q k)).mono ?_;rintro e w' ⟨u,yE,rfl,hbel,hfix,hc,hout,hnd',hnew⟩;rw[dA,ao9]at hnd';obtain⟨hn1,hn2,hn3⟩:=hnd';obtain⟨vs,hR',abC,hbs⟩:=hC w' (aJ (dX w keep (λ b=>b∈ah ρ' (hs y))) w' yE (hs'++ho)) yE hn1 (λ p hp=>hout p (aoT _ hp));let uy:Nat->Value:=λ i=>if i=j then .tuple vs else yE i
 have XJ:uy j= .tuple vs:=by simp[uy]
 have e4:∀i,bP i ho=true->uy i=yE i:=λ i hi=>by
  have:i≠j:=by rintro rfl;rw[hne]at hi;cases hi
  simp[uy,this]
 have hb4:ah uy ((j,.obs o')::ho)=blks (.tuple vs)++ah yE ho:=by
  rw[aS,fD λ p hp=>e4 p.1 (bY.2 ⟨p,hp,rfl⟩)];show blks (uy j)++_=_;rw[XJ]
 have Hu:∀b,b∈ah uy ((j,.obs o')::ho)->b∈ah yE (hs'++ho):=λ b hb=>by
  rw[hb4]at hb;rw[dA];exact(aov.1 hb).elim (λ h=>aoT _ (hbs b h)) (λ h=>aoV _ h)
 have hk4:∀b,aJ (dX w keep (λ b=>b∈ah ρ' (hs y))) w' yE (hs'++ho) b->aJ (dX w keep (λ b=>b∈ah ρ [(j,.obs o)])) w' uy ((j,.obs o')::ho) b:=by
  rintro b ⟨h1,h2,h3⟩;exact⟨h1,λ hlt=>(h2 hlt).imp id λ h=>(by show b∈ah ρ [(j,.obs o)];rw[hsb];exact(hmem b).1 h),λ h=>h3 (Hu b h)⟩
 refine⟨u,uy,rfl,⟨hbel.os,hbel.tape,hbel.output,hbel.size,λ k hk hM'=>hbel.block k hk λ h=>hM' (by rw[hsb];exact(hmem k).1 h)⟩, ?_, ?_, ?_, ?_, ?_⟩
 ·intro p hp q hq eq;obtain rfl:=aoo.1 hp;refine .inr ⟨⟨vs,XJ⟩,⟨us,eu⟩, ?_⟩;show dJ (uy j)=dJ (ρ j);rw[XJ,abC,<-hhd];obtain⟨p',hp',ep⟩:=bY.1 hj1;obtain⟨q',hq',eq'⟩:=bY.1 hj2;have:=(hfix p' hp' q' (aoT _ hq') (eq'.trans ep.symm)).hd;rw[ep]at this;exact this
 ·exact C2.jX (X:=aC (dX w keep (λ b=>b∈ah ρ' (hs y))) w' yE (hs'++ho)) (Y:=aC (dX w keep (λ b=>b∈ah ρ [(j,.obs o)])) w' uy ((j,.obs o')::ho)) hk4 rfl e4 (by show dJ (uy j)=dJ (yE j);rw[XJ,abC]) hrr hc
 ·intro p hp;rcases aot.1 hp with rfl|hp
  ·refine⟨vs,XJ, ?_⟩;show o'.R w' _ (uy j);rw[XJ];exact o'.mono hk4 (λ _ _=>rfl) (λ _ _=>rfl) hR'
  ·exact aT.over (X:=aC (dX w keep (λ b=>b∈ah ρ' (hs y))) w' yE (hs'++ho)) (Y:=aC (dX w keep (λ b=>b∈ah ρ [(j,.obs o)])) w' uy ((j,.obs o')::ho)) hk4 rfl e4 (bY.2 ⟨p,hp,rfl⟩) (qJ hcl p hp) (hout p (aoV _ hp))
 ·rw[hb4,ao9];exact⟨(o'.lt hR').2.2,hn2,λ a ha b hb=>hn3 a (hbs a ha) b hb⟩
 ·intro b hb;rcases hnew b (Hu b hb)with h|h
  ·exact .inl h
  ·exact .inr (by rw[hsb];exact(hmem b).1 h)
theorem aj.cls{o':OB}{r:AV}{hs':List (Nat×AO)}(hC:Closes hs' j o')(hM:aj P f [] aZ r (hs'++ho))
  (hb:(fV (λ i=>bP i ho) j r&&fU ho ho&& !(bP j ho))=true):aj P f [] aZ r ((j,.obs o')::ho):=by
 simp only[aon,aoX]at hb;obtain⟨⟨hrr,hcl⟩,hne⟩:=hb;refine⟨hM.1,λ w keep ρ args hkeep jo hnd hbl hargs=>(hM.2 w keep ρ args hkeep jo hnd hbl hargs).mono ?_⟩;rintro e w' ⟨u,yE,rfl,hbel,hfix,hc,hout,hnd',hnew⟩;rw[dA,ao9]at hnd';obtain⟨hn1,hn2,hn3⟩:=hnd';obtain⟨vs,hR',abC,hbs⟩:=hC w' (aJ (dX w keep (λ b=>b∈ah ρ [])) w' yE (hs'++ho)) yE hn1 (λ p hp=>hout p (aoT _ hp));let uy:Nat->Value:=λ i=>if i=j then .tuple vs else yE i
 have XJ:uy j= .tuple vs:=by simp[uy]
 have e4:∀i,bP i ho=true->uy i=yE i:=λ i hi=>by
  have:i≠j:=by rintro rfl;rw[hne]at hi;cases hi
  simp[uy,this]
 have hb4:ah uy ((j,.obs o')::ho)=blks (.tuple vs)++ah yE ho:=by
  rw[aS,fD λ p hp=>e4 p.1 (bY.2 ⟨p,hp,rfl⟩)];show blks (uy j)++_=_;rw[XJ]
 have Hu:∀b,b∈ah uy ((j,.obs o')::ho)->b∈ah yE (hs'++ho):=λ b hb=>by
  rw[hb4]at hb;rw[dA];exact(aov.1 hb).elim (λ h=>aoT _ (hbs b h)) (λ h=>aoV _ h)
 have hk4:∀b,aJ (dX w keep (λ b=>b∈ah ρ [])) w' yE (hs'++ho) b->aJ (dX w keep (λ b=>b∈ah ρ [])) w' uy ((j,.obs o')::ho) b:=
  λ b ⟨h1,h2,h3⟩=>⟨h1,h2,λ h=>h3 (Hu b h)⟩
 refine⟨u,uy,rfl,hbel,(λ p hp=>by cases hp), ?_, ?_, ?_,λ b hb=>hnew b (Hu b hb)⟩
 ·exact C2.jX (X:=aC (dX w keep (λ b=>b∈ah ρ [])) w' yE (hs'++ho)) (Y:=aC (dX w keep (λ b=>b∈ah ρ [])) w' uy ((j,.obs o')::ho)) hk4 rfl e4 (by show dJ (uy j)=dJ (yE j);rw[XJ,abC]) hrr hc
 ·intro p hp;rcases aot.1 hp with rfl|hp
  ·refine⟨vs,XJ, ?_⟩;show o'.R w' _ (uy j);rw[XJ];exact o'.mono hk4 (λ _ _=>rfl) (λ _ _=>rfl) hR'
  ·exact aT.over (X:=aC (dX w keep (λ b=>b∈ah ρ [])) w' yE (hs'++ho)) (Y:=aC (dX w keep (λ b=>b∈ah ρ [])) w' uy ((j,.obs o')::ho)) hk4 rfl e4 (bY.2 ⟨p,hp,rfl⟩) (qJ hcl p hp) (hout p (aoV _ hp))
 ·rw[hb4,ao9];exact⟨(o'.lt hR').2.2,hn2,λ a ha b hb=>hn3 a (hbs a ha) b hb⟩
def amm{α:Type}(hs:α->List (Nat×AO))(w:World)(k:Nat->Prop)(v:Value):Prop:=
 ∃(x:α) (ρ:Nat->Value) (us:List Value),v= .tuple (dJ (ρ 0)::us).toArray/\us.flatMap iQ=ah ρ (hs x)/\(ah ρ (hs x)).Nodup/\bP 0 (hs x)=true/\(dJ (ρ 0)).oneCell'=true/\ ∀p∈hs x,aT ⟨w,k,ρ⟩ p.1 p.2
theorem nG(x:Value)(us:List Value):blks (.tuple (x::us).toArray)=us.flatMap iQ:=by simp[blks]
def OB.pack{α:Type}(hs:α->List (Nat×AO)):OB where
 R:=amm hs
 mono:=by
  rintro w w' k k' v hk hm hb ⟨x,ρ,us,rfl,hbl,hnd,hn,h1,hok⟩;rw[nG,hbl]at hb;exact⟨x,ρ,us,rfl,hbl,hnd,hn,h1,λ p hp=>aT.same (X:=⟨w,k,ρ⟩) (Y:=⟨w',k',ρ⟩) hk hm rfl (λ b hb'=>hb b (aQ.2 ⟨p,hp,hb'⟩)) (hok p hp)⟩
 lt:=by
  rintro w k v ⟨x,ρ,us,rfl,hbl,hnd,hn,h1,hok⟩;rw[nG,hbl];refine⟨λ b hb=>?_,h1,hnd⟩;obtain⟨p,hp,hb'⟩:=aQ.1 hb;exact(hok p hp).lt b hb'
theorem Opens.pack{α:Type}(hs:α->List (Nat×AO)):Opens (OB.pack hs) 0 hs:=by
 rintro w k v ⟨x,ρ,us,rfl,hbl,hnd,hn,h1,hok⟩;exact⟨x,ρ,rfl,by rw[nG,hbl],hok⟩
theorem Vq(l:List Nat):(l.map λ b=>Value.pointer (some ⟨b,0,none⟩)).flatMap iQ=l:=by
 induction l with
 |nil=>rfl
 |cons x l ih=>rw[apd,apa,ih];rfl
theorem Closes.pack{α:Type}(hs:α->List (Nat×AO))(x:α)(hn:bP 0 (hs x)=true)(h1:∀(X:CX),(∀p∈hs x,aT X p.1 p.2)->(dJ (X.ρ 0)).oneCell'=true):Closes (hs x) 0 (OB.pack hs):=by
 intro w k ρ hnd hok;refine⟨_,⟨x,ρ,(ah ρ (hs x)).map λ b=> .pointer (some ⟨b,0,none⟩),rfl,Vq _,hnd,hn,h1 ⟨w,k,ρ⟩ hok,hok⟩,rfl,λ b hb=>?_⟩;rw[nG,Vq]at hb;exact hb
theorem Opens.imp{o:OB}{Z:Type}{hs:Y->List (Nat×AO)}{gs:Z->List (Nat×AO)}(h:Opens o j hs)(hi:∀(X:CX) y,(ah X.ρ (hs y)).Nodup->(∀p∈hs y,aT X p.1 p.2)-> ∃z ρ',dJ (ρ' j)=dJ (X.ρ j)/\(ah ρ' (gs z)).Perm (ah X.ρ (hs y))/\ ∀p∈gs z,aT ⟨X.w,X.keep,ρ'⟩ p.1 p.2):Opens o j gs:=by
 intro w k v hR;obtain⟨y,ρ,h1,h2,h3⟩:=h w k v hR;obtain⟨z,ρ',g1,g2,g3⟩:=hi ⟨w,k,ρ⟩ y (h2.nodup_iff.2 (o.lt hR).2.2) h3;exact⟨z,ρ',g1.trans h1,g2.trans h2,g3⟩
theorem Closes.imp{o:OB}{gs:List (Nat×AO)}(h:Closes gs j o)(hi:∀(X:CX),(ah X.ρ hs).Nodup->(∀p∈hs,aT X p.1 p.2)-> ∃ρ',dJ (ρ' j)=dJ (X.ρ j)/\(ah ρ' gs).Nodup/\(∀b∈ah ρ' gs,b∈ah X.ρ hs)/\ ∀p∈gs,aT ⟨X.w,X.keep,ρ'⟩ p.1 p.2):Closes hs j o:=by
 intro w k ρ hnd hok;obtain⟨ρ',g1,g2,g3,g4⟩:=hi ⟨w,k,ρ⟩ hnd hok;obtain⟨us,a1,a2,a3⟩:=h w k ρ' g2 g4;exact⟨us,a1,a2.trans g1,λ b hb=>g3 b (a3 b hb)⟩
theorem bZ.hdr{L:Lay}(hL:bJ P L){W:Walk}(hW:Iz P W){st:AS}{K:AV->AS->Prop}(t id:Nat){n:Nat}{F:Nat->List AV}(hE:Enters P f)(ht:st.tmps t= .own id)(hf:aK id st.heap=some (.row e s n sc F))
  (h:∀A c,bZ P L W d f aZ ⟨(t,.v (.slice A n c))::st.sl,st.heap,st.back,st.base⟩ K):bZ P L W d f aZ st K:=by
 refine .sem hE λ g N bs ρ a w args R hargs=>?_;obtain⟨us,hown,hr⟩:=R.objs _ (aA hf);have hown:w.ownsRow 0 e s (ρ id) n us:=hown;obtain⟨A,c,hv⟩:∃A c,ρ id= .slice A n c:=by
  rcases hown.2 with⟨hv,hz⟩|⟨b,cap,cur,hv,_⟩
  ·exact⟨none,0,by rw[hv,hz]⟩
  ·exact⟨_,_,hv⟩
 have R':Rel g N bs ρ a w ⟨(t,.v (.slice A n c))::st.sl,st.heap,st.back,st.base⟩:=by
  refine⟨R.size,R.defers,R.below,λ t'=>?_,R.objs,R.apart,R.own,R.back⟩;show C2 _ (upd t (.v (.slice A n c)) st.tmps t') _;by_cases e':t'=t
  ·subst e';have h0:=R.tmps t';rw[ht]at h0;simp only[upd,aqW,cond_true];exact(C2.kK h0).trans (by show dJ (ρ id)=_;rw[hv];rfl)
  ·simp only[upd,beq_false e',cond_false];exact R.tmps t'
 have:=(qh R' hargs (h A c) (λ lv fn c hf' hnm hb hsz h'=>xg hL hW R' hargs lv fn c hf' hb hsz h')).2;exact this
def pmR(kv:List (Value×Value))(w:World)(_:Nat->Prop)(v:Value):Prop:=
 ∃b es c,v= .tuple #[.map (some b),.map (some b)]/\w.heap[b]? =some (.map es c)/\pairs es.toList=kv/\MapKept.Stamped es c
def Yv(kv:List (Value×Value)):OB where
 R:=pmR kv
 mono:=by
  rintro w w' k k' v _ _ hm ⟨b,es,c,rfl,hh,hp,hs⟩;exact⟨b,es,c,rfl,(hm b (by simp[blks,iQ])).trans hh,hp,hs⟩
 lt:=by
  rintro w k v ⟨b,es,c,rfl,hh,hp,hs⟩;refine⟨λ x hx=>?_,rfl,by simp[blks,iQ]⟩;obtain rfl:x=b:=by simpa[blks,iQ]using hx
  exact(ao5.1 hh).1
structure aan(P:Program)(kt:TypeId)(q:Value->Prop):Prop where
 chk:∀m k w,q k->(Instr.checkKey m 10000 kt k).run P w= .ok () w
 now:∃d,P.underlying kt=some d/\ ∀k k',q k->q k'->Instr.sameNow d k k'=none
 eq:∀k k' w,q k->q k'-> ∃t:Bool,(t=true↔k=k')/\(Op.equal kt k k').run P w= .ok t w
 bits:∀k,q k->Instr.sameBits 10000 k k=true
section
variable{P:Program}{kt et t:TypeId}{q:Value->Prop}(hK:aan P kt q){w:World}{k:Value}
include hK
theorem afa(hk:q k):∀(es:List MapEntry)(i:Nat),(∀e∈es,q e.key/\e.key≠k)->(Instr.findAsking kt k es i).run P w= .ok none w
 |[],_,_=>rfl
 |e::es,i,h=>by
  obtain⟨b,hb,hr⟩:=hK.eq k e.key w hk (h e aol).1;have:b=false:=by rw[aoU];exact λ e'=>(h e aol).2 (hb.1 e').symm
  subst this;simp only[Instr.findAsking,aoy,hr,aow];exact afa hk es (i+1) λ e he=>h e (aoq _ he)
theorem aao(hk:q k):∀(es:List MapEntry)(i j:Nat)(e:MapEntry),(∀e∈es,q e.key)->es[j]? =some e->e.key=k->(∀l x,l<j->es[l]? =some x->x.key≠k)->(Instr.findAsking kt k es i).run P w= .ok (some (i+j,e.val)) w
 |[],_,_,_,_,h,_,_=>by simp at h
 |x::es,i,j,e,h,he,hke,hno=>by
  obtain⟨b,hb,hr⟩:=hK.eq k x.key w hk (h x aol);simp only[Instr.findAsking,aoy,hr,aow];cases j with
  |zero=>
   simp only[apz,aoJ]at he;subst he;rw[hb.2 hke.symm];rfl
  |succ j=>
   have hx:x.key≠k:=hno 0 x o_ rfl;have:b=false:=by rw[aoU];exact λ e'=>hx (hb.1 e').symm
   subst this;have:=aao hk es (i+1) j e (λ e he=>h e (aoq _ he)) (by simpa using he) hke λ l x hl hx=>hno (l+1) x o_ (by simpa using hx);rw[show i+1+j=i+(j+1) by omega]at this;exact this
theorem Vr(hk:q k){es:List MapEntry}(h:∀e∈es,q e.key){r:Option (Nat×Value)}(hr:(Instr.findAsking kt k es 0).run P w= .ok r w):(Instr.findKey kt k es).run P w= .ok r w:=by
 obtain⟨d,hd,hn⟩:=hK.now;cases es with
 |nil=>
  have:r=none:=by cases hr;rfl
  subst this;simp[Instr.findKey,run_underlying hd,aoy,Result.andThen,Instr.findNow]
 |cons e es=>
  have:Instr.findNow d k (e::es) 0=none:=by unfold Instr.findNow;rw[hn k e.key hk (h e aol)]
  simp only[Instr.findKey,aoy,run_underlying hd,aow,this];exact hr
theorem aap(hk:q k){es:Array MapEntry}{kv:List (Value×Value)}(hp:pairs es.toList=kv)(h:∀p∈kv,q p.1/\p.1≠k):(Instr.findKey kt k es.toList).run P w= .ok none w:=by
 have h':∀e∈es.toList,q e.key/\e.key≠k:=λ e he=>h (e.key,e.val) (by rw[<-hp];exact aoR.2 ⟨e,he,rfl⟩);exact Vr hK hk (λ e he=>(h' e he).1) (afa hK hk es.toList 0 h')
theorem Vs(hk:q k){es:Array MapEntry}{c:Nat}(hs:MapKept.Stamped es c){A B:List (Value×Value)}{v:Value}(hp:pairs es.toList=A++(k,v)::B)(h:∀p∈A++(k,v)::B,q p.1):
  ∃e,es.toList[A.length]? =some e/\e.key=k/\e.val=v/\(Instr.findKey kt k es.toList).run P w= .ok (some (A.length,v)) w:=by
 have hl:(pairs es.toList)[A.length]? =some (k,v):=by rw[hp];simp
 unfold pairs at hl;rw[ao0]at hl;cases he:es.toList[A.length]? with
 |none=>rw[he]at hl;cases hl
 |some e=>
  rw[he]at hl;simp only[apR,aoJ,apW]at hl;refine⟨e,rfl,hl.1,hl.2, ?_⟩;have:=aao (w:=w) hK hk es.toList 0 A.length e (λ x hx=>h (x.key,x.val) (by rw[<-hp];exact aoR.2 ⟨x,hx,rfl⟩)) he hl.1 λ l x hlt hx hxk=>by
   have hn:=hs.2.2;have h1:(es.toList.map (·.key))[l]? =some k:=by rw[ao0,hx,<-hxk];rfl
   have h2:(es.toList.map (·.key))[A.length]? =some k:=by rw[ao0,he,<-hl.1];rfl
   obtain⟨a1,a2⟩:=aoC.1 h1;obtain⟨b1,b2⟩:=aoC.1 h2;have:=Oj hn a1 b1 (a2.trans b2.symm);omega
  rw[apl,hl.2]at this;exact Vr hK hk (λ x hx=>h (x.key,x.val) (by rw[<-hp];exact aoR.2 ⟨x,hx,rfl⟩)) this
end
section
variable{P:Program}{kt et t:TypeId}{q:Value->Prop}{w:World}{k v:Value}{b c:Nat}{es:Array MapEntry}
theorem Vt(ht:P.underlying t=some (.map kt et))(hb:w.heap[b]? =some (.map es c))(hc:(Instr.checkKey es.isEmpty 10000 kt k).run P w= .ok () w){r:Option (Nat×Value)}(hf:(Instr.findKey kt k es.toList).run P w= .ok r w){z:Value}(hz:(zeroValue et).run P w= .ok z w):
  (Instr.lookup t (.map (some b)) k true).run P w= .ok (.tuple #[(r.map (·.2)).getD z,.bool r.isSome]) w:=by
 cases r with
 |none=>simp[Instr.lookup,run_underlying ht,apq hb,aoy,Result.andThen,hc,hf,hz]
 |some p=>simp[Instr.lookup,run_underlying ht,apq hb,aoy,Result.andThen,hc,hf]
theorem Vu(ht:P.underlying t=some (.map kt et))(hb:w.heap[b]? =some (.map es c))(hc:(Instr.checkKey false 10000 kt k).run P w= .ok () w)(hf:(Instr.findKey kt k es.toList).run P w= .ok none w):
  (Instr.mapUpdate t (.map (some b)) k v).run P w= .ok () {w with heap:=w.heap.setIfInBounds b (.map (es.push {key:=k,val:=v,born:=c}) (c+1))}:=by
 simp[Instr.mapUpdate,run_underlying ht,apq hb,aoy,Result.andThen,hc,hf,ap3 _ hb]
theorem aiu(ht:P.underlying t=some (.map kt et))(hb:w.heap[b]? =some (.map es c))(hc:(Instr.checkKey es.isEmpty 10000 kt k).run P w= .ok () w){i:Nat}{u:Value}(hf:(Instr.findKey kt k es.toList).run P w= .ok (some (i,u)) w){X3 ty:TypeId}:
  (Builtin.delete_ #[t,X3] ty #[.map (some b),k]).run P w= .ok (.tuple #[]) {w with heap:=w.heap.setIfInBounds b (.map (es.eraseIdxIfInBounds i) c)}:=by
 simp[Builtin.delete_,run_underlying ht,apq hb,aoy,Result.andThen,hc,hf,ap3 _ hb]
end
section
variable{P:Program}{kt et t:TypeId}{q:Value->Prop}{st:AS}{K:AV->AS->Prop}{id:Nat}{kv:List (Value×Value)}{k v:Value}
def Whole(x:AV)(v:Value):Prop:=(∀X u,C2 X x u->u=v)/\ ∀X,C1 X x v
theorem Whole.agg(us:List Value):Whole (.agg (us.map .v)) (.agg us.toArray):=by
 refine⟨λ X u h=>?_,λ X=>⟨us,rfl,s_,λ i x u hx hu=>?_⟩⟩
 ·obtain⟨vs,rfl,ha⟩:∃vs:List Value,u= .agg vs.toArray/\aG (C0 X) (us.map .v) vs:=h;congr 2;refine apV λ i=>?_;have hl:us.length=vs.length:=by simpa using ha.1
  cases hv:vs[i]? with
  |none=>rw[List.getElem?_eq_none_iff]at hv;exact(aoW o_).symm
  |some y=>
   have hi:i<us.length:=by rw[hl];exact(aoC.1 hv).1
   have:y=us[i]:=ha.2 i (.v us[i]) y (by simp[hi]) hv;rw[this];exact(aom hi).symm
 ·rw[ao0,hu]at hx;cases hx;rfl
theorem RZ{g:Base}{N:Nat}{bs:List (Array Value)}{ρ:Nat->Value}{a:Act}{w:World}(R:Rel g N bs ρ a w st)(hf:aK id st.heap=some (.obs (Yv kv))):
  ∃b es c,ρ id= .tuple #[.map (some b),.map (some b)]/\w.heap[b]? =some (.map es c)/\pairs es.toList=kv/\MapKept.Stamped es c:=by
 obtain⟨us,e,b,es,c,e2,h⟩:=R.objs _ (aA hf);exact⟨b,es,c,e2,h⟩
theorem aaq{g:Base}{N:Nat}{bs:List (Array Value)}{ρ:Nat->Value}{a:Act}{w:World}(R:Rel g N bs ρ a w st){x:Operand}(hx:st.ev x= .own id){b:Nat}(e:ρ id= .tuple #[.map (some b),.map (some b)]):a.eval x= .map (some b):=by
 have:=R.ev x;rw[hx]at this;exact(C2.kK this).trans (by show dJ (ρ id)=_;rw[e];rfl)
theorem Vw{kv':List (Value×Value)}{g:Base}{N:Nat}{bs:List (Array Value)}{ρ:Nat->Value}{a:Act}{w:World}(R:Rel g N bs ρ a w st){b c c':Nat}{es es':Array MapEntry}(hf:aK id st.heap=some (.obs (Yv kv)))(e:ρ id= .tuple #[.map (some b),.map (some b)])(hh:w.heap[b]? =some (.map es c))(hp:pairs es'.toList=kv')(hs:MapKept.Stamped es' c'):
  Rel g N bs ρ a {w with heap:=w.heap.setIfInBounds b (.map es' c')} ⟨st.sl,setObj id (.obs (Yv kv')) st.heap,st.back,st.base⟩:=by
 have hlt:b<w.heap.size:=(ao5.1 hh).1;refine R.write hf (b:=b) (by rw[e];simp[blks,iQ]) ⟨rfl,rfl,rfl,s_,λ k hk=>by simp[Array.getElem?_setIfInBounds,show b≠k by omega]⟩ s_ (λ k hk=>by simp[Array.getElem?_setIfInBounds,aqP hk]) λ _ _=>?_;exact⟨_,e,b,es',c',e,by simp[aC,hlt],hp,hs⟩
variable{x i y:Operand}{c:Call}{X3:TypeId}(hK:aan P kt q)(ht:P.underlying t=some (.map kt et)){kx vx:AV}(hx:st.ev x= .own id)(hf:aK id st.heap=some (.obs (Yv kv)))(hi:st.ev i=kx)(hk:Whole kx k)(hq:q k)
include hK ht hx hf hi hk hq
theorem lC.look(hz:∀w,(zeroValue et).run P w= .ok v w)(hv:Whole vx v)(hno:∀p∈kv,q p.1/\p.1≠k)(h:K (.bI [vx,.v (.bool false)]) st):lC P st (.lookup t x i true) K:=by
 refine .q _ h λ g N bs ρ a w o ho R=>?_;obtain⟨b,es,c,e,hh,hp,hs⟩:=RZ R hf;have e2:a.eval i=k:=hk.1 _ _ (by rw[<-hi];exact R.ev i);refine⟨_,⟨[v,.bool false],rfl,aG.cons (hv.2 _) (aG.cons rfl aG.nil)⟩, ?_⟩;simp only[execOp,ho,aaq R hx e,e2,aoy,Vt ht hh (hK.chk _ _ w hq) (aap hK hq hp hno) (hz w),aow,aoQ];rfl
theorem lC.aar{A B:List (Value×Value)}(hz:∃z,∀w,(zeroValue et).run P w= .ok z w)(hv:Whole vx v)(hs0:kv=A++(k,v)::B)(hall:∀p∈kv,q p.1)(h:K (.bI [vx,.v (.bool true)]) st):lC P st (.lookup t x i true) K:=by
 refine .q _ h λ g N bs ρ a w o ho R=>?_;obtain⟨b,es,c,e,hh,hp,hs⟩:=RZ R hf;have e2:a.eval i=k:=hk.1 _ _ (by rw[<-hi];exact R.ev i);obtain⟨z,hz⟩:=hz;obtain⟨_,_,_,_,h4⟩:=Vs (w:=w) hK hq hs (hp.trans hs0) (by rw[<-hs0];exact hall);refine⟨_,⟨[v,.bool true],rfl,aG.cons (hv.2 _) (aG.cons rfl aG.nil)⟩, ?_⟩;simp only[execOp,ho,aaq R hx e,e2,aoy,Vt ht hh (hK.chk _ _ w hq) h4 (hz w),aow,aoQ];rfl
theorem lC.anu(hy:st.ev y=vx)(hv:Whole vx v)(hno:∀p∈kv,q p.1/\p.1≠k)(h:K (.v undef) ⟨st.sl,setObj id (.obs (Yv (kv++[(k,v)]))) st.heap,st.back,st.base⟩):lC P st (.mapUpdate t x i y) K:=by
 refine .mk rfl λ g N bs ρ a w o next Q ho R hk'=>?_
 obtain⟨b,es,c,e,hh,hp,hs⟩:=RZ R hf;have e2:a.eval i=k:=hk.1 _ _ (by rw[<-hi];exact R.ev i);have e3:a.eval y=v:=hv.1 _ _ (by rw[<-hy];exact R.ev y);have hrun:(execOp a.eval o).run P w= .ok .skip {w with heap:=w.heap.setIfInBounds b (.map (es.push {key:=k,val:=v,born:=c}) (c+1))}:=by
  simp[execOp,ho,aaq R hx e,e2,e3,Vu ht hh (hK.chk _ _ w hq) (aap hK hq hp hno)]
 unfold Oper.wp;rw[hrun];refine hk' _ _ _ _ _ h (Vw R hf e hh (by simp[pairs,<-hp]) (MapKept.stamped_push hs λ x hxm hxk=>?_)) rfl;exact(hno (x.key,x.val) (by rw[<-hp];exact aoR.2 ⟨x,hxm,rfl⟩)).2 hxk
theorem lC.anv(hc:c.callee= .builtin .delete)(hca:c.args= #[x,i])(hct:c.argTypes= #[t,X3]){A B:List (Value×Value)}(hs0:kv=A++(k,v)::B)(hall:∀p∈kv,q p.1)(h:K (.bI []) ⟨st.sl,setObj id (.obs (Yv (A++B))) st.heap,st.back,st.base⟩):lC P st (.call c) K:=by
 refine .mk (by unfold mX;split<;>simp_all) λ g N bs ρ a w o next Q ho R hk'=>?_
 obtain⟨b,es,cc,e,hh,hp,hs⟩:=RZ R hf;have e2:a.eval i=k:=hk.1 _ _ (by rw[<-hi];exact R.ev i);obtain⟨en,g1,_,_,h4⟩:=Vs (w:=w) hK hq hs (hp.trans hs0) (by rw[<-hs0];exact hall);have hrun:(execOp a.eval o).run P w= .ok (.value (.tuple #[])) {w with heap:=w.heap.setIfInBounds b (.map (es.eraseIdxIfInBounds A.length) cc)}:=by
  simp only[execOp,ho,resolve,hc,hca,hct,aoy,aoQ,aow,invoke];simp[builtin,aaq R hx e,e2,aiu ht hh (hK.chk _ _ w hq) h4,aoy,Result.andThen]
 unfold Oper.wp;rw[hrun];refine hk' _ _ _ _ _ h (Vw R hf e hh ?_ (MapKept.stamped_erase hs _)) ⟨[],rfl,aG.nil⟩;have:(es.eraseIdxIfInBounds A.length).toList=es.toList.eraseIdx A.length:=s_
 rw[this,aql,pairs,apt,List.map_take,List.map_drop,show es.toList.map (λ e=>(e.key,e.val))=A++(k,v)::B from hp.trans hs0];simp
omit hK ht hx hf hi hk hq
theorem lC.del(hc:c.callee= .builtin .delete)(hca:c.args= #[x,i])(hct:c.argTypes= #[t,X3])(hK:aan P kt q)(ht:P.underlying t=some (.map kt et))(hx:st.ev x= .own id)(hf:aK id st.heap=some (.obs (Yv kv)))(hi:st.ev i=kx)(hk:Whole kx k)(hq:q k)
 {A B:List (Value×Value)}(hs0:kv=A++(k,v)::B)(hall:∀p∈kv,q p.1)(h:K (.bI []) ⟨st.sl,setObj id (.obs (Yv (A++B))) st.heap,st.back,st.base⟩):lC P st (.call c) K:= .anv hK ht hx hf hi hk hq hc hca hct hs0 hall h
theorem lC.mkM(h:nameOf st (λ d=>K (.own d) (st.obj d d (.obs (Yv []))))):lC P st (.makeMap t none) K:=by
 rw[iU]at h;refine .mk rfl λ g N bs ρ a w o next Q ho R hk'=>?_
 have hrun:(execOp a.eval o).run P w= .ok (.value (.map (some w.heap.size))) (w.alloc (.map #[] 0)):=by
  simp[execOp,ho,Instr.makeMap,Result.andThen,aoy]
 unfold Oper.wp;rw[hrun];refine hk' _ _ _ (cu ρ st.base (.tuple #[.map (some w.heap.size),.map (some w.heap.size)])) _ h (R.obj st.base st.base (R.below.alloc R.below.size _) s_ (λ b hb _=>aqM w _ b hb) (λ b hb=>?_) (λ _=>?_)) (by simp[C2,C1,C0,aC,cu,dJ])
 ·rw[show b=w.heap.size from by simpa[blks,iQ]using hb];exact .inl (aoH _)
 ·have e:cu ρ st.base (.tuple #[.map (some w.heap.size),.map (some w.heap.size)]) st.base= .tuple #[.map (some w.heap.size),.map (some w.heap.size)]:=by simp[cu]
  exact⟨_,e,w.heap.size, #[],0,e,heap_alloc_new w _,rfl,MapKept.stamped_empty 0⟩
end
def aV.vs(c:aV):List Value:=[.int .i64 c.c0,.int .i64 c.c1,.int .i64 c.c2,.int .i64 c.c3,.int .i64 c.c4]
def Ev.vs(e:Ev):List Value:=[.int .i64 e.r,.int .i64 e.n,.int .i64 e.c.c0,.int .i64 e.c.c1,.int .i64 e.c.c2,.int .i64 e.c.c3,.int .i64 e.c.c4,.int .i64 e.h,.int .i64 e.k,.string e.key,.int .i64 e.l,.string e.v]
theorem bytes_inj{a b:ByteArray}(h:a.data.toList=b.data.toList):a=b:=by
 cases a;cases b;simp only at h;rw[Array.toList_inj.1 h]
theorem afb(a b:ByteArray):a.toList=b.toList↔a=b:=by
 rw[ByteArray.toList_eq,ByteArray.toList_eq];exact⟨bytes_inj,λ h=>by rw[h]⟩
theorem KO(n:Nat)(a0 a1 a2 a3 a4 b0 b1 b2 b3 b4:Int)(w:World):(Op.equalIn (n+2) 41 (.agg #[.int .i64 a0,.int .i64 a1,.int .i64 a2,.int .i64 a3,.int .i64 a4]) (.agg #[.int .i64 b0,.int .i64 b1,.int .i64 b2,.int .i64 b3,.int .i64 b4])).run prog w=
  .ok (decide (a0=b0/\a1=b1/\a2=b2/\a3=b3/\a4=b4)) w:=by
 rw[Op.equalIn];simp only[aoy,run_underlying Tryz.underlying41,aow];simp only[apL,Std.Legacy.Range.size,aqo,aqi,Nat.div_one,aq1,aq2,List.forIn_cons,List.forIn_nil];have u3:=Tryz.underlying3;have a3:=Tryz.isAgg3;have z3:=Tryz.sizeOf3;go_simp;repeat' split
 all_goals simp_all
theorem aV.eq_iff(a b:aV):(a.c0=b.c0/\a.c1=b.c1/\a.c2=b.c2/\a.c3=b.c3/\a.c4=b.c4)↔a=b:=by
 obtain⟨a0,a1,a2,a3,a4⟩:=a;obtain⟨b0,b1,b2,b3,b4⟩:=b;simp
theorem abD:prog.eqGuardType prog.depth 41=false:=by kernel_rfl
theorem Gl(a b:aV):zf prog 41 a.vs b.vs (a=b):=
 ⟨abD,λ w=>⟨_,by rw[decide_eq_true_eq,aV.eq_iff],KO 9998 _ _ _ _ _ _ _ _ _ _ w⟩⟩
theorem Ev.eq_iff(a b:Ev):(a.r=b.r/\a.n=b.n/\(a.c.c0=b.c.c0/\a.c.c1=b.c.c1/\a.c.c2=b.c.c2/\a.c.c3=b.c.c3/\a.c.c4=b.c.c4)/\a.h=b.h/\a.k=b.k/\a.key=b.key/\a.l=b.l/\a.v=b.v)↔a=b:=by
 rw[aV.eq_iff];obtain⟨a0,a1,a2,a3,a4,a5,a6,a7⟩:=a;obtain⟨b0,b1,b2,b3,b4,b5,b6,b7⟩:=b;simp
def KP(r n:Int):List Value:=[.int .i64 r,.int .i64 n]
def sZ(r n:Int):Value:= .agg (KP r n).toArray
def evV(e:Ev):Value:= .agg e.vs.toArray
def Yw(v:Value):Prop:= ∃r n,v=sZ r n
def FC(l:List Ev):List (Value×Value):=l.map λ e=>(sZ e.r e.n,evV e)
theorem Pn{r' n':Int}:sZ r n=sZ r' n'↔r=r'/\n=n':=by simp[sZ,KP]
theorem abE(a b a' b':Int)(w:World):(Op.equalIn 10000 138 (.agg #[.int .i64 a,.int .i64 b]) (.agg #[.int .i64 a',.int .i64 b'])).run prog w= .ok (decide (a=a'/\b=b')) w:=by
 have hS:prog.underlying 138=some (.struct (prog.fieldsOf 138)):=by kernel_rfl
 have u3:=Tryz.underlying3;have a3:=Tryz.isAgg3;have z3:=Tryz.sizeOf3;rw[show(10000:Nat)=9999+1 from rfl,run_equalIn_agg w 9999 138 _ _ hS (by kernel_rfl)];simp only[Program.fieldsOf,Tryz.underlying138];go_simp;repeat' split
 all_goals simp_all
theorem afc(m:Bool)(r n:Int)(w:World):(Instr.checkKey m 10000 138 (sZ r n)).run prog w= .ok () w:=by
 have u3:=Tryz.underlying3;have a3:=Tryz.isAgg3;have z3:=Tryz.sizeOf3;rw[show(10000:Nat)=9999+1 from rfl,Instr.checkKey];simp only[aoy,run_underlying Tryz.underlying138,aow,sZ,KP];have c3:∀x:Int,(Instr.checkKey m 9999 3 (.int .i64 x)).run prog w= .ok () w:=λ x=>MapKept.run_checkKey u3 (show MapKept.IsKey (.int .i64) (.int .i64 x)from rfl) m 9998;go_simp
theorem lu:aan prog 138 Yw where
 chk:=by rintro m _ w ⟨r,n,rfl⟩;exact afc m r n w
 now:=⟨_,Tryz.underlying138,by rintro _ _ ⟨r,n,rfl⟩ ⟨r',n',rfl⟩;rfl⟩
 eq:=by
  rintro _ _ w ⟨r,n,rfl⟩ ⟨r',n',rfl⟩;exact⟨_,by rw[decide_eq_true_eq,Pn],abE r n r' n' w⟩
 bits:=by rintro _ ⟨r,n,rfl⟩;simp[sZ,KP,Instr.sameBits]
theorem jM(r n:Int):Whole (.agg [.v (.int .i64 r),.v (.int .i64 n)]) (sZ r n):=Whole.agg (KP r n)
theorem oU(e:Ev):Whole e.av (evV e):=Whole.agg e.vs
theorem EC(l:List Ev):∀p∈FC l,Yw p.1:=λ p hp=>by
 obtain⟨e,_,rfl⟩:=aoR.1 hp;exact⟨_,_,rfl⟩
theorem afd{l:List Ev}(h:∀e∈l,¬ (e.r=r/\e.n=n)):∀p∈FC l,Yw p.1/\p.1≠sZ r n:=λ p hp=>by
 obtain⟨e,he,rfl⟩:=aoR.1 hp;exact⟨⟨_,_,rfl⟩,λ e'=>h e he (Pn.1 e')⟩
def ev0:Ev:=⟨0,0,⟨0,0,0,0,0⟩,0,0,⟨#[]⟩,0,⟨#[]⟩⟩
theorem aas{v:Value}(h:(prog.info? t).bind (·.zero)=some v)(w:World):(zeroValue t).run prog w= .ok v w:=by
 cases hi:prog.info? t with
 |none=>rw[hi]at h;cases h
 |some info=>
  rw[hi]at h;have h:info.zero=_:=h;simp[zeroValue,typeInfo,hi,h]
theorem rP(w:World):(zeroValue 83).run prog w= .ok (evV ev0) w:=aas (by kernel_rfl) w
theorem Gm(e:Ev):aH prog 161 [e.av] (.agg [.v (.int .i64 e.r),.v (.int .i64 e.n)]) []:=by
 obtain⟨r,n,⟨c0,c1,c2,c3,c4⟩,h,k,key,l,v⟩:=e;dsimp only[Ev.av,Ev.cs];refine K1.E 0x7 func161 ?_;repeat' ((conv=>whnf);first|refine aU.fF ?_|fail)
 all_goals(conv=>whnf)
 all_goals exact bn.mk (au)
theorem aiv(a b:aV):aH prog 198 [a.av,b.av] (.v (.bool (a.le b))) []:=by
 dsimp only[aV.av,aV.cs];refine K1.E 0x80ff func198 ?_;repeat' ((conv=>whnf);first|refine K1.u ?_|refine aI.yP 6 6 rfl ?_|refine aU.fF ?_|refine K1.z ?_|refine K1.y (λ _=>?_) (λ _=>?_)|fail)
 all_goals(conv=>whnf)
 all_goals(refine bn.mk (aY.of ?_))
 all_goals(unfold aV.le;congr 2;simp;try omega)
def Po(l:List Ev)(r n:Int):Option Ev:=l.find? λ e=>decide (e.r=r/\e.n=n)
def vW(c:aV)(l:List Ev)(r:Nat):Option Ev:=match Po l r (c.at r+1)with
 |some e=>if 1<=e.n/\e.c.le c=true then some e else none
 |none=>none
def vX(c:aV)(l:List Ev):Option Ev:=(List.range 5).findSome? (vW c l)
theorem Pq{c:aV}{l:List Ev}{e:Ev}(hj:j<5)(hq:∀q,q<j->vW c l q=none)(h:vW c l j=some e):vX c l=some e:=by
 unfold vX;rw[show List.range 5=[0,1,2,3,4]from rfl];rcases(show j=0\/j=1\/j=2\/j=3\/j=4 by omega)with rfl|rfl|rfl|rfl|rfl
 ·simp[h]
 ·simp[h,hq 0 o_]
 ·simp[h,hq 0 o_,hq 1 o_]
 ·simp[h,hq 0 o_,hq 1 o_,hq 2 o_]
 ·simp[h,hq 0 o_,hq 1 o_,hq 2 o_,hq 3 o_]
theorem abG{c:aV}{l:List Ev}(hq:∀q,q<5->vW c l q=none):vX c l=none:=by
 unfold vX;rw[List.findSome?_eq_none_iff];intro q h;exact hq q (ap4.1 h)
theorem ED{l:List Ev}{e:Ev}(h:Po l r n=some e):e.r=r/\e.n=n/\ ∃A B,l=A++e::B:=by
 have h1:=List.find?_some h;have h2:=List.mem_of_find?_eq_some h;simp only[decide_eq_true_eq]at h1;obtain⟨A,B,e'⟩:=List.append_of_mem h2;exact⟨h1.1,h1.2,A,B,e'⟩
theorem EF{l:List Ev}(h:Po l r n=none):∀e∈l,¬ (e.r=r/\e.n=n):=λ e he=>by
 have:=List.find?_eq_none.1 h e he;simpa using this
theorem KQ(A B:List Ev)(e:Ev):FC (A++e::B)=FC A++(sZ e.r e.n,evV e)::FC B:=by simp[FC]
theorem afe(c:aV)(l:List Ev)(hc:∀r,0<=c.at r/\c.at r<=1000000000):aj prog 162 [(0,.obs (Yv (FC l)))] [c.av,.own 0] (.bI [((vX c l).getD ev0).av,.v (.bool (vX c l).isSome)]) [(0,.obs (Yv (FC l)))]:=by
 generalize hn:vX c l=nx;obtain⟨c0,c1,c2,c3,c4⟩:=c;have k0:0<=c0/\c0<=1000000000:=hc 0;have k1:0<=c1/\c1<=1000000000:=hc 1;have k2:0<=c2/\c2<=1000000000:=hc 2;have k3:0<=c3/\c3<=1000000000:=hc 3;have k4:0<=c4/\c4<=1000000000:=hc 4;dsimp only[aV.av,aV.cs];refine K1.M 0x4000007f7 func162 10 ?_
 conv=>whnf
 refine aI.mk {j:Nat//j<=5/\ ∀q,q<j->vW ⟨c0,c1,c2,c3,c4⟩ l q=none} (λ j=>⟨[(9,.v (.int .i64 (j.1:Int))),(5,.v (.bool false)),(4,.box 11 0),(2,.box 10 0),(1,.own 0)],[(11,.box 83 ev0.cs),(10,.box 41 [.v (.int .i64 c0),.v (.int .i64 c1),.v (.int .i64 c2),.v (.int .i64 c3),.v (.int .i64 c4)]),(0,.obs (Yv (FC l)))],[[(0,.own 0)]],12⟩)
  (λ j=>5-j.1) ⟨0,o_,λ q h=>absurd h (aoM q)⟩ _ (dO.mk' [] _ _ _ rfl ⟨aY.int rfl,au,au,au,au,trivial⟩ ⟨ay rfl,ay rfl,ay rfl,trivial⟩ rfl) ?_
 rintro⟨j,hj,hq⟩;dsimp only;rcases(show j=5\/j<5 by omega)with rfl|hj5
 ·obtain rfl:none=nx:=by rw[<-hn];exact(abG hq).symm
  repeat' ((conv=>whnf);first|refine K1.u ?_|fail)
  all_goals(conv=>whnf)
  exact⟨[],rfl,rfl,⟨ay rfl,trivial⟩,rfl,rfl,au⟩
 ·have back:vW ⟨c0,c1,c2,c3,c4⟩ l j=none-> ∀q,q<j+1->vW ⟨c0,c1,c2,c3,c4⟩ l q=none:=λ h q hlt=>by
   rcases aoP q j with h'|h'
   ·exact hq q h'
   ·obtain rfl:=Nat.le_antisymm (Nat.le_of_lt_succ hlt) h';exact h
  have hcj:0<=aV.at ⟨c0,c1,c2,c3,c4⟩ j:=(hc j).1;cases hf:Po l j (aV.at ⟨c0,c1,c2,c3,c4⟩ j+1)with
  |none=>
   have hb:=back (by unfold vW;rw[hf]);have hno:=afd (EF hf);clear back hc hq hf hn;rcases(show j=0\/j=1\/j=2\/j=3\/j=4 by omega)with rfl|rfl|rfl|rfl|rfl;all_goals
    repeat' ((conv=>whnf);first|refine K1.u ?_|refine lC.look lu Tryz.underlying266 rfl rfl rfl (jM _ _) ⟨_,_,rfl⟩ rP (oU ev0) hno ?_|refine nV.mk d_ ?_|fail)
    all_goals(conv=>whnf)
    exact⟨⟨_,o_,hb⟩,_,dO.mk' [] _ _ _ rfl ⟨aY.int rfl,au,au,au,au,trivial⟩ ⟨ay rfl,ay rfl,ay rfl,trivial⟩ rfl,by dsimp only;omega⟩
  |some e=>
   obtain⟨h1,h2,A,B,hl⟩:=ED hf;have hs0:FC l=FC A++(sZ (j:Int) (aV.at ⟨c0,c1,c2,c3,c4⟩ j+1),evV e)::FC B:=by rw[hl,KQ,h1,h2]
   have hn1:1<=e.n:=o_
   have hle:=aiv e.c ⟨c0,c1,c2,c3,c4⟩;cases hc':e.c.le ⟨c0,c1,c2,c3,c4⟩with
   |true=>
    obtain rfl:some e=nx:=by rw[<-hn];exact(Pq hj5 hq (by unfold vW;rw[hf];simp[hn1,hc'])).symm
    rw[hc']at hle;dsimp only[aV.av,aV.cs]at hle;clear back hc hq hf hn h1 h2 hc';rcases(show j=0\/j=1\/j=2\/j=3\/j=4 by omega)with rfl|rfl|rfl|rfl|rfl;all_goals
     repeat' ((conv=>whnf);first|refine K1.u ?_|refine K1.P1 hle ?_|refine lC.aar lu Tryz.underlying266 rfl rfl rfl (jM _ _) ⟨_,_,rfl⟩ ⟨_,rP⟩ (oU e) hs0 (EC l) ?_|refine nV.mk d_ ?_|fail)
     all_goals(conv=>whnf)
     exact⟨[],rfl,rfl,⟨ay rfl,trivial⟩,rfl,rfl,au⟩
   |false=>
    have hb:=back (by unfold vW;rw[hf];simp[hc']);rw[hc']at hle;dsimp only[aV.av,aV.cs]at hle;clear back hc hq hf hn h1 h2 hc';rcases(show j=0\/j=1\/j=2\/j=3\/j=4 by omega)with rfl|rfl|rfl|rfl|rfl;all_goals
     repeat' ((conv=>whnf);first|refine K1.u ?_|refine K1.P1 hle ?_|refine lC.aar lu Tryz.underlying266 rfl rfl rfl (jM _ _) ⟨_,_,rfl⟩ ⟨_,rP⟩ (oU e) hs0 (EC l) ?_|refine nV.mk d_ ?_|fail)
     all_goals(conv=>whnf)
     exact⟨⟨_,o_,hb⟩,_,dO.mk' [] _ _ _ rfl ⟨aY.int rfl,au,au,au,au,trivial⟩ ⟨ay rfl,ay rfl,ay rfl,trivial⟩ rfl,by dsimp only;omega⟩
def bH(l:List Ev):AO:= .row 83 12 l.length true (dI l)
theorem vY{i:Nat}{cs:List AV}(h:aT X i (.box t cs)):(dJ (X.ρ i)).oneCell'=true:=by
 obtain⟨b,us,e,_⟩:=h;rw[e];rfl
def atV(ρ:Nat->Value)(j:Nat)(v:Value):Nat->Value:=λ i=>if i=j then v else ρ i
theorem Closes.ren{j':Nat}{o:OB}(hC:Closes hs j o)(σ:List (Nat×Nat))(hj:kE σ j=some j')(hb:yO σ hs=true):Closes (iL σ hs) j' o:=by
 intro w k ρ hnd hok;let XI:Nat->Value:=λ k=>match kE σ k with|some i=>ρ i|none=>undef
 have e0:∀k i,kE σ k=some i->ρ i=XI k:=λ k i e=>by simp only[XI,e]
 have hbl:ah ρ (iL σ hs)=ah XI hs:=qK e0 hb;obtain⟨us,a1,a2,a3⟩:=hC w k XI (by rw[<-hbl];exact hnd) λ p hp=>by
  obtain⟨i,h1,h2,h3⟩:=Eh hb p hp;exact(aT.jS (X:=⟨w,k,XI⟩) (Y:=⟨w,k,ρ⟩) rfl rfl e0 h1 h3).1 (hok _ h2)
 exact⟨us,a1,a2.trans (by rw[<-e0 j j' hj]),by rw[hbl];exact a3⟩
theorem aff{cs:List AV}(hk:cs[k]? =some (.v (.slice none 0 0)))(hd:dJ (X.ρ d)= .slice none 0 0)(ha:aG (C0 X) cs us):aG (C0 X) (cs.set k (.own d)) us:=by
 refine⟨by simpa using ha.1,λ i x u hx hu=>?_⟩;rw[aqa]at hx;by_cases e:k=i
 ·subst e;simp only[if_true]at hx;split at hx
  ·cases hx;have:u= .slice none 0 0:=ha.2 k _ u hk hu;rw[this];exact hd.symm
  ·cases hx
 ·rw[if_neg e]at hx;exact ha.2 i x u hx hu
theorem Closes.aiw{A B:List (Nat×AO)}{id:Nat}{f:Nat->List AV}{cs:List AV}{o:OB}(hC:Closes (A++(id,.box t (cs.set k (.own d)))::(B++[(d,.row e s 0 sc f)])) j o)
  (hk:cs[k]? =some (.v (.slice none 0 0)))(hs:0<s)(hb:(fU (A++(id,.box t cs)::B) (A++(id,.box t cs)::B)&& !(bP d (A++(id,.box t cs)::B))&& !(Nat.beq j d))=true):Closes (A++(id,.box t cs)::B) j o:=by
 simp only[aon,aoX]at hb;obtain⟨⟨hcl,hno⟩,hjd⟩:=hb;refine Closes.imp hC λ X hnd hok=>?_;let ρ':=atV X.ρ d (.slice none 0 0);have hne:∀i,bP i (A++(id,.box t cs)::B)=true->ρ' i=X.ρ i:=λ i hi=>if_neg (by rintro rfl;rw[hno]at hi;cases hi);have hd:ρ' d= .slice none 0 0:=if_pos rfl;have over:∀p∈A++(id,.box t cs)::B,aT ⟨X.w,X.keep,ρ'⟩ p.1 p.2:=λ p hp=>aT.over (X:=X) (Y:=⟨X.w,X.keep,ρ'⟩) (λ _ h=>h) rfl hne (bY.2 ⟨p,hp,rfl⟩) (qJ hcl p hp) (hok p hp);have hbl:ah ρ' (A++(id,.box t (cs.set k (.own d)))::(B++[(d,.row e s 0 sc f)]))=ah X.ρ (A++(id,.box t cs)::B):=by
  have h1:=fD (ρ:=X.ρ) (ρ':=ρ') (h:=A) λ p hp=>hne p.1 (bY.2 ⟨p,aoT _ hp,rfl⟩);have h2:=fD (ρ:=X.ρ) (ρ':=ρ') (h:=B) λ p hp=>hne p.1 (bY.2 ⟨p,aoV _ (aoq _ hp),rfl⟩);have h3:ρ' id=X.ρ id:=hne id (bY.2 ⟨_,aoV _ aol,rfl⟩);have h4:blks (ρ' d)++ah ρ' []=[]:=by rw[hd];rfl
  rw[dA,show ah ρ' ((id,.box t (cs.set k (.own d)))::(B++[(d,.row e s 0 sc f)]))=blks (ρ' id)++ah ρ' (B++[(d,.row e s 0 sc f)])from rfl,dA,dA,aS,h1,h2,h3];dsimp only;rw[h4,aor,aS]
 refine⟨ρ',congrArg dJ (if_neg λ e=>(by rw[e,aqW]at hjd;cases hjd)),by rw[hbl];exact hnd,λ b hb=>by rw[hbl]at hb;exact hb,λ q hq=>?_⟩;rcases aov.1 hq with hq|hq
 ·exact over q (aoT _ hq)
 rcases aot.1 hq with rfl|hq
 ·obtain⟨b,us,g1,g2,g3⟩:=over (id,.box t cs) (aoV _ aol);exact⟨b,us,g1,g2,aff hk (by show dJ (ρ' d)=_;rw[hd];rfl) g3⟩
 rcases aov.1 hq with hq|hq
 ·exact over q (aoV _ (aoq _ hq))
 ·obtain rfl:=aoo.1 hq;exact⟨[],by show World.ownsRow _ 0 e s (ρ' d) 0 [];rw[hd];exact apA X.w _ _ _,hs,λ i hi=>absurd hi o_,(λ _ x hx=>by cases hx),aG.nil⟩
theorem dK.box{t:TypeId}{cs cs':List AV}(h:∀X us,aG (C0 X) cs us->aG (C0 X) cs' us):dK (.box t cs) (.box t cs'):=by
 rintro X id ⟨b,us,h1,h2,h3⟩;exact⟨b,us,h1,h2,h X us h3⟩
theorem aG.lW{cs:List AV}{x y:AV}(hk:cs[k]? =some x)(h:∀X u,C0 X x u->C0 X y u)(ha:aG (C0 X) cs us):aG (C0 X) (cs.set k y) us:=by
 refine⟨by simpa using ha.1,λ i z u hz hu=>?_⟩;rw[aqa]at hz;by_cases e:k=i
 ·subst e;simp only[if_true]at hz;split at hz
  ·cases hz;exact h X u (ha.2 k _ u hk hu)
  ·cases hz
 ·rw[if_neg e]at hz;exact ha.2 i z u hz hu
structure Rc where
 (k r u:Int)(c:aV)(ev:List Ev)
def Rc.cs(x:Rc):List AV:=[.v (.int .i64 x.k),.v (.int .i64 x.r),.v (.int .i64 x.u),.v (.int .i64 x.c.c0),.v (.int .i64 x.c.c1),.v (.int .i64 x.c.c2),.v (.int .i64 x.c.c3),.v (.int .i64 x.c.c4),.sl 12 x.ev.length true (dI x.ev)]
def Rc.av(x:Rc):AV:= .agg x.cs
def FD(k:Int):Bool:=k==3||k==4
def FH(k:Int):Bool:=k==1||k==2||k==5||k==4
def FI(k:Int):Bool:=k==6
def rcK(k:Int):Bool:=decide (1<=k/\k<=6)
def Pv(c:aV):Bool:=qE c.c0&&qE c.c1&&qE c.c2&&qE c.c3&&qE c.c4
def NK(c:aV):Bool:=decide (c.c0=0/\c.c1=0/\c.c2=0/\c.c3=0/\c.c4=0)
theorem vZ(c:aV):NK c=true↔c=aW:=by
 obtain⟨a,b,d,e,f⟩:=c;simp[NK,aW]
def iH(x:Rc):Bool:=
 rcK x.k&&decide (0<=x.r)&&decide (x.r<5)&&qE x.u&&decide (x.ev.length<=4096)&&Pv x.c&&(FD x.k||decide (x.u=0))&&(FI x.k||NK x.c)&&(FH x.k||decide (x.ev.length=0))&&
  x.ev.all (λ e=>decide (eH e=0))&&(decide (x.k≠1)||decide (x.ev.length=1))
theorem zM{n:Nat}(h:n<256):((UInt8.ofNat n).toNat:Int)=n:=by
 rw[apS,ap0 o_]
theorem dN(d n:Nat)(h1:n<=4294967296):aH prog 93 [.v (.int .u64 (n:Int))] (.own d) [(d,.row 5 1 (aN n).length true (aO (aN n)))]:=by
 have hst:=Jm n h1;refine K1.E 0x2d func93 ?_
 refine aI.nil 3 90 5 1 (aO []) rfl o_ ?_;refine aI.mk {x:List UInt8×Nat×Nat//x.1++fZ x.2.2 x.2.1=aN n/\x.2.1<128^(x.2.2+1)/\x.1.length<=10/\x.2.1<=4294967296}
  (λ x=>⟨[(0,.v (.int .u64 (x.1.2.1:Int))),(3,.own 90)],[(90,.row 5 1 x.1.1.length true (aO x.1.1))],[],91⟩) (λ x=>x.1.2.1)
  ⟨([],n,9),hst.1,hst.2,s_,h1⟩ _ (dO.auto _ _ _ rfl ⟨au,au,trivial⟩ ⟨ay rfl,trivial⟩ rfl) ?_
 rintro⟨⟨acc,m,f⟩,i1,i2,i3,i4⟩;dsimp only at i1 i2 i3 i4⊢;have hl:acc.length+(fZ f m).length<=10:=by
  have:=congrArg List.length i1;have:=dF 9 n;simp only[aop,aN]at*;omega
 have hp:=vH f m;repeat' ((conv=>whnf);first|refine K1.u ?_|refine K1.z ?_|refine K1.y (λ _=>?_) (λ _=>?_)|fail)
 ·obtain⟨f',k1,k2⟩:=Jl i1 i2 o_;refine⟨⟨(acc++[UInt8.ofNat (m%128+128)],m/128,f'),k1,k2,by simp;omega,by dsimp only;omega⟩,_,dO.auto _ _ _ rfl ⟨aY.int (by dsimp only;omega),au,trivial⟩ ⟨⟨_,rfl,dK.row s_ (dP rfl ?_)⟩,trivial⟩ rfl,by show m/128<m;omega⟩;simp only[chunk,bC,zM (show m%128+128<256 by omega)];rfl
 ·have e:=Og i1 o_;refine aU.uV d rfl rfl (dK.row ?_ ?_) (au)
  ·rw[<-e];simp
  ·rw[<-e];refine dP rfl ?_;simp only[chunk,bC,zM (show m<256 by omega)];rfl
theorem Gn:∀(f n k:Nat),n<128^(k+1)->(fZ f n).length<=k+1
 |0,n,k,_=>by simp[fZ]
 |f+1,n,k,h=>by
  unfold fZ;split
  ·simp
  ·cases k with
   |zero=>simp at h;omega
   |succ k=>
    have:=Gn f (n/128) k (by rw[aqK]at h;exact Nat.div_lt_of_lt_mul (by rw[Nat.mul_comm];exact h));simp only[aoE];omega
theorem amn{n:Nat}(h:n<=1048576):(aN n).length<=3:=Gn 9 n 2 o_
theorem amo{n:Nat}(h:n<=16777216):(aN n).length<=4:=Gn 9 n 3 o_
theorem Gp(h:n<=1048576):(ig n).length<=3:=amn o_
theorem ak0(h:n<=16777216):(ig n).length<=4:=amo o_
theorem Px(s:ByteArray):(words s).length=1+s.size:=by
 unfold words;rw[aoE,aoY];show s.size+1=_;omega
theorem uz{e:Ev}(h:eH e=0):(fC e).length<=44:=by
 have m:=pV h;obtain⟨k1,k2,s1,s2,_,hl,hs⟩:=wU m.ed;have hn:=Gp (n:=e.n) (by have:=m.n2;omega);have hh:=ak0 (n:=e.h) (by have:=m.h2;omega);have c0:=Gp m.a0.2;have c1:=Gp m.a1.2;have c2:=Gp m.a2.2;have c3:=Gp m.a3.2;have c4:=Gp m.a4.2;have r0:=m.r0;have r4:=m.r4;have hv:(if jF e.k then byteOf e.l::words e.v else []).length<=14:=by
  split
  ·rename_i h;have:=hl h;simp only[aoE,Px,Ev.ed]at this⊢;omega
  ·simp
 have ho:((others e).flatMap ig).length<=12:=by
  unfold others;rcases(show e.r=0\/e.r=1\/e.r=2\/e.r=3\/e.r=4 by omega)with h|h|h|h|h<;>simp[h]<;>omega
 unfold fC;simp only[aop,aoE,aoZ,Px];have:e.key.size<=8:=s2;omega
end Go.Proofs.YtifjccndenojlaaGreat
