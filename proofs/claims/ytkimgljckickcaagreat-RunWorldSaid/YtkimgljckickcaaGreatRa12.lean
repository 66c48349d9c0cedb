/-
  Contracts of the walk:NdF,AmO,PmO,EvEq,NdA,NdB,ClG,RcD,Vin,FitP.
-/
import Derived.Test.YtkimgljckickcaaGreatRa11
import Derived.Test.YtkimgljckickcaaGreatRa10
import Derived.Test.YtkimgljckickcaaGreatRa9
import Derived.Laws.StructEq
import Derived.Laws.Cover2
import Derived.Test.YtkimgljckickcaaGreatRa1
set_option maxHeartbeats 16000000
set_option maxRecDepth 100000
set_option linter.unusedVariables false
set_option linter.unusedSimpArgs false
namespace Go.Proofs.YtkimgljckickcaaGreat
open Go.RowKit
open Go.Proofs.Tryz
variable{sc:Bool}{key:ByteArray}{X:CX}{f:FuncId}{n r:Int}{ho hs:List (Nat×AO)}{aW:List AV}{l:List Cont}{us:List Value}{d j k s:Nat}{P:Program}{Y:Type}{e t:TypeId}
def Fp(l:List Cont)(key:ByteArray):Int:=match l.findIdx? (λ c=>decide (c.key=key))with|some i=>(i:Int)|none=> -1
def inS(s:List (List UInt8))(v:ByteArray):Bool:=s.any λ x=>decide (v=⟨x.toArray⟩)
theorem agU(hj:j<l.length)(hq:∀i,i<j->(l.getD i default).key≠key)(h:(l.getD j default).key=key):Fp l key=j:=by
 have:l.findIdx? (λ c=>decide (c.key=key))=some j:=by
  rw[List.findIdx?_eq_some_iff_getElem];refine⟨hj, ?_,λ i hi=>?_⟩
  ·rw[show l[j]=l.getD j default by simp[List.getD,hj]];exact decide_eq_true h
  ·have:=hq i hi;rw[show l.getD i default=l[i] by simp[List.getD,show i<l.length by omega]]at this;simpa using this
 unfold Fp;rw[this]
theorem agV(hq:∀i,i<l.length->(l.getD i default).key≠key):Fp l key= -1:=by
 have:l.findIdx? (λ c=>decide (c.key=key))=none:=by
  rw[List.findIdx?_eq_none_iff];intro c hc;obtain⟨i,hi,rfl⟩:=anR hc;have:=hq i hi;rw[show l.getD i default=l[i] by simp[List.getD,hi]]at this;simpa using this
 unfold Fp;rw[this]
theorem agW(l:List Cont)(key:ByteArray):Fp l key= -1\/ ∃i:Nat,i<l.length/\Fp l key=i:=by
 unfold Fp;cases h:l.findIdx? (λ c=>decide (c.key=key))with
 |none=>exact .inl rfl
 |some i=>exact .inr ⟨i,(List.findIdx?_eq_some_iff_getElem.1 h).1,rfl⟩
theorem ajk(ed:Ed)(l:List Cont)(hl:l.length<=1000000000):aj prog 125 [(0,.box 49 ed.cs)] [.sl 7 l.length false (TQ l),.fn 126 [.box 0 0]] (.v (.int .i64 (Fp l ed.key))) [(0,.box 49 ed.cs)]:=by
 dsimp only[Ed.cs];refine K1.M 0x103b3 func125 10 ?_
 conv=>whnf
 refine aI.mk {j:Nat//j<=l.length/\ ∀i,i<j->(l.getD i default).key≠ed.key} (λ j=>⟨[(8,.v (.int .i64 (j.1:Int))),(7,.v (.int .i64 (l.length:Int))),(0,.sl 7 l.length false (TQ l)),(1,.fn 126 [.box 0 0])],[(0,.box 49 [.v (.int .i64 ed.k),.v (.string ed.key),.v (.int .i64 ed.l),.v (.string ed.v)])],[[(0,.box 0 0)]],11⟩)
  (λ j=>l.length-j.1) ⟨0,ane _,λ i h=>absurd h (anA i)⟩ _ (dZ.mk' [] _ _ _ rfl gQ nM rfl) ?_
 rintro⟨j,hj,hq⟩;dsimp only;by_cases hjl:j<l.length
 ·by_cases hk:(l.getD j default).key=ed.key
  ·rw[agU hjl hq hk];have hk:(l.getD (j:Int).toNat default).key=ed.key:=hk;clear hq;repeat' ((conv=>whnf);first|refine K1.u ?_|refine K1.I 0xf func126 ?_|fail)
   all_goals(conv=>whnf)
   exact iF []
  ·have hq2:∀i,i<j+1->(l.getD i default).key≠ed.key:=λ i hi=>by
    rcases anr i j with h|h
    ·exact hq i h
    ·obtain rfl:=Nat.le_antisymm (Nat.le_of_lt_succ hi) h;exact hk
   have hk:¬ (l.getD (j:Int).toNat default).key=ed.key:=hk;clear hq;repeat' ((conv=>whnf);first|refine K1.u ?_|refine K1.I 0xf func126 ?_|fail)
   all_goals(conv=>whnf)
   exact⟨⟨j+1,hjl,hq2⟩,_,dZ.mk' [] _ _ _ rfl gQ nM rfl,by show l.length-(j+1)<l.length-j;omega⟩
 ·obtain rfl:j=l.length:=o_
  rw[agV hq];repeat' ((conv=>whnf);first|refine K1.u ?_|fail)
  all_goals(conv=>whnf)
  exact iF []
theorem NR(s:List (List UInt8))(v:ByteArray)(hl:s.length<=1000000000):aF prog 127 [.sl 1 s.length true (jh s),.v (.string v)] (.v (.bool (inS s v))) []:=by
 refine K1.E 0x13 func127 ?_;repeat' ((conv=>whnf);first|refine K1.I 0x103b3 func180 ?_|fail)
 conv=>whnf
 refine aI.mk {j:Nat//j<=s.length/\ ∀i,i<j-> ¬v=⟨(s.getD i []).toArray⟩} (λ j=>⟨[(8,.v (.int .i64 (j.1:Int))),(7,.v (.int .i64 (s.length:Int))),(0,.sl 1 s.length true (jh s)),(1,.v (.string v))],[],
   [[(6,.v (.string v)),(5,.sl 1 s.length true (jh s)),(4,.v (.bool false)),(0,.sl 1 s.length true (jh s)),(1,.v (.string v))]],0⟩)
  (λ j=>s.length-j.1) ⟨0,ane _,λ i h=>absurd h (anA i)⟩ _ (dZ.mk' [] _ _ _ rfl gQ trivial rfl) ?_
 rintro⟨j,hj,hq⟩;dsimp only;by_cases hjl:j<s.length
 ·by_cases hk:v=⟨(s.getD j []).toArray⟩
  ·have hin:inS s v=true:=an6.2 ⟨s[j],anH hjl,by rw[show s.getD j []=s[j] by simp[List.getD,hjl]]at hk;exact decide_eq_true hk⟩;rw[hin];have hk:v=⟨(s.getD (j:Int).toNat []).toArray⟩:=hk;clear hq;repeat' ((conv=>whnf);first|refine K1.u ?_|refine aT.fH ?_|fail)
   all_goals(conv=>whnf)
   exact bF.mk (bY)
  ·have hq2:∀i,i<j+1-> ¬v=⟨(s.getD i []).toArray⟩:=λ i hi=>by
    rcases anr i j with h|h
    ·exact hq i h
    ·obtain rfl:=Nat.le_antisymm (Nat.le_of_lt_succ hi) h;exact hk
   have hk:¬v=⟨(s.getD (j:Int).toNat []).toArray⟩:=hk;clear hq;repeat' ((conv=>whnf);first|refine K1.u ?_|fail)
   all_goals(conv=>whnf)
   exact⟨⟨j+1,hjl,hq2⟩,_,dZ.mk' [] _ _ _ rfl gQ trivial rfl,by show s.length-(j+1)<s.length-j;omega⟩
 ·obtain rfl:j=s.length:=o_
  have hin:inS s v=false:=by
   rw[anw];intro h;obtain⟨x,hx,hv⟩:=an6.1 h;obtain⟨i,hi,rfl⟩:=anR hx;exact hq i hi (by rw[show s.getD i []=s[i] by simp[List.getD,hi]];exact of_decide_eq_true hv)
  rw[hin];repeat' ((conv=>whnf);first|refine K1.u ?_|refine aT.fH ?_|fail)
  all_goals(conv=>whnf)
  exact bF.mk (bY)
def aak(c:Cont)(n:Int):List (List UInt8):=if n=0 then c.s0 else c.s1
def nG(cL cP:Int)(l:List Cont)(e:Ed):Int:=
 if lF e≠0 then lF e
 else if e.k=1 then(if Fp l e.key= -1 then(if cL<=(l.length:Int)then 15 else 0)else 13)
 else if Fp l e.key= -1 then 14
 else if e.k=4 then(if cP<=((aak (l.getD (Fp l e.key).toNat default) e.l).length:Int)then 15 else 0)
 else if e.k=5 then(if inS (aak (l.getD (Fp l e.key).toNat default) e.l) e.v=true then 0 else 16)
 else 0
theorem wU(c:lZ)(l:List Cont)(e:Ed)(hl:l.length<=1000000)(hs:∀x∈l,x.s0.length<=1000000/\x.s1.length<=1000000):aF prog 78 [c.av,.sl 7 l.length false (TQ l),e.av] (.v (.int .i64 (nG c.l c.p l e))) []:=by
 have hed:=Nu e;have hix:=ajk e l o_;have hin:=agW l e.key;generalize hi:Fp l e.key=ix at hix hin;unfold nG;rw[hi];clear hi;obtain⟨cn,cw,cq,ch,cl,cp⟩:=c;obtain⟨k,key,lab,v⟩:=e;dsimp only[lZ.av,lZ.cs,Ed.av,Ed.cs]at hed hix⊢;refine TW bU 9 0x8004001a81011ef 0x43 func78 rfl rfl rfl func124 rfl rfl rfl (i:=6) (j:=7) rfl rfl rfl rfl rfl rfl rfl ?_;by_cases he:lF ⟨k,key,lab,v⟩=0
 ·rw[if_neg (by simp[he])];rw[he]at hed;have hlab:k=4\/k=5->lab=0\/lab=1:=λ h=>by
   have g:=(vY he).2.2.2.2.2.1 (by unfold jy;rcases h with rfl|rfl<;>rfl);have g1:=g.1;have g2:=g.2.1;dsimp only at g1 g2;omega
  clear he;rcases hin with rfl|⟨i,hil,rfl⟩
  ·rw[if_pos rfl,if_pos rfl];clear hlab hs;by_cases hk1:k=1
   ·rw[if_pos hk1];by_cases hcl:cl<=(l.length:Int);all_goals first|rw[if_pos hcl]|rw[if_neg hcl]
    all_goals repeat' ((conv=>whnf);first|refine K1.u ?_|refine K1.P1 hed ?_|refine K1.C 1 [(0,_)] (hix) rfl ?_|refine aT.fH ?_|fail)
    all_goals(conv=>whnf)
    all_goals exact bF.mk (bY)
   ·rw[if_neg hk1];repeat' ((conv=>whnf);first|refine K1.u ?_|refine K1.P1 hed ?_|refine K1.C 1 [(0,_)] (hix) rfl ?_|refine aT.fH ?_|fail)
    all_goals(conv=>whnf)
    all_goals exact bF.mk (bY)
  ·have hne:¬ ((i:Int)= -1):=o_
   rw[if_neg hne,if_neg hne,anP];by_cases hk1:k=1
   ·rw[if_pos hk1];clear hlab hs;repeat' ((conv=>whnf);first|refine K1.u ?_|refine K1.P1 hed ?_|refine K1.C 1 [(0,_)] (hix) rfl ?_|refine aT.fH ?_|refine K1.y (λ _=>?_) (λ _=>?_)|fail)
    all_goals(conv=>whnf)
    all_goals exact bF.mk (bY)
   ·rw[if_neg hk1];have hmem:l.getD i default∈l:=by rw[show l.getD i default=l[i] by simp[List.getD,hil]];exact anH hil
    have hb:=hs _ hmem;have c0:=NR (l.getD i default).s0 v o_;have c1:=NR (l.getD i default).s1 v o_;clear hs hmem;rw[show l.getD i default=l.getD (i:Int).toNat default from rfl]at c0 c1 hb⊢;by_cases hk4:k=4
    ·rw[if_pos hk4];rcases hlab (.inl hk4)with rfl|rfl;all_goals first|rw[show aak (l.getD (i:Int).toNat default) 0=(l.getD (i:Int).toNat default).s0 from rfl]|rw[show aak (l.getD (i:Int).toNat default) 1=(l.getD (i:Int).toNat default).s1 from rfl]
     all_goals split
     all_goals repeat' ((conv=>whnf);first|refine K1.u ?_|refine K1.P1 hed ?_|refine K1.C 1 [(0,_)] (hix) rfl ?_|refine mJ.mk d_ ?_|refine aT.fH ?_|refine K1.o (id:=16) (nN [0,1,2,3,4,5,6,7,8,9,10,11] [(12,some [11,10,7,3])]) ?_|fail)
     all_goals(conv=>whnf)
     all_goals exact bF.mk (bY)
    ·rw[if_neg hk4];by_cases hk5:k=5
     ·rw[if_pos hk5];rcases hlab (.inr hk5)with rfl|rfl;all_goals first|rw[show aak (l.getD (i:Int).toNat default) 0=(l.getD (i:Int).toNat default).s0 from rfl];generalize inS (l.getD (i:Int).toNat default).s0 v=b at c0⊢|rw[show aak (l.getD (i:Int).toNat default) 1=(l.getD (i:Int).toNat default).s1 from rfl];generalize inS (l.getD (i:Int).toNat default).s1 v=b at c1⊢
      all_goals cases b
      all_goals first|rw[if_pos rfl]|rw[if_neg Bool.false_ne_true]
      all_goals repeat' ((conv=>whnf);first|refine K1.u ?_|refine K1.P1 hed ?_|refine K1.C 1 [(0,_)] (hix) rfl ?_|refine K1.P1 c0 ?_|refine K1.P1 c1 ?_|refine mJ.mk d_ ?_|refine aT.fH ?_|refine K1.o (id:=18) (nN [0,1,2,3,4,5,6,7,8,9] [(10,some [9,7,3]),(11,none)]) ?_|fail)
      all_goals(conv=>whnf)
      all_goals exact bF.mk (bY)
     ·rw[if_neg hk5];repeat' ((conv=>whnf);first|refine K1.u ?_|refine K1.P1 hed ?_|refine K1.C 1 [(0,_)] (hix) rfl ?_|refine aT.fH ?_|fail)
      all_goals(conv=>whnf)
      all_goals exact bF.mk (bY)
 ·rw[if_pos he];generalize lF ⟨k,key,lab,v⟩=x at hed he⊢;repeat' ((conv=>whnf);first|refine K1.u ?_|refine K1.P1 hed ?_|refine aT.fH ?_|fail)
  all_goals(conv=>whnf)
  all_goals exact bF.mk (bY)
def Opens(o:OB)(j:Nat){Y:Type}(hs:Y->List (Nat×AO)):Prop:=
 ∀(w:World)(k:Nat->Prop)(v:Value),o.R w k v-> ∃(y:Y) (ρ:Nat->Value),dD (ρ j)=dD v/\(ah ρ (hs y)).Perm (blks v)/\ ∀p∈hs y,aQ ⟨w,k,ρ⟩ p.1 p.2
def Closes(hs:List (Nat×AO))(j:Nat)(o:OB):Prop:=
 ∀(w:World)(k:Nat->Prop)(ρ:Nat->Value),(ah ρ hs).Nodup->(∀p∈hs,aQ ⟨w,k,ρ⟩ p.1 p.2)-> ∃us,o.R w k (.tuple us)/\dD (.tuple us)=dD (ρ j)/\ ∀b∈blks (.tuple us),b∈ah ρ hs
def NS(q:Nat->Bool)(j:Nat):AV->Bool
 | .own i=>q i||Nat.beq i j
 | .box i _=>q i||Nat.beq i j
 | .dn i .. =>q i
 | .jB i .. =>q i||Nat.beq i j
 | .cf _ i _=>q i||Nat.beq i j
 |_=>true
def oQ(q:Nat->Bool)(j:Nat):AV->Bool
 | .agg cs=>cs.all (NS q j)
 | .fn _ cs=>cs.all (NS q j)
 |x=>NS q j x
def fG(q:Nat->Bool)(j:Nat):AV->Bool
 | .aZ vs=>vs.all (oQ q j)
 |x=>oQ q j x
section
variable{X Y:CX}{q:Nat->Bool}{j:Nat}(hk:∀b,X.keep b->Y.keep b)(hm:Y.w=X.w)(hρ:∀i,q i=true->Y.ρ i=X.ρ i)(hj:dD (Y.ρ j)=dD (X.ρ j))
include hk hm hρ hj
theorem C0.jT{av:AV}{u:Value}(hr:NS q j av=true)(hc:C0 X av u):C0 Y av u:=by
 have hmm:∀b,X.keep b->Y.w.heap[b]? =X.w.heap[b]? :=λ _ _=>by rw[hm]
 have hh:∀i,(q i||Nat.beq i j)=true->dD (Y.ρ i)=dD (X.ρ i):=λ i h=>by
  simp only[anT]at h;rcases h with h|h
  ·rw[hρ i h]
  ·rw[am3 h];exact hj
 cases av with
 |own id=>exact(show u=dD (X.ρ id)from hc).trans (hh id hr).symm
 |dn id s i k=>obtain⟨b,n,c,h1,h2⟩:=hc;exact⟨b,n,c,(hρ id hr).trans h1,h2⟩
 |jB id s i k=>exact Or.imp (λ⟨b,c,h1,h2⟩=>⟨b,c,(congrArg iK (hh id hr)).trans h1,h2⟩) _root_.id hc
 |box id off=>obtain⟨b,h1,h2⟩:=hc;exact⟨b,(hh id hr).trans h1,h2⟩
 |cf gg id off=>obtain⟨b,h1,h2⟩:=hc;exact⟨b,(hh id hr).trans h1,h2⟩
 |el cs k=>
  obtain⟨b,o,us,e,kb,ha,hcell⟩:=hc;exact⟨b,o,us,e,hk b kb,ha.imp (λ _ _=>PC.mono hk hmm),λ j y hj=>(aoF (hmm b kb)).trans (hcell j y hj)⟩
 |sl s n sc f=>exact PC.mono hk hmm hc
 |v x=>exact hc
 |junk=>trivial
 |agg cs=>exact hc
 |aZ cs=>exact hc
 |fn g caps=>exact hc
theorem C1.jT{av:AV}{u:Value}(hr:oQ q j av=true)(hc:C1 X av u):C1 Y av u:=by
 cases av with
 |agg cs=>obtain⟨us,e,ha⟩:=hc;exact⟨us,e,ha.ET hr λ _ _ q k=>C0.jT hk hm hρ hj q k⟩
 |fn g cs=>obtain⟨us,e,ha⟩:=hc;exact⟨us,e,ha.ET hr λ _ _ q k=>C0.jT hk hm hρ hj q k⟩
 |own id=>exact C1.uO (C0.jT hk hm hρ hj (av:= .own id) hr hc)
 |dn id s i k=>exact C1.uO (C0.jT hk hm hρ hj (av:= .dn id s i k) hr hc)
 |jB id s i k=>exact C1.uO (C0.jT hk hm hρ hj (av:= .jB id s i k) hr hc)
 |box id k=>exact C1.uO (C0.jT hk hm hρ hj (av:= .box id k) hr hc)
 |cf gg id k=>exact C1.uO (C0.jT hk hm hρ hj (av:= .cf gg id k) hr hc)
 |el cs k=>exact C1.uO (C0.jT hk hm hρ hj (av:= .el cs k) hr hc)
 |sl s n sc f=>exact C1.uO (C0.jT hk hm hρ hj (av:= .sl s n sc f) hr hc)
 |v x=>exact hc
 |junk=>trivial
 |aZ cs=>exact hc
theorem C2.jT{av:AV}{u:Value}(hr:fG q j av=true)(hc:C2 X av u):C2 Y av u:=by
 cases av with
 |aZ vs=>obtain⟨us,e,ha⟩:=hc;exact⟨us,e,ha.ET hr λ _ _ q k=>C1.jT hk hm hρ hj q k⟩
 |agg cs=>exact C2.mg (C1.jT hk hm hρ hj (av:= .agg cs) hr hc)
 |fn g cs=>exact C2.mg (C1.jT hk hm hρ hj (av:= .fn g cs) hr hc)
 |own id=>exact C2.mg (C1.jT hk hm hρ hj (av:= .own id) hr hc)
 |dn id s i k=>exact C2.mg (C1.jT hk hm hρ hj (av:= .dn id s i k) hr hc)
 |jB id s i k=>exact C2.mg (C1.jT hk hm hρ hj (av:= .jB id s i k) hr hc)
 |box id k=>exact C2.mg (C1.jT hk hm hρ hj (av:= .box id k) hr hc)
 |cf gg id k=>exact C2.mg (C1.jT hk hm hρ hj (av:= .cf gg id k) hr hc)
 |el cs k=>exact C2.mg (C1.jT hk hm hρ hj (av:= .el cs k) hr hc)
 |sl s n sc f=>exact C2.mg (C1.jT hk hm hρ hj (av:= .sl s n sc f) hr hc)
 |v x=>exact hc
 |junk=>trivial
end
theorem uJ(ρ:Nat->Value)(p:Nat×AO):ah ρ [p]=blks (ρ p.1):=by rw[aP];simp[ah]
theorem aj.opn{o o':OB}{hs:Y->List (Nat×AO)}{r:AV}(hE:Enters P f)(hO:Opens o j hs)
  (h:∀y,∃hs',Closes hs' j o'/\bJ j (hs y)=true/\bJ j hs'=true/\aj P f (hs y) aW r (hs'++ho))
  (hb:(aW.all (oQ (λ _=>false) j)&&fG (λ i=>bJ i ho) j r&&fF ho ho&& !(bJ j ho))=true):aj P f [(j,.obs o)] aW r ((j,.obs o')::ho):=by
 simp only[amY,anB]at hb;obtain⟨⟨⟨hav,hrr⟩,hcl⟩,hne⟩:=hb;refine⟨hE,λ w keep ρ args hkeep jg hnd hbl hargs=>?_⟩;obtain⟨us,eu,hR⟩:=jg _ (amZ.2 rfl);have eu:ρ j= .tuple us:=eu;have hR:o.R w keep (ρ j):=hR;have hsb:=uJ ρ (j,.obs o);rw[hsb]at hnd hbl;obtain⟨y,ρ',hhd,hperm,hok⟩:=hO w keep (ρ j) hR;obtain⟨hs',hC,hj1,hj2,hM⟩:=h y;have hmem:∀b,b∈ah ρ' (hs y)↔b∈blks (ρ j):=λ b=>hperm.mem_iff;refine(hM.2 w keep ρ' args hkeep hok (hperm.nodup_iff.2 hnd) (λ b hb=>hbl b ((hmem b).1 hb)) (hargs.ET hav λ _ _ q k=>C1.jT (X:=⟨w,keep,ρ⟩) (Y:=⟨w,keep,ρ'⟩) (λ _ h=>h) rfl (λ _ h=>by cases h) hhd q k)).mono ?_;rintro e w' ⟨u,xQ,rfl,hbel,hfix,hc,hout,hnd',hnew⟩;rw[cu,anM]at hnd';obtain⟨hn1,hn2,hn3⟩:=hnd';obtain⟨vs,hR',aal,hbs⟩:=hC w' (aH (dN w keep (λ b=>b∈ah ρ' (hs y))) w' xQ (hs'++ho)) xQ hn1 (λ p hp=>hout p (anv _ hp));let tV:Nat->Value:=λ i=>if i=j then .tuple vs else xQ i
 have VW:tV j= .tuple vs:=by simp[tV]
 have e4:∀i,bJ i ho=true->tV i=xQ i:=λ i hi=>by
  have:i≠j:=by rintro rfl;rw[hne]at hi;cases hi
  simp[tV,this]
 have hb4:ah tV ((j,.obs o')::ho)=blks (.tuple vs)++ah xQ ho:=by
  rw[aP,eX λ p hp=>e4 p.1 (bM.2 ⟨p,hp,rfl⟩)];show blks (tV j)++_=_;rw[VW]
 have Gq:∀b,b∈ah tV ((j,.obs o')::ho)->b∈ah xQ (hs'++ho):=λ b hb=>by
  rw[hb4]at hb;rw[cu];exact(am6.1 hb).elim (λ h=>anv _ (hbs b h)) (λ h=>anx _ h)
 have hk4:∀b,aH (dN w keep (λ b=>b∈ah ρ' (hs y))) w' xQ (hs'++ho) b->aH (dN w keep (λ b=>b∈ah ρ [(j,.obs o)])) w' tV ((j,.obs o')::ho) b:=by
  rintro b ⟨h1,h2,h3⟩;exact⟨h1,λ hlt=>(h2 hlt).imp id λ h=>(by show b∈ah ρ [(j,.obs o)];rw[hsb];exact(hmem b).1 h),λ h=>h3 (Gq b h)⟩
 refine⟨u,tV,rfl,⟨hbel.os,hbel.tape,hbel.output,hbel.size,λ k hk hM'=>hbel.block k hk λ h=>hM' (by rw[hsb];exact(hmem k).1 h)⟩, ?_, ?_, ?_, ?_, ?_⟩
 ·intro p hp q hq eq;obtain rfl:=amZ.1 hp;refine .inr ⟨⟨vs,VW⟩,⟨us,eu⟩, ?_⟩;show dD (tV j)=dD (ρ j);rw[VW,aal,<-hhd];obtain⟨p',hp',ep⟩:=bM.1 hj1;obtain⟨q',hq',eq'⟩:=bM.1 hj2;have:=(hfix p' hp' q' (anv _ hq') (eq'.trans ep.symm)).hd;rw[ep]at this;exact this
 ·exact C2.jT (X:=aA (dN w keep (λ b=>b∈ah ρ' (hs y))) w' xQ (hs'++ho)) (Y:=aA (dN w keep (λ b=>b∈ah ρ [(j,.obs o)])) w' tV ((j,.obs o')::ho)) hk4 rfl e4 (by show dD (tV j)=dD (xQ j);rw[VW,aal]) hrr hc
 ·intro p hp;rcases am4.1 hp with rfl|hp
  ·refine⟨vs,VW, ?_⟩;show o'.R w' _ (tV j);rw[VW];exact o'.mono hk4 (λ _ _=>rfl) (λ _ _=>rfl) hR'
  ·exact aQ.over (X:=aA (dN w keep (λ b=>b∈ah ρ' (hs y))) w' xQ (hs'++ho)) (Y:=aA (dN w keep (λ b=>b∈ah ρ [(j,.obs o)])) w' tV ((j,.obs o')::ho)) hk4 rfl e4 (bM.2 ⟨p,hp,rfl⟩) (pY hcl p hp) (hout p (anx _ hp))
 ·rw[hb4,anM];exact⟨(o'.lt hR').2.2,hn2,λ a ha b hb=>hn3 a (hbs a ha) b hb⟩
 ·intro b hb;rcases hnew b (Gq b hb)with h|h
  ·exact .inl h
  ·exact .inr (by rw[hsb];exact(hmem b).1 h)
theorem aj.cls{o':OB}{r:AV}{hs':List (Nat×AO)}(hC:Closes hs' j o')(hM:aj P f [] aW r (hs'++ho))
  (hb:(fG (λ i=>bJ i ho) j r&&fF ho ho&& !(bJ j ho))=true):aj P f [] aW r ((j,.obs o')::ho):=by
 simp only[amY,anB]at hb;obtain⟨⟨hrr,hcl⟩,hne⟩:=hb;refine⟨hM.1,λ w keep ρ args hkeep jg hnd hbl hargs=>(hM.2 w keep ρ args hkeep jg hnd hbl hargs).mono ?_⟩;rintro e w' ⟨u,xQ,rfl,hbel,hfix,hc,hout,hnd',hnew⟩;rw[cu,anM]at hnd';obtain⟨hn1,hn2,hn3⟩:=hnd';obtain⟨vs,hR',aal,hbs⟩:=hC w' (aH (dN w keep (λ b=>b∈ah ρ [])) w' xQ (hs'++ho)) xQ hn1 (λ p hp=>hout p (anv _ hp));let tV:Nat->Value:=λ i=>if i=j then .tuple vs else xQ i
 have VW:tV j= .tuple vs:=by simp[tV]
 have e4:∀i,bJ i ho=true->tV i=xQ i:=λ i hi=>by
  have:i≠j:=by rintro rfl;rw[hne]at hi;cases hi
  simp[tV,this]
 have hb4:ah tV ((j,.obs o')::ho)=blks (.tuple vs)++ah xQ ho:=by
  rw[aP,eX λ p hp=>e4 p.1 (bM.2 ⟨p,hp,rfl⟩)];show blks (tV j)++_=_;rw[VW]
 have Gq:∀b,b∈ah tV ((j,.obs o')::ho)->b∈ah xQ (hs'++ho):=λ b hb=>by
  rw[hb4]at hb;rw[cu];exact(am6.1 hb).elim (λ h=>anv _ (hbs b h)) (λ h=>anx _ h)
 have hk4:∀b,aH (dN w keep (λ b=>b∈ah ρ [])) w' xQ (hs'++ho) b->aH (dN w keep (λ b=>b∈ah ρ [])) w' tV ((j,.obs o')::ho) b:=
  λ b ⟨h1,h2,h3⟩=>⟨h1,h2,λ h=>h3 (Gq b h)⟩
 refine⟨u,tV,rfl,hbel,(λ p hp=>by cases hp), ?_, ?_, ?_,λ b hb=>hnew b (Gq b hb)⟩
 ·exact C2.jT (X:=aA (dN w keep (λ b=>b∈ah ρ [])) w' xQ (hs'++ho)) (Y:=aA (dN w keep (λ b=>b∈ah ρ [])) w' tV ((j,.obs o')::ho)) hk4 rfl e4 (by show dD (tV j)=dD (xQ j);rw[VW,aal]) hrr hc
 ·intro p hp;rcases am4.1 hp with rfl|hp
  ·refine⟨vs,VW, ?_⟩;show o'.R w' _ (tV j);rw[VW];exact o'.mono hk4 (λ _ _=>rfl) (λ _ _=>rfl) hR'
  ·exact aQ.over (X:=aA (dN w keep (λ b=>b∈ah ρ [])) w' xQ (hs'++ho)) (Y:=aA (dN w keep (λ b=>b∈ah ρ [])) w' tV ((j,.obs o')::ho)) hk4 rfl e4 (bM.2 ⟨p,hp,rfl⟩) (pY hcl p hp) (hout p (anx _ hp))
 ·rw[hb4,anM];exact⟨(o'.lt hR').2.2,hn2,λ a ha b hb=>hn3 a (hbs a ha) b hb⟩
def akL{α:Type}(hs:α->List (Nat×AO))(w:World)(k:Nat->Prop)(v:Value):Prop:=
 ∃(x:α) (ρ:Nat->Value) (us:List Value),v= .tuple (dD (ρ 0)::us).toArray/\us.flatMap iK=ah ρ (hs x)/\(ah ρ (hs x)).Nodup/\bJ 0 (hs x)=true/\(dD (ρ 0)).oneCell'=true/\ ∀p∈hs x,aQ ⟨w,k,ρ⟩ p.1 p.2
theorem mY(x:Value)(us:List Value):blks (.tuple (x::us).toArray)=us.flatMap iK:=by simp[blks]
def OB.pack{α:Type}(hs:α->List (Nat×AO)):OB where
 R:=akL hs
 mono:=by
  rintro w w' k k' v hk hm hb ⟨x,ρ,us,rfl,hbl,hnd,hn,h1,hok⟩;rw[mY,hbl]at hb;exact⟨x,ρ,us,rfl,hbl,hnd,hn,h1,λ p hp=>aQ.same (X:=⟨w,k,ρ⟩) (Y:=⟨w',k',ρ⟩) hk hm rfl (λ b hb'=>hb b (aN.2 ⟨p,hp,hb'⟩)) (hok p hp)⟩
 lt:=by
  rintro w k v ⟨x,ρ,us,rfl,hbl,hnd,hn,h1,hok⟩;rw[mY,hbl];refine⟨λ b hb=>?_,h1,hnd⟩;obtain⟨p,hp,hb'⟩:=aN.1 hb;exact(hok p hp).lt b hb'
theorem Opens.pack{α:Type}(hs:α->List (Nat×AO)):Opens (OB.pack hs) 0 hs:=by
 rintro w k v ⟨x,ρ,us,rfl,hbl,hnd,hn,h1,hok⟩;exact⟨x,ρ,rfl,by rw[mY,hbl],hok⟩
theorem TY(l:List Nat):(l.map λ b=>Value.pointer (some ⟨b,0,none⟩)).flatMap iK=l:=by
 induction l with
 |nil=>rfl
 |cons x l ih=>rw[anS,anN,ih];rfl
theorem Closes.pack{α:Type}(hs:α->List (Nat×AO))(x:α)(hn:bJ 0 (hs x)=true)(h1:∀(X:CX),(∀p∈hs x,aQ X p.1 p.2)->(dD (X.ρ 0)).oneCell'=true):Closes (hs x) 0 (OB.pack hs):=by
 intro w k ρ hnd hok;refine⟨_,⟨x,ρ,(ah ρ (hs x)).map λ b=> .pointer (some ⟨b,0,none⟩),rfl,TY _,hnd,hn,h1 ⟨w,k,ρ⟩ hok,hok⟩,rfl,λ b hb=>?_⟩;rw[mY,TY]at hb;exact hb
theorem Opens.imp{o:OB}{Z:Type}{hs:Y->List (Nat×AO)}{gs:Z->List (Nat×AO)}(h:Opens o j hs)(hi:∀(X:CX) y,(ah X.ρ (hs y)).Nodup->(∀p∈hs y,aQ X p.1 p.2)-> ∃z ρ',dD (ρ' j)=dD (X.ρ j)/\(ah ρ' (gs z)).Perm (ah X.ρ (hs y))/\ ∀p∈gs z,aQ ⟨X.w,X.keep,ρ'⟩ p.1 p.2):Opens o j gs:=by
 intro w k v hR;obtain⟨y,ρ,h1,h2,h3⟩:=h w k v hR;obtain⟨z,ρ',g1,g2,g3⟩:=hi ⟨w,k,ρ⟩ y (h2.nodup_iff.2 (o.lt hR).2.2) h3;exact⟨z,ρ',g1.trans h1,g2.trans h2,g3⟩
theorem Closes.imp{o:OB}{gs:List (Nat×AO)}(h:Closes gs j o)(hi:∀(X:CX),(ah X.ρ hs).Nodup->(∀p∈hs,aQ X p.1 p.2)-> ∃ρ',dD (ρ' j)=dD (X.ρ j)/\(ah ρ' gs).Nodup/\(∀b∈ah ρ' gs,b∈ah X.ρ hs)/\ ∀p∈gs,aQ ⟨X.w,X.keep,ρ'⟩ p.1 p.2):Closes hs j o:=by
 intro w k ρ hnd hok;obtain⟨ρ',g1,g2,g3,g4⟩:=hi ⟨w,k,ρ⟩ hnd hok;obtain⟨us,a1,a2,a3⟩:=h w k ρ' g2 g4;exact⟨us,a1,a2.trans g1,λ b hb=>g3 b (a3 b hb)⟩
theorem bQ.hdr{L:Lay}(hL:bD P L){W:Walk}(hW:G9 P W){st:AS}{K:AV->AS->Prop}(t id:Nat){n:Nat}{F:Nat->List AV}(hE:Enters P f)(ht:st.tmps t= .own id)(hf:aG id st.heap=some (.row e s n sc F))
  (h:∀A c,bQ P L W d f aW ⟨(t,.v (.slice A n c))::st.sl,st.heap,st.back,st.base⟩ K):bQ P L W d f aW st K:=by
 refine .sem hE λ g N bs ρ a w args R hargs=>?_;obtain⟨us,hown,hr⟩:=R.objs _ (au hf);have hown:w.ownsRow 0 e s (ρ id) n us:=hown;obtain⟨A,c,hv⟩:∃A c,ρ id= .slice A n c:=by
  rcases hown.2 with⟨hv,hz⟩|⟨b,cap,cur,hv,_⟩
  ·exact⟨none,0,by rw[hv,hz]⟩
  ·exact⟨_,_,hv⟩
 have R':Rel g N bs ρ a w ⟨(t,.v (.slice A n c))::st.sl,st.heap,st.back,st.base⟩:=by
  refine⟨R.size,R.defers,R.below,λ t'=>?_,R.objs,R.apart,R.own,R.back⟩;show C2 _ (upd t (.v (.slice A n c)) st.tmps t') _;by_cases e':t'=t
  ·subst e';have h0:=R.tmps t';rw[ht]at h0;simp only[upd,apv,cond_true];exact(C2.kE h0).trans (by show dD (ρ id)=_;rw[hv];rfl)
  ·simp only[upd,beq_false e',cond_false];exact R.tmps t'
 have:=(o9 R' hargs (h A c) (λ lv fn c hf' hnm hb hsz h'=>wF hL hW R' hargs lv fn c hf' hb hsz h')).2;exact this
def pmR(kv:List (Value×Value))(w:World)(_:Nat->Prop)(v:Value):Prop:=
 ∃b es c,v= .tuple #[.map (some b),.map (some b)]/\w.heap[b]? =some (.map es c)/\pairs es.toList=kv/\MapKept.Stamped es c
def Xa(kv:List (Value×Value)):OB where
 R:=pmR kv
 mono:=by
  rintro w w' k k' v _ _ hm ⟨b,es,c,rfl,hh,hp,hs⟩;exact⟨b,es,c,rfl,(hm b (by simp[blks,iK])).trans hh,hp,hs⟩
 lt:=by
  rintro w k v ⟨b,es,c,rfl,hh,hp,hs⟩;refine⟨λ x hx=>?_,rfl,by simp[blks,iK]⟩;obtain rfl:x=b:=by simpa[blks,iK]using hx
  exact(anQ.1 hh).1
structure YS(P:Program)(kt:TypeId)(q:Value->Prop):Prop where
 chk:∀m k w,q k->(Instr.checkKey m 10000 kt k).run P w= .ok () w
 now:∃d,P.underlying kt=some d/\ ∀k k',q k->q k'->Instr.sameNow d k k'=none
 eq:∀k k' w,q k->q k'-> ∃t:Bool,(t=true↔k=k')/\(Op.equal kt k k').run P w= .ok t w
 bits:∀k,q k->Instr.sameBits 10000 k k=true
section
variable{P:Program}{kt et t:TypeId}{q:Value->Prop}(hK:YS P kt q){w:World}{k:Value}
include hK
theorem adP(hk:q k):∀(es:List MapEntry)(i:Nat),(∀e∈es,q e.key/\e.key≠k)->(Instr.findAsking kt k es i).run P w= .ok none w
 |[],_,_=>rfl
 |e::es,i,h=>by
  obtain⟨b,hb,hr⟩:=hK.eq k e.key w hk (h e amW).1;have:b=false:=by rw[anw];exact λ e'=>(h e amW).2 (hb.1 e').symm
  subst this;simp only[Instr.findAsking,am',hr,am8];exact adP hk es (i+1) λ e he=>h e (am1 _ he)
theorem YT(hk:q k):∀(es:List MapEntry)(i j:Nat)(e:MapEntry),(∀e∈es,q e.key)->es[j]? =some e->e.key=k->(∀l x,l<j->es[l]? =some x->x.key≠k)->(Instr.findAsking kt k es i).run P w= .ok (some (i+j,e.val)) w
 |[],_,_,_,_,h,_,_=>by simp at h
 |x::es,i,j,e,h,he,hke,hno=>by
  obtain⟨b,hb,hr⟩:=hK.eq k x.key w hk (h x amW);simp only[Instr.findAsking,am',hr,am8];cases j with
  |zero=>
   simp only[aoh,ank]at he;subst he;rw[hb.2 hke.symm];rfl
  |succ j=>
   have hx:x.key≠k:=hno 0 x o_ rfl;have:b=false:=by rw[anw];exact λ e'=>hx (hb.1 e').symm
   subst this;have:=YT hk es (i+1) j e (λ e he=>h e (am1 _ he)) (by simpa using he) hke λ l x hl hx=>hno (l+1) x o_ (by simpa using hx);rw[show i+1+j=i+(j+1) by omega]at this;exact this
theorem Ua(hk:q k){es:List MapEntry}(h:∀e∈es,q e.key){r:Option (Nat×Value)}(hr:(Instr.findAsking kt k es 0).run P w= .ok r w):(Instr.findKey kt k es).run P w= .ok r w:=by
 obtain⟨d,hd,hn⟩:=hK.now;cases es with
 |nil=>
  have:r=none:=by cases hr;rfl
  subst this;simp[Instr.findKey,run_underlying hd,am',Result.andThen,Instr.findNow]
 |cons e es=>
  have:Instr.findNow d k (e::es) 0=none:=by unfold Instr.findNow;rw[hn k e.key hk (h e amW)]
  simp only[Instr.findKey,am',run_underlying hd,am8,this];exact hr
theorem YU(hk:q k){es:Array MapEntry}{kv:List (Value×Value)}(hp:pairs es.toList=kv)(h:∀p∈kv,q p.1/\p.1≠k):(Instr.findKey kt k es.toList).run P w= .ok none w:=by
 have h':∀e∈es.toList,q e.key/\e.key≠k:=λ e he=>h (e.key,e.val) (by rw[<-hp];exact ant.2 ⟨e,he,rfl⟩);exact Ua hK hk (λ e he=>(h' e he).1) (adP hK hk es.toList 0 h')
theorem Ub(hk:q k){es:Array MapEntry}{c:Nat}(hs:MapKept.Stamped es c){A B:List (Value×Value)}{v:Value}(hp:pairs es.toList=A++(k,v)::B)(h:∀p∈A++(k,v)::B,q p.1):
  ∃e,es.toList[A.length]? =some e/\e.key=k/\e.val=v/\(Instr.findKey kt k es.toList).run P w= .ok (some (A.length,v)) w:=by
 have hl:(pairs es.toList)[A.length]? =some (k,v):=by rw[hp];simp
 unfold pairs at hl;rw[anE]at hl;cases he:es.toList[A.length]? with
 |none=>rw[he]at hl;cases hl
 |some e=>
  rw[he]at hl;simp only[aoo,ank,aot]at hl;refine⟨e,rfl,hl.1,hl.2, ?_⟩;have:=YT (w:=w) hK hk es.toList 0 A.length e (λ x hx=>h (x.key,x.val) (by rw[<-hp];exact ant.2 ⟨x,hx,rfl⟩)) he hl.1 λ l x hlt hx hxk=>by
   have hn:=hs.2.2;have h1:(es.toList.map (·.key))[l]? =some k:=by rw[anE,hx,<-hxk];rfl
   have h2:(es.toList.map (·.key))[A.length]? =some k:=by rw[anE,he,<-hl.1];rfl
   obtain⟨a1,a2⟩:=anc.1 h1;obtain⟨b1,b2⟩:=anc.1 h2;have:=ML hn a1 b1 (a2.trans b2.symm);omega
  rw[anZ,hl.2]at this;exact Ua hK hk (λ x hx=>h (x.key,x.val) (by rw[<-hp];exact ant.2 ⟨x,hx,rfl⟩)) this
end
section
variable{P:Program}{kt et t:TypeId}{q:Value->Prop}{w:World}{k v:Value}{b c:Nat}{es:Array MapEntry}
theorem Uc(ht:P.underlying t=some (.map kt et))(hb:w.heap[b]? =some (.map es c))(hc:(Instr.checkKey es.isEmpty 10000 kt k).run P w= .ok () w){r:Option (Nat×Value)}(hf:(Instr.findKey kt k es.toList).run P w= .ok r w){z:Value}(hz:(zeroValue et).run P w= .ok z w):
  (Instr.lookup t (.map (some b)) k true).run P w= .ok (.tuple #[(r.map (·.2)).getD z,.bool r.isSome]) w:=by
 cases r with
 |none=>simp[Instr.lookup,run_underlying ht,anY hb,am',Result.andThen,hc,hf,hz]
 |some p=>simp[Instr.lookup,run_underlying ht,anY hb,am',Result.andThen,hc,hf]
theorem Ud(ht:P.underlying t=some (.map kt et))(hb:w.heap[b]? =some (.map es c))(hc:(Instr.checkKey false 10000 kt k).run P w= .ok () w)(hf:(Instr.findKey kt k es.toList).run P w= .ok none w):
  (Instr.mapUpdate t (.map (some b)) k v).run P w= .ok () {w with heap:=w.heap.setIfInBounds b (.map (es.push {key:=k,val:=v,born:=c}) (c+1))}:=by
 simp[Instr.mapUpdate,run_underlying ht,anY hb,am',Result.andThen,hc,hf,aoz _ hb]
theorem agX(ht:P.underlying t=some (.map kt et))(hb:w.heap[b]? =some (.map es c))(hc:(Instr.checkKey es.isEmpty 10000 kt k).run P w= .ok () w){i:Nat}{u:Value}(hf:(Instr.findKey kt k es.toList).run P w= .ok (some (i,u)) w){Ws ty:TypeId}:
  (Builtin.delete_ #[t,Ws] ty #[.map (some b),k]).run P w= .ok (.tuple #[]) {w with heap:=w.heap.setIfInBounds b (.map (es.eraseIdxIfInBounds i) c)}:=by
 simp[Builtin.delete_,run_underlying ht,anY hb,am',Result.andThen,hc,hf,aoz _ hb]
end
section
variable{P:Program}{kt et t:TypeId}{q:Value->Prop}{st:AS}{K:AV->AS->Prop}{id:Nat}{kv:List (Value×Value)}{k v:Value}
def Whole(x:AV)(v:Value):Prop:=(∀X u,C2 X x u->u=v)/\ ∀X,C1 X x v
theorem Whole.agg(us:List Value):Whole (.agg (us.map .v)) (.agg us.toArray):=by
 refine⟨λ X u h=>?_,λ X=>⟨us,rfl,s_,λ i x u hx hu=>?_⟩⟩
 ·obtain⟨vs,rfl,ha⟩:∃vs:List Value,u= .agg vs.toArray/\aC (C0 X) (us.map .v) vs:=h;congr 2;refine aos λ i=>?_;have hl:us.length=vs.length:=by simpa using ha.1
  cases hv:vs[i]? with
  |none=>rw[List.getElem?_eq_none_iff]at hv;exact(anz o_).symm
  |some y=>
   have hi:i<us.length:=by rw[hl];exact(anc.1 hv).1
   have:y=us[i]:=ha.2 i (.v us[i]) y (by simp[hi]) hv;rw[this];exact(amX hi).symm
 ·rw[anE,hu]at hx;cases hx;rfl
theorem Qv{g:Base}{N:Nat}{bs:List (Array Value)}{ρ:Nat->Value}{a:Act}{w:World}(R:Rel g N bs ρ a w st)(hf:aG id st.heap=some (.obs (Xa kv))):
  ∃b es c,ρ id= .tuple #[.map (some b),.map (some b)]/\w.heap[b]? =some (.map es c)/\pairs es.toList=kv/\MapKept.Stamped es c:=by
 obtain⟨us,e,b,es,c,e2,h⟩:=R.objs _ (au hf);exact⟨b,es,c,e2,h⟩
theorem YV{g:Base}{N:Nat}{bs:List (Array Value)}{ρ:Nat->Value}{a:Act}{w:World}(R:Rel g N bs ρ a w st){x:Operand}(hx:st.ev x= .own id){b:Nat}(e:ρ id= .tuple #[.map (some b),.map (some b)]):a.eval x= .map (some b):=by
 have:=R.ev x;rw[hx]at this;exact(C2.kE this).trans (by show dD (ρ id)=_;rw[e];rfl)
theorem Ue{kv':List (Value×Value)}{g:Base}{N:Nat}{bs:List (Array Value)}{ρ:Nat->Value}{a:Act}{w:World}(R:Rel g N bs ρ a w st){b c c':Nat}{es es':Array MapEntry}(hf:aG id st.heap=some (.obs (Xa kv)))(e:ρ id= .tuple #[.map (some b),.map (some b)])(hh:w.heap[b]? =some (.map es c))(hp:pairs es'.toList=kv')(hs:MapKept.Stamped es' c'):
  Rel g N bs ρ a {w with heap:=w.heap.setIfInBounds b (.map es' c')} ⟨st.sl,setObj id (.obs (Xa kv')) st.heap,st.back,st.base⟩:=by
 have hlt:b<w.heap.size:=(anQ.1 hh).1;refine R.write hf (b:=b) (by rw[e];simp[blks,iK]) ⟨rfl,rfl,rfl,s_,λ k hk=>by simp[Array.getElem?_setIfInBounds,show b≠k by omega]⟩ s_ (λ k hk=>by simp[Array.getElem?_setIfInBounds,apn hk]) λ _ _=>?_;exact⟨_,e,b,es',c',e,by simp[aA,hlt],hp,hs⟩
variable{x i y:Operand}{c:Call}{Ws:TypeId}(hK:YS P kt q)(ht:P.underlying t=some (.map kt et)){kx vx:AV}(hx:st.ev x= .own id)(hf:aG id st.heap=some (.obs (Xa kv)))(hi:st.ev i=kx)(hk:Whole kx k)(hq:q k)
include hK ht hx hf hi hk hq
theorem kU.look(hz:∀w,(zeroValue et).run P w= .ok v w)(hv:Whole vx v)(hno:∀p∈kv,q p.1/\p.1≠k)(h:K (.aZ [vx,.v (.bool false)]) st):kU P st (.lookup t x i true) K:=by
 refine .q _ h λ g N bs ρ a w o ho R=>?_;obtain⟨b,es,c,e,hh,hp,hs⟩:=Qv R hf;have e2:a.eval i=k:=hk.1 _ _ (by rw[<-hi];exact R.ev i);refine⟨_,⟨[v,.bool false],rfl,aC.cons (hv.2 _) (aC.cons rfl aC.nil)⟩, ?_⟩;simp only[execOp,ho,YV R hx e,e2,am',Uc ht hh (hK.chk _ _ w hq) (YU hK hq hp hno) (hz w),am8,anp];rfl
theorem kU.YW{A B:List (Value×Value)}(hz:∃z,∀w,(zeroValue et).run P w= .ok z w)(hv:Whole vx v)(hs0:kv=A++(k,v)::B)(hall:∀p∈kv,q p.1)(h:K (.aZ [vx,.v (.bool true)]) st):kU P st (.lookup t x i true) K:=by
 refine .q _ h λ g N bs ρ a w o ho R=>?_;obtain⟨b,es,c,e,hh,hp,hs⟩:=Qv R hf;have e2:a.eval i=k:=hk.1 _ _ (by rw[<-hi];exact R.ev i);obtain⟨z,hz⟩:=hz;obtain⟨_,_,_,_,h4⟩:=Ub (w:=w) hK hq hs (hp.trans hs0) (by rw[<-hs0];exact hall);refine⟨_,⟨[v,.bool true],rfl,aC.cons (hv.2 _) (aC.cons rfl aC.nil)⟩, ?_⟩;simp only[execOp,ho,YV R hx e,e2,am',Uc ht hh (hK.chk _ _ w hq) h4 (hz w),am8,anp];rfl
theorem kU.alX(hy:st.ev y=vx)(hv:Whole vx v)(hno:∀p∈kv,q p.1/\p.1≠k)(h:K (.v undef) ⟨st.sl,setObj id (.obs (Xa (kv++[(k,v)]))) st.heap,st.back,st.base⟩):kU P st (.mapUpdate t x i y) K:=by
 refine .mk rfl λ g N bs ρ a w o next Q ho R hk'=>?_
 obtain⟨b,es,c,e,hh,hp,hs⟩:=Qv R hf;have e2:a.eval i=k:=hk.1 _ _ (by rw[<-hi];exact R.ev i);have e3:a.eval y=v:=hv.1 _ _ (by rw[<-hy];exact R.ev y);have hrun:(execOp a.eval o).run P w= .ok .skip {w with heap:=w.heap.setIfInBounds b (.map (es.push {key:=k,val:=v,born:=c}) (c+1))}:=by
  simp[execOp,ho,YV R hx e,e2,e3,Ud ht hh (hK.chk _ _ w hq) (YU hK hq hp hno)]
 unfold Oper.wp;rw[hrun];refine hk' _ _ _ _ _ h (Ue R hf e hh (by simp[pairs,<-hp]) (MapKept.stamped_push hs λ x hxm hxk=>?_)) rfl;exact(hno (x.key,x.val) (by rw[<-hp];exact ant.2 ⟨x,hxm,rfl⟩)).2 hxk
theorem kU.alY(hc:c.callee= .builtin .delete)(hca:c.args= #[x,i])(hct:c.argTypes= #[t,Ws]){A B:List (Value×Value)}(hs0:kv=A++(k,v)::B)(hall:∀p∈kv,q p.1)(h:K (.aZ []) ⟨st.sl,setObj id (.obs (Xa (A++B))) st.heap,st.back,st.base⟩):kU P st (.call c) K:=by
 refine .mk (by unfold mM;split<;>simp_all) λ g N bs ρ a w o next Q ho R hk'=>?_
 obtain⟨b,es,cc,e,hh,hp,hs⟩:=Qv R hf;have e2:a.eval i=k:=hk.1 _ _ (by rw[<-hi];exact R.ev i);obtain⟨en,g1,_,_,h4⟩:=Ub (w:=w) hK hq hs (hp.trans hs0) (by rw[<-hs0];exact hall);have hrun:(execOp a.eval o).run P w= .ok (.value (.tuple #[])) {w with heap:=w.heap.setIfInBounds b (.map (es.eraseIdxIfInBounds A.length) cc)}:=by
  simp only[execOp,ho,resolve,hc,hca,hct,am',anp,am8,invoke];simp[builtin,YV R hx e,e2,agX ht hh (hK.chk _ _ w hq) h4,am',Result.andThen]
 unfold Oper.wp;rw[hrun];refine hk' _ _ _ _ _ h (Ue R hf e hh ?_ (MapKept.stamped_erase hs _)) ⟨[],rfl,aC.nil⟩;have:(es.eraseIdxIfInBounds A.length).toList=es.toList.eraseIdx A.length:=s_
 rw[this,aoU,pairs,an2,List.map_take,List.map_drop,show es.toList.map (λ e=>(e.key,e.val))=A++(k,v)::B from hp.trans hs0];simp
omit hK ht hx hf hi hk hq
theorem kU.del(hc:c.callee= .builtin .delete)(hca:c.args= #[x,i])(hct:c.argTypes= #[t,Ws])(hK:YS P kt q)(ht:P.underlying t=some (.map kt et))(hx:st.ev x= .own id)(hf:aG id st.heap=some (.obs (Xa kv)))(hi:st.ev i=kx)(hk:Whole kx k)(hq:q k)
 {A B:List (Value×Value)}(hs0:kv=A++(k,v)::B)(hall:∀p∈kv,q p.1)(h:K (.aZ []) ⟨st.sl,setObj id (.obs (Xa (A++B))) st.heap,st.back,st.base⟩):kU P st (.call c) K:= .alY hK ht hx hf hi hk hq hc hca hct hs0 hall h
theorem kU.mkM(h:nameOf st (λ d=>K (.own d) (st.obj d d (.obs (Xa []))))):kU P st (.makeMap t none) K:=by
 rw[iM]at h;refine .mk rfl λ g N bs ρ a w o next Q ho R hk'=>?_
 have hrun:(execOp a.eval o).run P w= .ok (.value (.map (some w.heap.size))) (w.alloc (.map #[] 0)):=by
  simp[execOp,ho,Instr.makeMap,Result.andThen,am']
 unfold Oper.wp;rw[hrun];refine hk' _ _ _ (bZ ρ st.base (.tuple #[.map (some w.heap.size),.map (some w.heap.size)])) _ h (R.obj st.base st.base (R.below.alloc R.below.size _) s_ (λ b hb _=>aph w _ b hb) (λ b hb=>?_) (λ _=>?_)) (by simp[C2,C1,C0,aA,bZ,dD])
 ·rw[show b=w.heap.size from by simpa[blks,iK]using hb];exact .inl (ani _)
 ·have e:bZ ρ st.base (.tuple #[.map (some w.heap.size),.map (some w.heap.size)]) st.base= .tuple #[.map (some w.heap.size),.map (some w.heap.size)]:=by simp[bZ]
  exact⟨_,e,w.heap.size, #[],0,e,heap_alloc_new w _,rfl,MapKept.stamped_empty 0⟩
end
def aS.vs(c:aS):List Value:=[.int .i64 c.c0,.int .i64 c.c1,.int .i64 c.c2,.int .i64 c.c3,.int .i64 c.c4]
def Ev.vs(e:Ev):List Value:=[.int .i64 e.r,.int .i64 e.n,.int .i64 e.c.c0,.int .i64 e.c.c1,.int .i64 e.c.c2,.int .i64 e.c.c3,.int .i64 e.c.c4,.int .i64 e.h,.int .i64 e.k,.string e.key,.int .i64 e.l,.string e.v]
theorem JF(n:Nat)(a0 a1 a2 a3 a4 b0 b1 b2 b3 b4:Int)(w:World):(Op.equalIn (n+2) 33 (.agg #[.int .i64 a0,.int .i64 a1,.int .i64 a2,.int .i64 a3,.int .i64 a4]) (.agg #[.int .i64 b0,.int .i64 b1,.int .i64 b2,.int .i64 b3,.int .i64 b4])).run prog w=
  .ok (decide (a0=b0/\a1=b1/\a2=b2/\a3=b3/\a4=b4)) w:=by
 rw[Op.equalIn];simp only[am',run_underlying Tryz.underlying33,am8];simp only[Std.Legacy.Range.forIn_eq_forIn_range',Std.Legacy.Range.size,apk,apq,Nat.div_one,List.range'_succ,List.range'_zero,List.forIn_cons,List.forIn_nil];have u3:=Tryz.underlying3;have a3:=Tryz.isAgg3;have z3:=Tryz.sizeOf3;go_simp;repeat' split
 all_goals simp_all
theorem aS.eq_iff(a b:aS):(a.c0=b.c0/\a.c1=b.c1/\a.c2=b.c2/\a.c3=b.c3/\a.c4=b.c4)↔a=b:=by
 obtain⟨a0,a1,a2,a3,a4⟩:=a;obtain⟨b0,b1,b2,b3,b4⟩:=b;simp
theorem aam:prog.eqGuardType prog.depth 33=false:=by kernel_rfl
theorem Fq(a b:aS):EN prog 33 a.vs b.vs (a=b):=
 ⟨aam,λ w=>⟨_,by rw[decide_eq_true_eq,aS.eq_iff],JF 9998 _ _ _ _ _ _ _ _ _ _ w⟩⟩
theorem Ev.eq_iff(a b:Ev):(a.r=b.r/\a.n=b.n/\(a.c.c0=b.c.c0/\a.c.c1=b.c.c1/\a.c.c2=b.c.c2/\a.c.c3=b.c.c3/\a.c.c4=b.c.c4)/\a.h=b.h/\a.k=b.k/\a.key=b.key/\a.l=b.l/\a.v=b.v)↔a=b:=by
 rw[aS.eq_iff];obtain⟨a0,a1,a2,a3,a4,a5,a6,a7⟩:=a;obtain⟨b0,b1,b2,b3,b4,b5,b6,b7⟩:=b;simp
def JG(r n:Int):List Value:=[.int .i64 r,.int .i64 n]
def sD(r n:Int):Value:= .agg (JG r n).toArray
def evV(e:Ev):Value:= .agg e.vs.toArray
def Xb(v:Value):Prop:= ∃r n,v=sD r n
def EG(l:List Ev):List (Value×Value):=l.map λ e=>(sD e.r e.n,evV e)
theorem NT{r' n':Int}:sD r n=sD r' n'↔r=r'/\n=n':=by simp[sD,JG]
theorem aan(a b a' b':Int)(w:World):(Op.equalIn 10000 79 (.agg #[.int .i64 a,.int .i64 b]) (.agg #[.int .i64 a',.int .i64 b'])).run prog w= .ok (decide (a=a'/\b=b')) w:=by
 have hS:prog.underlying 79=some (.struct (prog.fieldsOf 79)):=by kernel_rfl
 have u3:=Tryz.underlying3;have a3:=Tryz.isAgg3;have z3:=Tryz.sizeOf3;rw[show(10000:Nat)=9999+1 from rfl,run_equalIn_agg w 9999 79 _ _ hS (by kernel_rfl)];simp only[Program.fieldsOf,Tryz.underlying79];go_simp;repeat' split
 all_goals simp_all
theorem adQ(m:Bool)(r n:Int)(w:World):(Instr.checkKey m 10000 79 (sD r n)).run prog w= .ok () w:=by
 have u3:=Tryz.underlying3;have a3:=Tryz.isAgg3;have z3:=Tryz.sizeOf3;rw[show(10000:Nat)=9999+1 from rfl,Instr.checkKey];simp only[am',run_underlying Tryz.underlying79,am8,sD,JG];have c3:∀x:Int,(Instr.checkKey m 9999 3 (.int .i64 x)).run prog w= .ok () w:=λ x=>MapKept.run_checkKey u3 (show MapKept.IsKey (.int .i64) (.int .i64 x)from rfl) m 9998;go_simp
theorem kT:YS prog 79 Xb where
 chk:=by rintro m _ w ⟨r,n,rfl⟩;exact adQ m r n w
 now:=⟨_,Tryz.underlying79,by rintro _ _ ⟨r,n,rfl⟩ ⟨r',n',rfl⟩;rfl⟩
 eq:=by
  rintro _ _ w ⟨r,n,rfl⟩ ⟨r',n',rfl⟩;exact⟨_,by rw[decide_eq_true_eq,NT],aan r n r' n' w⟩
 bits:=by rintro _ ⟨r,n,rfl⟩;simp[sD,JG,Instr.sameBits]
theorem jF(r n:Int):Whole (.agg [.v (.int .i64 r),.v (.int .i64 n)]) (sD r n):=Whole.agg (JG r n)
theorem oD(e:Ev):Whole e.av (evV e):=Whole.agg e.vs
theorem DV(l:List Ev):∀p∈EG l,Xb p.1:=λ p hp=>by
 obtain⟨e,_,rfl⟩:=ant.1 hp;exact⟨_,_,rfl⟩
theorem adR{l:List Ev}(h:∀e∈l,¬ (e.r=r/\e.n=n)):∀p∈EG l,Xb p.1/\p.1≠sD r n:=λ p hp=>by
 obtain⟨e,he,rfl⟩:=ant.1 hp;exact⟨⟨_,_,rfl⟩,λ e'=>h e he (NT.1 e')⟩
def ev0:Ev:=⟨0,0,⟨0,0,0,0,0⟩,0,0,⟨#[]⟩,0,⟨#[]⟩⟩
theorem YX{v:Value}(h:(prog.info? t).bind (·.zero)=some v)(w:World):(zeroValue t).run prog w= .ok v w:=by
 cases hi:prog.info? t with
 |none=>rw[hi]at h;cases h
 |some info=>
  rw[hi]at h;have h:info.zero=_:=h;simp[zeroValue,typeInfo,hi,h]
theorem qW(w:World):(zeroValue 74).run prog w= .ok (evV ev0) w:=YX (by kernel_rfl) w
theorem Fv(e:Ev):aF prog 215 [e.av] (.agg [.v (.int .i64 e.r),.v (.int .i64 e.n)]) []:=by
 obtain⟨r,n,⟨c0,c1,c2,c3,c4⟩,h,k,key,l,v⟩:=e;dsimp only[Ev.av,Ev.cs];refine K1.E 0x7 func215 ?_;repeat' ((conv=>whnf);first|refine aT.fH ?_|fail)
 all_goals(conv=>whnf)
 all_goals exact bF.mk (bY)
theorem agY(a b:aS):aF prog 65 [a.av,b.av] (.v (.bool (a.le b))) []:=by
 dsimp only[aS.av,aS.cs];refine K1.E 0x80ff func65 ?_;repeat' ((conv=>whnf);first|refine K1.u ?_|refine aI.Au 6 6 rfl ?_|refine aT.fH ?_|refine K1.z ?_|refine K1.y (λ _=>?_) (λ _=>?_)|fail)
 all_goals(conv=>whnf)
 all_goals(refine bF.mk (dJ.of ?_))
 all_goals(unfold aS.le;congr 2;simp;try omega)
def NU(l:List Ev)(r n:Int):Option Ev:=l.find? λ e=>decide (e.r=r/\e.n=n)
def vw(c:aS)(l:List Ev)(r:Nat):Option Ev:=match NU l r (c.at r+1)with
 |some e=>if 1<=e.n/\e.c.le c=true then some e else none
 |none=>none
def vC(c:aS)(l:List Ev):Option Ev:=(List.range 5).findSome? (vw c l)
theorem NV{c:aS}{l:List Ev}{e:Ev}(hj:j<5)(hq:∀q,q<j->vw c l q=none)(h:vw c l j=some e):vC c l=some e:=by
 unfold vC;rw[show List.range 5=[0,1,2,3,4]from rfl];rcases(show j=0\/j=1\/j=2\/j=3\/j=4 by omega)with rfl|rfl|rfl|rfl|rfl
 ·simp[h]
 ·simp[h,hq 0 o_]
 ·simp[h,hq 0 o_,hq 1 o_]
 ·simp[h,hq 0 o_,hq 1 o_,hq 2 o_]
 ·simp[h,hq 0 o_,hq 1 o_,hq 2 o_,hq 3 o_]
theorem aao{c:aS}{l:List Ev}(hq:∀q,q<5->vw c l q=none):vC c l=none:=by
 unfold vC;rw[List.findSome?_eq_none_iff];intro q h;exact hq q (ao3.1 h)
theorem DW{l:List Ev}{e:Ev}(h:NU l r n=some e):e.r=r/\e.n=n/\ ∃A B,l=A++e::B:=by
 have h1:=List.find?_some h;have h2:=List.mem_of_find?_eq_some h;simp only[decide_eq_true_eq]at h1;obtain⟨A,B,e'⟩:=List.append_of_mem h2;exact⟨h1.1,h1.2,A,B,e'⟩
theorem DX{l:List Ev}(h:NU l r n=none):∀e∈l,¬ (e.r=r/\e.n=n):=λ e he=>by
 have:=List.find?_eq_none.1 h e he;simpa using this
theorem JH(A B:List Ev)(e:Ev):EG (A++e::B)=EG A++(sD e.r e.n,evV e)::EG B:=by simp[EG]
theorem adS(c:aS)(l:List Ev)(hc:∀r,0<=c.at r/\c.at r<=1000000000):aj prog 216 [(0,.obs (Xa (EG l)))] [c.av,.own 0] (.aZ [((vC c l).getD ev0).av,.v (.bool (vC c l).isSome)]) [(0,.obs (Xa (EG l)))]:=by
 generalize hn:vC c l=nx;obtain⟨c0,c1,c2,c3,c4⟩:=c;have k0:0<=c0/\c0<=1000000000:=hc 0;have k1:0<=c1/\c1<=1000000000:=hc 1;have k2:0<=c2/\c2<=1000000000:=hc 2;have k3:0<=c3/\c3<=1000000000:=hc 3;have k4:0<=c4/\c4<=1000000000:=hc 4;dsimp only[aS.av,aS.cs];refine K1.M 0x4000007f7 func216 10 ?_
 conv=>whnf
 refine aI.mk {j:Nat//j<=5/\ ∀q,q<j->vw ⟨c0,c1,c2,c3,c4⟩ l q=none} (λ j=>⟨[(9,.v (.int .i64 (j.1:Int))),(5,.v (.bool false)),(4,.box 11 0),(2,.box 10 0),(1,.own 0)],[(11,.box 74 ev0.cs),(10,.box 33 [.v (.int .i64 c0),.v (.int .i64 c1),.v (.int .i64 c2),.v (.int .i64 c3),.v (.int .i64 c4)]),(0,.obs (Xa (EG l)))],[[(0,.own 0)]],12⟩)
  (λ j=>5-j.1) ⟨0,o_,λ q h=>absurd h (anA q)⟩ _ (dZ.mk' [] _ _ _ rfl gQ nM rfl) ?_
 rintro⟨j,hj,hq⟩;dsimp only;rcases(show j=5\/j<5 by omega)with rfl|hj5
 ·obtain rfl:none=nx:=by rw[<-hn];exact(aao hq).symm
  repeat' ((conv=>whnf);first|refine K1.u ?_|fail)
  all_goals(conv=>whnf)
  exact iF []
 ·have back:vw ⟨c0,c1,c2,c3,c4⟩ l j=none-> ∀q,q<j+1->vw ⟨c0,c1,c2,c3,c4⟩ l q=none:=λ h q hlt=>by
   rcases anr q j with h'|h'
   ·exact hq q h'
   ·obtain rfl:=Nat.le_antisymm (Nat.le_of_lt_succ hlt) h';exact h
  have hcj:0<=aS.at ⟨c0,c1,c2,c3,c4⟩ j:=(hc j).1;cases hf:NU l j (aS.at ⟨c0,c1,c2,c3,c4⟩ j+1)with
  |none=>
   have hb:=back (by unfold vw;rw[hf]);have hno:=adR (DX hf);clear back hc hq hf hn;rcases(show j=0\/j=1\/j=2\/j=3\/j=4 by omega)with rfl|rfl|rfl|rfl|rfl;all_goals
    repeat' ((conv=>whnf);first|refine K1.u ?_|refine kU.look kT Tryz.underlying326 rfl rfl rfl (jF _ _) ⟨_,_,rfl⟩ qW (oD ev0) hno ?_|refine mJ.mk d_ ?_|fail)
    all_goals(conv=>whnf)
    exact⟨⟨_,o_,hb⟩,_,dZ.mk' [] _ _ _ rfl gQ nM rfl,by dsimp only;omega⟩
  |some e=>
   obtain⟨h1,h2,A,B,hl⟩:=DW hf;have hs0:EG l=EG A++(sD (j:Int) (aS.at ⟨c0,c1,c2,c3,c4⟩ j+1),evV e)::EG B:=by rw[hl,JH,h1,h2]
   have hn1:1<=e.n:=o_
   have hle:=agY e.c ⟨c0,c1,c2,c3,c4⟩;cases hc':e.c.le ⟨c0,c1,c2,c3,c4⟩with
   |true=>
    obtain rfl:some e=nx:=by rw[<-hn];exact(NV hj5 hq (by unfold vw;rw[hf];simp[hn1,hc'])).symm
    rw[hc']at hle;dsimp only[aS.av,aS.cs]at hle;clear back hc hq hf hn h1 h2 hc';rcases(show j=0\/j=1\/j=2\/j=3\/j=4 by omega)with rfl|rfl|rfl|rfl|rfl;all_goals
     repeat' ((conv=>whnf);first|refine K1.u ?_|refine K1.P1 hle ?_|refine kU.YW kT Tryz.underlying326 rfl rfl rfl (jF _ _) ⟨_,_,rfl⟩ ⟨_,qW⟩ (oD e) hs0 (DV l) ?_|refine mJ.mk d_ ?_|fail)
     all_goals(conv=>whnf)
     exact iF []
   |false=>
    have hb:=back (by unfold vw;rw[hf];simp[hc']);rw[hc']at hle;dsimp only[aS.av,aS.cs]at hle;clear back hc hq hf hn h1 h2 hc';rcases(show j=0\/j=1\/j=2\/j=3\/j=4 by omega)with rfl|rfl|rfl|rfl|rfl;all_goals
     repeat' ((conv=>whnf);first|refine K1.u ?_|refine K1.P1 hle ?_|refine kU.YW kT Tryz.underlying326 rfl rfl rfl (jF _ _) ⟨_,_,rfl⟩ ⟨_,qW⟩ (oD e) hs0 (DV l) ?_|refine mJ.mk d_ ?_|fail)
     all_goals(conv=>whnf)
     exact⟨⟨_,o_,hb⟩,_,dZ.mk' [] _ _ _ rfl gQ nM rfl,by dsimp only;omega⟩
def bn(l:List Ev):AO:= .row 74 12 l.length true (dA l)
theorem vF{i:Nat}{cs:List AV}(h:aQ X i (.box t cs)):(dD (X.ρ i)).oneCell'=true:=by
 obtain⟨b,us,e,_⟩:=h;rw[e];rfl
def atV(ρ:Nat->Value)(j:Nat)(v:Value):Nat->Value:=λ i=>if i=j then v else ρ i
theorem Closes.ren{j':Nat}{o:OB}(hC:Closes hs j o)(σ:List (Nat×Nat))(hj:jY σ j=some j')(hb:x9 σ hs=true):Closes (iO σ hs) j' o:=by
 intro w k ρ hnd hok;let WJ:Nat->Value:=λ k=>match jY σ k with|some i=>ρ i|none=>undef
 have e0:∀k i,jY σ k=some i->ρ i=WJ k:=λ k i e=>by simp only[WJ,e]
 have hbl:ah ρ (iO σ hs)=ah WJ hs:=qc e0 hb;obtain⟨us,a1,a2,a3⟩:=hC w k WJ (by rw[<-hbl];exact hnd) λ p hp=>by
  obtain⟨i,h1,h2,h3⟩:=Dz hb p hp;exact(aQ.jL (X:=⟨w,k,WJ⟩) (Y:=⟨w,k,ρ⟩) rfl rfl e0 h1 h3).1 (hok _ h2)
 exact⟨us,a1,a2.trans (by rw[<-e0 j j' hj]),by rw[hbl];exact a3⟩
theorem adT{cs:List AV}(hk:cs[k]? =some (.v (.slice none 0 0)))(hd:dD (X.ρ d)= .slice none 0 0)(ha:aC (C0 X) cs us):aC (C0 X) (cs.set k (.own d)) us:=by
 refine⟨by simpa using ha.1,λ i x u hx hu=>?_⟩;rw[aoJ]at hx;by_cases e:k=i
 ·subst e;simp only[if_true]at hx;split at hx
  ·cases hx;have:u= .slice none 0 0:=ha.2 k _ u hk hu;rw[this];exact hd.symm
  ·cases hx
 ·rw[if_neg e]at hx;exact ha.2 i x u hx hu
theorem Closes.adU{A B:List (Nat×AO)}{id:Nat}{f:Nat->List AV}{cs:List AV}{o:OB}(hC:Closes (A++(id,.box t (cs.set k (.own d)))::(B++[(d,.row e s 0 sc f)])) j o)
  (hk:cs[k]? =some (.v (.slice none 0 0)))(hs:0<s)(hb:(fF (A++(id,.box t cs)::B) (A++(id,.box t cs)::B)&& !(bJ d (A++(id,.box t cs)::B))&& !(Nat.beq j d))=true):Closes (A++(id,.box t cs)::B) j o:=by
 simp only[amY,anB]at hb;obtain⟨⟨hcl,hno⟩,hjd⟩:=hb;refine Closes.imp hC λ X hnd hok=>?_;let ρ':=atV X.ρ d (.slice none 0 0);have hne:∀i,bJ i (A++(id,.box t cs)::B)=true->ρ' i=X.ρ i:=λ i hi=>if_neg (by rintro rfl;rw[hno]at hi;cases hi);have hd:ρ' d= .slice none 0 0:=if_pos rfl;have over:∀p∈A++(id,.box t cs)::B,aQ ⟨X.w,X.keep,ρ'⟩ p.1 p.2:=λ p hp=>aQ.over (X:=X) (Y:=⟨X.w,X.keep,ρ'⟩) (λ _ h=>h) rfl hne (bM.2 ⟨p,hp,rfl⟩) (pY hcl p hp) (hok p hp);have hbl:ah ρ' (A++(id,.box t (cs.set k (.own d)))::(B++[(d,.row e s 0 sc f)]))=ah X.ρ (A++(id,.box t cs)::B):=by
  have h1:=eX (ρ:=X.ρ) (ρ':=ρ') (h:=A) λ p hp=>hne p.1 (bM.2 ⟨p,anv _ hp,rfl⟩);have h2:=eX (ρ:=X.ρ) (ρ':=ρ') (h:=B) λ p hp=>hne p.1 (bM.2 ⟨p,anx _ (am1 _ hp),rfl⟩);have h3:ρ' id=X.ρ id:=hne id (bM.2 ⟨_,anx _ amW,rfl⟩);have h4:blks (ρ' d)++ah ρ' []=[]:=by rw[hd];rfl
  rw[cu,show ah ρ' ((id,.box t (cs.set k (.own d)))::(B++[(d,.row e s 0 sc f)]))=blks (ρ' id)++ah ρ' (B++[(d,.row e s 0 sc f)])from rfl,cu,cu,aP,h1,h2,h3];dsimp only;rw[h4,am2,aP]
 refine⟨ρ',congrArg dD (if_neg λ e=>(by rw[e,apv]at hjd;cases hjd)),by rw[hbl];exact hnd,λ b hb=>by rw[hbl]at hb;exact hb,λ q hq=>?_⟩;rcases am6.1 hq with hq|hq
 ·exact over q (anv _ hq)
 rcases am4.1 hq with rfl|hq
 ·obtain⟨b,us,g1,g2,g3⟩:=over (id,.box t cs) (anx _ amW);exact⟨b,us,g1,g2,adT hk (by show dD (ρ' d)=_;rw[hd];rfl) g3⟩
 rcases am6.1 hq with hq|hq
 ·exact over q (anx _ (am1 _ hq))
 ·obtain rfl:=amZ.1 hq;exact⟨[],by show World.ownsRow _ 0 e s (ρ' d) 0 [];rw[hd];exact aoi X.w _ _ _,hs,λ i hi=>absurd hi o_,(λ _ x hx=>by cases hx),aC.nil⟩
theorem dK.box{t:TypeId}{cs cs':List AV}(h:∀X us,aC (C0 X) cs us->aC (C0 X) cs' us):dK (.box t cs) (.box t cs'):=by
 rintro X id ⟨b,us,h1,h2,h3⟩;exact⟨b,us,h1,h2,h X us h3⟩
theorem aC.lH{cs:List AV}{x y:AV}(hk:cs[k]? =some x)(h:∀X u,C0 X x u->C0 X y u)(ha:aC (C0 X) cs us):aC (C0 X) (cs.set k y) us:=by
 refine⟨by simpa using ha.1,λ i z u hz hu=>?_⟩;rw[aoJ]at hz;by_cases e:k=i
 ·subst e;simp only[if_true]at hz;split at hz
  ·cases hz;exact h X u (ha.2 k _ u hk hu)
  ·cases hz
 ·rw[if_neg e]at hz;exact ha.2 i z u hz hu
structure Rc where
 (k r u:Int)(c:aS)(ev:List Ev)
def Rc.cs(x:Rc):List AV:=[.v (.int .i64 x.k),.v (.int .i64 x.r),.v (.int .i64 x.u),.v (.int .i64 x.c.c0),.v (.int .i64 x.c.c1),.v (.int .i64 x.c.c2),.v (.int .i64 x.c.c3),.v (.int .i64 x.c.c4),.sl 12 x.ev.length true (dA x.ev)]
def Rc.av(x:Rc):AV:= .agg x.cs
def EH(k:Int):Bool:=k==3||k==4
def EI(k:Int):Bool:=k==1||k==2||k==5||k==4
def EJ(k:Int):Bool:=k==6
def rcK(k:Int):Bool:=decide (1<=k/\k<=6)
def NW(c:aS):Bool:=pR c.c0&&pR c.c1&&pR c.c2&&pR c.c3&&pR c.c4
def LU(c:aS):Bool:=decide (c.c0=0/\c.c1=0/\c.c2=0/\c.c3=0/\c.c4=0)
theorem vG(c:aS):LU c=true↔c=aV:=by
 obtain⟨a,b,d,e,f⟩:=c;simp[LU,aV]
def iE(x:Rc):Bool:=
 rcK x.k&&decide (0<=x.r)&&decide (x.r<5)&&pR x.u&&decide (x.ev.length<=4096)&&NW x.c&&(EH x.k||decide (x.u=0))&&(EJ x.k||LU x.c)&&(EI x.k||decide (x.ev.length=0))&&
  x.ev.all (λ e=>decide (dU e=0))&&(decide (x.k≠1)||decide (x.ev.length=1))
theorem Uf{n:Nat}(h:n<256):((UInt8.ofNat n).toNat:Int)=n:=by
 rw[aoE,aoP o_]
theorem dI(d n:Nat)(h1:n<=4294967296):aF prog 55 [.v (.int .u64 (n:Int))] (.own d) [(d,.row 5 1 (aK n).length true (aO (aK n)))]:=by
 have hst:=V3 n h1;refine K1.E 0x2d func55 ?_
 refine aI.nil 3 90 5 1 (aO []) rfl o_ ?_;refine aI.mk {x:List UInt8×Nat×Nat//x.1++fP x.2.2 x.2.1=aK n/\x.2.1<128^(x.2.2+1)/\x.1.length<=10/\x.2.1<=4294967296}
  (λ x=>⟨[(0,.v (.int .u64 (x.1.2.1:Int))),(3,.own 90)],[(90,.row 5 1 x.1.1.length true (aO x.1.1))],[],91⟩) (λ x=>x.1.2.1)
  ⟨([],n,9),hst.1,hst.2,s_,h1⟩ _ (dZ.auto _ _ _ rfl gQ nM rfl) ?_
 rintro⟨⟨acc,m,f⟩,i1,i2,i3,i4⟩;dsimp only at i1 i2 i3 i4⊢;have hl:acc.length+(fP f m).length<=10:=by
  have:=congrArg List.length i1;have:=dF 9 n;simp only[am0,aK]at*;omega
 have hp:=zy f m;repeat' ((conv=>whnf);first|refine K1.u ?_|refine K1.z ?_|refine K1.y (λ _=>?_) (λ _=>?_)|fail)
 ·obtain⟨f',k1,k2⟩:=VZ i1 i2 o_;refine⟨⟨(acc++[UInt8.ofNat (m%128+128)],m/128,f'),k1,k2,by simp;omega,by dsimp only;omega⟩,_,dZ.auto _ _ _ rfl ⟨dJ.int (by dsimp only;omega),bY,trivial⟩ ⟨⟨_,rfl,dK.row s_ (eF rfl ?_)⟩,trivial⟩ rfl,by show m/128<m;omega⟩;simp only[chunk,bC,Uf (show m%128+128<256 by omega)];rfl
 ·have e:=ZG i1 o_;refine aT.uX d rfl rfl (dK.row ?_ ?_) (bY)
  ·rw[<-e];simp
  ·rw[<-e];refine eF rfl ?_;simp only[chunk,bC,Uf (show m<256 by omega)];rfl
theorem Fz:∀(f n k:Nat),n<128^(k+1)->(fP f n).length<=k+1
 |0,n,k,_=>by simp[fP]
 |f+1,n,k,h=>by
  unfold fP;split
  ·simp
  ·cases k with
   |zero=>simp at h;omega
   |succ k=>
    have:=Fz f (n/128) k (by rw[apf]at h;exact Nat.div_lt_of_lt_mul (by rw[Nat.mul_comm];exact h));simp only[anb];omega
theorem akM{n:Nat}(h:n<=1048576):(aK n).length<=3:=Fz 9 n 2 o_
theorem akN{n:Nat}(h:n<=16777216):(aK n).length<=4:=Fz 9 n 3 o_
theorem FB(h:n<=1048576):(gU n).length<=3:=akM o_
theorem ajl(h:n<=16777216):(gU n).length<=4:=akN o_
theorem NY(s:ByteArray):(words s).length=1+s.size:=by
 unfold words;rw[anb,anC];show s.size+1=_;omega
theorem tX{e:Ev}(h:dU e=0):(eH e).length<=44:=by
 have m:=oW h;obtain⟨k1,k2,s1,s2,_,hl,hs⟩:=vY m.ed;have hn:=FB (n:=e.n) (by have:=m.n2;omega);have hh:=ajl (n:=e.h) (by have:=m.h2;omega);have c0:=FB m.a0.2;have c1:=FB m.a1.2;have c2:=FB m.a2.2;have c3:=FB m.a3.2;have c4:=FB m.a4.2;have r0:=m.r0;have r4:=m.r4;have hv:(if jy e.k then byteOf e.l::words e.v else []).length<=14:=by
  split
  ·rename_i h;have:=hl h;simp only[anb,NY,Ev.ed]at this⊢;omega
  ·simp
 have ho:((others e).flatMap gU).length<=12:=by
  unfold others;rcases(show e.r=0\/e.r=1\/e.r=2\/e.r=3\/e.r=4 by omega)with h|h|h|h|h<;>simp[h]<;>omega
 unfold eH;simp only[am0,anb,anD,NY];have:e.key.size<=8:=s2;omega
end Go.Proofs.YtkimgljckickcaaGreat
