/-
  Contracts of the walk:BkB,BkC,BkD,BkS,BkL,BkF,BkG,H3,OpG,BkO,Ch.
-/
import Derived.Test.YtifjccndenojlaaGreatWf9
import Derived.Test.YtifjccndenojlaaGreatWf8
import Derived.Lib.RowBridge
import Derived.Laws.StructEq
import Derived.Laws.Cover2
import Derived.Test.YtifjccndenojlaaGreatRows
import Derived.ProofKit
import Derived.OpenShut
import Derived.SizedLaws
import Derived.ChangeOld
set_option maxHeartbeats 16000000
set_option maxRecDepth 100000
set_option linter.unusedVariables false
set_option linter.unusedSimpArgs false
namespace Go.Proofs.YtifjccndenojlaaGreat
open Go.RowKit
open Go.Proofs.Tryz
variable{j n:Nat}{p:Prop}{α:Type}
theorem qZ.none:∀fs:List (List (Nat×AV)),qZ fs (fs.map λ _=>[])
 |[]=>trivial
 |_::fs=>⟨λ _=> .inl rfl,qZ.none fs⟩
theorem dO.mkB{st:AS}(σ:List (Nat×Nat))(l:List (Nat×AV))(h:List (Nat×AO))(b:Nat)(nd:nodupB (σ.map (·.2))=true)(ht:LeT (st.ren σ) l)(hh:LeH (st.ren σ) h)(hn:nodupB (h.map (·.1))=true):dO σ st ⟨l,h,(st.ren σ).back.map λ _=>[],b⟩:=
 ⟨nd,let k:=Jw.mk' l h ht hh hn;⟨k.tm,k.hp,k.nd,qZ.none _⟩⟩
theorem RJ[Inhabited α]{p:α->Bool}{l:List α}(hj:j<l.length)(h:p (l.getD j default)=true):l.any p=true:=by
 rw[aps];refine⟨l.getD j default, ?_,h⟩;rw[List.getD,aom hj];exact ao1 _
theorem any_none[Inhabited α]{p:α->Bool}{l:List α}(h:∀i,i<l.length->p (l.getD i default)=false):l.any p=false:=by
 rw[aqB];intro x hx;obtain⟨i,hi,rfl⟩:=ape hx;have:=h i hi;rw[List.getD,aom hi]at this;simpa using this
theorem xG(k:Int)(g:FuncId)(same:Ev->Ev->Bool)(hs:∀a b,aH prog g [a.av,b.av] (.v (.bool (same a b))) [])(l:List Ev)(e:Ev)(hl:l.length<=140737488355328):
  aH prog 156 [.agg [.v (.int .i64 k),.v (.func (.func g) #[] #[])],.sl 12 l.length true (dI l),e.av] (.v (.bool (fM k same l e))) []:=by
 have hyes:∀j,j<l.length->(l.getD j default).k=k->same (l.getD j default) e=true->aP e (l.getD j default)=true->fM k same l e=true:=λ j hj h1 h2 h3=>RJ hj (by rw[h1,h2,h3];simp);have hno:(∀i,i<l.length->(decide ((l.getD i default).k=k)&&(same (l.getD i default) e&&aP e (l.getD i default)))=false)->fM k same l e=false:=λ h=>any_none h;generalize fM k same l e=R at hyes hno;dsimp only[Ev.av];dsimp only[Ev.cs];refine K1.E 0x6f func156 ?_;repeat' ((conv=>whnf);first|refine K1.I 0x13 func192 ?_|refine K1.I 0x103b3 func213 ?_|fail)
 conv=>whnf
 refine aI.mk {j:Nat//j<=l.length/\ ∀i,i<j->(decide ((l.getD i default).k=k)&&(same (l.getD i default) e&&aP e (l.getD i default)))=false} (λ j=>⟨[(8,.v (.int .i64 (j.1:Int))),(7,.v (.int .i64 (l.length:Int))),(0,.sl 12 l.length true (dI l)),(1,.fn 193 [.box 0 0,.box 1 0])],
   [(1,.box 83 e.cs),(0,.box 260 [.v (.int .i64 k),.v (.func (.func g) #[] #[])])],[[],[]],2⟩) (λ j=>l.length-j.1) ⟨0,aoB _,λ i h=>absurd h (aoM i)⟩ _
  (dO.mkB [] _ _ _ rfl ⟨aY.int rfl,au,au,au,trivial⟩ ⟨ay rfl,ay rfl,trivial⟩ rfl) ?_
 rintro⟨j,hj,hall⟩;dsimp only;by_cases hjl:j<l.length
 ·have hsj:=hs (l.getD (j:Int).toNat default) e;have hbj:=xE e (l.getD (j:Int).toNat default);have hyj:=hyes j hjl;rw[show j=(j:Int).toNat by omega]at hyj;have hnj:(decide ((l.getD (j:Int).toNat default).k=k)&&(same (l.getD (j:Int).toNat default) e&&aP e (l.getD (j:Int).toNat default)))=false-> ∀i,i<j+1->(decide ((l.getD i default).k=k)&&(same (l.getD i default) e&&aP e (l.getD i default)))=false:=by
   intro h i hi;rcases aoP i j with h'|h'
   ·exact hall i h'
   ·obtain rfl:i=j:=o_
    rwa [show(i:Int).toNat=i by omega]at h
  dsimp only[Ev.av,Ev.cs]at hsj hbj⊢;generalize same (l.getD (j:Int).toNat default) e=q1 at hsj hyj hnj;generalize aP e (l.getD (j:Int).toNat default)=q2 at hbj hyj hnj;repeat' ((conv=>whnf);first|refine K1.u ?_|refine K1.P1 hsj ?_|refine K1.P1 hbj ?_|refine K1.I 0x1f func193 ?_|refine aU.fF ?_|refine K1.y (λ _=>?_) (λ _=>?_)|fail)
  all_goals(conv=>whnf)
  all_goals first
   |(rw[hyj a_ a_ a_];exact bn.mk (au))
   |exact⟨⟨j+1,o_,hnj (by first|(rw[decide_eq_false a_];rfl)|(rw[show q1=false by assumption];simp)|(rw[show q2=false by assumption];simp))⟩,_,dO.mk' [] _ _ _ rfl ⟨aY.int rfl,au,au,au,trivial⟩ ⟨ay rfl,ay rfl,trivial⟩ rfl,by show l.length-(j+1)<l.length-j;omega⟩
 ·have hR:R=false:=hno λ i hi=>hall i o_;repeat' ((conv=>whnf);first|refine K1.u ?_|refine aU.fF ?_|fail)
  all_goals(conv=>whnf)
  rw[hR];exact bn.mk (au)
theorem KF(k:Int)(g:FuncId)(same:Ev->Ev->Bool)(hs:∀a b,aH prog g [a.av,b.av] (.v (.bool (same a b))) [])(l:List Ev)(e:Ev)(hl:l.length<=140737488355328):
  aH prog 158 [.agg [.v (.int .i64 k),.v (.func (.func g) #[] #[])],.sl 12 l.length true (dI l),e.av] (.v (.bool (gU k same l e))) []:=by
 have hyes:∀j,j<l.length->(l.getD j default).k=k->same (l.getD j default) e=true->aP (l.getD j default) e=true->gU k same l e=true:=λ j hj h1 h2 h3=>RJ hj (by rw[h1,h2,h3];simp);have hno:(∀i,i<l.length->(decide ((l.getD i default).k=k)&&(same (l.getD i default) e&&aP (l.getD i default) e))=false)->gU k same l e=false:=λ h=>any_none h;generalize gU k same l e=R at hyes hno;dsimp only[Ev.av];dsimp only[Ev.cs];refine K1.E 0x6f func158 ?_;repeat' ((conv=>whnf);first|refine K1.I 0x13 func192 ?_|refine K1.I 0x103b3 func213 ?_|fail)
 conv=>whnf
 refine aI.mk {j:Nat//j<=l.length/\ ∀i,i<j->(decide ((l.getD i default).k=k)&&(same (l.getD i default) e&&aP (l.getD i default) e))=false} (λ j=>⟨[(8,.v (.int .i64 (j.1:Int))),(7,.v (.int .i64 (l.length:Int))),(0,.sl 12 l.length true (dI l)),(1,.fn 196 [.box 0 0,.box 1 0])],
   [(1,.box 83 e.cs),(0,.box 260 [.v (.int .i64 k),.v (.func (.func g) #[] #[])])],[[],[]],2⟩) (λ j=>l.length-j.1) ⟨0,aoB _,λ i h=>absurd h (aoM i)⟩ _
  (dO.mkB [] _ _ _ rfl ⟨aY.int rfl,au,au,au,trivial⟩ ⟨ay rfl,ay rfl,trivial⟩ rfl) ?_
 rintro⟨j,hj,hall⟩;dsimp only;by_cases hjl:j<l.length
 ·have hsj:=hs (l.getD (j:Int).toNat default) e;have hbj:=xE (l.getD (j:Int).toNat default) e;have hyj:=hyes j hjl;rw[show j=(j:Int).toNat by omega]at hyj;have hnj:(decide ((l.getD (j:Int).toNat default).k=k)&&(same (l.getD (j:Int).toNat default) e&&aP (l.getD (j:Int).toNat default) e))=false-> ∀i,i<j+1->(decide ((l.getD i default).k=k)&&(same (l.getD i default) e&&aP (l.getD i default) e))=false:=by
   intro h i hi;rcases aoP i j with h'|h'
   ·exact hall i h'
   ·obtain rfl:i=j:=o_
    rwa [show(i:Int).toNat=i by omega]at h
  dsimp only[Ev.av,Ev.cs]at hsj hbj⊢;generalize same (l.getD (j:Int).toNat default) e=q1 at hsj hyj hnj;generalize aP (l.getD (j:Int).toNat default) e=q2 at hbj hyj hnj;repeat' ((conv=>whnf);first|refine K1.u ?_|refine K1.P1 hsj ?_|refine K1.P1 hbj ?_|refine K1.I 0x1f func196 ?_|refine aU.fF ?_|refine K1.y (λ _=>?_) (λ _=>?_)|fail)
  all_goals(conv=>whnf)
  all_goals first
   |(rw[hyj a_ a_ a_];exact bn.mk (au))
   |exact⟨⟨j+1,o_,hnj (by first|(rw[decide_eq_false a_];rfl)|(rw[show q1=false by assumption];simp)|(rw[show q2=false by assumption];simp))⟩,_,dO.mk' [] _ _ _ rfl ⟨aY.int rfl,au,au,au,trivial⟩ ⟨ay rfl,ay rfl,trivial⟩ rfl,by show l.length-(j+1)<l.length-j;omega⟩
 ·have hR:R=false:=hno λ i hi=>hall i o_;repeat' ((conv=>whnf);first|refine K1.u ?_|refine aU.fF ?_|fail)
  all_goals(conv=>whnf)
  rw[hR];exact bn.mk (au)
theorem jA{p:Ev->Bool}{l:List Ev}(hj:j<l.length):(l.take (j+1)).filter p=(l.take j).filter p++(if p (l.getD j default)=true then [l.getD j default]else []):=by
 rw[apB,aom hj,List.getD,aom hj,apT];congr 1;simp[apo]
abbrev aic(p:Ev->Bool)(l:List Ev):Type:={x:Nat×List Ev//x.1<=l.length/\x.2=(l.take x.1).filter p}
section
open Go.RowKit Go.Sort
def iD(l:List (List UInt8)):Nat->List AV:=λ i=>[.v (encStr (l.getD i []))]
def sortL(l:List (List UInt8)):List (List UInt8):=l.mergeSort λ x y=>decide (x<=y)
theorem zJ:∀l:List (List UInt8),flat l.length (iD l)=l.map λ x=>AV.v (encStr x)
 |[]=>rfl
 |x::l=>by
  show [AV.v (encStr x)]++flat l.length (iD l)=_;rw[zJ l];rfl
theorem anp{w:World}{keep:Nat->Prop}{x u:Value}(h:PC w keep (.v x) u):u=x:=by cases h;rfl
theorem aeQ{w:World}{keep:Nat->Prop}{l:List (List UInt8)}{us:List Value}(h:aG (PC w keep) (flat l.length (iD l)) us):us=l.map encStr:=by
 rw[zJ]at h;apply apV;intro i;rcases aoP i us.length with hi|hi
 ·have hl:i<l.length:=by have:=h.1;rw[aoO]at this;omega
  have h2:=h.2 i (.v (encStr l[i])) us[i] (by rw[ao0,aom hl];rfl) (aom hi);rw[aom hi,ao0,aom hl,anp h2];rfl
 ·have hl:l.length<=i:=by have:=h.1;rw[aoO]at this;omega
  rw[aoW hi,aoW (by rw[aoO];exact hl)]
theorem aeR{w:World}{keep:Nat->Prop}(l:List (List UInt8)):aG (PC w keep) (flat l.length (iD l)) (l.map encStr):=by
 rw[zJ];refine⟨s_,λ i x u hx hu=>?_⟩;rw[ao0]at hx hu;cases hl:l[i]? with
 |none=>rw[hl]at hx;cases hx
 |some y=>
  rw[hl]at hx hu;simp only[apR,aoJ]at hx hu;subst hx hu;exact .v _ rfl
theorem aaf{w:World}{keep:Nat->Prop}{ρ:Nat->Value}{id g cap:Nat}{cur:Array Value}(l:List (List UInt8))(hv:ρ id= .slice (some ⟨g,0,none⟩) l.length cap)(hg:w.heap[g]? =some (.cells cur 9 (0,0)))(h1:l.length<=cap)(h2:cap<=maxLen)(h3:cur.size=cap)(h4:cur.toList.take l.length=l.map encStr):
  aT ⟨w,keep,ρ⟩ id (.row 9 1 l.length true (iD l)):=by
 refine⟨l.map encStr,⟨s_,.inr ⟨g,cap,cur,hv,aoB _,hg,h1,h2,o_,by rw[Nat.mul_one];exact h4⟩⟩,o_,λ _ _=>rfl,λ _ x hx=>?_,aeR l⟩;rw[zJ]at hx;obtain⟨y,_,rfl⟩:=aoR.1 hx;exact⟨_,rfl⟩
theorem Vb{α:Type}[Inhabited α](enc:α->Value)(w:World)(n g:Nat)(d:Array α)(os:Array Obj){cur:Array Value}{e:TypeId}(h:w.heap[g]? =some (.cells cur e (0,0))):
  w.heap.size<=(grow (putRow enc (Go.Sort.ahead w n) g 0 d) os).heap.size/\(∀k,k<w.heap.size->k≠g->(grow (putRow enc (Go.Sort.ahead w n) g 0 d) os).heap[k]? =w.heap[k]?)/\(grow (putRow enc (Go.Sort.ahead w n) g 0 d) os).heap[g]? =some (.cells (putCells enc 0 d cur) e (0,0)):=by
 have hlt:g<w.heap.size:=by
  rcases aoP g w.heap.size with h'|h'
  ·exact h'
  ·rw[apU h']at h;cases h
 refine⟨by simp[grow,putRow,mapBlock,Go.Sort.ahead],λ k hk hne=>?_, ?_⟩
 ·simp only[grow,putRow,mapBlock,Go.Sort.ahead];rw[Array.getElem?_append_left (by rw[Array.size_modify];exact hk),Array.getElem?_modify,if_neg (λ e=>hne e.symm)]
 ·simp only[grow,putRow,mapBlock,Go.Sort.ahead];rw[Array.getElem?_append_left (by rw[Array.size_modify];exact hlt),Array.getElem?_modify,if_pos rfl,h];rfl
theorem Vd(d:List (List UInt8))(cur:Array Value)(n:Nat)(h:d.length<=cur.size)(hn:n<=d.length):(putCells encStr 0 d.toArray cur).toList.take n=(d.take n).map encStr:=by
 apply apV;intro i;rw[apg,ao0,apg];by_cases hi:i<n
 ·rw[if_pos hi,if_pos hi];have hc:i<cur.size:=o_
  have hd:i<d.length:=o_
  rw[apF];simp only[putCells,Array.getElem?_mapIdx,aqk hc,apR];rw[if_pos (by simp;omega),aom hd];simp[hd]
 ·rw[if_neg hi,if_neg hi];rfl
theorem OW{w:World}{g:Nat}{cur:Array Value}{e:TypeId}(l:List (List UInt8))(hg:w.heap[g]? =some (.cells cur e (0,0)))(h:cur.toList.take l.length=l.map encStr):Holds encStr w g 0 l.toArray:=by
 intro j hj;have hj:j<l.length:=hj;have hc:cur[j]? =some (encStr l[j]):=by
  have:=congrArg (·[j]?) h;simp only[apg,ao0,aom hj,if_pos hj,apR,apF]at this;exact this
 constructor
 ·simp[World.cell?,hg,hc,hj]
 ·simp[World.frozen?,hg]
theorem xH(l:List (List UInt8))(hl:l.length<=1000000000):
  aj prog 121 [(0,.row 9 1 l.length true (iD l))] [.own 0] (.bI []) [(0,.row 9 1 l.length true (iD (sortL l)))]:=by
 refine⟨⟨_,_,func121,rfl,rfl⟩,λ w keep ρ args hk jo hnd hbl hargs=>?_⟩;have hso:(sortL l).length=l.length:=apX ..;obtain⟨us,hown,_,_,_,ha⟩:=jo _ (aoo.2 rfl);have hus:=aeQ ha;subst hus;obtain⟨u,rfl,hu⟩:=rM hargs;have hu:u=ρ 0:=Eq.trans (show u=dJ (ρ 0)from hu) (eY hown);subst hu;rcases hown.2 with⟨hv,hn⟩|⟨g,cap,cur,hv,_,hg,hncap,hcm,hcs,htk⟩
 ·have hnil:l=[]:=aoz hn;subst hnil;have hc:=Tryz.slices_Sort_string_none none 0 w;rw[show(ρ 0)= .slice none 0 0 from hv];refine hc.mono ?_;rintro e w' ⟨rfl,rfl⟩;refine⟨_,ρ,rfl,dL.refl _ _ _,λ _ _ _ _ _=> .refl _,⟨[],rfl,aG.nil⟩,λ p hp=>?_,hnd,λ b hb=> .inr hb⟩;obtain rfl:=aoo.1 hp;exact⟨[],⟨rfl,.inl ⟨hv,rfl⟩⟩,o_,λ i hi=>absurd hi (aoM i),λ _ x hx=>absurd hx (by simp[flat]),aG.nil⟩
 ·have hlt:g<w.heap.size:=by
   rcases aoP g w.heap.size with h'|h'
   ·exact h'
   ·rw[apU h']at hg;cases hg
  rw[Nat.mul_one]at htk hcs;have hc:=Tryz.slices_Sort_string g 0 cap l w (OW l hg htk) hlt o_;rw[show(ρ 0)= .slice (some ⟨g,0,none⟩) l.length cap from hv];refine hc.mono ?_;rintro e w' ⟨rfl,n,os,rfl⟩;obtain⟨h1,h2,h3⟩:=Vb encStr w n g (sortL l).toArray os hg;have hb:g∈ah ρ [(0,AO.row 9 1 l.length true (iD l))]:=aQ.2 ⟨_,aoo.2 rfl,by rw[show ρ 0= .slice (some ⟨g,0,none⟩) l.length cap from hv];exact aol⟩;refine⟨_,ρ,rfl,⟨rfl,rfl,rfl,h1,λ k hk hM=>h2 k hk (by rintro rfl;exact hM hb)⟩,λ _ _ _ _ _=> .refl _,⟨[],rfl,aG.nil⟩,λ p hp=>?_,hnd,λ b hb=> .inr hb⟩;obtain rfl:=aoo.1 hp;have:=aaf (w:=grow (putRow encStr (Go.Sort.ahead w n) g 0 (sortL l).toArray) os) (keep:=(aC (dX w keep (λ b=>b∈ah ρ [(0,AO.row 9 1 l.length true (iD l))])) (grow (putRow encStr (Go.Sort.ahead w n) g 0 (sortL l).toArray) os) ρ [(0,AO.row 9 1 l.length true (iD (sortL l)))]).keep) (ρ:=ρ) (id:=0) (sortL l) (by rw[hso];exact hv) h3 o_ hcm (by simp[putCells];exact hcs) (by rw[Vd _ _ _ o_ (aoH _),apH]);rw[hso]at this;exact this
theorem xI(l:List (List UInt8)):(Lib.compact l).length<=l.length:=Lib.compact_length_le l
theorem qB(l:List (List UInt8))(hl:l.length<=1000000000):
  aj prog 125 [(0,.row 9 1 l.length true (iD l))] [.own 0] (.own 1) [(1,.row 9 1 (Lib.compact l).length true (iD (Lib.compact l)))]:=by
 refine⟨⟨_,_,func125,rfl,rfl⟩,λ w keep ρ args hk jo hnd hbl hargs=>?_⟩;have hle:=xI l;obtain⟨us,hown,_,_,_,ha⟩:=jo _ (aoo.2 rfl);have hus:=aeQ ha;subst hus;obtain⟨u,rfl,hu⟩:=rM hargs;have hu:u=ρ 0:=Eq.trans (show u=dJ (ρ 0)from hu) (eY hown);subst hu;rcases hown.2 with⟨hv,hn⟩|⟨g,cap,cur,hv,_,hg,hncap,hcm,hcs,htk⟩
 ·have hnil:l=[]:=aoz hn;subst hnil;have hc:=Tryz.slices_Compact_string_empty none 0 w;rw[show(ρ 0)= .slice none 0 0 from hv];refine hc.mono ?_;rintro e w' ⟨rfl,rfl⟩;let ρ':Nat->Value:=λ _=> .slice none 0 0;refine⟨_,ρ',rfl,dL.refl _ _ _,λ p hp q hq h=>?_,rfl,λ p hp=>?_, ?_, ?_⟩
  ·obtain rfl:=aoo.1 hp;obtain rfl:=aoo.1 hq;cases h
  ·obtain rfl:=aoo.1 hp;exact⟨[],⟨rfl,.inl ⟨rfl,rfl⟩⟩,o_,λ i hi=>absurd hi (aoM i),λ _ x hx=>absurd hx (by rw[show Lib.compact ([]:List (List UInt8))=[]from rfl];simp[flat]),aG.nil⟩
  ·simp[ah,ρ',blks,iQ]
  ·intro b hb;simp[ah,ρ',blks,iQ]at hb
 ·have hlt:g<w.heap.size:=by
   rcases aoP g w.heap.size with h'|h'
   ·exact h'
   ·rw[apU h']at hg;cases hg
  rw[Nat.mul_one]at htk hcs;have hc:=Tryz.slices_Compact_string g 0 cap l w (OW l hg htk) o_ hncap;rw[show(ρ 0)= .slice (some ⟨g,0,none⟩) l.length cap from hv];refine hc.mono ?_;rintro e w' ⟨rfl,n,rfl⟩;obtain⟨d,hd⟩:∃d,d=Lib.compact l++List.replicate (l.length-(Lib.compact l).length) []:=⟨_,rfl⟩;have hdl:d.length=l.length:=by rw[hd,aop,ap6];omega
  rw[<-hd];obtain⟨h1,h2,h3⟩:=Vb encStr w n g d.toArray #[] hg;rw[grow_empty]at h1 h2 h3;have hb:g∈ah ρ [(0,AO.row 9 1 l.length true (iD l))]:=aQ.2 ⟨_,aoo.2 rfl,by rw[show ρ 0= .slice (some ⟨g,0,none⟩) l.length cap from hv];exact aol⟩;let ρ':Nat->Value:=λ _=> .slice (some ⟨g,0,none⟩) (Lib.compact l).length cap;refine⟨_,ρ',rfl,⟨rfl,rfl,rfl,h1,λ k hk hM=>h2 k hk (by rintro rfl;exact hM hb)⟩,λ p hp q hq h=>?_,rfl,λ p hp=>?_, ?_, ?_⟩
  ·obtain rfl:=aoo.1 hp;obtain rfl:=aoo.1 hq;cases h
  ·obtain rfl:=aoo.1 hp;exact aaf (Lib.compact l) rfl h3 o_ hcm (by simp[putCells];exact hcs) (by rw[Vd _ _ _ o_ o_,hd,aqJ])
  ·simp[ah,ρ',blks,iQ]
  ·intro b hbm;have:b=g:=by simpa[ah,ρ',blks,iQ]using hbm
   subst this;exact .inr hb
end
abbrev St:=Int×Int
def stV(a:St):List Value:=[.int .i64 a.1,.int .i64 a.2]
def stC(a:St):List AV:=[.v (.int .i64 a.1),.v (.int .i64 a.2)]
abbrev stF(l:List St):Nat->List AV:=og stC l
def kG(a b:St):Bool:=if a.1=b.1 then decide (a.2<b.2)else decide (a.1<b.1)
def rO(m:St)(l:List St):St:=l.foldl (λ m s=>if kG m s=true then s else m) m
def Eo(l:List St):Nat:=l.findIdx λ s=>decide (s=rO (l.getD 0 default) l)
theorem aag:∀(l:List St)(m:St),rO m l=m\/rO m l∈l
 |[],_=> .inl rfl
 |x::l,m=>by
  show rO (if kG m x=true then x else m) l=m\/_;rcases aag l (if kG m x=true then x else m)with h|h
  ·split at h
   ·rename_i hx;exact .inr (by show rO (if kG m x=true then x else m) l∈_;rw[if_pos hx,h];exact aol)
   ·rename_i hx;exact .inl (by rw[if_neg hx];exact h)
  ·exact .inr (aoq _ h)
theorem Ep{l:List St}(h:l≠[]):Eo l<l.length:=by
 have hm:rO (l.getD 0 default) l∈l:=by
  rcases aag l (l.getD 0 default)with h'|h'
  ·rw[h'];cases l with
   |nil=>exact absurd rfl h
   |cons x l=>exact aol
  ·exact h'
 exact List.findIdx_lt_length_of_exists ⟨_,hm,s_⟩
theorem aeS{m:St}{l:List St}(hj:j<l.length):rO m (l.take (j+1))=if kG (rO m (l.take j)) (l.getD j default)=true then l.getD j default else rO m (l.take j):=by
 unfold rO;rw[apB,aom hj,apO,List.getD,aom hj];rfl
theorem aeT:prog.eqGuardType prog.depth 264=false:=by kernel_rfl
theorem aie(a b:St)(w:World):(Op.equalIn 10000 264 (.agg (stV a).toArray) (.agg (stV b).toArray)).run prog w= .ok (decide (a.1=b.1/\a.2=b.2)) w:=by
 have hS:prog.underlying 264=some (.struct (prog.fieldsOf 264)):=by kernel_rfl
 have u3:=Tryz.underlying3;have a3:=Tryz.isAgg3;have z3:=Tryz.sizeOf3;rw[show(10000:Nat)=9999+1 from rfl,run_equalIn_agg w 9999 264 _ _ hS (by kernel_rfl)];simp only[Program.fieldsOf,Tryz.underlying264];unfold stV;go_simp;repeat' split
 all_goals simp_all
theorem ami(a b:St):zf prog 264 (stV a) (stV b) (a=b):=
 ⟨aeT,λ w=>⟨_,by rw[decide_eq_true_eq];exact⟨λ h=>Prod.ext h.1 h.2,λ h=>by rw[h];exact⟨rfl,rfl⟩⟩,aie a b w⟩⟩
theorem abw(a b:St):aH prog 197 [.agg (stC a),.agg (stC b)] (.v (.bool (kG a b))) []:=by
 dsimp only[stC];refine K1.E 0x21f func197 ?_;repeat' ((conv=>whnf);first|refine aU.fF ?_|refine K1.y (λ _=>?_) (λ _=>?_)|fail)
 all_goals(conv=>whnf)
 all_goals(refine bn.mk (aY.of ?_))
 all_goals simp[kG, *]
theorem F7(l:List St)(hne:l≠[])(hl:l.length<=1000000000):aH prog 159 [.sl 2 l.length true (stF l)] (.v (.int .i64 (Eo l:Int))) []:=by
 have hpos:0<l.length:=List.length_pos_iff.2 hne;refine K1.E 0x41e43c4ed func159 ?_;repeat' ((conv=>whnf);first|refine K1.u ?_|fail)
 conv=>whnf
 refine aI.mk {j:Nat//j<=l.length} (λ j=>⟨[(0,.sl 2 l.length true (stF l)),(3,.box 0 0),(14,.sl 2 l.length true (stF l)),(15,.v (.int .i64 (l.length:Int))),(16,.v (.int .i64 (j.1:Int)))],
   [(0,.box 264 (stC (rO (l.getD 0 default) (l.take j.1))))],[],1⟩) (λ j=>l.length-j.1) ⟨0,aoB _⟩ _
  (dO.mk' [] _ _ _ rfl ⟨au,au,au,aY.int rfl,aY.int rfl,trivial⟩ ⟨ay rfl,trivial⟩ rfl) ?_
 rintro⟨j,hj⟩;dsimp only;by_cases hjl:j<l.length
 ·have hst:=aeS (m:=l.getD 0 default) hjl;have hls:=abw (rO (l.getD 0 default) (l.take j)) (l.getD (j:Int).toNat default);generalize rO (l.getD 0 default) (l.take j)=t at hst hls⊢;rw[show l.getD j default=l.getD (j:Int).toNat default from rfl]at hst;generalize kG t (l.getD (j:Int).toNat default)=q at hst hls;dsimp only[stC]at hls⊢;repeat' ((conv=>whnf);first|refine K1.u ?_|refine K1.P1 hls ?_|refine K1.y (λ _=>?_) (λ _=>?_)|fail)
  all_goals(conv=>whnf)
  all_goals first
   |(refine⟨⟨j+1,hjl⟩,_,dO.mk' [] _ _ _ rfl ⟨au,au,au,aY.int rfl,aY.int rfl,trivial⟩ ⟨⟨_,rfl, ?_⟩,trivial⟩ rfl,by show l.length-(j+1)<l.length-j;omega⟩
     show dK _ (.box _ (stC (rO (l.getD 0 default) (l.take (j+1)))));rw[hst,if_pos a_];exact dK.refl _)
   |(refine⟨⟨j+1,hjl⟩,_,dO.mk' [] _ _ _ rfl ⟨au,au,au,aY.int rfl,aY.int rfl,trivial⟩ ⟨⟨_,rfl, ?_⟩,trivial⟩ rfl,by show l.length-(j+1)<l.length-j;omega⟩
     show dK _ (.box _ (stC (rO (l.getD 0 default) (l.take (j+1)))));rw[hst,if_neg (by rw[show q=false by assumption];simp)];exact dK.refl _)
 ·have hW:l.take j=l:=aoF o_;rw[hW];have hlast:Eo l=l.findIdx λ s=>decide (s=rO (l.getD 0 default) l):=rfl;have hlt:=Ep hne;generalize rO (l.getD 0 default) l=t at hlast⊢;dsimp only[stC];repeat' ((conv=>whnf);first|refine K1.u ?_|fail)
  all_goals(conv=>whnf)
  refine aI.mk {j:Nat//j<=l.length/\ ∀i,i<j-> ¬l.getD i default=t} (λ j=>⟨[(3,.box 0 0),(25,.sl 2 l.length true (stF l)),(26,.v (.int .i64 (l.length:Int))),(27,.v (.int .i64 (j.1:Int)))],
   [(0,.box 264 (stC t))],[],1⟩) (λ j=>l.length-j.1) ⟨0,aoB _,λ i h=>absurd h (aoM i)⟩ _
   (dO.mk' [] _ _ _ rfl ⟨au,au,aY.int rfl,aY.int rfl,trivial⟩ ⟨ay rfl,trivial⟩ rfl) ?_
  rintro⟨j,hj,hall⟩;dsimp only;by_cases hjl:j<l.length
  ·have hret:l.getD (j:Int).toNat default=t->Eo l=j:=by
    intro h;have h:l.getD j default=t:=h;rw[hlast];refine(List.findIdx_eq hjl).2 ⟨?_,λ i hi=>?_⟩
    ·rw[List.getD,aom hjl]at h;exact decide_eq_true h
    ·have:=hall i hi;rw[List.getD,aom o_]at this;exact decide_eq_false this
   have hno:¬l.getD (j:Int).toNat default=t-> ∀i,i<j+1-> ¬l.getD i default=t:=by
    intro h i hi;rcases aoP i j with h'|h'
    ·exact hall i h'
    ·obtain rfl:i=j:=o_
     exact h
   dsimp only[stC];repeat' ((conv=>whnf);first|refine K1.u ?_|refine Ub.mk (stV (l.getD (j:Int).toNat default)) (stV t) (l.getD (j:Int).toNat default=t) rfl rfl (ami _ _) ?_|refine aU.fF ?_|refine K1.y (λ _=>?_) (λ _=>?_)|fail)
   all_goals(conv=>whnf)
   all_goals first
    |(rw[hret a_];exact bn.mk (au))
    |exact⟨⟨j+1,hjl,hno a_⟩,_,dO.mk' [] _ _ _ rfl ⟨au,au,aY.int rfl,aY.int rfl,trivial⟩ ⟨ay rfl,trivial⟩ rfl,by show l.length-(j+1)<l.length-j;omega⟩
  ·exfalso;have h1:=hall (Eo l) o_;rw[List.getD,aom hlt]at h1;have h2:decide (l[l.findIdx λ s=>decide (s=t)]'(hlast▸hlt)=t)=true:=List.findIdx_getElem (p:=λ s=>decide (s=t));have h3:=of_decide_eq_true h2;simp only[<-hlast]at h3;exact h1 h3
def Ve(key:ByteArray)(n:Int)(e:Ev):Bool:=decide (e.key=key)&&decide (e.l=n)
def dW(key:ByteArray)(n:Int)(ws:List Ev):List Ev:=ws.filter λ e=>Ve key n e&&decide (e.k=3)
def gY(key:ByteArray)(n:Int)(ws:List Ev):List Ev:=ws.filter λ e=>Ve key n e&& !decide (e.k=3)
def dU(b:ByteArray):List UInt8:=b.data.toList
def dB(e:Ev):St:=(e.h,e.r)
theorem Es(b:ByteArray):encStr (dU b)= .string b:=by
 obtain⟨a⟩:=b;simp[dU]
theorem KG{l:List (List UInt8)}{x:List UInt8}{g:Nat->List AV}(hn:n=l.length)(hg:g 0=[.v (encStr x)]):∀i,i<n+1->kV n (iD l) g i=iD (l++[x]) i:=
 dP (c:=λ x=>[.v (encStr x)]) hn hg
structure Cont where
 (key:ByteArray)(h0 h1:Bool)(f0 f1:ByteArray)(s0 s1:List (List UInt8))
def Cont.cs(c:Cont):List AV:=[.v (.string c.key),.v (.bool c.h0),.v (.bool c.h1),.v (.string c.f0),.v (.string c.f1),.sl 1 c.s0.length true (iD c.s0),.sl 1 c.s1.length true (iD c.s1)]
def IB(A:List Ev):Bool:= !decide (A.length=0)
def lU(A:List Ev):ByteArray:=if A.length=0 then⟨#[]⟩else⟨((A.map λ e=>dU e.v).getD (Eo (A.map dB)) []).toArray⟩
def valsF(B:List Ev):List (List UInt8):=Lib.compact (sortL (B.map λ e=>dU e.v))
def dV(key:ByteArray)(ws:List Ev):Cont:=⟨key,IB (dW key 0 ws),IB (dW key 1 ws),lU (dW key 0 ws),lU (dW key 1 ws),valsF (gY key 0 ws),valsF (gY key 1 ws)⟩
theorem ctF(h:p:=by
 refine⟨⟨j+1,hjl⟩,_,dO.mk' s0 _ _ _ rfl ⟨au,au,au,au,au,au,au,au,au,au,au,aY.int rfl,trivial⟩ ?_ rfl,mea⟩;repeat' first
  |exact trivial
  |refine⟨⟨_,rfl,eqS (by rw[kA])⟩, ?_⟩
  |refine⟨⟨_,rfl,eqL (by rw[kA])⟩, ?_⟩
  |refine⟨⟨_,rfl,eqL (by rw[kB])⟩, ?_⟩
  |refine⟨ay rfl, ?_⟩
  |refine⟨⟨_,rfl,dK.row (by dsimp only;rw[kA,apt,aop];rfl) (λ m hm=>by dsimp only;rw[kA,apt];first|exact dP (c:=stC) (x:=dB (ws.getD (j:Int).toNat default)) rfl rfl m hm|exact KG (x:=dU (ws.getD (j:Int).toNat default).v) rfl (by rw[Es];rfl) m hm)⟩, ?_⟩
  |refine⟨⟨_,rfl,dK.row (by dsimp only;rw[kB,apt,aop];rfl) (λ m hm=>by dsimp only;rw[kB,apt];exact KG (x:=dU (ws.getD (j:Int).toNat default).v) rfl (by rw[Es];rfl) m hm)⟩, ?_⟩):p:=h
theorem ctB(h:p:=by
 have hA:(dW key q0 (ws.take j)).length<=j:=by
  have:=aoI (λ e=>Ve key q0 e&&decide (e.k=3)) (ws.take j);rw[aou]at this;unfold dW;omega
 have hB:(gY key q0 (ws.take j)).length<=j:=by
  have:=aoI (λ e=>Ve key q0 e&& !decide (e.k=3)) (ws.take j);rw[aou]at this;unfold gY;omega
 have sA:dW key q0 (ws.take (j+1))=dW key q0 (ws.take j)++(if(Ve key q0 (ws.getD (j:Int).toNat default)&&decide ((ws.getD (j:Int).toNat default).k=3))=true then [(ws.getD (j:Int).toNat default)]else []):=jA hjl;have sB:gY key q0 (ws.take (j+1))=gY key q0 (ws.take j)++(if(Ve key q0 (ws.getD (j:Int).toNat default)&& !decide ((ws.getD (j:Int).toNat default).k=3))=true then [(ws.getD (j:Int).toNat default)]else []):=jA hjl;generalize dW key q0 (ws.take j)=A at hA sA⊢;generalize gY key q0 (ws.take j)=B at hB sB⊢;have lA:(A.map dB).length=A.length:=aoO ..;have lA2:(A.map λ e=>dU e.v).length=A.length:=aoO ..;have lB:(B.map λ e=>dU e.v).length=B.length:=aoO ..;have eqS {X Y:List St} (h:X=Y):dK (.row 264 2 X.length true (stF X)) (.row 264 2 Y.length true (stF Y)):=by rw[h];exact dK.refl _
 have eqL {X Y:List (List UInt8)} (h:X=Y):dK (.row 9 1 X.length true (iD X)) (.row 9 1 Y.length true (iD Y)):=by rw[h];exact dK.refl _
 have mea:ws.length-(j+1)<ws.length-j:=o_
 repeat' ((conv=>whnf);first|refine K1.w ?_|refine K1.a ?_|refine K1.y (λ _=>?_) (λ _=>?_)|fail)
 all_goals(conv=>whnf)
 ·have kA:dW key q0 (ws.take (j+1))=A++[(ws.getD (j:Int).toNat default)]:=by rw[sA,if_pos (by simp only[Ve];rw[decide_eq_true a_,decide_eq_true a_,decide_eq_true a_];rfl)]
  have kB:gY key q0 (ws.take (j+1))=B:=by rw[sB,if_neg (by rw[decide_eq_true (show(ws.getD (j:Int).toNat default).k=3 by assumption)];simp),aor]
  let s0:=[(n0+5,n0),(n0+7,n0+1)];exact ctF
 ·have kA:dW key q0 (ws.take (j+1))=A:=by rw[sA,if_neg (by rw[decide_eq_false (show¬ (ws.getD (j:Int).toNat default).k=3 by assumption)];simp),aor]
  have kB:gY key q0 (ws.take (j+1))=B++[(ws.getD (j:Int).toNat default)]:=by rw[sB,if_pos (by simp only[Ve];rw[decide_eq_true a_,decide_eq_true a_,decide_eq_false a_];rfl)]
  let s0:=[(n0+5,n0+2)];exact ctF
 all_goals
  have hof:Ve key q0 (ws.getD (j:Int).toNat default)=false:=by
   unfold Ve;first
    |(rw[decide_eq_false (show¬ (ws.getD (j:Int).toNat default).key=key by assumption)];rfl)
    |(rw[decide_eq_false (show¬ (ws.getD (j:Int).toNat default).l=q0 by assumption)];simp)
  have kA:dW key q0 (ws.take (j+1))=A:=by rw[sA,hof];simp
  have kB:gY key q0 (ws.take (j+1))=B:=by rw[sB,hof];simp
  let s0:List (Nat×Nat):=[];exact ctF):p:=h
theorem RN(key:ByteArray)(ws:List Ev)(hl:ws.length<=1000000000):
  aH prog 126 [.v (.string key),.sl 12 ws.length true (dI ws)] (.agg (dV key ws).cs) []:=by
 dsimp only[dV,Cont.cs];refine K1.E 0x2000009001ecbf3 func126 ?_;repeat' ((conv=>whnf);first|refine K1.w ?_|fail)
 conv=>whnf
 refine aI.yP 14 3 rfl ?_;repeat' ((conv=>whnf);first|refine K1.a ?_|fail)
 conv=>whnf
 refine aI.nil 7 90 264 2 (stF []) rfl o_ ?_;refine aI.nil 8 91 9 1 (iD []) rfl o_ ?_;refine aI.nil 9 92 9 1 (iD []) rfl o_ ?_;conv=>whnf
 refine aI.mk {j:Nat//j<=ws.length} (λ j=>⟨[(0,.v (.string key)),(1,.sl 12 ws.length true (dI ws)),(4,.box 0 0),(5,.box 1 0),(6,.v (.int .i64 0)),(14,.v (.int .i64 0)),(7,.own 90),(8,.own 91),(9,.own 92),(17,.sl 12 ws.length true (dI ws)),(18,.v (.int .i64 (ws.length:Int))),(19,.v (.int .i64 (j.1:Int)))],
   [(0,_),(1,_),(90,.row 264 2 ((dW key 0 (ws.take j.1)).map dB).length true (stF ((dW key 0 (ws.take j.1)).map dB))),
    (91,.row 9 1 ((dW key 0 (ws.take j.1)).map λ e=>dU e.v).length true (iD ((dW key 0 (ws.take j.1)).map λ e=>dU e.v))),
    (92,.row 9 1 ((gY key 0 (ws.take j.1)).map λ e=>dU e.v).length true (iD ((gY key 0 (ws.take j.1)).map λ e=>dU e.v)))],[],93⟩) (λ j=>ws.length-j.1) ⟨0,aoB _⟩ _
  (dO.mk' [] _ _ _ rfl ⟨au,au,au,au,au,au,au,au,au,au,au,aY.int rfl,trivial⟩ ⟨ay rfl,ay rfl,ay rfl,ay rfl,ay rfl,trivial⟩ rfl) ?_
 rintro⟨j,hj⟩;dsimp only;by_cases hjl:j<ws.length
 ·let q0:Int:=0;let n0:=90;exact ctB
 ·rw[aoF (show ws.length<=j by omega)];have hA:(dW key 0 ws).length<=ws.length:=aoI ..;have hB:(gY key 0 ws).length<=ws.length:=aoI ..;generalize dW key 0 ws=A at hA⊢;generalize gY key 0 ws=B at hB⊢;have lA:(A.map dB).length=A.length:=aoO ..;have lA2:(A.map λ e=>dU e.v).length=A.length:=aoO ..;have lB:(B.map λ e=>dU e.v).length=B.length:=aoO ..;have hso:=xH (B.map λ e=>dU e.v) o_;have hsl:(sortL (B.map λ e=>dU e.v)).length=(B.map λ e=>dU e.v).length:=apX ..;have hco:=qB (sortL (B.map λ e=>dU e.v)) o_;rw[hsl]at hco;by_cases hz:A.length=0
  ·repeat' ((conv=>whnf);first|refine K1.w ?_|refine K1.a ?_|refine K1.b ?_|refine K1.C 1 [(0,_)] (hso) rfl ?_|refine K1.C 1 [(0,_)] (hco) rfl ?_|refine K1.z ?_|fail)
   conv=>whnf
   refine aI.nil 7 190 264 2 (stF []) rfl o_ ?_;refine aI.nil 8 191 9 1 (iD []) rfl o_ ?_;refine aI.nil 9 192 9 1 (iD []) rfl o_ ?_;conv=>whnf
   refine aI.mk {j:Nat//j<=ws.length} (λ j=>⟨[(0,.v (.string key)),(1,.sl 12 ws.length true (dI ws)),(4,.box 0 0),(5,.box 1 0),(6,.v (.int .i64 1)),(14,.v (.int .i64 1)),(7,.own 190),(8,.own 191),(9,.own 192),(17,.sl 12 ws.length true (dI ws)),(18,.v (.int .i64 (ws.length:Int))),(19,.v (.int .i64 (j.1:Int)))],
     [(0,_),(1,_),(94,_),(190,.row 264 2 ((dW key 1 (ws.take j.1)).map dB).length true (stF ((dW key 1 (ws.take j.1)).map dB))),
      (191,.row 9 1 ((dW key 1 (ws.take j.1)).map λ e=>dU e.v).length true (iD ((dW key 1 (ws.take j.1)).map λ e=>dU e.v))),
      (192,.row 9 1 ((gY key 1 (ws.take j.1)).map λ e=>dU e.v).length true (iD ((gY key 1 (ws.take j.1)).map λ e=>dU e.v)))],[],193⟩) (λ j=>ws.length-j.1) ⟨0,aoB _⟩ _
    (dO.mk' [] _ _ _ rfl ⟨au,au,au,au,au,au,au,au,au,au,au,aY.int rfl,trivial⟩ ⟨ay rfl,ay rfl,ay rfl,ay rfl,ay rfl,ay rfl,trivial⟩ rfl) ?_
   rintro⟨j,hj⟩;dsimp only;by_cases hjl:j<ws.length
   ·let q0:Int:=1;let n0:=190;exact ctB
   ·rw[aoF (show ws.length<=j by omega)];have hA1:(dW key 1 ws).length<=ws.length:=aoI ..;have hB1:(gY key 1 ws).length<=ws.length:=aoI ..;generalize dW key 1 ws=A1 at hA1⊢;generalize gY key 1 ws=B1 at hB1⊢;have lA1:(A1.map dB).length=A1.length:=aoO ..;have anq:(A1.map λ e=>dU e.v).length=A1.length:=aoO ..;have lB1:(B1.map λ e=>dU e.v).length=B1.length:=aoO ..;have aeU:=xH (B1.map λ e=>dU e.v) o_;have hsl1:(sortL (B1.map λ e=>dU e.v)).length=(B1.map λ e=>dU e.v).length:=apX ..;have Yp:=qB (sortL (B1.map λ e=>dU e.v)) o_;rw[hsl1]at Yp;by_cases hz1:A1.length=0
    ·repeat' ((conv=>whnf);first|refine K1.w ?_|refine K1.b ?_|refine K1.C 1 [(0,_)] (aeU) rfl ?_|refine K1.C 1 [(0,_)] (Yp) rfl ?_|refine aU.fF ?_|refine K1.z ?_|fail)
     conv=>whnf
     simp only[IB,lU,valsF,if_pos hz,decide_eq_true hz,Bool.not_true,if_pos hz1,decide_eq_true hz1,Bool.not_true];exact bn.mk (au)
    ·have akT:=F7 (A1.map dB) (λ h=>hz1 (by rw[<-lA1,h];rfl)) o_;have hlt1:=Ep (l:=A1.map dB) (λ h=>hz1 (by rw[<-lA1,h];rfl));repeat' ((conv=>whnf);first|refine K1.w ?_|refine K1.a ?_|refine K1.b ?_|refine K1.C 1 [(0,_)] (aeU) rfl ?_|refine K1.C 1 [(0,_)] (Yp) rfl ?_|refine K1.P1 akT ?_|refine aU.fF ?_|refine K1.z ?_|refine vK.mk (λ _=>?_) (λ _=>?_))
     rotate_left
     ·exact absurd (show Nat.ble _ _=false by assumption) (by rw[aqD,Nat.ble_eq];omega)
     conv=>whnf
     simp only[IB,lU,valsF,if_pos hz,decide_eq_true hz,Bool.not_true,if_neg hz1,decide_eq_false hz1,Bool.not_false];exact bn.mk (au)
  ·have hla:=F7 (A.map dB) (λ h=>hz (by rw[<-lA,h];rfl)) o_;have hlt:=Ep (l:=A.map dB) (λ h=>hz (by rw[<-lA,h];rfl));repeat' ((conv=>whnf);first|refine K1.w ?_|refine K1.a ?_|refine K1.b ?_|refine K1.C 1 [(0,_)] (hso) rfl ?_|refine K1.C 1 [(0,_)] (hco) rfl ?_|refine K1.P1 hla ?_|refine K1.z ?_|refine vK.mk (λ _=>?_) (λ _=>?_))
   rotate_left
   ·exact absurd (show Nat.ble _ _=false by assumption) (by rw[aqD,Nat.ble_eq];omega)
   conv=>whnf
   refine aI.nil 7 190 264 2 (stF []) rfl o_ ?_;refine aI.nil 8 191 9 1 (iD []) rfl o_ ?_;refine aI.nil 9 192 9 1 (iD []) rfl o_ ?_;conv=>whnf
   refine aI.mk {j:Nat//j<=ws.length} (λ j=>⟨[(0,.v (.string key)),(1,.sl 12 ws.length true (dI ws)),(4,.box 0 0),(5,.box 1 0),(6,.v (.int .i64 1)),(14,.v (.int .i64 1)),(7,.own 190),(8,.own 191),(9,.own 192),(17,.sl 12 ws.length true (dI ws)),(18,.v (.int .i64 (ws.length:Int))),(19,.v (.int .i64 (j.1:Int)))],
     [(0,_),(1,_),(94,_),(190,.row 264 2 ((dW key 1 (ws.take j.1)).map dB).length true (stF ((dW key 1 (ws.take j.1)).map dB))),
      (191,.row 9 1 ((dW key 1 (ws.take j.1)).map λ e=>dU e.v).length true (iD ((dW key 1 (ws.take j.1)).map λ e=>dU e.v))),
      (192,.row 9 1 ((gY key 1 (ws.take j.1)).map λ e=>dU e.v).length true (iD ((gY key 1 (ws.take j.1)).map λ e=>dU e.v)))],[],193⟩) (λ j=>ws.length-j.1) ⟨0,aoB _⟩ _
    (dO.mk' [] _ _ _ rfl ⟨au,au,au,au,au,au,au,au,au,au,au,aY.int rfl,trivial⟩ ⟨ay rfl,ay rfl,ay rfl,ay rfl,ay rfl,ay rfl,trivial⟩ rfl) ?_
   rintro⟨j,hj⟩;dsimp only;by_cases hjl:j<ws.length
   ·let q0:Int:=1;let n0:=190;exact ctB
   ·rw[aoF (show ws.length<=j by omega)];have hA1:(dW key 1 ws).length<=ws.length:=aoI ..;have hB1:(gY key 1 ws).length<=ws.length:=aoI ..;generalize dW key 1 ws=A1 at hA1⊢;generalize gY key 1 ws=B1 at hB1⊢;have lA1:(A1.map dB).length=A1.length:=aoO ..;have anq:(A1.map λ e=>dU e.v).length=A1.length:=aoO ..;have lB1:(B1.map λ e=>dU e.v).length=B1.length:=aoO ..;have aeU:=xH (B1.map λ e=>dU e.v) o_;have hsl1:(sortL (B1.map λ e=>dU e.v)).length=(B1.map λ e=>dU e.v).length:=apX ..;have Yp:=qB (sortL (B1.map λ e=>dU e.v)) o_;rw[hsl1]at Yp;by_cases hz1:A1.length=0
    ·repeat' ((conv=>whnf);first|refine K1.w ?_|refine K1.b ?_|refine K1.C 1 [(0,_)] (aeU) rfl ?_|refine K1.C 1 [(0,_)] (Yp) rfl ?_|refine aU.fF ?_|refine K1.z ?_|fail)
     conv=>whnf
     simp only[IB,lU,valsF,if_neg hz,decide_eq_false hz,Bool.not_false,if_pos hz1,decide_eq_true hz1,Bool.not_true];exact bn.mk (au)
    ·have akT:=F7 (A1.map dB) (λ h=>hz1 (by rw[<-lA1,h];rfl)) o_;have hlt1:=Ep (l:=A1.map dB) (λ h=>hz1 (by rw[<-lA1,h];rfl));repeat' ((conv=>whnf);first|refine K1.w ?_|refine K1.a ?_|refine K1.b ?_|refine K1.C 1 [(0,_)] (aeU) rfl ?_|refine K1.C 1 [(0,_)] (Yp) rfl ?_|refine K1.P1 akT ?_|refine aU.fF ?_|refine K1.z ?_|refine vK.mk (λ _=>?_) (λ _=>?_))
     rotate_left
     ·exact absurd (show Nat.ble _ _=false by assumption) (by rw[aqD,Nat.ble_eq];omega)
     conv=>whnf
     simp only[IB,lU,valsF,if_neg hz,decide_eq_false hz,Bool.not_false,if_neg hz1,decide_eq_false hz1,Bool.not_false];exact bn.mk (au)
instance:Inhabited Cont:=⟨⟨⟨#[]⟩,false,false,⟨#[]⟩,⟨#[]⟩,[],[]⟩⟩
abbrev F8(l:List Cont):Nat->List AV:=og Cont.cs l
def keysB(l:List Ev):List (List UInt8):=Lib.compact (sortL ((aF l).map λ e=>dU e.key))
def pz(l:List Ev):List Cont:=(keysB l).map λ k=>dV ⟨k.toArray⟩ (bg l (aF l))
theorem dK.aif{e:TypeId}{s n':Nat}{sc:Bool}{f f':Nat->List AV}(hn:n=n')(hf:∀i,i<n->f i=f' i):dK (.row e s n sc f) (.row e s n' false f'):=by
 subst hn;rintro X id ⟨us,hown,hs,hfl,_,ha⟩;rw[jJ hf]at ha;exact⟨us,hown,hs,λ i hi=>by rw[<-hf i hi];exact hfl i hi,(λ h=>by cases h),ha⟩
section
open Go.ChangeShapes Go.WideShapes Go.ChangeAt Go.RowKit
theorem own:ownKnob prog.godebug=none:=by kernel_rfl
theorem laidOut:laidOutB prog=true:=by kernel_rfl
section
variable{H:Type}{enc:TypeId×Value->H}
theorem BN{W W':World}(hb:Below W.heap.size W W'):∀(ts:List TypeId)(vs:List Value)(ds:List (DataW H))(ps:List MemPlace),
 (∀t∈ts,prog.readableRec t=true/\t<prog.types.size)->DataW.TrodAll enc prog W 0 (λ _=>true) true ts vs ds ps->(∀x∈ps,x.block<W.heap.size)->
 DataW.TrodAll enc prog W' 0 (λ b=>decide (b<W.heap.size)) true ts vs ds ps
 |[],vs,ds,ps,_,h,_=>by
  obtain⟨rfl,rfl,rfl⟩:=trodAll_nil h;exact trodAll_mk0
 |t::ts,vs,ds,ps,ht,h,hlt=>by
  obtain⟨v,vs',d,ds',p,q,rfl,rfl,rfl,h0,h1⟩:=trodAll_cons h;have hp:=ht t s_;exact trodAll_cons_mk (Below.trod laidOut hp.1 hp.2 h0 hb (λ x hx=>hlt x (by simp[hx]))) (BN hb ts vs' ds' q (λ u hu=>ht u (by simp[hu])) h1 (λ x hx=>hlt x (by simp[hx])))
theorem law_lifted(os:Os)(started:os.Started)(f:FuncId)(fn:Func)(s:ChangeSpec)(hvars:s.vars=[])(noInit:prog.inits.idxOf? f=none)(hfn:prog.funcs[f]? =some fn)
  (hres:fn.resultTypes= #[4])(aii:∀t∈fn.params.toList,prog.readableRec t=true/\t<prog.types.size)
  (hspec:∀ds:List (DataW H),ds.length=fn.params.toList.length->s.fn H ds={results:=[.lit (.bool true)],args:=ds})
  (witness:∃(w:World) (tape:Tape) (i:Input),w.os=os/\(w.forCall tape i).Shaped Tryz.checked.prog/\i.vars=[]/\Input.okWide Tryz.checked.prog (w.forCall tape i) .any w.heap.size f i/\
   s.pre6 enc Tryz.checked.prog fn [] false (w.forCall tape i).memory i.args/\({}:Assume).holds Tryz.checked.prog (lone (Frame.enter Tryz.checked.prog f i.args .normal) [] (w.forCall tape i)))
  (walk:∀(W:World)(base:Nat)(args:Array Value)(ds:List (DataW H))(p:List MemPlace),
   (∀(j:Nat) t v,fn.params[j]? =some t->args[j]? =some v->Value.okWide prog W .any base t v)->
   DataW.TrodAll enc prog W 0 (λ _=>true) true fn.params.toList args.toList ds p->
   (DataW.weightsEach prog fn.params.toList ds).all (·<=reachBytes)=true->
   Calls prog f args W λ e W'=>e= .returned (.bool true)/\Below W.heap.size W W'):
  ReturnsInHanded {} Tryz.checked os f .any (s.pre6 enc prog fn [] false) (s.post enc prog fn false true false false):=by
 refine returnsInHanded_of_change_sized (C:=Tryz.checked) own started noInit hfn witness ?_;intro W base args ds gs before hval0 hW _ hsz0 _;have hval:∀(j:Nat) t v,fn.params[j]? =some t->args[j]? =some v->Value.okWide prog W .any base t v:=hval0;have hW':=hW;have hlt:∀x∈before,x.block<W.heap.size:=λ x hx=>by simpa using hW'.lt x hx
 obtain⟨p,q,hA0,hV,rfl,hfz,hnd⟩:=hW;have hA:DataW.TrodAll enc prog W 0 (λ _=>true) true fn.params.toList args.toList ds p:=hA0;rw[hvars]at hV;obtain⟨rfl,rfl⟩:=trodVars_none hV;simp only[aor]at hW' hlt;have hsz:(DataW.weightsEach prog fn.params.toList ds).all (·<=reachBytes)=true:=by
  have h:(DataW.weightsEach prog (fn.params.toList++s.plain.varTypes prog) (ds++[])).all (·<=reachBytes)=true:=hsz0;have hv:s.plain.varTypes prog=[]:=by
   show s.vars.filterMap _=[];rw[hvars];rfl
  simpa[hv]using h
 refine(walk W base args ds p hval hA hsz).mono λ e W' ⟨he,bel⟩=>?_;subst he;have hlen:ds.length=fn.params.toList.length:=Hq fn.params.toList args.toList ds p hA;have hsp:=hspec ds hlen;refine⟨_,rfl,ds,[],p,[],p,[],hW', ?_, ?_, ?_,bel.frame _,λ h=>by cases h⟩
 ·rw[aor,hsp,hres];exact trodAll_mk1 (shut_bool Tryz.underlying4 _)
 ·rw[aor,hsp];exact BN bel _ _ _ _ aii hA hlt
 ·rw[hvars];rw[aor,hsp];rfl
where
 Hq {W:World}:∀(ts:List TypeId)(vs:List Value)(ds:List (DataW H))(ps:List MemPlace),DataW.TrodAll enc prog W 0 (λ _=>true) true ts vs ds ps->ds.length=ts.length
  |[],vs,ds,ps,h=>by
   obtain⟨rfl,rfl,rfl⟩:=trodAll_nil h;rfl
  |t::ts,vs,ds,ps,h=>by
   obtain⟨v,vs',d,ds',p,q,rfl,rfl,rfl,h0,h1⟩:=trodAll_cons h;simp[Hq ts vs' ds' q h1]
end
abbrev allOf(w:World):Nat->Prop:=λ b=>b<w.heap.size
structure Sh(t:TypeId)(S:List AV->Prop):Prop where
 mk::
 h:∀(H:Type)(enc:TypeId×Value->H)(w:World)(spare:Nat->Bool)(held:Bool)(fuel:Nat)(cs:List Value)(x:DataW H×List MemPlace),
  DataW.trod enc prog w 0 spare held fuel t cs=some x->(∀n∈x.1.weights prog t,n<=reachBytes)-> ∃aZ,aG (PC w (allOf w)) aZ cs/\S aZ
theorem Sh.imp{t:TypeId}{S T:List AV->Prop}(h:Sh t S)(hi:∀aZ,S aZ->T aZ):Sh t T:=⟨λ _ _ _ _ _ _ _ _ h1 h2=>by
 obtain⟨aZ,h3,h4⟩:=h.h _ _ _ _ _ _ _ _ h1 h2;exact⟨aZ,h3,hi aZ h4⟩⟩
theorem lV{t:TypeId}{k:IntKind}(ht:prog.underlying t=some (.int k)):Sh t (λ aZ=> ∃n:Int,aZ=[.v (.int k n)]/\(Lit.int k n).wf=true):=⟨λ _ _ _ _ _ _ _ _ h _=>by
 obtain⟨n,rfl,rfl,hw⟩:=DataW.trod_int ht h;exact⟨_,aG.cons (PC.v _ rfl) aG.nil,n,rfl,hw⟩⟩
theorem OX{t:TypeId}(ht:prog.underlying t=some .string):Sh t (λ aZ=> ∃s:ByteArray,aZ=[.v (.string s)]/\s.size<=140737488355328):=⟨λ _ _ _ _ _ _ _ _ h hw=>by
 obtain⟨s,rfl,rfl,_⟩:=DataW.trod_string ht h;refine⟨_,aG.cons (PC.v _ rfl) aG.nil,s,rfl, ?_⟩;have:=hw s.size (by simp[DataW.weights]);have hr:reachBytes<=140737488355328:=d_
 omega⟩
def Cat:List (List AV->Prop)->List AV->Prop
 |[],aZ=>aZ=[]
 |S::Ss,aZ=> ∃a b,aZ=a++b/\S a/\Cat Ss b
def RP:Nat->List Field->Nat->Prop
 |o,[],m=>o=m
 |o,f::fs,m=>f.offset=o/\RP (o+prog.cellsOf f.type) fs m
def Jb(c:TypeId->Nat):Nat->List Field->Nat->Bool
 |o,[],m=>Nat.beq o m
 |o,f::fs,m=>Nat.beq f.offset o&&Jb c (o+c f.type) fs m
theorem OY:∀{o:Nat}{fs:List Field}{m:Nat},Jb prog.cellsOf o fs m=true->RP o fs m
 |_,[],_,h=>aos h
 |_,_::_,_,h=>by
  simp only[Jb,aon]at h;exact⟨aos h.1,OY h.2⟩
inductive ShL:List TypeId->List (List AV->Prop)->Prop where
 |nil:ShL [] []
 |cons {t:TypeId} {S:List AV->Prop} {ts:List TypeId} {Ss:List (List AV->Prop)} (h:Sh t S) (hs:ShL ts Ss):ShL (t::ts) (S::Ss)
theorem OZ{H:Type}{enc:TypeId×Value->H}{w:World}{spare:Nat->Bool}{held:Bool}{fuel:Nat}{cs:List Value}:∀(fs:List Field)(xs:List (DataW H×List MemPlace))(Ss:List (List AV->Prop))(o:Nat),RP o fs cs.length->xs.length=fs.length->
 (∀(i:Nat)(f:Field),fs[i]? =some f->DataW.trod enc prog w 0 spare held fuel f.type ((cs.drop f.offset).take (prog.cellsOf f.type))=xs[i]?)->ShL (fs.map (·.type)) Ss->(∀n∈DataW.weightsEach prog (fs.map (·.type)) (xs.map (·.1)),n<=reachBytes)->
 ∃aZ,aG (PC w (allOf w)) aZ (cs.drop o)/\Cat Ss aZ
 |[],xs,Ss,o,hc,hl,_,hs,_=>by
  cases hs;refine⟨[], ?_,rfl⟩;rw[aqU (by simp only[RP]at hc;omega)];exact aG.nil
 |f::fs,xs,_,o,hc,hl,hg,hs,hw=>by
  cases hs with
  |cons hS hs'=>
   cases xs with
   |nil=>simp at hl
   |cons x xs=>
    obtain⟨ho,hc'⟩:=hc;have g0:=hg 0 f rfl;rw[ho]at g0;simp only[apd,DataW.weightsEach,aov]at hw;obtain⟨a,ha,hSa⟩:=hS.h _ _ _ _ _ _ _ _ g0 (λ n hn=>hw n (.inl hn));obtain⟨b,hb,hSb⟩:=OZ fs xs _ (o+prog.cellsOf f.type) hc' (by simpa using hl) (λ i g hi=>hg (i+1) g (by simpa using hi)) hs' (λ n hn=>hw n (.inr hn));refine⟨a++b, ?_,a,b,rfl,hSa,hSb⟩;have e:cs.drop o=(cs.drop o).take (prog.cellsOf f.type)++cs.drop (o+prog.cellsOf f.type):=by
     rw[<-aqg,apu]
    rw[e];exact aG.app ha hb
theorem F9{t:TypeId}{fs:Array Field}{Ss:List (List AV->Prop)}(ht:prog.underlying t=some (.struct fs))(hc0:Jb prog.cellsOf 0 fs.toList (prog.cellsOf t)=true){ts:List TypeId}(hts:fs.toList.map (·.type)=ts)(hs:ShL ts Ss):Sh t (Cat Ss):=⟨λ _ _ _ _ _ _ _ _ h hw=>by
 subst hts;have hc:=OY hc0;obtain⟨xs,m,_,rfl,hlen,hxl,hg⟩:=DataW.trod_struct ht h;rw[<-hlen]at hc;obtain⟨aZ,h1,h2⟩:=OZ fs.toList xs Ss 0 hc (by simpa using hxl) (λ i f hf=>hg i f (by simpa using hf)) hs (by simpa[DataW.weights,ht]using hw);exact⟨aZ,by simpa using h1,h2⟩⟩
theorem Vf{t e:TypeId}{n s:Nat}{S:List AV->Prop}(ht:prog.underlying t=some (.array n e))(hc:prog.cellsOf t=n*s)(he:prog.cellsOf e=s)(hs:Sh e S):Sh t (Cat (List.replicate n S)):=by
 refine⟨λ H enc w spare held fuel cs x h hw=>?_⟩;obtain⟨xs,m,_,rfl,hlen,hxl,hg⟩:=DataW.trod_array ht h;rw[he]at hg;simp only[DataW.weights,ht]at hw;have main:∀(k o:Nat)(xs:List (DataW H×List MemPlace)),xs.length=k->cs.length=(o+k)*s->(∀i,i<k->DataW.trod enc prog w 0 spare held m e ((cs.drop ((o+i)*s)).take s)=xs[i]?)->(∀n∈DataW.weightsAll prog e (xs.map (·.1)),n<=reachBytes)->
   ∃aZ,aG (PC w (allOf w)) aZ (cs.drop (o*s))/\Cat (List.replicate k S) aZ:=by
  intro k;induction k with
  |zero=>
   intro o xs _ hl _ _;refine⟨[], ?_,rfl⟩;rw[aqU (by rw[hl];simp)];exact aG.nil
  |succ k ih=>
   intro o xs hx hl hg hw;cases xs with
   |nil=>simp at hx
   |cons x xs=>
    simp only[apd,DataW.weightsAll,aov]at hw;obtain⟨a,ha,hSa⟩:=hs.h _ _ _ _ _ _ _ _ (hg 0 o_) (λ n hn=>hw n (.inl hn));obtain⟨b,hb,hSb⟩:=ih (o+1) xs (by simpa using hx) (by rw[hl,show o+(k+1)=o+1+k by omega]) (λ i hi=>by have:=hg (i+1) o_;rw[show o+1+i=o+(i+1) by omega];simpa using this) (λ n hn=>hw n (.inr hn));refine⟨a++b, ?_,a,b,rfl,hSa,hSb⟩;have e1:cs.drop (o*s)=(cs.drop (o*s)).take s++cs.drop ((o+1)*s):=by
     rw[show(o+1)*s=o*s+s by rw[apN,Nat.one_mul],<-aqg,apu]
    rw[e1];exact aG.app (by simpa using ha) hb
 obtain⟨aZ,h1,h2⟩:=main n 0 xs hxl (by rw[hlen,hc,apl]) (λ i hi=>by simpa using hg i hi) hw;exact⟨aZ,by simpa using h1,h2⟩
theorem aeV{w:World}{a:Addr}{s:Nat}{cs:List Value}(h:w.cells? 0 a s=some cs):cs.length=s/\ ∀i,i<s->w.cell? (a.add i)=cs[i]? :=by
 unfold World.cells? at h;rw[if_pos (aoB _)]at h;refine⟨by simpa using mapM_some_length h,λ i hi=>mapM_some_get h i i (by simp[hi])⟩
theorem add_add(a:Addr)(i j:Nat):(a.add i).add j=a.add (i+j):=by
 unfold Addr.add;by_cases hi:i=0
 ·subst hi;simp
 ·by_cases hj:j=0
  ·subst hj;simp[hi]
  ·simp[hi,hj,Nat.add_assoc]
theorem add_lit{b o j:Nat}:(⟨b,o,none⟩:Addr).add j=⟨b,o+j,none⟩:=by
 unfold Addr.add;split
 ·rename_i h;subst h;rfl
 ·rfl
theorem vU{α:Type}[Inhabited α](c:α->List AV):∀l:List α,flat l.length (og c l)=l.flatMap c
 |[]=>rfl
 |a::l=>by
  show og c (a::l) 0++flat l.length (λ i=>og c (a::l) (i+1))=_;rw[apa,<-vU c l];rfl
theorem Vg{t e:TypeId}{s:Nat}{α:Type}[Inhabited α]{c:α->List AV}{good:α->Prop}(sc:Bool)(ht:prog.underlying t=some (.slice e))(he:prog.cellsOf e=s)(hs0:0<s)(hb:0<prog.bytesOf e)(hlen:∀a,(c a).length=s)(hsc:sc=true-> ∀a,∀x∈c a,∃y,x= .v y)
  (hs:Sh e (λ aZ=> ∃a,aZ=c a/\good a)):Sh t (λ aZ=> ∃l:List α,aZ=[.sl s l.length sc (og c l)]/\(∀a∈l,good a)/\l.length<=140737488355328):=by
 refine⟨λ H enc w spare held fuel cs x h hw=>?_⟩;rcases DataW.trod_slice ht h with⟨rfl,rfl⟩|⟨a,len,cap,elems,rest,n,_,rfl,rfl,_,hlc,hcm,hel,hg,_,_⟩
 ·refine⟨[.sl s 0 sc (og c [])],aG.cons (.sl s 0 sc _ none 0 [] hs0 (aoH _) (aoB _) s_ (λ i hi=>absurd hi (aoM _)) (λ _ x hx=>by simp[flat]at hx) (λ i x u hx=>by simp[flat]at hx) (.inl rfl)) aG.nil,[],rfl,(λ a ha=>by cases ha),aoB _⟩
 ·rw[he]at hg;simp only[DataW.weights,ht]at hw;have hwb:=hw ((elems.length+rest.length)*prog.bytesOf e) s_;have hr:reachBytes<=140737488355328:=d_
  have hlm:elems.length<=140737488355328:=by
   have:elems.length*1<=(elems.length+rest.length)*prog.bytesOf e:=Nat.mul_le_mul (Nat.le_add_right _ _) hb;omega
  have hwe:∀n∈DataW.weightsAll prog e (elems.map (·.1)),n<=reachBytes:=λ n hn=>hw n (by simp only[aot,aov]at hn⊢;simp[hn]);have main:∀(k o:Nat)(elems:List (DataW H×List MemPlace)),elems.length=k->(∀i,i<k->(w.cells? 0 (a.add ((o+i)*s)) s).bind (DataW.trod enc prog w 0 spare held n e)=elems[i]?)->(∀n∈DataW.weightsAll prog e (elems.map (·.1)),n<=reachBytes)->
    ∃(l:List α) (us:List Value),l.length=k/\us.length=k*s/\(∀a∈l,good a)/\aG (PC w (allOf w)) (l.flatMap c) us/\ ∀(j:Nat)(u:Value),us[j]? =some u->w.cell? (a.add (o*s+j))=some u:=by
   intro k;induction k with
   |zero=>intro o elems _ _ _;exact⟨[],[],rfl,s_,(λ a ha=>by cases ha),aG.nil,λ j u hj=>by simp at hj⟩
   |succ k ih=>
    intro o elems hl hg hw;cases elems with
    |nil=>simp at hl
    |cons x xs=>
     simp only[apd,DataW.weightsAll,aov]at hw;obtain⟨l,us,h1,h2,h3,h4,h5⟩:=ih (o+1) xs (by simpa using hl) (λ i hi=>by have:=hg (i+1) o_;rw[show o+1+i=o+(i+1) by omega];simpa using this) (λ n hn=>hw n (.inr hn));have g0:=hg 0 o_;simp only[aqL,apz,Option.bind_eq_some_iff]at g0;obtain⟨ds,hd1,hd2⟩:=g0;obtain⟨aZ,ha,a0,rfl,hg0⟩:=hs.h _ _ _ _ _ _ _ _ hd2 (λ n hn=>hw n (.inl hn));obtain⟨hdl,hdc⟩:=aeV hd1;refine⟨a0::l,ds++us,by simp[h1],by simp[hdl,h2,apN,Nat.add_comm], ?_,by simpa using aG.app ha h4,λ j u hj=>?_⟩
     ·intro a ha;rcases aot.1 ha with rfl|ha
      ·exact hg0
      ·exact h3 a ha
     ·by_cases hjs:j<s
      ·rw[aoS o_]at hj;have:=hdc j hjs;rw[hj]at this;rw[<-this,<-add_add a]
      ·rw[ao2 o_,hdl]at hj;have:=h5 _ _ hj;rw[<-this,show(o+1)*s+(j-s)=o*s+j by rw[apN];omega]
  obtain⟨l,us,h1,h2,h3,h4,h5⟩:=main elems.length 0 elems rfl (λ i hi=>by simpa using hg i o_) hwe;have hfl:flat len (og c l)=l.flatMap c:=by
   rw[<-hel,<-h1];exact vU c l
  refine⟨[.sl s len sc (og c l)],aG.cons (.sl s len sc _ (some a) cap us hs0 hlc hcm (by rw[h2,hel]) (λ i _=>hlen _) (λ anr x hx=>?_) (λ i x u hx hu=>?_) ?_) aG.nil,l,by rw[h1,hel],h3,o_⟩
  ·rw[hfl]at hx;obtain⟨a0,_,hx⟩:=List.mem_flatMap.1 hx;exact hsc anr a0 x hx
  ·rw[hfl]at hx;exact h4.2 i x u hx hu
  ·by_cases h0:len=0
   ·exact .inl h0
   ·obtain⟨b,o,sp⟩:=a;have hpos:0<us.length:=by rw[h2,hel];exact Nat.mul_pos o_ hs0
    have c0:=h5 0 _ (aom hpos);have hsp:sp=none:=by simpa[Addr.add]using World.cell?_spot c0
    subst hsp;refine .inr ⟨b,o,rfl, ?_,λ j u hj=>?_⟩
    ·rcases aoP b w.heap.size with h|h
     ·exact h
     ·exfalso;unfold World.cell? at c0;rw[apU (by simpa[Addr.add]using h)]at c0;cases c0
    ·have:=h5 j u hj;rw[aqN,apl]at this;rw[<-this,add_lit]
section
variable{H:Type}{enc:TypeId×Value->H}{w:World}{spare:Nat->Bool}{held:Bool}{v:Value}{d:DataW H}{p:List MemPlace}{r:Reach}{b0:Nat}
theorem aah{t:TypeId}{S:List AV->Prop}(hs:Sh t S)(h1:∀aZ,S aZ->aZ.length=1)(h:DataW.Trod enc prog w 0 spare held t v d p)(hw:∀n∈d.weights prog t,n<=reachBytes)(hv:v.cells.toList=[v]):∃x,S [x]/\C1 ⟨w,allOf w,λ _=>undef⟩ x v:=by
 obtain⟨fuel,hf⟩:=h;obtain⟨aZ,ha,hS⟩:=hs.h _ _ _ _ _ _ _ _ hf hw;match aZ,h1 aZ hS with
 |[x],_=>
  rw[hv]at ha;exact⟨x,hS,C1.vG (C0.Uh (X:=⟨w,allOf w,λ _=>undef⟩) (ha.2 0 x v rfl rfl))⟩
theorem Jc{t:TypeId}{S:List AV->Prop}(hs:Sh t S)(h:DataW.Trod enc prog w 0 spare held t v d p)(hw:∀n∈d.weights prog t,n<=reachBytes)(hv:∃cs,v= .agg cs):∃xs,S xs/\C1 ⟨w,allOf w,λ _=>undef⟩ (.agg xs) v:=by
 obtain⟨cs,rfl⟩:=hv;obtain⟨fuel,hf⟩:=h;obtain⟨aZ,ha,hS⟩:=hs.h _ _ _ _ _ _ _ _ hf hw;exact⟨aZ,hS,cs.toList,rfl,(show aG (PC w (allOf w)) aZ cs.toList from ha).imp λ _ _ h=>C0.Uh (X:=⟨w,allOf w,λ _=>undef⟩) h⟩
end
theorem jL{H:Type}{ts:List TypeId}{ds:List (DataW H)}(h:(DataW.weightsEach prog ts ds).all (·<=reachBytes)=true){j:Nat}{t:TypeId}{d:DataW H}(ht:ts[j]? =some t)(hd:ds[j]? =some d):
  ∀n∈d.weights prog t,n<=reachBytes:=λ n hn=>by
 simpa using aoD.1 h _ (DataW.weights_mem_each ht hd n hn)
theorem Jd{f:FuncId}{aZ:List AV}(h:aH prog f aZ (.v (.bool true)) []){W:World}{args:List Value}(ha:aG (C1 ⟨W,allOf W,λ _=>undef⟩) aZ args):
  Calls prog f args.toArray W λ e W'=>e= .returned (.bool true)/\Below W.heap.size W W':=
 (h.2 W (allOf W) args (λ _ hb=>hb) ha).mono λ e W' ⟨u,ρ,h1,h2,h3,_⟩=>⟨by rw[h1,show u= .bool true from h3],h2⟩
end
section
open Go.ChangeShapes Go.WideShapes Go.ChangeAt Go.RowKit
def Ev.rng(e:Ev):Prop:=e.key.size<=140737488355328/\e.v.size<=140737488355328
theorem aeW:Sh 56 (λ aZ=> ∃l:List UInt8,aZ=[.sl 1 l.length true (aO l)]/\l.length<=140737488355328):=
 (Vg (s:=1) (c:=bC) (good:=λ _=>True) true Tryz.underlying56 (by kernel_rfl) o_ (of_decide_eq_true (by kernel_rfl)) (λ _=>rfl) (λ _ a x hx=>⟨_,aoo.1 hx⟩)
  ((lV Tryz.underlying5).imp λ aZ ⟨n,e,hw⟩=>⟨UInt8.ofNat n.toNat,by
   rw[e];have:0<=n/\n<=255:=by simpa[Lit.wf,IntKind.min,IntKind.max,IntKind.signed,IntKind.bits]using hw
   show _=[AV.v (.int .u8 ((UInt8.ofNat n.toNat).toNat:Int))];rw[apS,ap0 o_];congr 3;omega,trivial⟩)).imp λ _ ⟨l,e,_,h⟩=>⟨l,e,h⟩
section
variable{H:Type}{enc:TypeId×Value->H}{w:World}{spare:Nat->Bool}{held:Bool}{v:Value}{d:DataW H}{p:List MemPlace}{r:Reach}{b0:Nat}
theorem abx(hv:Value.okWide prog w r b0 56 v)(h:DataW.Trod enc prog w 0 spare held 56 v d p)(hw:∀n∈d.weights prog 56,n<=reachBytes):∃l:List UInt8,l.length<=140737488355328/\C1 ⟨w,allOf w,λ _=>undef⟩ (.sl 1 l.length true (aO l)) v:=by
 obtain⟨a,n,c,rfl⟩:=okWide_slice Tryz.underlying56 hv;obtain⟨x,⟨l,e,hl⟩,hc⟩:=aah aeW (λ _ ⟨l,e,_⟩=>by rw[e];rfl) h hw rfl;cases e;exact⟨l,hl,hc⟩
end
end
section
open Go.ChangeShapes Go.WideShapes Go.ChangeAt Go.RowKit
structure Ch0 where
 (r f:Int)(sy:Bool)(k:Int)(key:ByteArray)(l:Int)(v:ByteArray)
instance:Inhabited Ch0:=⟨⟨0,0,false,0,⟨#[]⟩,0,⟨#[]⟩⟩⟩
def Ch0.cs(c:Ch0):List AV:=[.v (.int .u8 c.r),.v (.int .u8 c.f),.v (.bool c.sy),.v (.int .i64 c.k),.v (.string c.key),.v (.int .i64 c.l),.v (.string c.v)]
def Ch0.av(c:Ch0):AV:= .agg c.cs
def Ch0.rng(c:Ch0):Prop:=(0<=c.r/\c.r<=255)/\(0<=c.f/\c.f<=255)/\ -9223372036854775808<=c.k/\c.k<=9223372036854775807/\ -9223372036854775808<=c.l/\c.l<=9223372036854775807/\c.key.size<=140737488355328/\c.v.size<=140737488355328
section
variable{H:Type}{enc:TypeId×Value->H}{w:World}{spare:Nat->Bool}{held:Bool}{v:Value}{d:DataW H}{p:List MemPlace}{r:Reach}{b0:Nat}
end
end
end Go.Proofs.YtifjccndenojlaaGreat
