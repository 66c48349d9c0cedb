/-
  Contracts of the walk:BkB,BkC,BkD,BkS,BkL,BkF,BkG,H3,OpG,BkO,Ch,Mk1,Mk2.
-/
import Derived.Test.YtkimgljckickcaaGreatRa9
import Derived.Test.YtkimgljckickcaaGreatRa8
import Derived.Lib.RowBridge
import Derived.Laws.StructEq
import Derived.Laws.Cover2
import Derived.Test.YtkimgljckickcaaGreatRows
import Derived.ProofKit
import Derived.OpenShut
import Derived.SizedLaws
import Derived.ChangeOld
import Derived.Test.YtkimgljckickcaaGreatRa1
set_option maxHeartbeats 16000000
set_option maxRecDepth 100000
set_option linter.unusedVariables false
set_option linter.unusedSimpArgs false
namespace Go.Proofs.YtkimgljckickcaaGreat
open Go.RowKit
open Go.Proofs.Tryz
variable{M:Int}{j n:Nat}{p:Prop}{α:Type}
theorem qF.none:∀fs:List (List (Nat×AV)),qF fs (fs.map λ _=>[])
 |[]=>trivial
 |_::fs=>⟨λ _=> .inl rfl,qF.none fs⟩
theorem dZ.mkB{st:AS}(σ:List (Nat×Nat))(l:List (Nat×AV))(h:List (Nat×AO))(b:Nat)(nd:nodupB (σ.map (·.2))=true)(ht:LeT (st.ren σ) l)(hh:LeH (st.ren σ) h)(hn:nodupB (h.map (·.1))=true):dZ σ st ⟨l,h,(st.ren σ).back.map λ _=>[],b⟩:=
 ⟨nd,let k:=Iw.mk' l h ht hh hn;⟨k.tm,k.hp,k.nd,qF.none _⟩⟩
theorem Ql[Inhabited α]{p:α->Bool}{l:List α}(hj:j<l.length)(h:p (l.getD j default)=true):l.any p=true:=by
 rw[an6];refine⟨l.getD j default, ?_,h⟩;rw[List.getD,amX hj];exact anH _
theorem any_none[Inhabited α]{p:α->Bool}{l:List α}(h:∀i,i<l.length->p (l.getD i default)=false):l.any p=false:=by
 rw[ao8];intro x hx;obtain⟨i,hi,rfl⟩:=anR hx;have:=h i hi;rw[List.getD,amX hi]at this;simpa using this
theorem wQ(k:Int)(g:FuncId)(same:Ev->Ev->Bool)(hs:∀a b,aF prog g [a.av,b.av] (.v (.bool (same a b))) [])(l:List Ev)(e:Ev)(hl:l.length<=140737488355328):
  aF prog 102 [.agg [.v (.int .i64 k),.v (.func (.func g) #[] #[])],.sl 12 l.length true (dA l),e.av] (.v (.bool (fK k same l e))) []:=by
 have hyes:∀j,j<l.length->(l.getD j default).k=k->same (l.getD j default) e=true->aJ e (l.getD j default)=true->fK k same l e=true:=λ j hj h1 h2 h3=>Ql hj (by rw[h1,h2,h3];simp);have hno:(∀i,i<l.length->(decide ((l.getD i default).k=k)&&(same (l.getD i default) e&&aJ e (l.getD i default)))=false)->fK k same l e=false:=λ h=>any_none h;generalize fK k same l e=R at hyes hno;dsimp only[Ev.av];dsimp only[Ev.cs];refine K1.E 0x6f func102 ?_;repeat' ((conv=>whnf);first|refine K1.I 0x13 func151 ?_|refine K1.I 0x103b3 func203 ?_|fail)
 conv=>whnf
 refine aI.mk {j:Nat//j<=l.length/\ ∀i,i<j->(decide ((l.getD i default).k=k)&&(same (l.getD i default) e&&aJ e (l.getD i default)))=false} (λ j=>⟨[(8,.v (.int .i64 (j.1:Int))),(7,.v (.int .i64 (l.length:Int))),(0,.sl 12 l.length true (dA l)),(1,.fn 152 [.box 0 0,.box 1 0])],
   [(1,.box 74 e.cs),(0,.box 189 [.v (.int .i64 k),.v (.func (.func g) #[] #[])])],[[],[]],2⟩) (λ j=>l.length-j.1) ⟨0,ane _,λ i h=>absurd h (anA i)⟩ _
  (dZ.mkB [] _ _ _ rfl gQ nM rfl) ?_
 rintro⟨j,hj,hall⟩;dsimp only;by_cases hjl:j<l.length
 ·have hsj:=hs (l.getD (j:Int).toNat default) e;have hbj:=wM e (l.getD (j:Int).toNat default);have hyj:=hyes j hjl;rw[show j=(j:Int).toNat by omega]at hyj;have hnj:(decide ((l.getD (j:Int).toNat default).k=k)&&(same (l.getD (j:Int).toNat default) e&&aJ e (l.getD (j:Int).toNat default)))=false-> ∀i,i<j+1->(decide ((l.getD i default).k=k)&&(same (l.getD i default) e&&aJ e (l.getD i default)))=false:=by
   intro h i hi;rcases anr i j with h'|h'
   ·exact hall i h'
   ·obtain rfl:i=j:=o_
    rwa [show(i:Int).toNat=i by omega]at h
  dsimp only[Ev.av,Ev.cs]at hsj hbj⊢;generalize same (l.getD (j:Int).toNat default) e=q1 at hsj hyj hnj;generalize aJ e (l.getD (j:Int).toNat default)=q2 at hbj hyj hnj;repeat' ((conv=>whnf);first|refine K1.u ?_|refine K1.P1 hsj ?_|refine K1.P1 hbj ?_|refine K1.I 0x1f func152 ?_|refine aT.fH ?_|refine K1.y (λ _=>?_) (λ _=>?_)|fail)
  all_goals(conv=>whnf)
  all_goals first
   |(rw[hyj a_ a_ a_];exact bF.mk (bY))
   |exact⟨⟨j+1,o_,hnj (by first|(rw[decide_eq_false a_];rfl)|(rw[show q1=false by assumption];simp)|(rw[show q2=false by assumption];simp))⟩,_,dZ.mk' [] _ _ _ rfl gQ nM rfl,by show l.length-(j+1)<l.length-j;omega⟩
 ·have hR:R=false:=hno λ i hi=>hall i o_;repeat' ((conv=>whnf);first|refine K1.u ?_|refine aT.fH ?_|fail)
  all_goals(conv=>whnf)
  rw[hR];exact bF.mk (bY)
theorem Jw(k:Int)(g:FuncId)(same:Ev->Ev->Bool)(hs:∀a b,aF prog g [a.av,b.av] (.v (.bool (same a b))) [])(l:List Ev)(e:Ev)(hl:l.length<=140737488355328):
  aF prog 104 [.agg [.v (.int .i64 k),.v (.func (.func g) #[] #[])],.sl 12 l.length true (dA l),e.av] (.v (.bool (iq k same l e))) []:=by
 have hyes:∀j,j<l.length->(l.getD j default).k=k->same (l.getD j default) e=true->aJ (l.getD j default) e=true->iq k same l e=true:=λ j hj h1 h2 h3=>Ql hj (by rw[h1,h2,h3];simp);have hno:(∀i,i<l.length->(decide ((l.getD i default).k=k)&&(same (l.getD i default) e&&aJ (l.getD i default) e))=false)->iq k same l e=false:=λ h=>any_none h;generalize iq k same l e=R at hyes hno;dsimp only[Ev.av];dsimp only[Ev.cs];refine K1.E 0x6f func104 ?_;repeat' ((conv=>whnf);first|refine K1.I 0x13 func151 ?_|refine K1.I 0x103b3 func203 ?_|fail)
 conv=>whnf
 refine aI.mk {j:Nat//j<=l.length/\ ∀i,i<j->(decide ((l.getD i default).k=k)&&(same (l.getD i default) e&&aJ (l.getD i default) e))=false} (λ j=>⟨[(8,.v (.int .i64 (j.1:Int))),(7,.v (.int .i64 (l.length:Int))),(0,.sl 12 l.length true (dA l)),(1,.fn 154 [.box 0 0,.box 1 0])],
   [(1,.box 74 e.cs),(0,.box 189 [.v (.int .i64 k),.v (.func (.func g) #[] #[])])],[[],[]],2⟩) (λ j=>l.length-j.1) ⟨0,ane _,λ i h=>absurd h (anA i)⟩ _
  (dZ.mkB [] _ _ _ rfl gQ nM rfl) ?_
 rintro⟨j,hj,hall⟩;dsimp only;by_cases hjl:j<l.length
 ·have hsj:=hs (l.getD (j:Int).toNat default) e;have hbj:=wM (l.getD (j:Int).toNat default) e;have hyj:=hyes j hjl;rw[show j=(j:Int).toNat by omega]at hyj;have hnj:(decide ((l.getD (j:Int).toNat default).k=k)&&(same (l.getD (j:Int).toNat default) e&&aJ (l.getD (j:Int).toNat default) e))=false-> ∀i,i<j+1->(decide ((l.getD i default).k=k)&&(same (l.getD i default) e&&aJ (l.getD i default) e))=false:=by
   intro h i hi;rcases anr i j with h'|h'
   ·exact hall i h'
   ·obtain rfl:i=j:=o_
    rwa [show(i:Int).toNat=i by omega]at h
  dsimp only[Ev.av,Ev.cs]at hsj hbj⊢;generalize same (l.getD (j:Int).toNat default) e=q1 at hsj hyj hnj;generalize aJ (l.getD (j:Int).toNat default) e=q2 at hbj hyj hnj;repeat' ((conv=>whnf);first|refine K1.u ?_|refine K1.P1 hsj ?_|refine K1.P1 hbj ?_|refine K1.I 0x1f func154 ?_|refine aT.fH ?_|refine K1.y (λ _=>?_) (λ _=>?_)|fail)
  all_goals(conv=>whnf)
  all_goals first
   |(rw[hyj a_ a_ a_];exact bF.mk (bY))
   |exact⟨⟨j+1,o_,hnj (by first|(rw[decide_eq_false a_];rfl)|(rw[show q1=false by assumption];simp)|(rw[show q2=false by assumption];simp))⟩,_,dZ.mk' [] _ _ _ rfl gQ nM rfl,by show l.length-(j+1)<l.length-j;omega⟩
 ·have hR:R=false:=hno λ i hi=>hall i o_;repeat' ((conv=>whnf);first|refine K1.u ?_|refine aT.fH ?_|fail)
  all_goals(conv=>whnf)
  rw[hR];exact bF.mk (bY)
theorem jq{p:Ev->Bool}{l:List Ev}(hj:j<l.length):(l.take (j+1)).filter p=(l.take j).filter p++(if p (l.getD j default)=true then [l.getD j default]else []):=by
 rw[aoa,amX hj,List.getD,amX hj,aoq];congr 1;simp[anX]
abbrev agL(p:Ev->Bool)(l:List Ev):Type:={x:Nat×List Ev//x.1<=l.length/\x.2=(l.take x.1).filter p}
section
open Go.RowKit Go.Sort
def jh(l:List (List UInt8)):Nat->List AV:=λ i=>[.v (encStr (l.getD i []))]
def sortL(l:List (List UInt8)):List (List UInt8):=l.mergeSort λ x y=>decide (x<=y)
theorem yR:∀l:List (List UInt8),flat l.length (jh l)=l.map λ x=>AV.v (encStr x)
 |[]=>rfl
 |x::l=>by
  show [AV.v (encStr x)]++flat l.length (jh l)=_;rw[yR l];rfl
theorem alT{w:World}{keep:Nat->Prop}{x u:Value}(h:PC w keep (.v x) u):u=x:=by cases h;rfl
theorem adt{w:World}{keep:Nat->Prop}{l:List (List UInt8)}{us:List Value}(h:aC (PC w keep) (flat l.length (jh l)) us):us=l.map encStr:=by
 rw[yR]at h;apply aos;intro i;rcases anr i us.length with hi|hi
 ·have hl:i<l.length:=by have:=h.1;rw[anu]at this;omega
  have h2:=h.2 i (.v (encStr l[i])) us[i] (by rw[anE,amX hl];rfl) (amX hi);rw[amX hi,anE,amX hl,alT h2];rfl
 ·have hl:l.length<=i:=by have:=h.1;rw[anu]at this;omega
  rw[anz hi,anz (by rw[anu];exact hl)]
theorem adu{w:World}{keep:Nat->Prop}(l:List (List UInt8)):aC (PC w keep) (flat l.length (jh l)) (l.map encStr):=by
 rw[yR];refine⟨s_,λ i x u hx hu=>?_⟩;rw[anE]at hx hu;cases hl:l[i]? with
 |none=>rw[hl]at hx;cases hx
 |some y=>
  rw[hl]at hx hu;simp only[aoo,ank]at hx hu;subst hx hu;exact .v _ rfl
theorem YK{w:World}{keep:Nat->Prop}{ρ:Nat->Value}{id g cap:Nat}{cur:Array Value}(l:List (List UInt8))(hv:ρ id= .slice (some ⟨g,0,none⟩) l.length cap)(hg:w.heap[g]? =some (.cells cur 9 (0,0)))(h1:l.length<=cap)(h2:cap<=maxLen)(h3:cur.size=cap)(h4:cur.toList.take l.length=l.map encStr):
  aQ ⟨w,keep,ρ⟩ id (.row 9 1 l.length true (jh l)):=by
 refine⟨l.map encStr,⟨s_,.inr ⟨g,cap,cur,hv,ane _,hg,h1,h2,o_,by rw[Nat.mul_one];exact h4⟩⟩,o_,λ _ _=>rfl,λ _ x hx=>?_,adu l⟩;rw[yR]at hx;obtain⟨y,_,rfl⟩:=ant.1 hx;exact⟨_,rfl⟩
theorem TN{α:Type}[Inhabited α](enc:α->Value)(w:World)(n g:Nat)(d:Array α)(os:Array Obj){cur:Array Value}{e:TypeId}(h:w.heap[g]? =some (.cells cur e (0,0))):
  w.heap.size<=(grow (putRow enc (Go.Sort.ahead w n) g 0 d) os).heap.size/\(∀k,k<w.heap.size->k≠g->(grow (putRow enc (Go.Sort.ahead w n) g 0 d) os).heap[k]? =w.heap[k]?)/\(grow (putRow enc (Go.Sort.ahead w n) g 0 d) os).heap[g]? =some (.cells (putCells enc 0 d cur) e (0,0)):=by
 have hlt:g<w.heap.size:=by
  rcases anr g w.heap.size with h'|h'
  ·exact h'
  ·rw[aoA h']at h;cases h
 refine⟨by simp[grow,putRow,mapBlock,Go.Sort.ahead],λ k hk hne=>?_, ?_⟩
 ·simp only[grow,putRow,mapBlock,Go.Sort.ahead];rw[Array.getElem?_append_left (by rw[Array.size_modify];exact hk),Array.getElem?_modify,if_neg (λ e=>hne e.symm)]
 ·simp only[grow,putRow,mapBlock,Go.Sort.ahead];rw[Array.getElem?_append_left (by rw[Array.size_modify];exact hlt),Array.getElem?_modify,if_pos rfl,h];rfl
theorem TP(d:List (List UInt8))(cur:Array Value)(n:Nat)(h:d.length<=cur.size)(hn:n<=d.length):(putCells encStr 0 d.toArray cur).toList.take n=(d.take n).map encStr:=by
 apply aos;intro i;rw[anU,anE,anU];by_cases hi:i<n
 ·rw[if_pos hi,if_pos hi];have hc:i<cur.size:=o_
  have hd:i<d.length:=o_
  rw[aod];simp only[putCells,Array.getElem?_mapIdx,aoT hc,aoo];rw[if_pos (by simp;omega),amX hd];simp[hd]
 ·rw[if_neg hi,if_neg hi];rfl
theorem NC{w:World}{g:Nat}{cur:Array Value}{e:TypeId}(l:List (List UInt8))(hg:w.heap[g]? =some (.cells cur e (0,0)))(h:cur.toList.take l.length=l.map encStr):Holds encStr w g 0 l.toArray:=by
 intro j hj;have hj:j<l.length:=hj;have hc:cur[j]? =some (encStr l[j]):=by
  have:=congrArg (·[j]?) h;simp only[anU,anE,amX hj,if_pos hj,aoo,aod]at this;exact this
 constructor
 ·simp[World.cell?,hg,hc,hj]
 ·simp[World.frozen?,hg]
theorem wR(l:List (List UInt8))(hl:l.length<=1000000000):
  aj prog 59 [(0,.row 9 1 l.length true (jh l))] [.own 0] (.aZ []) [(0,.row 9 1 l.length true (jh (sortL l)))]:=by
 refine⟨⟨_,_,func59,rfl,rfl⟩,λ w keep ρ args hk jg hnd hbl hargs=>?_⟩;have hso:(sortL l).length=l.length:=aou ..;obtain⟨us,hown,_,_,_,ha⟩:=jg _ (amZ.2 rfl);have hus:=adt ha;subst hus;obtain⟨u,rfl,hu⟩:=qR hargs;have hu:u=ρ 0:=Eq.trans (show u=dD (ρ 0)from hu) (dY hown);subst hu;rcases hown.2 with⟨hv,hn⟩|⟨g,cap,cur,hv,_,hg,hncap,hcm,hcs,htk⟩
 ·have hnil:l=[]:=am9 hn;subst hnil;have hc:=Tryz.slices_Sort_string_none none 0 w;rw[show(ρ 0)= .slice none 0 0 from hv];refine hc.mono ?_;rintro e w' ⟨rfl,rfl⟩;refine⟨_,ρ,rfl,dG.refl _ _ _,λ _ _ _ _ _=> .refl _,⟨[],rfl,aC.nil⟩,λ p hp=>?_,hnd,λ b hb=> .inr hb⟩;obtain rfl:=amZ.1 hp;exact⟨[],⟨rfl,.inl ⟨hv,rfl⟩⟩,o_,λ i hi=>absurd hi (anA i),λ _ x hx=>absurd hx (by simp[flat]),aC.nil⟩
 ·have hlt:g<w.heap.size:=by
   rcases anr g w.heap.size with h'|h'
   ·exact h'
   ·rw[aoA h']at hg;cases hg
  rw[Nat.mul_one]at htk hcs;have hc:=Tryz.slices_Sort_string g 0 cap l w (NC l hg htk) hlt o_;rw[show(ρ 0)= .slice (some ⟨g,0,none⟩) l.length cap from hv];refine hc.mono ?_;rintro e w' ⟨rfl,n,os,rfl⟩;obtain⟨h1,h2,h3⟩:=TN encStr w n g (sortL l).toArray os hg;have hb:g∈ah ρ [(0,AO.row 9 1 l.length true (jh l))]:=aN.2 ⟨_,amZ.2 rfl,by rw[show ρ 0= .slice (some ⟨g,0,none⟩) l.length cap from hv];exact amW⟩;refine⟨_,ρ,rfl,⟨rfl,rfl,rfl,h1,λ k hk hM=>h2 k hk (by rintro rfl;exact hM hb)⟩,λ _ _ _ _ _=> .refl _,⟨[],rfl,aC.nil⟩,λ p hp=>?_,hnd,λ b hb=> .inr hb⟩;obtain rfl:=amZ.1 hp;have:=YK (w:=grow (putRow encStr (Go.Sort.ahead w n) g 0 (sortL l).toArray) os) (keep:=(aA (dN w keep (λ b=>b∈ah ρ [(0,AO.row 9 1 l.length true (jh l))])) (grow (putRow encStr (Go.Sort.ahead w n) g 0 (sortL l).toArray) os) ρ [(0,AO.row 9 1 l.length true (jh (sortL l)))]).keep) (ρ:=ρ) (id:=0) (sortL l) (by rw[hso];exact hv) h3 o_ hcm (by simp[putCells];exact hcs) (by rw[TP _ _ _ o_ (ani _),aof]);rw[hso]at this;exact this
theorem wS(l:List (List UInt8)):(Lib.compact l).length<=l.length:=Lib.compact_length_le l
theorem pJ(l:List (List UInt8))(hl:l.length<=1000000000):
  aj prog 60 [(0,.row 9 1 l.length true (jh l))] [.own 0] (.own 1) [(1,.row 9 1 (Lib.compact l).length true (jh (Lib.compact l)))]:=by
 refine⟨⟨_,_,func60,rfl,rfl⟩,λ w keep ρ args hk jg hnd hbl hargs=>?_⟩;have hle:=wS l;obtain⟨us,hown,_,_,_,ha⟩:=jg _ (amZ.2 rfl);have hus:=adt ha;subst hus;obtain⟨u,rfl,hu⟩:=qR hargs;have hu:u=ρ 0:=Eq.trans (show u=dD (ρ 0)from hu) (dY hown);subst hu;rcases hown.2 with⟨hv,hn⟩|⟨g,cap,cur,hv,_,hg,hncap,hcm,hcs,htk⟩
 ·have hnil:l=[]:=am9 hn;subst hnil;have hc:=Tryz.slices_Compact_string_empty none 0 w;rw[show(ρ 0)= .slice none 0 0 from hv];refine hc.mono ?_;rintro e w' ⟨rfl,rfl⟩;let ρ':Nat->Value:=λ _=> .slice none 0 0;refine⟨_,ρ',rfl,dG.refl _ _ _,λ p hp q hq h=>?_,rfl,λ p hp=>?_, ?_, ?_⟩
  ·obtain rfl:=amZ.1 hp;obtain rfl:=amZ.1 hq;cases h
  ·obtain rfl:=amZ.1 hp;exact⟨[],⟨rfl,.inl ⟨rfl,rfl⟩⟩,o_,λ i hi=>absurd hi (anA i),λ _ x hx=>absurd hx (by rw[show Lib.compact ([]:List (List UInt8))=[]from rfl];simp[flat]),aC.nil⟩
  ·simp[ah,ρ',blks,iK]
  ·intro b hb;simp[ah,ρ',blks,iK]at hb
 ·have hlt:g<w.heap.size:=by
   rcases anr g w.heap.size with h'|h'
   ·exact h'
   ·rw[aoA h']at hg;cases hg
  rw[Nat.mul_one]at htk hcs;have hc:=Tryz.slices_Compact_string g 0 cap l w (NC l hg htk) o_ hncap;rw[show(ρ 0)= .slice (some ⟨g,0,none⟩) l.length cap from hv];refine hc.mono ?_;rintro e w' ⟨rfl,n,rfl⟩;obtain⟨d,hd⟩:∃d,d=Lib.compact l++List.replicate (l.length-(Lib.compact l).length) []:=⟨_,rfl⟩;have hdl:d.length=l.length:=by rw[hd,am0,aoC];omega
  rw[<-hd];obtain⟨h1,h2,h3⟩:=TN encStr w n g d.toArray #[] hg;rw[grow_empty]at h1 h2 h3;have hb:g∈ah ρ [(0,AO.row 9 1 l.length true (jh l))]:=aN.2 ⟨_,amZ.2 rfl,by rw[show ρ 0= .slice (some ⟨g,0,none⟩) l.length cap from hv];exact amW⟩;let ρ':Nat->Value:=λ _=> .slice (some ⟨g,0,none⟩) (Lib.compact l).length cap;refine⟨_,ρ',rfl,⟨rfl,rfl,rfl,h1,λ k hk hM=>h2 k hk (by rintro rfl;exact hM hb)⟩,λ p hp q hq h=>?_,rfl,λ p hp=>?_, ?_, ?_⟩
  ·obtain rfl:=amZ.1 hp;obtain rfl:=amZ.1 hq;cases h
  ·obtain rfl:=amZ.1 hp;exact YK (Lib.compact l) rfl h3 o_ hcm (by simp[putCells];exact hcs) (by rw[TP _ _ _ o_ o_,hd,apd])
  ·simp[ah,ρ',blks,iK]
  ·intro b hbm;have:b=g:=by simpa[ah,ρ',blks,iK]using hbm
   subst this;exact .inr hb
end
abbrev St:=Int×Int
def stV(a:St):List Value:=[.int .i64 a.1,.int .i64 a.2]
def stC(a:St):List AV:=[.v (.int .i64 a.1),.v (.int .i64 a.2)]
abbrev stF(l:List St):Nat->List AV:=qh stC l
def ku(a b:St):Bool:=if a.1=b.1 then decide (a.2<b.2)else decide (a.1<b.1)
def qU(m:St)(l:List St):St:=l.foldl (λ m s=>if ku m s=true then s else m) m
def DL(l:List St):Nat:=l.findIdx λ s=>decide (s=qU (l.getD 0 default) l)
theorem YL:∀(l:List St)(m:St),qU m l=m\/qU m l∈l
 |[],_=> .inl rfl
 |x::l,m=>by
  show qU (if ku m x=true then x else m) l=m\/_;rcases YL l (if ku m x=true then x else m)with h|h
  ·split at h
   ·rename_i hx;exact .inr (by show qU (if ku m x=true then x else m) l∈_;rw[if_pos hx,h];exact amW)
   ·rename_i hx;exact .inl (by rw[if_neg hx];exact h)
  ·exact .inr (am1 _ h)
theorem DN{l:List St}(h:l≠[]):DL l<l.length:=by
 have hm:qU (l.getD 0 default) l∈l:=by
  rcases YL l (l.getD 0 default)with h'|h'
  ·rw[h'];cases l with
   |nil=>exact absurd rfl h
   |cons x l=>exact amW
  ·exact h'
 exact List.findIdx_lt_length_of_exists ⟨_,hm,s_⟩
theorem adv{m:St}{l:List St}(hj:j<l.length):qU m (l.take (j+1))=if ku (qU m (l.take j)) (l.getD j default)=true then l.getD j default else qU m (l.take j):=by
 unfold qU;rw[aoa,amX hj,aoj,List.getD,amX hj];rfl
theorem adw:prog.eqGuardType prog.depth 196=false:=by kernel_rfl
theorem agM(a b:St)(w:World):(Op.equalIn 10000 196 (.agg (stV a).toArray) (.agg (stV b).toArray)).run prog w= .ok (decide (a.1=b.1/\a.2=b.2)) w:=by
 have hS:prog.underlying 196=some (.struct (prog.fieldsOf 196)):=by kernel_rfl
 have u3:=Tryz.underlying3;have a3:=Tryz.isAgg3;have z3:=Tryz.sizeOf3;rw[show(10000:Nat)=9999+1 from rfl,run_equalIn_agg w 9999 196 _ _ hS (by kernel_rfl)];simp only[Program.fieldsOf,Tryz.underlying196];unfold stV;go_simp;repeat' split
 all_goals simp_all
theorem akH(a b:St):EN prog 196 (stV a) (stV b) (a=b):=
 ⟨adw,λ w=>⟨_,by rw[decide_eq_true_eq];exact⟨λ h=>Prod.ext h.1 h.2,λ h=>by rw[h];exact⟨rfl,rfl⟩⟩,agM a b w⟩⟩
theorem aaf(a b:St):aF prog 166 [.agg (stC a),.agg (stC b)] (.v (.bool (ku a b))) []:=by
 dsimp only[stC];refine K1.E 0x21f func166 ?_;repeat' ((conv=>whnf);first|refine aT.fH ?_|refine K1.y (λ _=>?_) (λ _=>?_)|fail)
 all_goals(conv=>whnf)
 all_goals(refine bF.mk (dJ.of ?_))
 all_goals simp[ku, *]
theorem E8(l:List St)(hne:l≠[])(hl:l.length<=1000000000):aF prog 107 [.sl 2 l.length true (stF l)] (.v (.int .i64 (DL l:Int))) []:=by
 have hpos:0<l.length:=List.length_pos_iff.2 hne;refine K1.E 0x41e43c4ed func107 ?_;repeat' ((conv=>whnf);first|refine K1.u ?_|fail)
 conv=>whnf
 refine aI.mk {j:Nat//j<=l.length} (λ j=>⟨[(0,.sl 2 l.length true (stF l)),(3,.box 0 0),(14,.sl 2 l.length true (stF l)),(15,.v (.int .i64 (l.length:Int))),(16,.v (.int .i64 (j.1:Int)))],
   [(0,.box 196 (stC (qU (l.getD 0 default) (l.take j.1))))],[],1⟩) (λ j=>l.length-j.1) ⟨0,ane _⟩ _
  (dZ.mk' [] _ _ _ rfl gQ nM rfl) ?_
 rintro⟨j,hj⟩;dsimp only;by_cases hjl:j<l.length
 ·have hst:=adv (m:=l.getD 0 default) hjl;have hls:=aaf (qU (l.getD 0 default) (l.take j)) (l.getD (j:Int).toNat default);generalize qU (l.getD 0 default) (l.take j)=t at hst hls⊢;rw[show l.getD j default=l.getD (j:Int).toNat default from rfl]at hst;generalize ku t (l.getD (j:Int).toNat default)=q at hst hls;dsimp only[stC]at hls⊢;repeat' ((conv=>whnf);first|refine K1.u ?_|refine K1.P1 hls ?_|refine K1.y (λ _=>?_) (λ _=>?_)|fail)
  all_goals(conv=>whnf)
  all_goals first
   |(refine⟨⟨j+1,hjl⟩,_,dZ.mk' [] _ _ _ rfl gQ ⟨⟨_,rfl, ?_⟩,trivial⟩ rfl,by show l.length-(j+1)<l.length-j;omega⟩
     show dK _ (.box _ (stC (qU (l.getD 0 default) (l.take (j+1)))));rw[hst,if_pos a_];exact dK.refl _)
   |(refine⟨⟨j+1,hjl⟩,_,dZ.mk' [] _ _ _ rfl gQ ⟨⟨_,rfl, ?_⟩,trivial⟩ rfl,by show l.length-(j+1)<l.length-j;omega⟩
     show dK _ (.box _ (stC (qU (l.getD 0 default) (l.take (j+1)))));rw[hst,if_neg (by rw[show q=false by assumption];simp)];exact dK.refl _)
 ·have hW:l.take j=l:=anf o_;rw[hW];have hlast:DL l=l.findIdx λ s=>decide (s=qU (l.getD 0 default) l):=rfl;have hlt:=DN hne;generalize qU (l.getD 0 default) l=t at hlast⊢;dsimp only[stC];repeat' ((conv=>whnf);first|refine K1.u ?_|fail)
  all_goals(conv=>whnf)
  refine aI.mk {j:Nat//j<=l.length/\ ∀i,i<j-> ¬l.getD i default=t} (λ j=>⟨[(3,.box 0 0),(25,.sl 2 l.length true (stF l)),(26,.v (.int .i64 (l.length:Int))),(27,.v (.int .i64 (j.1:Int)))],
   [(0,.box 196 (stC t))],[],1⟩) (λ j=>l.length-j.1) ⟨0,ane _,λ i h=>absurd h (anA i)⟩ _
   (dZ.mk' [] _ _ _ rfl gQ nM rfl) ?_
  rintro⟨j,hj,hall⟩;dsimp only;by_cases hjl:j<l.length
  ·have hret:l.getD (j:Int).toNat default=t->DL l=j:=by
    intro h;have h:l.getD j default=t:=h;rw[hlast];refine(List.findIdx_eq hjl).2 ⟨?_,λ i hi=>?_⟩
    ·rw[List.getD,amX hjl]at h;exact decide_eq_true h
    ·have:=hall i hi;rw[List.getD,amX o_]at this;exact decide_eq_false this
   have hno:¬l.getD (j:Int).toNat default=t-> ∀i,i<j+1-> ¬l.getD i default=t:=by
    intro h i hi;rcases anr i j with h'|h'
    ·exact hall i h'
    ·obtain rfl:i=j:=o_
     exact h
   dsimp only[stC];repeat' ((conv=>whnf);first|refine K1.u ?_|refine ZI.mk (stV (l.getD (j:Int).toNat default)) (stV t) (l.getD (j:Int).toNat default=t) rfl rfl (akH _ _) ?_|refine aT.fH ?_|refine K1.y (λ _=>?_) (λ _=>?_)|fail)
   all_goals(conv=>whnf)
   all_goals first
    |(rw[hret a_];exact bF.mk (bY))
    |exact⟨⟨j+1,hjl,hno a_⟩,_,dZ.mk' [] _ _ _ rfl gQ nM rfl,by show l.length-(j+1)<l.length-j;omega⟩
  ·exfalso;have h1:=hall (DL l) o_;rw[List.getD,amX hlt]at h1;have h2:decide (l[l.findIdx λ s=>decide (s=t)]'(hlast▸hlt)=t)=true:=List.findIdx_getElem (p:=λ s=>decide (s=t));have h3:=of_decide_eq_true h2;simp only[<-hlast]at h3;exact h1 h3
def VU(key:ByteArray)(n:Int)(e:Ev):Bool:=decide (e.key=key)&&decide (e.l=n)
def eU(key:ByteArray)(n:Int)(ws:List Ev):List Ev:=ws.filter λ e=>VU key n e&&decide (e.k=3)
def ig(key:ByteArray)(n:Int)(ws:List Ev):List Ev:=ws.filter λ e=>VU key n e&& !decide (e.k=3)
def dM(b:ByteArray):List UInt8:=b.data.toList
def dh(e:Ev):St:=(e.h,e.r)
theorem Jy(b:ByteArray):encStr (dM b)= .string b:=by
 obtain⟨a⟩:=b;simp[dM]
theorem Jz{l:List (List UInt8)}{x:List UInt8}{g:Nat->List AV}(hn:n=l.length)(hg:g 0=[.v (encStr x)]):∀i,i<n+1->lV n (jh l) g i=jh (l++[x]) i:=
 eF (c:=λ x=>[.v (encStr x)]) hn hg
structure Cont where
 (key:ByteArray)(h0 h1:Bool)(f0 f1:ByteArray)(s0 s1:List (List UInt8))
def Cont.cs(c:Cont):List AV:=[.v (.string c.key),.v (.bool c.h0),.v (.bool c.h1),.v (.string c.f0),.v (.string c.f1),.sl 1 c.s0.length true (jh c.s0),.sl 1 c.s1.length true (jh c.s1)]
def Qm(A:List Ev):Bool:= !decide (A.length=0)
def rZ(A:List Ev):ByteArray:=if A.length=0 then⟨#[]⟩else⟨((A.map λ e=>dM e.v).getD (DL (A.map dh)) []).toArray⟩
def valsF(B:List Ev):List (List UInt8):=Lib.compact (sortL (B.map λ e=>dM e.v))
def fC(key:ByteArray)(ws:List Ev):Cont:=⟨key,Qm (eU key 0 ws),Qm (eU key 1 ws),rZ (eU key 0 ws),rZ (eU key 1 ws),valsF (ig key 0 ws),valsF (ig key 1 ws)⟩
theorem ctF(h:p:=by
 refine⟨⟨j+1,hjl⟩,_,dZ.mk' s0 _ _ _ rfl gQ ?_ rfl,mea⟩;repeat' first
  |exact trivial
  |refine⟨⟨_,rfl,eqS (by rw[kA])⟩, ?_⟩
  |refine⟨⟨_,rfl,eqL (by rw[kA])⟩, ?_⟩
  |refine⟨⟨_,rfl,eqL (by rw[kB])⟩, ?_⟩
  |refine⟨dB rfl, ?_⟩
  |refine⟨⟨_,rfl,dK.row (by dsimp only;rw[kA,an2,am0];rfl) (λ m hm=>by dsimp only;rw[kA,an2];first|exact eF (c:=stC) (x:=dh (ws.getD (j:Int).toNat default)) rfl rfl m hm|exact Jz (x:=dM (ws.getD (j:Int).toNat default).v) rfl (by rw[Jy];rfl) m hm)⟩, ?_⟩
  |refine⟨⟨_,rfl,dK.row (by dsimp only;rw[kB,an2,am0];rfl) (λ m hm=>by dsimp only;rw[kB,an2];exact Jz (x:=dM (ws.getD (j:Int).toNat default).v) rfl (by rw[Jy];rfl) m hm)⟩, ?_⟩):p:=h
theorem ctB(h:p:=by
 have hA:(eU key q0 (ws.take j)).length<=j:=by
  have:=anj (λ e=>VU key q0 e&&decide (e.k=3)) (ws.take j);rw[am5]at this;unfold eU;omega
 have hB:(ig key q0 (ws.take j)).length<=j:=by
  have:=anj (λ e=>VU key q0 e&& !decide (e.k=3)) (ws.take j);rw[am5]at this;unfold ig;omega
 have sA:eU key q0 (ws.take (j+1))=eU key q0 (ws.take j)++(if(VU key q0 (ws.getD (j:Int).toNat default)&&decide ((ws.getD (j:Int).toNat default).k=3))=true then [(ws.getD (j:Int).toNat default)]else []):=jq hjl;have sB:ig key q0 (ws.take (j+1))=ig key q0 (ws.take j)++(if(VU key q0 (ws.getD (j:Int).toNat default)&& !decide ((ws.getD (j:Int).toNat default).k=3))=true then [(ws.getD (j:Int).toNat default)]else []):=jq hjl;generalize eU key q0 (ws.take j)=A at hA sA⊢;generalize ig key q0 (ws.take j)=B at hB sB⊢;have lA:(A.map dh).length=A.length:=anu ..;have lA2:(A.map λ e=>dM e.v).length=A.length:=anu ..;have lB:(B.map λ e=>dM e.v).length=B.length:=anu ..;have eqS {X Y:List St} (h:X=Y):dK (.row 196 2 X.length true (stF X)) (.row 196 2 Y.length true (stF Y)):=by rw[h];exact dK.refl _
 have eqL {X Y:List (List UInt8)} (h:X=Y):dK (.row 9 1 X.length true (jh X)) (.row 9 1 Y.length true (jh Y)):=by rw[h];exact dK.refl _
 have mea:ws.length-(j+1)<ws.length-j:=o_
 repeat' ((conv=>whnf);first|refine K1.w ?_|refine K1.a ?_|refine K1.y (λ _=>?_) (λ _=>?_)|fail)
 all_goals(conv=>whnf)
 ·have kA:eU key q0 (ws.take (j+1))=A++[(ws.getD (j:Int).toNat default)]:=by rw[sA,if_pos (by simp only[VU];rw[decide_eq_true a_,decide_eq_true a_,decide_eq_true a_];rfl)]
  have kB:ig key q0 (ws.take (j+1))=B:=by rw[sB,if_neg (by rw[decide_eq_true (show(ws.getD (j:Int).toNat default).k=3 by assumption)];simp),am2]
  let s0:=[(n0+5,n0),(n0+7,n0+1)];exact ctF
 ·have kA:eU key q0 (ws.take (j+1))=A:=by rw[sA,if_neg (by rw[decide_eq_false (show¬ (ws.getD (j:Int).toNat default).k=3 by assumption)];simp),am2]
  have kB:ig key q0 (ws.take (j+1))=B++[(ws.getD (j:Int).toNat default)]:=by rw[sB,if_pos (by simp only[VU];rw[decide_eq_true a_,decide_eq_true a_,decide_eq_false a_];rfl)]
  let s0:=[(n0+5,n0+2)];exact ctF
 all_goals
  have hof:VU key q0 (ws.getD (j:Int).toNat default)=false:=by
   unfold VU;first
    |(rw[decide_eq_false (show¬ (ws.getD (j:Int).toNat default).key=key by assumption)];rfl)
    |(rw[decide_eq_false (show¬ (ws.getD (j:Int).toNat default).l=q0 by assumption)];simp)
  have kA:eU key q0 (ws.take (j+1))=A:=by rw[sA,hof];simp
  have kB:ig key q0 (ws.take (j+1))=B:=by rw[sB,hof];simp
  let s0:List (Nat×Nat):=[];exact ctF):p:=h
theorem Qn(key:ByteArray)(ws:List Ev)(hl:ws.length<=1000000000):
  aF prog 61 [.v (.string key),.sl 12 ws.length true (dA ws)] (.agg (fC key ws).cs) []:=by
 dsimp only[fC,Cont.cs];refine K1.E 0x2000009001ecbf3 func61 ?_;repeat' ((conv=>whnf);first|refine K1.w ?_|fail)
 conv=>whnf
 refine aI.Au 14 3 rfl ?_;repeat' ((conv=>whnf);first|refine K1.a ?_|fail)
 conv=>whnf
 refine aI.nil 7 90 196 2 (stF []) rfl o_ ?_;refine aI.nil 8 91 9 1 (jh []) rfl o_ ?_;refine aI.nil 9 92 9 1 (jh []) rfl o_ ?_;conv=>whnf
 refine aI.mk {j:Nat//j<=ws.length} (λ j=>⟨[(0,.v (.string key)),(1,.sl 12 ws.length true (dA ws)),(4,.box 0 0),(5,.box 1 0),(6,.v (.int .i64 0)),(14,.v (.int .i64 0)),(7,.own 90),(8,.own 91),(9,.own 92),(17,.sl 12 ws.length true (dA ws)),(18,.v (.int .i64 (ws.length:Int))),(19,.v (.int .i64 (j.1:Int)))],
   [(0,_),(1,_),(90,.row 196 2 ((eU key 0 (ws.take j.1)).map dh).length true (stF ((eU key 0 (ws.take j.1)).map dh))),
    (91,.row 9 1 ((eU key 0 (ws.take j.1)).map λ e=>dM e.v).length true (jh ((eU key 0 (ws.take j.1)).map λ e=>dM e.v))),
    (92,.row 9 1 ((ig key 0 (ws.take j.1)).map λ e=>dM e.v).length true (jh ((ig key 0 (ws.take j.1)).map λ e=>dM e.v)))],[],93⟩) (λ j=>ws.length-j.1) ⟨0,ane _⟩ _
  (dZ.mk' [] _ _ _ rfl gQ nM rfl) ?_
 rintro⟨j,hj⟩;dsimp only;by_cases hjl:j<ws.length
 ·let q0:Int:=0;let n0:=90;exact ctB
 ·rw[anf (show ws.length<=j by omega)];have hA:(eU key 0 ws).length<=ws.length:=anj ..;have hB:(ig key 0 ws).length<=ws.length:=anj ..;generalize eU key 0 ws=A at hA⊢;generalize ig key 0 ws=B at hB⊢;have lA:(A.map dh).length=A.length:=anu ..;have lA2:(A.map λ e=>dM e.v).length=A.length:=anu ..;have lB:(B.map λ e=>dM e.v).length=B.length:=anu ..;have hso:=wR (B.map λ e=>dM e.v) o_;have hsl:(sortL (B.map λ e=>dM e.v)).length=(B.map λ e=>dM e.v).length:=aou ..;have hco:=pJ (sortL (B.map λ e=>dM e.v)) o_;rw[hsl]at hco;by_cases hz:A.length=0
  ·repeat' ((conv=>whnf);first|refine K1.w ?_|refine K1.a ?_|refine K1.b ?_|refine K1.C 1 [(0,_)] (hso) rfl ?_|refine K1.C 1 [(0,_)] (hco) rfl ?_|refine K1.z ?_|fail)
   conv=>whnf
   refine aI.nil 7 190 196 2 (stF []) rfl o_ ?_;refine aI.nil 8 191 9 1 (jh []) rfl o_ ?_;refine aI.nil 9 192 9 1 (jh []) rfl o_ ?_;conv=>whnf
   refine aI.mk {j:Nat//j<=ws.length} (λ j=>⟨[(0,.v (.string key)),(1,.sl 12 ws.length true (dA ws)),(4,.box 0 0),(5,.box 1 0),(6,.v (.int .i64 1)),(14,.v (.int .i64 1)),(7,.own 190),(8,.own 191),(9,.own 192),(17,.sl 12 ws.length true (dA ws)),(18,.v (.int .i64 (ws.length:Int))),(19,.v (.int .i64 (j.1:Int)))],
     [(0,_),(1,_),(94,_),(190,.row 196 2 ((eU key 1 (ws.take j.1)).map dh).length true (stF ((eU key 1 (ws.take j.1)).map dh))),
      (191,.row 9 1 ((eU key 1 (ws.take j.1)).map λ e=>dM e.v).length true (jh ((eU key 1 (ws.take j.1)).map λ e=>dM e.v))),
      (192,.row 9 1 ((ig key 1 (ws.take j.1)).map λ e=>dM e.v).length true (jh ((ig key 1 (ws.take j.1)).map λ e=>dM e.v)))],[],193⟩) (λ j=>ws.length-j.1) ⟨0,ane _⟩ _
    (dZ.mk' [] _ _ _ rfl gQ nM rfl) ?_
   rintro⟨j,hj⟩;dsimp only;by_cases hjl:j<ws.length
   ·let q0:Int:=1;let n0:=190;exact ctB
   ·rw[anf (show ws.length<=j by omega)];have hA1:(eU key 1 ws).length<=ws.length:=anj ..;have hB1:(ig key 1 ws).length<=ws.length:=anj ..;generalize eU key 1 ws=A1 at hA1⊢;generalize ig key 1 ws=B1 at hB1⊢;have lA1:(A1.map dh).length=A1.length:=anu ..;have alU:(A1.map λ e=>dM e.v).length=A1.length:=anu ..;have lB1:(B1.map λ e=>dM e.v).length=B1.length:=anu ..;have adx:=wR (B1.map λ e=>dM e.v) o_;have hsl1:(sortL (B1.map λ e=>dM e.v)).length=(B1.map λ e=>dM e.v).length:=aou ..;have WY:=pJ (sortL (B1.map λ e=>dM e.v)) o_;rw[hsl1]at WY;by_cases hz1:A1.length=0
    ·repeat' ((conv=>whnf);first|refine K1.w ?_|refine K1.b ?_|refine K1.C 1 [(0,_)] (adx) rfl ?_|refine K1.C 1 [(0,_)] (WY) rfl ?_|refine aT.fH ?_|refine K1.z ?_|fail)
     conv=>whnf
     simp only[Qm,rZ,valsF,if_pos hz,decide_eq_true hz,Bool.not_true,if_pos hz1,decide_eq_true hz1,Bool.not_true];exact bF.mk (bY)
    ·have ajc:=E8 (A1.map dh) (λ h=>hz1 (by rw[<-lA1,h];rfl)) o_;have hlt1:=DN (l:=A1.map dh) (λ h=>hz1 (by rw[<-lA1,h];rfl));repeat' ((conv=>whnf);first|refine K1.w ?_|refine K1.a ?_|refine K1.b ?_|refine K1.C 1 [(0,_)] (adx) rfl ?_|refine K1.C 1 [(0,_)] (WY) rfl ?_|refine K1.P1 ajc ?_|refine aT.fH ?_|refine K1.z ?_|refine uS.mk (λ _=>?_) (λ _=>?_))
     rotate_left
     ·exact absurd (show Nat.ble _ _=false by assumption) (by rw[ao9,Nat.ble_eq];omega)
     conv=>whnf
     simp only[Qm,rZ,valsF,if_pos hz,decide_eq_true hz,Bool.not_true,if_neg hz1,decide_eq_false hz1,Bool.not_false];exact bF.mk (bY)
  ·have hla:=E8 (A.map dh) (λ h=>hz (by rw[<-lA,h];rfl)) o_;have hlt:=DN (l:=A.map dh) (λ h=>hz (by rw[<-lA,h];rfl));repeat' ((conv=>whnf);first|refine K1.w ?_|refine K1.a ?_|refine K1.b ?_|refine K1.C 1 [(0,_)] (hso) rfl ?_|refine K1.C 1 [(0,_)] (hco) rfl ?_|refine K1.P1 hla ?_|refine K1.z ?_|refine uS.mk (λ _=>?_) (λ _=>?_))
   rotate_left
   ·exact absurd (show Nat.ble _ _=false by assumption) (by rw[ao9,Nat.ble_eq];omega)
   conv=>whnf
   refine aI.nil 7 190 196 2 (stF []) rfl o_ ?_;refine aI.nil 8 191 9 1 (jh []) rfl o_ ?_;refine aI.nil 9 192 9 1 (jh []) rfl o_ ?_;conv=>whnf
   refine aI.mk {j:Nat//j<=ws.length} (λ j=>⟨[(0,.v (.string key)),(1,.sl 12 ws.length true (dA ws)),(4,.box 0 0),(5,.box 1 0),(6,.v (.int .i64 1)),(14,.v (.int .i64 1)),(7,.own 190),(8,.own 191),(9,.own 192),(17,.sl 12 ws.length true (dA ws)),(18,.v (.int .i64 (ws.length:Int))),(19,.v (.int .i64 (j.1:Int)))],
     [(0,_),(1,_),(94,_),(190,.row 196 2 ((eU key 1 (ws.take j.1)).map dh).length true (stF ((eU key 1 (ws.take j.1)).map dh))),
      (191,.row 9 1 ((eU key 1 (ws.take j.1)).map λ e=>dM e.v).length true (jh ((eU key 1 (ws.take j.1)).map λ e=>dM e.v))),
      (192,.row 9 1 ((ig key 1 (ws.take j.1)).map λ e=>dM e.v).length true (jh ((ig key 1 (ws.take j.1)).map λ e=>dM e.v)))],[],193⟩) (λ j=>ws.length-j.1) ⟨0,ane _⟩ _
    (dZ.mk' [] _ _ _ rfl gQ nM rfl) ?_
   rintro⟨j,hj⟩;dsimp only;by_cases hjl:j<ws.length
   ·let q0:Int:=1;let n0:=190;exact ctB
   ·rw[anf (show ws.length<=j by omega)];have hA1:(eU key 1 ws).length<=ws.length:=anj ..;have hB1:(ig key 1 ws).length<=ws.length:=anj ..;generalize eU key 1 ws=A1 at hA1⊢;generalize ig key 1 ws=B1 at hB1⊢;have lA1:(A1.map dh).length=A1.length:=anu ..;have alU:(A1.map λ e=>dM e.v).length=A1.length:=anu ..;have lB1:(B1.map λ e=>dM e.v).length=B1.length:=anu ..;have adx:=wR (B1.map λ e=>dM e.v) o_;have hsl1:(sortL (B1.map λ e=>dM e.v)).length=(B1.map λ e=>dM e.v).length:=aou ..;have WY:=pJ (sortL (B1.map λ e=>dM e.v)) o_;rw[hsl1]at WY;by_cases hz1:A1.length=0
    ·repeat' ((conv=>whnf);first|refine K1.w ?_|refine K1.b ?_|refine K1.C 1 [(0,_)] (adx) rfl ?_|refine K1.C 1 [(0,_)] (WY) rfl ?_|refine aT.fH ?_|refine K1.z ?_|fail)
     conv=>whnf
     simp only[Qm,rZ,valsF,if_neg hz,decide_eq_false hz,Bool.not_false,if_pos hz1,decide_eq_true hz1,Bool.not_true];exact bF.mk (bY)
    ·have ajc:=E8 (A1.map dh) (λ h=>hz1 (by rw[<-lA1,h];rfl)) o_;have hlt1:=DN (l:=A1.map dh) (λ h=>hz1 (by rw[<-lA1,h];rfl));repeat' ((conv=>whnf);first|refine K1.w ?_|refine K1.a ?_|refine K1.b ?_|refine K1.C 1 [(0,_)] (adx) rfl ?_|refine K1.C 1 [(0,_)] (WY) rfl ?_|refine K1.P1 ajc ?_|refine aT.fH ?_|refine K1.z ?_|refine uS.mk (λ _=>?_) (λ _=>?_))
     rotate_left
     ·exact absurd (show Nat.ble _ _=false by assumption) (by rw[ao9,Nat.ble_eq];omega)
     conv=>whnf
     simp only[Qm,rZ,valsF,if_neg hz,decide_eq_false hz,Bool.not_false,if_neg hz1,decide_eq_false hz1,Bool.not_false];exact bF.mk (bY)
instance:Inhabited Cont:=⟨⟨⟨#[]⟩,false,false,⟨#[]⟩,⟨#[]⟩,[],[]⟩⟩
abbrev TQ(l:List Cont):Nat->List AV:=qh Cont.cs l
def keysB(l:List Ev):List (List UInt8):=Lib.compact (sortL ((aB l).map λ e=>dM e.key))
def qV(l:List Ev):List Cont:=(keysB l).map λ k=>fC ⟨k.toArray⟩ (bI l (aB l))
theorem dK.ajd{e:TypeId}{s n':Nat}{sc:Bool}{f f':Nat->List AV}(hn:n=n')(hf:∀i,i<n->f i=f' i):dK (.row e s n sc f) (.row e s n' false f'):=by
 subst hn;rintro X id ⟨us,hown,hs,hfl,_,ha⟩;rw[jD hf]at ha;exact⟨us,hown,hs,λ i hi=>by rw[<-hf i hi];exact hfl i hi,(λ h=>by cases h),ha⟩
section
open Go.ChangeShapes Go.WideShapes Go.ChangeAt Go.RowKit
theorem own:ownKnob prog.godebug=none:=by kernel_rfl
section
variable{H:Type}{enc:TypeId×Value->H}
end
abbrev allOf(w:World):Nat->Prop:=λ b=>b<w.heap.size
structure Sh(t:TypeId)(S:List AV->Prop):Prop where
 mk::
 h:∀(H:Type)(enc:TypeId×Value->H)(w:World)(spare:Nat->Bool)(held:Bool)(fuel:Nat)(cs:List Value)(x:DataW H×List MemPlace),
  DataW.trod enc prog w 0 spare held fuel t cs=some x->(∀n∈x.1.weights prog t,n<=reachBytes)-> ∃aW,aC (PC w (allOf w)) aW cs/\S aW
theorem Sh.imp{t:TypeId}{S T:List AV->Prop}(h:Sh t S)(hi:∀aW,S aW->T aW):Sh t T:=⟨λ _ _ _ _ _ _ _ _ h1 h2=>by
 obtain⟨aW,h3,h4⟩:=h.h _ _ _ _ _ _ _ _ h1 h2;exact⟨aW,h3,hi aW h4⟩⟩
theorem oq{t:TypeId}{k:IntKind}(ht:prog.underlying t=some (.int k)):Sh t (λ aW=> ∃n:Int,aW=[.v (.int k n)]/\(Lit.int k n).wf=true):=⟨λ _ _ _ _ _ _ _ _ h _=>by
 obtain⟨n,rfl,rfl,hw⟩:=DataW.trod_int ht h;exact⟨_,aC.cons (PC.v _ rfl) aC.nil,n,rfl,hw⟩⟩
theorem ND{t:TypeId}(ht:prog.underlying t=some .string):Sh t (λ aW=> ∃s:ByteArray,aW=[.v (.string s)]/\s.size<=140737488355328):=⟨λ _ _ _ _ _ _ _ _ h hw=>by
 obtain⟨s,rfl,rfl,_⟩:=DataW.trod_string ht h;refine⟨_,aC.cons (PC.v _ rfl) aC.nil,s,rfl, ?_⟩;have:=hw s.size (by simp[DataW.weights]);have hr:reachBytes<=140737488355328:=d_
 omega⟩
def Cat:List (List AV->Prop)->List AV->Prop
 |[],aW=>aW=[]
 |S::Ss,aW=> ∃a b,aW=a++b/\S a/\Cat Ss b
def Qo:Nat->List Field->Nat->Prop
 |o,[],m=>o=m
 |o,f::fs,m=>f.offset=o/\Qo (o+prog.cellsOf f.type) fs m
def H7(c:TypeId->Nat):Nat->List Field->Nat->Bool
 |o,[],m=>Nat.beq o m
 |o,f::fs,m=>Nat.beq f.offset o&&H7 c (o+c f.type) fs m
theorem NG:∀{o:Nat}{fs:List Field}{m:Nat},H7 prog.cellsOf o fs m=true->Qo o fs m
 |_,[],_,h=>am3 h
 |_,_::_,_,h=>by
  simp only[H7,amY]at h;exact⟨am3 h.1,NG h.2⟩
inductive ShL:List TypeId->List (List AV->Prop)->Prop where
 |nil:ShL [] []
 |cons {t:TypeId} {S:List AV->Prop} {ts:List TypeId} {Ss:List (List AV->Prop)} (h:Sh t S) (hs:ShL ts Ss):ShL (t::ts) (S::Ss)
theorem NH{H:Type}{enc:TypeId×Value->H}{w:World}{spare:Nat->Bool}{held:Bool}{fuel:Nat}{cs:List Value}:∀(fs:List Field)(xs:List (DataW H×List MemPlace))(Ss:List (List AV->Prop))(o:Nat),Qo o fs cs.length->xs.length=fs.length->
 (∀(i:Nat)(f:Field),fs[i]? =some f->DataW.trod enc prog w 0 spare held fuel f.type ((cs.drop f.offset).take (prog.cellsOf f.type))=xs[i]?)->ShL (fs.map (·.type)) Ss->(∀n∈DataW.weightsEach prog (fs.map (·.type)) (xs.map (·.1)),n<=reachBytes)->
 ∃aW,aC (PC w (allOf w)) aW (cs.drop o)/\Cat Ss aW
 |[],xs,Ss,o,hc,hl,_,hs,_=>by
  cases hs;refine⟨[], ?_,rfl⟩;rw[List.drop_eq_nil_of_le (by simp only[Qo]at hc;omega)];exact aC.nil
 |f::fs,xs,_,o,hc,hl,hg,hs,hw=>by
  cases hs with
  |cons hS hs'=>
   cases xs with
   |nil=>simp at hl
   |cons x xs=>
    obtain⟨ho,hc'⟩:=hc;have g0:=hg 0 f rfl;rw[ho]at g0;simp only[anS,DataW.weightsEach,am6]at hw;obtain⟨a,ha,hSa⟩:=hS.h _ _ _ _ _ _ _ _ g0 (λ n hn=>hw n (.inl hn));obtain⟨b,hb,hSb⟩:=NH fs xs _ (o+prog.cellsOf f.type) hc' (by simpa using hl) (λ i g hi=>hg (i+1) g (by simpa using hi)) hs' (λ n hn=>hw n (.inr hn));refine⟨a++b, ?_,a,b,rfl,hSa,hSb⟩;have e:cs.drop o=(cs.drop o).take (prog.cellsOf f.type)++cs.drop (o+prog.cellsOf f.type):=by
     rw[<-ao1,an8]
    rw[e];exact aC.app ha hb
theorem Fa{t:TypeId}{fs:Array Field}{Ss:List (List AV->Prop)}(ht:prog.underlying t=some (.struct fs))(hc0:H7 prog.cellsOf 0 fs.toList (prog.cellsOf t)=true){ts:List TypeId}(hts:fs.toList.map (·.type)=ts)(hs:ShL ts Ss):Sh t (Cat Ss):=⟨λ _ _ _ _ _ _ _ _ h hw=>by
 subst hts;have hc:=NG hc0;obtain⟨xs,m,_,rfl,hlen,hxl,hg⟩:=DataW.trod_struct ht h;rw[<-hlen]at hc;obtain⟨aW,h1,h2⟩:=NH fs.toList xs Ss 0 hc (by simpa using hxl) (λ i f hf=>hg i f (by simpa using hf)) hs (by simpa[DataW.weights,ht]using hw);exact⟨aW,by simpa using h1,h2⟩⟩
theorem ady{w:World}{a:Addr}{s:Nat}{cs:List Value}(h:w.cells? 0 a s=some cs):cs.length=s/\ ∀i,i<s->w.cell? (a.add i)=cs[i]? :=by
 unfold World.cells? at h;rw[if_pos (ane _)]at h;refine⟨by simpa using mapM_some_length h,λ i hi=>mapM_some_get h i i (by simp[hi])⟩
theorem add_add(a:Addr)(i j:Nat):(a.add i).add j=a.add (i+j):=by
 unfold Addr.add;by_cases hi:i=0
 ·subst hi;simp
 ·by_cases hj:j=0
  ·subst hj;simp[hi]
  ·simp[hi,hj,Nat.add_assoc]
theorem add_lit{b o j:Nat}:(⟨b,o,none⟩:Addr).add j=⟨b,o+j,none⟩:=by
 unfold Addr.add;split
 ·rename_i h;subst h;rfl
 ·rfl
theorem uY{α:Type}[Inhabited α](c:α->List AV):∀l:List α,flat l.length (qh c l)=l.flatMap c
 |[]=>rfl
 |a::l=>by
  show qh c (a::l) 0++flat l.length (λ i=>qh c (a::l) (i+1))=_;rw[anN,<-uY c l];rfl
theorem adz{t e:TypeId}{s:Nat}{α:Type}[Inhabited α]{c:α->List AV}{good:α->Prop}(sc:Bool)(ht:prog.underlying t=some (.slice e))(he:prog.cellsOf e=s)(hs0:0<s)(hb:0<prog.bytesOf e)(hlen:∀a,(c a).length=s)(hsc:sc=true-> ∀a,∀x∈c a,∃y,x= .v y)
  (hs:Sh e (λ aW=> ∃a,aW=c a/\good a)):Sh t (λ aW=> ∃l:List α,aW=[.sl s l.length sc (qh c l)]/\(∀a∈l,good a)/\l.length<=140737488355328):=by
 refine⟨λ H enc w spare held fuel cs x h hw=>?_⟩;rcases DataW.trod_slice ht h with⟨rfl,rfl⟩|⟨a,len,cap,elems,rest,n,_,rfl,rfl,_,hlc,hcm,hel,hg,_,_⟩
 ·refine⟨[.sl s 0 sc (qh c [])],aC.cons (.sl s 0 sc _ none 0 [] hs0 (ani _) (ane _) s_ (λ i hi=>absurd hi (anA _)) (λ _ x hx=>by simp[flat]at hx) (λ i x u hx=>by simp[flat]at hx) (.inl rfl)) aC.nil,[],rfl,(λ a ha=>by cases ha),ane _⟩
 ·rw[he]at hg;simp only[DataW.weights,ht]at hw;have hwb:=hw ((elems.length+rest.length)*prog.bytesOf e) s_;have hr:reachBytes<=140737488355328:=d_
  have hlm:elems.length<=140737488355328:=by
   have:elems.length*1<=(elems.length+rest.length)*prog.bytesOf e:=Nat.mul_le_mul (Nat.le_add_right _ _) hb;omega
  have hwe:∀n∈DataW.weightsAll prog e (elems.map (·.1)),n<=reachBytes:=λ n hn=>hw n (by simp only[am4,am6]at hn⊢;simp[hn]);have main:∀(k o:Nat)(elems:List (DataW H×List MemPlace)),elems.length=k->(∀i,i<k->(w.cells? 0 (a.add ((o+i)*s)) s).bind (DataW.trod enc prog w 0 spare held n e)=elems[i]?)->(∀n∈DataW.weightsAll prog e (elems.map (·.1)),n<=reachBytes)->
    ∃(l:List α) (us:List Value),l.length=k/\us.length=k*s/\(∀a∈l,good a)/\aC (PC w (allOf w)) (l.flatMap c) us/\ ∀(j:Nat)(u:Value),us[j]? =some u->w.cell? (a.add (o*s+j))=some u:=by
   intro k;induction k with
   |zero=>intro o elems _ _ _;exact⟨[],[],rfl,s_,(λ a ha=>by cases ha),aC.nil,λ j u hj=>by simp at hj⟩
   |succ k ih=>
    intro o elems hl hg hw;cases elems with
    |nil=>simp at hl
    |cons x xs=>
     simp only[anS,DataW.weightsAll,am6]at hw;obtain⟨l,us,h1,h2,h3,h4,h5⟩:=ih (o+1) xs (by simpa using hl) (λ i hi=>by have:=hg (i+1) o_;rw[show o+1+i=o+(i+1) by omega];simpa using this) (λ n hn=>hw n (.inr hn));have g0:=hg 0 o_;simp only[apg,aoh,Option.bind_eq_some_iff]at g0;obtain⟨ds,hd1,hd2⟩:=g0;obtain⟨aW,ha,a0,rfl,hg0⟩:=hs.h _ _ _ _ _ _ _ _ hd2 (λ n hn=>hw n (.inl hn));obtain⟨hdl,hdc⟩:=ady hd1;refine⟨a0::l,ds++us,by simp[h1],by simp[hdl,h2,aor,Nat.add_comm], ?_,by simpa using aC.app ha h4,λ j u hj=>?_⟩
     ·intro a ha;rcases am4.1 ha with rfl|ha
      ·exact hg0
      ·exact h3 a ha
     ·by_cases hjs:j<s
      ·rw[anq o_]at hj;have:=hdc j hjs;rw[hj]at this;rw[<-this,<-add_add a]
      ·rw[anI o_,hdl]at hj;have:=h5 _ _ hj;rw[<-this,show(o+1)*s+(j-s)=o*s+j by rw[aor];omega]
  obtain⟨l,us,h1,h2,h3,h4,h5⟩:=main elems.length 0 elems rfl (λ i hi=>by simpa using hg i o_) hwe;have hfl:flat len (qh c l)=l.flatMap c:=by
   rw[<-hel,<-h1];exact uY c l
  refine⟨[.sl s len sc (qh c l)],aC.cons (.sl s len sc _ (some a) cap us hs0 hlc hcm (by rw[h2,hel]) (λ i _=>hlen _) (λ alV x hx=>?_) (λ i x u hx hu=>?_) ?_) aC.nil,l,by rw[h1,hel],h3,o_⟩
  ·rw[hfl]at hx;obtain⟨a0,_,hx⟩:=List.mem_flatMap.1 hx;exact hsc alV a0 x hx
  ·rw[hfl]at hx;exact h4.2 i x u hx hu
  ·by_cases h0:len=0
   ·exact .inl h0
   ·obtain⟨b,o,sp⟩:=a;have hpos:0<us.length:=by rw[h2,hel];exact Nat.mul_pos o_ hs0
    have c0:=h5 0 _ (amX hpos);have hsp:sp=none:=by simpa[Addr.add]using World.cell?_spot c0
    subst hsp;refine .inr ⟨b,o,rfl, ?_,λ j u hj=>?_⟩
    ·rcases anr b w.heap.size with h|h
     ·exact h
     ·exfalso;unfold World.cell? at c0;rw[aoA (by simpa[Addr.add]using h)]at c0;cases c0
    ·have:=h5 j u hj;rw[apj,anZ]at this;rw[<-this,add_lit]
section
variable{H:Type}{enc:TypeId×Value->H}{w:World}{spare:Nat->Bool}{held:Bool}{v:Value}{d:DataW H}{p:List MemPlace}{r:Reach}{b0:Nat}
theorem agN{t:TypeId}{S:List AV->Prop}(hs:Sh t S)(h1:∀aW,S aW->aW.length=1)(h:DataW.Trod enc prog w 0 spare held t v d p)(hw:∀n∈d.weights prog t,n<=reachBytes)(hv:v.cells.toList=[v]):∃x,S [x]/\C1 ⟨w,allOf w,λ _=>undef⟩ x v:=by
 obtain⟨fuel,hf⟩:=h;obtain⟨aW,ha,hS⟩:=hs.h _ _ _ _ _ _ _ _ hf hw;match aW,h1 aW hS with
 |[x],_=>
  rw[hv]at ha;exact⟨x,hS,C1.uO (C0.RS (X:=⟨w,allOf w,λ _=>undef⟩) (ha.2 0 x v rfl rfl))⟩
theorem YM{t:TypeId}{S:List AV->Prop}(hs:Sh t S)(h:DataW.Trod enc prog w 0 spare held t v d p)(hw:∀n∈d.weights prog t,n<=reachBytes)(hv:∃cs,v= .agg cs):∃xs,S xs/\C1 ⟨w,allOf w,λ _=>undef⟩ (.agg xs) v:=by
 obtain⟨cs,rfl⟩:=hv;obtain⟨fuel,hf⟩:=h;obtain⟨aW,ha,hS⟩:=hs.h _ _ _ _ _ _ _ _ hf hw;exact⟨aW,hS,cs.toList,rfl,(show aC (PC w (allOf w)) aW cs.toList from ha).imp λ _ _ h=>C0.RS (X:=⟨w,allOf w,λ _=>undef⟩) h⟩
end
end
section
open Go.ChangeShapes Go.WideShapes Go.ChangeAt Go.RowKit
def Ev.rng(e:Ev):Prop:=e.key.size<=140737488355328/\e.v.size<=140737488355328
section
variable{H:Type}{enc:TypeId×Value->H}{w:World}{spare:Nat->Bool}{held:Bool}{v:Value}{d:DataW H}{p:List MemPlace}{r:Reach}{b0:Nat}
end
end
section
open Go.ChangeShapes Go.WideShapes Go.ChangeAt Go.RowKit
structure Ch0 where
 (r f:Int)(sy:Bool)(k:Int)(key:ByteArray)(l:Int)(v:ByteArray)
instance:Inhabited Ch0:=⟨⟨0,0,false,0,⟨#[]⟩,0,⟨#[]⟩⟩⟩
def Ch0.cs(c:Ch0):List AV:=[.v (.int .u8 c.r),.v (.int .u8 c.f),.v (.bool c.sy),.v (.int .i64 c.k),.v (.string c.key),.v (.int .i64 c.l),.v (.string c.v)]
def Ch0.av(c:Ch0):AV:= .agg c.cs
def Ch0.rng(c:Ch0):Prop:=(0<=c.r/\c.r<=255)/\(0<=c.f/\c.f<=255)/\ -9223372036854775808<=c.k/\c.k<=9223372036854775807/\ -9223372036854775808<=c.l/\c.l<=9223372036854775807/\c.key.size<=140737488355328/\c.v.size<=140737488355328
section
variable{H:Type}{enc:TypeId×Value->H}{w:World}{spare:Nat->Bool}{held:Bool}{v:Value}{d:DataW H}{p:List MemPlace}{r:Reach}{b0:Nat}
end
end
def LC(a b:Int):Int:=if b>a then b else a
def aS.join(a b:aS):aS:=⟨LC a.c0 b.c0,LC a.c1 b.c1,LC a.c2 b.c2,LC a.c3 b.c3,LC a.c4 b.c4⟩
def aS.le(a b:aS):Bool:=decide (a.c0<=b.c0/\a.c1<=b.c1/\a.c2<=b.c2/\a.c3<=b.c3/\a.c4<=b.c4)
def tJ(c:aS)(s:Int×Bool)(e:Ev):Int×Bool:=if(hasB c e.r e.n&&(!s.2||decide (s.1<e.h)))=true then(e.h,true)else s
def Qp(c:aS)(l:List Ev):Int×Bool:=l.foldl (tJ c) (0,false)
def hgt(l:List Ev)(c:aS):Int:=(Qp c l).1+1
theorem zT{β:Type}[Inhabited α]{f:β->α->β}{b:β}{l:List α}(h:j<l.length):(l.take (j+1)).foldl f b=f ((l.take j).foldl f b) (l.getD j default):=by
 rw[aoa,amX h,List.getD,amX h,aoj];rfl
theorem JA{c:aS}{M:Int}(hM:0<=M):∀(l:List Ev),(∀e∈l,0<=e.h/\e.h<=M)-> ∀s:Int×Bool,0<=s.1/\s.1<=M->0<=(l.foldl (tJ c) s).1/\(l.foldl (tJ c) s).1<=M
 |[],_,s,hs=>hs
 |e::l,h,s,hs=>by
  rw[ao6];refine JA hM l (λ x hx=>h x (am1 _ hx)) _ ?_;unfold tJ;split
  ·exact h e amW
  ·exact hs
theorem H8{c:aS}(hM:0<=M){l:List Ev}(h:∀e∈l,0<=e.h/\e.h<=M):1<=hgt l c/\hgt l c<=M+1:=by
 have:=JA (c:=c) hM l h (0,false) ⟨s_,hM⟩;unfold hgt Qp;omega
def lH(H:Nat->aS)(r:Nat)(c:aS):Nat->aS:=λ i=>bif Nat.beq i r then c else H i
def aS.inc(c:aS):Nat->aS
 |0=>⟨c.c0+1,c.c1,c.c2,c.c3,c.c4⟩
 |1=>⟨c.c0,c.c1+1,c.c2,c.c3,c.c4⟩
 |2=>⟨c.c0,c.c1,c.c2+1,c.c3,c.c4⟩
 |3=>⟨c.c0,c.c1,c.c2,c.c3+1,c.c4⟩
 |_=>⟨c.c0,c.c1,c.c2,c.c3,c.c4+1⟩
abbrev Mk:=List Ev×(Nat->aS)
def Ch0.ed(c:Ch0):Ed:=⟨c.k,c.key,c.l,c.v⟩
def aiv(out:List Ev)(H:Nat->aS)(r:Nat)(x:Ed):Ev:=⟨(r:Int),(H r).at r+1,H r,hgt out (H r),x.k,x.key,x.l,x.v⟩
def aje(s:Mk)(r f:Nat):Mk:=(s.1,lH s.2 r ((s.2 r).join (s.2 f)))
def ajf(s:Mk)(r:Nat)(x:Ed):Mk:=(s.1++[aiv s.1 s.2 r x],lH s.2 r ((s.2 r).inc r))
def JB(s:Mk)(c:Ch0):Mk:=
 if c.sy=true then aje s (c.r%5).toNat (c.f%5).toNat else ajf s (c.r%5).toNat (AQ c.ed)
def aS.in(c:aS)(M:Int):Prop:=(0<=c.c0/\c.c0<=M)/\(0<=c.c1/\c.c1<=M)/\(0<=c.c2/\c.c2<=M)/\(0<=c.c3/\c.c3<=M)/\(0<=c.c4/\c.c4<=M)
def MkB(s:Mk)(n:Nat):Prop:=(∀q,(s.2 q).in n)/\(∀e∈s.1,0<=e.h/\e.h<=(n:Int))/\s.1.length<=n
theorem aS.in.mono{c:aS}{N:Int}(h:c.in M)(hMN:M<=N):c.in N:=by unfold aS.in at*;omega
theorem aS.in.join{a b:aS}{M:Int}(ha:a.in M)(hb:b.in M):(a.join b).in M:=by
 unfold aS.in at*;unfold aS.join LC;simp only;refine⟨?_, ?_, ?_, ?_, ?_⟩<;>split<;>omega
theorem aS.in.inc{a:aS}{M:Int}(ha:a.in M):∀r,(a.inc r).in (M+1)
 |0=>by unfold aS.in aS.inc at*;simp only;omega
 |1=>by unfold aS.in aS.inc at*;simp only;omega
 |2=>by unfold aS.in aS.inc at*;simp only;omega
 |3=>by unfold aS.in aS.inc at*;simp only;omega
 |_+4=>by unfold aS.in aS.inc at*;simp only;omega
theorem TR{P:aS->Prop}{H:Nat->aS}{r:Nat}{c:aS}(h:∀q,P (H q))(hc:P c)(q:Nat):P (lH H r c q):=by
 unfold lH;cases Nat.beq q r with
 |true=>exact hc
 |false=>exact h q
theorem MkB.step{s:Mk}(h:MkB s n)(c:Ch0):MkB (JB s c) (n+1):=by
 obtain⟨h1,h2,h3⟩:=h;have h1':∀q,(s.2 q).in ((n+1:Nat):Int):=λ q=>(h1 q).mono o_;unfold JB;split
 ·exact⟨λ q=>TR (P:=λ c=>c.in ((n+1:Nat):Int)) h1' ((h1' _).join (h1' _)) q,λ e he=>by have:=h2 e he;omega,by show s.1.length<=_;omega⟩
 ·refine⟨λ q=>TR (P:=λ c=>c.in ((n+1:Nat):Int)) h1' ?_ q,λ e he=>?_, ?_⟩
  ·have:=(h1 (c.r%5).toNat).inc (c.r%5).toNat;exact this.mono o_
  ·rcases am6.1 he with he|he
   ·have:=h2 e he;omega
   ·rw[amZ.1 he];have:=H8 (c:=s.2 (c.r%5).toNat) (M:=n) o_ h2;show 0<=hgt s.1 (s.2 (c.r%5).toNat)/\hgt s.1 (s.2 (c.r%5).toNat)<=((n+1:Nat):Int);omega
  ·show(s.1++[_]).length<=_;rw[am0,List.length_singleton];omega
end Go.Proofs.YtkimgljckickcaaGreat
