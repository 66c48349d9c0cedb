/-
  Contracts of the walk:NdM,NdP,NdQ,NeP,WaB,WaC,WaD,WaE,WbA.
-/
import Derived.Test.YtkimgljckickcaaGreatRa29
import Derived.Test.YtkimgljckickcaaGreatRa38
import Derived.Test.YtkimgljckickcaaGreatRa27
import Derived.Test.YtkimgljckickcaaGreatRa26
import Derived.Test.YtkimgljckickcaaGreatRa37
import Derived.Test.YtkimgljckickcaaGreatRa30
import Derived.Test.YtkimgljckickcaaGreatRa34
import Derived.Test.YtkimgljckickcaaGreatRa22
import Derived.Test.YtkimgljckickcaaGreatRa16
set_option maxHeartbeats 16000000
set_option maxRecDepth 100000
set_option linter.unusedVariables false
set_option linter.unusedSimpArgs false
namespace Go.Proofs.YtkimgljckickcaaGreat
open Go.RowKit
open Go.Proofs.Tryz
variable{y:CP}{k s w:Int}{T l:List Ev}{b:List UInt8}{n r:Nat}{x:Rc}{c:aS}
theorem abQ(hr:r<5){v:Ev}(h1:v.r=(r:Int))(h2:v.n=c.at r+1)(h3:v.c.le c=true)(h0:0<=c.at r):gI c [v]=([v],[],c.inc r):=by
 have hh:hasB c v.r v.n=false:=by
  unfold hasB;rw[h1,h2];refine decide_eq_false λ h=>?_;have:c.get (r:Int)=c.at r:=by
   rcases(show r=0\/r=1\/r=2\/r=3\/r=4 by omega)with rfl|rfl|rfl|rfl|rfl<;>rfl
  omega
 have hw:kR c [v]=[v]:=by
  unfold kR;rw[ao6,List.foldl_nil];unfold qK;rw[hh];rfl
 have hn:vC c [v]=some v:=by
  refine NV hr (λ q hq=>?_) ?_
  ·unfold vw NU;rw[List.find?_cons,show decide (v.r=(q:Int)/\v.n=c.at q+1)=false from decide_eq_false λ h=>o_];rfl
  ·unfold vw NU;rw[List.find?_cons,show decide (v.r=(r:Int)/\v.n=c.at r+1)=true from decide_eq_true ⟨h1,h2⟩];exact if_pos ⟨o_,h3⟩
 have hm:BO [v] v=[]:=by simp[BO]
 unfold gI;rw[hw];show LY 1 c [v] []=_;unfold LY;rw[hn];dsimp only;rw[hm,h1,anP];rfl
theorem ahX:xB [] [] []:=⟨s_,rfl,vT⟩
theorem Xo.mk'{P:List Ev}(one:uZ P)(hi:∀a∈P,∀b∈P,aJ a b=true->a.h<b.h)(tr:∀a∈P,∀b∈P,∀c∈P,aJ a b=true->aJ b c=true->aJ a c=true)(key:ByteArray):Xo (nO (eqK key) P) key:=by
 have hs:∀x∈nO (eqK key) P,x∈P:=λ x hx=>(ana.1 hx).1;exact⟨Qs,λ a ha b hb=>one a (hs a ha) b (hs b hb),λ a ha b hb=>hi a (hs a ha) b (hs b hb),λ a ha b hb c hc=>tr a (hs a ha) b (hs b hb) c (hs c hc)⟩
theorem O7(A:List Ev):(valsF A).length<=A.length:=by
 unfold valsF;refine anK (wS _) ?_;unfold sortL;rw[aou,anu];exact ani _
theorem VJ(key:ByteArray)(l:Int)(ws:List Ev):(ig key l ws).length<=ws.length:=anj ..
theorem ahY(P:List Ev)(hP:P.length<=1000000):∀x∈qV P,x.s0.length<=1000000/\x.s1.length<=1000000:=λ x hx=>by
 unfold qV at hx;obtain⟨k,_,rfl⟩:=ant.1 hx;have hc:(bI P (aB P)).length<=P.length:=anj ..;exact⟨anK (anK (O7 _) (VJ _ _ _)) o_,anK (anK (O7 _) (VJ _ _ _)) o_⟩
def ami(r:Nat)(x:Int):aS:=⟨if r=0 then x else 0,if r=1 then x else 0,if r=2 then x else 0,if r=3 then x else 0,if r=4 then x else 0⟩
def afS(r m:Nat)(e:Ed):Ev:=⟨r,(m:Int)+1,ami r m,(m:Int)+1,e.k,e.key,e.l,e.v⟩
structure Own(r:Nat)(L:List Ev):Prop where
 at_:∀j,j<L.length->L.getD j default=afS r j (L.getD j default).ed
 ok:∀e∈L,lF e.ed=0
theorem Own.nil(r:Nat):Own r []:=⟨λ j hj=>absurd hj (anA j),λ e he=>by cases he⟩
theorem Own.snoc{r:Nat}{L:List Ev}(h:Own r L){e:Ed}(he:lF e=0):Own r (L++[afS r L.length e]):=by
 refine⟨λ j hj=>?_,λ x hx=>?_⟩
 ·rw[am0]at hj;by_cases hl:j<L.length
  ·rw[show(L++[afS r L.length e]).getD j default=L.getD j default by simp[List.getD,anq hl]];exact h.at_ j hl
  ·obtain rfl:j=L.length:=by have:j<L.length+1:=hj;omega
   rw[show(L++[afS r L.length e]).getD L.length default=afS r L.length e by simp[List.getD]];rfl
 ·rcases am6.1 hx with hx|hx
  ·exact h.ok x hx
  ·rw[amZ.1 hx];exact he
theorem aS.le_refl(c:aS):c.le c=true:=decide_eq_true ⟨aom _,aom _,aom _,aom _,aom _⟩
theorem nI{x:Int}(h0:0<=x)(h1:x<=1048576):pR x=true:=by unfold pR iY;rw[decide_eq_true h0,decide_eq_true h1];rfl
theorem aj3(h:∀q,0<=c.at q/\c.at q<=1048576):NW c=true:=by
 show(pR (c.at 0)&&pR (c.at 1)&&pR (c.at 2)&&pR (c.at 3)&&pR (c.at 4))=true;rw[nI (h 0).1 (h 0).2,nI (h 1).1 (h 1).2,nI (h 2).1 (h 2).2,nI (h 3).1 (h 3).2,nI (h 4).1 (h 4).2];rfl
theorem aj6{r:Int}(hk:k=3\/k=5)(h0:0<=r)(h5:r<5)(hc:∀q,0<=c.at q/\c.at q<=1048576):jW ⟨k,r,0,c,[]⟩=true:=by
 unfold jW;dsimp only;rw[decide_eq_true h0,decide_eq_true h5,aj3 hc];rcases hk with rfl|rfl<;>rfl
theorem aj7{r:Int}(hk:k=1/\l.length≠0/\(∀e∈l,e.r=r)\/k=4)(h0:0<=r)(h5:r<5)(hl:l.length<=20)(hm:∀e∈l,dU e=0):jW ⟨k,r,0,aV,l⟩=true:=by
 have ha:l.all (uM k r)=true:=by
  rw[anh];intro e he;rcases hk with⟨rfl,_,hr⟩|rfl
  ·exact Ox (hm e he) (hr e he)
  ·exact FN (hm e he) d_
 unfold jW;dsimp only;rw[decide_eq_true h0,decide_eq_true h5,decide_eq_true hl,ha];rcases hk with⟨rfl,hn,_⟩|rfl
 ·rw[decide_eq_true hn];rfl
 ·rfl
theorem aj8{r:Int}(h0:0<=r)(h5:r<5)(hs:0<=s/\s<=1048576):iE ⟨3,r,s,aV,[]⟩=true:=by
 unfold iE;dsimp only;rw[decide_eq_true h0,decide_eq_true h5,nI hs.1 hs.2];rfl
section
structure Pool(k:Nat)(T:List Ev)(H:Nat->aS):Prop where
 inv:Inv T H
 tr:aes T
 le:∀p:Nat,p<5->(H p).at p<=k
 may:∀e∈T,dU e=0
 h:∀e∈T,0<=e.h/\e.h<=k
variable{k:Nat}{T L:List Ev}{H:Nat->aS}
theorem Pool.pst(hP:Pool k T H)(hG:Good T L)(key:ByteArray):Xo (nO (eqK key) L) key:=hP.inv.pst hG.mem (UJ hP.inv hP.tr) key
theorem Good.at_(hP:Pool k T H)(hG:Good T L){r:Nat}(hr:r<5)(hH:H r=cZ L)(q:Nat):0<=(cZ L).at q/\(cZ L).at q<=k:=by
 refine⟨QY L q, ?_⟩;have h:∀q,q<5->(cZ L).at q<=k:=λ q hq=>by
  have h1:=(hP.inv.ge r hr q hq).2;have h2:=hP.le q hq;rw[hH]at h1;omega
 rcases anr q 5 with hq|hq
 ·exact h q hq
 ·have:=h 4 o_;match q,hq with
  |q+5,_=>exact this
theorem Good.len(hP:Pool k T H)(hG:Good T L){r:Nat}(hr:r<5)(hH:H r=cZ L):L.length<=5*k:=by
 have h:=hG.seq.at_.2.2.2;have h0:(cZ L).c0<=k:=(hG.at_ hP hr hH 0).2;have h1:(cZ L).c1<=k:=(hG.at_ hP hr hH 1).2;have h2:(cZ L).c2<=k:=(hG.at_ hP hr hH 2).2;have h3:(cZ L).c3<=k:=(hG.at_ hP hr hH 3).2;have h4:(cZ L).c4<=k:=(hG.at_ hP hr hH 4).2;omega
theorem Yd{e:Ev}(h:dU e=0):0<=e.r/\e.r<5/\1<=e.n/\e.n<=1048576:=by
 have hz:=oW h;have:=hz.n1;have:=hz.n2;have:=hz.r0;have:=hz.r4;omega
theorem Good.nb(hP:Pool k T H)(hG:Good T L){r:Nat}(hr:r<5)(hH:H r=cZ L){e:Ev}(he:e∈L):1<=e.n/\e.n<=k:=by
 obtain⟨p,h1,h2,h3,h4⟩:=hG.seq.at_.1 e he;have:=(hG.at_ hP hr hH p).2;omega
theorem Good.log(hP:Pool k T H)(hG:Good T L){r:Nat}(hr:r<5)(hH:H r=cZ L)(hk:k<=100000):aiD L where
 len:=by have:=hG.len hP hr hH;omega
 nx j hj:=by
  have hs:L=L.take j++L.getD j default::L.drop (j+1):=by
   rw[show L.getD j default=L[j] by simp[List.getD,hj],List.getElem_cons_drop hj,an8]
  exact aeu hP.inv hP.tr hG.mem hG.ord hs
 may j hj:=hP.may _ (hG.mem _ (by simp[List.getD,hj]))
 r j hj:=by have:=Yd (hP.may _ (hG.mem (L.getD j default) (by simp[List.getD,hj])));omega
 n e he:=by have:=hG.nb hP hr hH he;omega
def Rl(r:Nat)(s:Int)(e:Ev):Bool:=decide (e.r=(r:Int)/\s<e.n)
def kL(r:Nat)(s:Int)(L:List Ev):List Ev:=L.filter (Rl r s)
theorem Ap(r:Nat)(s:Int)(L:List Ev)(e:Ev):kL r s (L++[e])=if Rl r s e=true then kL r s L++[e]else kL r s L:=by
 unfold kL;rw[aoq];by_cases h:Rl r s e=true
 ·rw[if_pos h,List.filter_cons_of_pos h];rfl
 ·rw[if_neg h,List.filter_cons_of_neg h,List.filter_nil,am2]
theorem Seq.out{L:List Ev}(h:Seq L){r:Nat}(hr:r<5){s:Int}(hs:0<=s):((kL r s L).length:Int)=(if(cZ L).at r<=s then 0 else(cZ L).at r-s)/\ ∀j,j<(kL r s L).length->((kL r s L).getD j default).n=s+1+(j:Int):=by
 induction h with
 |nil=>
  have:=Zl r;exact⟨by rw[if_pos o_];rfl,λ j hj=>absurd hj (anA j)⟩
 | @snoc L e p h hp er en ih=>
   obtain⟨i1,i2⟩:=ih;rw[Ap,rP,show e.r.toNat=p by omega,oz _ hp hr];unfold Rl;by_cases h:e.r=(r:Int)/\s<e.n
   ·obtain rfl:r=p:=o_
    rw[decide_eq_true h,if_pos rfl,if_pos rfl];have hl:((kL r s L).length:Int)=(cZ L).at r-s:=by rw[i1];split<;>omega
    refine⟨by rw[am0,if_neg o_];simp only[anb,anD];omega,λ j hj=>?_⟩;rw[am0]at hj;simp only[anb,anD]at hj;by_cases h2:j<(kL r s L).length
    ·rw[show(kL r s L++[e]).getD j default=(kL r s L).getD j default by simp[List.getD,anq h2]];exact i2 j h2
    ·obtain rfl:j=(kL r s L).length:=o_
     rw[show(kL r s L++[e]).getD (kL r s L).length default=e by simp[List.getD]];omega
   ·rw[decide_eq_false h,if_neg Bool.false_ne_true];refine⟨?_,i2⟩;rw[i1];by_cases h2:r=p
    ·subst h2;rw[if_pos rfl];split<;>split<;>omega
    ·rw[if_neg h2]
theorem O8{q s:Int}{w:List Ev}{e:Ev}(hw:∀j,j<w.length->(w.getD j default).n=s+1+(j:Int))(he:e.n=s+w.length+1)(hq:(w.length:Int)<q):LZ q s w e=(w++[e],0):=by
 unfold LZ Af;rw[if_neg o_,if_pos];split
 ·omega
 ·rw[hw _ o_];omega
theorem Seq.wait{L:List Ev}(h:Seq L){r:Nat}(hr:r<5){s q:Int}(hs:0<=s)(hsc:s<=(cZ L).at r)(hq:((kL r s L).length:Int)<=q):nP q s r L=kL r s L:=by
 have key:∀L:List Ev,Seq L->((kL r s L).length:Int)<=q->nP q s r L=kL r s L:=λ L h=>by
  induction h with
  |nil=>intro _;rfl
  | @snoc L e p h hp er en ih=>
    intro hq;have ho:=h.out hr hs;have e1:nP q s r (L++[e])=xW q s r (nP q s r L) e:=by
     unfold nP;rw[aoj];rfl
    rw[Ap]at hq⊢;rw[e1];unfold xW;unfold Rl at hq⊢;by_cases h2:e.r=(r:Int)/\s<e.n
    ·rw[decide_eq_true h2,if_pos rfl]at hq⊢;rw[am0]at hq;simp only[anb,anD]at hq;rw[if_pos h2,ih o_];obtain rfl:r=p:=o_
     rw[O8 ho.2 (by have:=ho.1;split at this<;>omega) o_]
    ·rw[decide_eq_false h2,if_neg Bool.false_ne_true]at hq⊢;rw[if_neg h2];exact ih hq
 exact key L h hq
end
instance{r:Nat}{n:Int}{e:Ev}:Decidable (Md r n e):=inferInstanceAs (Decidable (_\/_))
structure Ny where
 (c:lZ)(r:Nat)(up:Bool)(log:List Ev)(sent:Int)(held:List Ev)(cuts:Bool)(keep:Int)
def Ny.clk(y:Ny):aS:=cZ y.log
def Ny.out(y:Ny):List Ev:=kL y.r y.sent y.log
def Ny.off(y:Ny):Ny:=⟨y.c,y.r,false,y.log,y.sent,[],false,y.keep⟩
def wrY(y y':Ny)(x:Rc):Ny×Int:=if y.cuts then((if((ay x).length:Int)<=y.keep then y' else y).off,18)else(y',0)
def Ho(y:Ny)(e:Ed):Ev:=⟨y.r,y.clk.at y.r+1,y.clk,hgt y.log y.clk,e.k,e.key,e.l,e.v⟩
def uo(y:Ny)(e:Ed):Ny×Int:=
 if y.up=false then(y,18)
 else if nG y.c.l y.c.p (qV y.log) e≠0 then(y,nG y.c.l y.c.p (qV y.log) e)
 else if y.c.q<=(y.out.length:Int)then(y,17)
 else wrY y ⟨y.c,y.r,true,y.log++[Ho y e],y.sent,y.held,false,y.keep⟩ ⟨1,y.r,0,aV,[Ho y e]⟩
def lC(y:Ny)(u:Int):Int:=if(if y.clk.at y.r<u then y.clk.at y.r else u)>y.sent then(if y.clk.at y.r<u then y.clk.at y.r else u)else y.sent
def Ii(y:Ny)(u:Int):Ny×Int:=
 if lC y u=y.sent then(y,0)else wrY y ⟨y.c,y.r,true,y.log,lC y u,y.held,false,y.keep⟩ ⟨3,y.r,lC y u,aV,[]⟩
def evY(y:Ny)(l:List Ev):Ny×Int:=
 if y.c.h<((gI y.clk (y.held++l)).2.1.length:Int)then(y,22)
 else if(gI y.clk (y.held++l)).1.length=0 then(⟨y.c,y.r,true,y.log,y.sent,(gI y.clk (y.held++l)).2.1,y.cuts,y.keep⟩,0)
 else wrY y ⟨y.c,y.r,true,y.log++(gI y.clk (y.held++l)).1,y.sent,(gI y.clk (y.held++l)).2.1,false,y.keep⟩ ⟨2,y.r,0,aV,(gI y.clk (y.held++l)).1⟩
def Ye(y:Ny)(x:Rc):Ny×Int:=
 if x.r≠(y.r:Int)\/(∃e∈x.ev,Md y.r y.c.n e)\/x.k≠2/\x.k≠4 then(y,23)
 else if x.k=2 then Ii y x.u else evY y x.ev
def AY(y:Ny)(b:List UInt8):Ny×Int:=
 if y.up=false then(y,18)else if(eP b).2≠0 then(y,(eP b).2)else Ye y (eP b).1
def xI(y:Ny):Ny×Int:=if y.up=false then(y,18)else wrY y ⟨y.c,y.r,true,y.log,y.sent,y.held,false,y.keep⟩ ⟨4,y.r,y.sent,aV,y.log⟩
def uN(y:Ny):Ny×Int:=if y.up then(y,19)else(⟨y.c,y.r,true,y.log,y.sent,[],false,y.keep⟩,0)
def afT(y:Ny)(k:Int):Ny:=⟨y.c,y.r,y.up,y.log,y.sent,y.held,true,k⟩
def ny0(c:lZ)(r:Nat):Ny:=⟨c,r,true,[],0,[],false,0⟩
structure qy(k:Nat)(h:Nd)(y:Ny):Prop where
 c:h.c=y.c
 r:h.r=y.r
 up:h.up=y.up
 disk:∃l t,xB h.d.bs l t/\Hl l=(y.log,y.sent)/\(y.up=true->t=[])/\(∀j,j<=l.length->(Hl (l.take j)).1.length<=5*k)
 on:y.up=true->h.log=y.log/\h.sent=y.sent/\h.ic=y.clk/\h.held=y.held/\h.wait=y.out/\h.d.down=false/\h.d.cut=y.cuts/\(y.cuts=true->h.d.keep=y.keep)
 bs:h.d.bs.length<=200100*k
structure sU(k:Nat)(T:List Ev)(H:Nat->aS)(y:Ny):Prop where
 p:Pool k T H
 may:qj y.c=true
 r:y.r<5
 rn:(y.r:Int)<y.c.n
 g:Good T y.log
 hc:H y.r=cZ y.log
 s:0<=y.sent/\y.sent<=y.clk.at y.r
 q:(y.out.length:Int)<=y.c.q
 h:∀e∈y.held,e∈T
 hl:(y.held.length:Int)<=y.c.h
theorem VK(l:List Rc)(x:Rc):Hl (l++[x])=abp (Hl l) x:=by
 unfold Hl;rw[aoj];rfl
theorem aj9{l:List Rc}{B:Nat}(h:∀j,j<=l.length->(Hl (l.take j)).1.length<=B)(hx:(abp (Hl l) x).1.length<=B):∀j,j<=(l++[x]).length->(Hl ((l++[x]).take j)).1.length<=B:=λ j hj=>by
 rw[am0]at hj;simp only[anb,anD]at hj;by_cases h2:j<=l.length
 ·rw[aoD h2];exact h j h2
 ·rw[anf (by rw[am0];simp only[anb,anD];omega),VK];exact hx
theorem Rn{k:Nat}{h:Nd}{y:Ny}{L:List Ev}{held:List Ev}{ic:aS}{wait:List Ev}(hr:qy k h y)(hk:k<=1000)(hup:y.up=true)(hx:iE x=true)(hst:abp (y.log,y.sent) x=(L,s))(hl:L.length<=5*(k+1)):
  ∃dk z,iV h.d (ay x)=(dk,z)/\(wrY y ⟨y.c,y.r,true,L,s,held,false,y.keep⟩ x).2=(if z=0 then 0 else 18)/\(z=0->y.cuts=false)/\(z≠0->y.cuts=true)/\
   (z=0->ic=cZ L->wait=kL y.r s L->qy (k+1) ⟨h.c,h.r,true,dk,L,s,ic,held,wait⟩ (wrY y ⟨y.c,y.r,true,L,s,held,false,y.keep⟩ x).1)/\
   (z≠0-> ∀lg sn ic hd wt,qy (k+1) ⟨h.c,h.r,false,dk,lg,sn,ic,hd,wt⟩ (wrY y ⟨y.c,y.r,true,L,s,held,false,y.keep⟩ x).1):=by
 obtain⟨l,t,h1,h2,h3,h4⟩:=hr.disk;obtain⟨-,-,-,-,-,hdn,hct,hkp⟩:=hr.on hup;have ht:=h3 hup;subst ht;have hbs:=hr.bs;have hmx:=iJ x hx;have hmn:=uh x;have h4':∀j,j<=l.length->(Hl (l.take j)).1.length<=5*(k+1):=λ j hj=>by have:=h4 j hj;omega
 have h5:Hl (l++[x])=(L,s):=by rw[VK,h2,hst]
 have h6:=aj9 (x:=x) h4' (by rw[h2,hst];exact hl);have hc:=hr.c;have hrr:=hr.r;obtain⟨yc,yr,yup,amE,amr,ams,alj,alk⟩:=y;obtain⟨c,r,up,⟨bs,down,cut,keep⟩,lg,sn,ic0,hd,wt⟩:=h;dsimp only at*;subst hdn hc hrr;unfold iV wrY;dsimp only;cases alj with
 |false=>
  subst hct;refine⟨_,_,rfl,rfl,λ _=>rfl,λ h=>absurd rfl h,λ _ e1 e2=>⟨rfl,rfl,rfl,⟨l++[x],[],Aj h1 hx,h5,λ _=>rfl,h6⟩,λ _=>⟨rfl,rfl,e1,rfl,e2,rfl,rfl,λ h=>by cases h⟩, ?_⟩,λ h=>absurd rfl h⟩;show(bs++ay x).length<=_;rw[am0];omega
 |true=>
  subst hct;have hkp:keep=alk:=hkp rfl;subst hkp;have hki:=Ew keep (ay x).length;refine⟨_,_,rfl,rfl,λ h=>absurd h d_,λ _=>rfl,λ h=>absurd h d_,λ _ lg sn ic hd wt=>?_⟩;have hb:(bs++(ay x).take (oM keep (ay x).length).toNat).length<=200100*(k+1):=by
   rw[am0,am5];omega
  by_cases h7:((ay x).length:Int)<=keep
  ·rw[if_pos rfl,if_pos h7];have hw:(ay x).take (oM keep (ay x).length).toNat=ay x:=anf (by unfold oM;split<;>split<;>omega);refine⟨rfl,rfl,rfl,⟨l++[x],[], ?_,h5,λ _=>rfl,h6⟩,λ h=>(by cases h),hb⟩;show xB (bs++(ay x).take (oM keep (ay x).length).toNat) _ _;rw[hw];exact Aj h1 hx
  ·rw[if_pos rfl,if_neg h7];exact⟨rfl,rfl,rfl,⟨l,_,OD h1 hx (by unfold oM;split<;>split<;>omega),h2,λ h=>(by cases h),h4'⟩,λ h=>(by cases h),hb⟩
section
variable{k:Nat}{T:List Ev}{H:Nat->aS}{h:Nd}{y:Ny}
theorem sU.sN(ho:sU k T H y)(hr:qy k h y)(hk:k<=480)(hu:y.up=true):NdB h:=by
 obtain⟨e1,e2,e3,e4,e5,e6,e7,e8⟩:=hr.on hu;have hat:=ho.g.at_ ho.p ho.r ho.hc;have hlen:=ho.g.len ho.p ho.r ho.hc;have hrr:=hr.r;have hs:=ho.s;have hsk:=hat y.r;have hq:=ho.q;have hmc:=ho.may;simp only[qj,amY,tN]at hmc;refine⟨by rw[hrr];exact ho.r,λ q=>?_,λ key=>?_, ?_,λ e he=>?_,λ x hx=>?_,by have:=hr.bs;omega, ?_, ?_,λ j=>?_⟩
 ·rw[e3];have:=hat q;show 0<=(cZ y.log).at q/\(cZ y.log).at q<=_;omega
 ·rw[e1];exact ho.p.pst ho.g key
 ·rw[e1];omega
 ·rw[e1]at he;have:=ho.p.h e (ho.g.mem e he);omega
 ·rw[e1]at hx;exact ahY y.log o_ x hx
 ·rw[e5];omega
 ·rw[e2];unfold Ny.clk at hs;omega
 ·rw[e5];rcases anr j y.out.length with hj|hj
  ·have hm:y.out.getD j default∈y.out:=by simp[List.getD,hj]
   have:=ho.g.nb ho.p ho.r ho.hc (ana.1 hm).1;omega
  ·rw[show y.out.getD j default=default by simp[List.getD,hj]];decide
theorem aj'(hr:qy k h y)(hu:y.up=true)(e:Ed):gq h e=Ho y e:=by
 obtain⟨e1,e2,e3,e4,e5,e6,e7,e8⟩:=hr.on hu;unfold gq Ho;rw[hr.r,e3,e1]
theorem afU(ho:sU k T H y)(hk:k<=480){e:Ed}(he:lF e=0):dU (Ho y e)=0:=by
 have hat:=ho.g.at_ ho.p ho.r ho.hc;have hb:=H8 (c:=y.clk) (M:=(k:Int)) o_ (l:=y.log) λ x hx=>ho.p.h x (ho.g.mem x hx);have hr:=ho.r;have hn:=hat y.r;have h0:pR (cZ y.log).c0=true:=nI (hat 0).1 (Int.le_trans (hat 0).2 o_);have h1:pR (cZ y.log).c1=true:=nI (hat 1).1 (Int.le_trans (hat 1).2 o_);have h2:pR (cZ y.log).c2=true:=nI (hat 2).1 (Int.le_trans (hat 2).2 o_);have h3:pR (cZ y.log).c3=true:=nI (hat 3).1 (Int.le_trans (hat 3).2 o_);have h4:pR (cZ y.log).c4=true:=nI (hat 4).1 (Int.le_trans (hat 4).2 o_);have hg:(cZ y.log).get (y.r:Int)=(cZ y.log).at y.r:=get_at _ hr;unfold dU;rw[if_neg,if_neg,if_neg]
 ·exact he
 ·show¬ ((cZ y.log).get (y.r:Int) !=((cZ y.log).at y.r+1)-1)=true;rw[hg];simp
 ·show¬ (!(pR (cZ y.log).c0&&pR (cZ y.log).c1&&pR (cZ y.log).c2&&pR (cZ y.log).c3&&pR (cZ y.log).c4))=true;rw[h0,h1,h2,h3,h4];simp
 ·show¬ (!(iY (y.r:Int) 0 4&&iY ((cZ y.log).at y.r+1) 1 1048576&&iY (hgt y.log (cZ y.log)) 1 16777216))=true;have hb:1<=hgt y.log (cZ y.log)/\hgt y.log (cZ y.log)<=k+1:=hb;unfold iY;rw[decide_eq_true (show(0:Int)<=y.r by omega),decide_eq_true (show(y.r:Int)<=4 by omega),decide_eq_true (show(1:Int)<=(cZ y.log).at y.r+1 by omega),decide_eq_true (show(cZ y.log).at y.r+1<=1048576 by omega),decide_eq_true hb.1,decide_eq_true (show hgt y.log (cZ y.log)<=16777216 by omega)];simp
theorem Ll{cL cP:Int}{l:List Cont}{e:Ed}(h:nG cL cP l e=0):lF e=0:=by
 unfold nG at h;split at h
 ·exact h
 ·rename_i h1;simpa using h1
theorem abR{y:Ny}{e:Ed}(he:lF e=0):Fine (Ho y e):=by
 unfold lF at he;split at he
 ·cases he
 rename_i h1;split at he
 ·rename_i h2;exact absurd he h2
 rename_i h2;have hk:e.key.size<=8:=by
  have h2:keyE e.key=0:=by simpa using h2
  unfold keyE at h2;split at h2
  ·rename_i h3;exact h3.2.1
  ·cases h2
 split at he
 ·split at he
  ·cases he
  rename_i h4;split at he
  ·cases he
  rename_i h5;exact⟨by show 1<=e.k/\e.k<=5;omega,hk,.inl (by show e.l=0;simpa using h4),by show e.v.size<=12;omega⟩
 ·split at he
  ·rename_i h4;exact absurd he h4
  rename_i h4;have h4:rQ e.l=0:=by simpa using h4
  refine⟨by show 1<=e.k/\e.k<=5;omega,hk, ?_, ?_⟩
  ·unfold rQ at h4;split at h4
   ·show e.l=0\/e.l=1;omega
   ·cases h4
  ·unfold lD at he;split at he
   ·rename_i h5;exact h5.2
   ·cases he
theorem O9(ho:sU k T H y)(hk:k<=480){e:Ed}(he:lF e=0):Pool (k+1) (T++[Ho y e]) (lH H y.r (y.clk.inc y.r))/\Good (T++[Ho y e]) (y.log++[Ho y e])/\cZ (y.log++[Ho y e])=y.clk.inc y.r:=by
 have hm:=afU ho hk he;have hb:=H8 (c:=y.clk) (M:=(k:Int)) o_ (l:=y.log) λ x hx=>ho.p.h x (ho.g.mem x hx);have hin:∀a∈T,hasB (H y.r) a.r a.n=true->a∈y.log:=λ a ha hh=>by
  obtain⟨p,p1,p2,p3,p4,p5⟩:=ho.p.inv.ev a ha;rw[p2,kG p1,ho.hc]at hh;obtain⟨x,x1,x2,x3⟩:=ho.g.seq.at_.2.1 p p1 a.n hh.1 hh.2;rw[ho.p.inv.mark ha (ho.g.mem x x1) (by rw[x2,p2]) x3.symm];exact x1
 have hI:=ho.p.inv.aiw ho.r (y:=Ho y e) rfl (by show y.clk.at y.r+1=_;rw[ho.hc];rfl) (by show y.clk=_;rw[ho.hc];rfl) (λ a ha hh=>by
  have h2:=hin a ha hh;rw[ho.hc]at hh;exact adD h2 hh) (abR he)
 rw[ho.hc]at hI;have hck:cZ (y.log++[Ho y e])=y.clk.inc y.r:=by
  rw[rP];rfl
 refine⟨⟨hI,ahb ho.p.inv ho.p.tr ho.r (by show y.clk=_;rw[ho.hc];rfl) hI.ord (hI.self s_),λ p hp=>?_,λ x hx=>?_,λ x hx=>?_⟩,⟨λ x hx=>?_,ho.g.seq.snoc ho.r rfl rfl,an4.2 ⟨ho.g.ord,aog _ _,λ a ha b hb=>?_⟩⟩,hck⟩
 ·rw[lu];split
  ·rename_i e1;rw[e1,oz _ ho.r ho.r,if_pos rfl];have h1:=(ho.g.at_ ho.p ho.r ho.hc y.r).2;have h2:y.clk.at y.r=(cZ y.log).at y.r:=rfl;omega
  ·have:=ho.p.le p hp;omega
 ·rcases am6.1 hx with hx|hx
  ·exact ho.p.may x hx
  ·rw[amZ.1 hx];exact hm
 ·rcases am6.1 hx with hx|hx
  ·have:=ho.p.h x hx;omega
  ·rw[amZ.1 hx];show 0<=hgt y.log y.clk/\hgt y.log y.clk<=_;omega
 ·rcases am6.1 hx with hx|hx
  ·exact anv _ (ho.g.mem x hx)
  ·exact anx _ hx
 ·obtain rfl:=amZ.1 hb;exact(an4.1 hI.ord).2.2 a (ho.g.mem a ha) _ (amZ.2 rfl)
theorem VL(h:Nd)(e:Ed)(hu:h.up=false):aj prog 40 [(0,.obs (jQ h))] [.box 0 0,e.av] (.aZ [Zz.av,.v (.int .i64 18)]) [(0,.obs (jQ h))]:=by
 refine gK (ho:=[]) ⟨_,_,func40,rfl,rfl⟩ ?_ rfl;obtain⟨c,r,up,d,log,sent,ic,held,wait⟩:=h;dsimp only[uQ,sN,List.append_nil,Ed.av,Ed.cs]at hu⊢;subst hu;refine K1.M 0x8000000040000008080021ffb func40 40 ?_
 all_goals(conv=>whnf)
 exact iF []
theorem qy.mono(hr:qy k h y){m:Nat}(hm:k<=m):qy m h y:=by
 obtain⟨l,t,h1,h2,h3,h4⟩:=hr.disk;exact⟨hr.c,hr.r,hr.up,⟨l,t,h1,h2,h3,λ j hj=>by have:=h4 j hj;omega⟩,hr.on,by have:=hr.bs;omega⟩
theorem ahZ(hr:qy k h y)(ho:sU k T H y)(hk:k<=480)(e:Ed):∃h' v,qy (k+1) h' (uo y e).1/\((uo y e).2=0->v=Ho y e)/\((uo y e).2≠0->v=Zz)/\
  aj prog 40 [(0,.obs (jQ h))] [.box 0 0,e.av] (.aZ [v.av,.v (.int .i64 (uo y e).2)]) [(0,.obs (jQ h'))]:=by
 unfold uo;by_cases hu:y.up=false
 ·rw[if_pos hu];exact⟨h,Zz,hr.mono o_,λ h=>absurd (show(18:Int)=0 from h) d_,λ _=>rfl,VL h e (hr.up.trans hu)⟩
 rw[if_neg hu];have hu:y.up=true:=by simpa using hu
 have hB:=ho.sN hr hk hu;have VY:=hr.up.trans hu;obtain⟨e1,e2,e3,e4,e5,e6,e7,e8⟩:=hr.on hu;have hck:nG h.c.l h.c.p (qV h.log) e=nG y.c.l y.c.p (qV y.log) e:=by rw[hr.c,e1]
 by_cases h1:nG y.c.l y.c.p (qV y.log) e≠0
 ·rw[if_pos h1];exact⟨h,Zz,hr.mono o_,λ h=>absurd h h1,λ _=>rfl,Yc h e hB VY _ hck h1⟩
 rw[if_neg h1];have h1:nG y.c.l y.c.p (qV y.log) e=0:=by simpa using h1
 rw[h1]at hck;by_cases h2:y.c.q<=(y.out.length:Int)
 ·rw[if_pos h2];exact⟨h,Zz,hr.mono o_,λ h=>absurd (show(17:Int)=0 from h) d_,λ _=>rfl,Rj h e hB VY hck (by rw[hr.c,e5];omega)⟩
 rw[if_neg h2];have he:=Ll h1;obtain⟨hP,hG,hC⟩:=O9 ho hk he;have hm:=afU ho hk he;have hev:=aj' hr hu e;have hH:hgt h.log h.ic<=1000001:=by
  have hb:=H8 (c:=y.clk) (M:=(k:Int)) o_ (l:=y.log) λ x hx=>ho.p.h x (ho.g.mem x hx);rw[e1,e3];omega
 have hrc:(⟨1,y.r,0,aV,[Ho y e]⟩:Rc)=zx h (gq h e):=by rw[hev];unfold zx;rw[hr.r]
 have hmr:iE (zx h (gq h e))=true:=by
  rw[<-hrc];have:=ho.r;simp[iE,rcK,EH,EJ,EI,NW,LU,aV,hm,nI (show(0:Int)<=0 by omega) o_];omega
 have hq:(h.wait.length:Int)<h.c.q:=by rw[hr.c,e5];omega
 have hlen:(y.log++[Ho y e]).length<=5*(k+1):=by
  have:=ho.g.len ho.p ho.r ho.hc;rw[am0];simp only[anb,anD];omega
 obtain⟨dk,z,w1,w2,w3,w3',w4,w5⟩:=Rn (L:=y.log++[Ho y e]) (s:=y.sent) (held:=y.held) (ic:=h.ic.inc h.r) (wait:=h.wait++[gq h e]) hr o_ hu (x:=⟨1,y.r,0,aV,[Ho y e]⟩) (by rw[hrc];exact hmr) (by rfl) hlen;rw[hrc]at w1;have hout:kL y.r y.sent (y.log++[Ho y e])=y.out++[Ho y e]:=by
  rw[Ap,if_pos]
  ·rfl
  ·exact decide_eq_true ⟨rfl,by have:=ho.s.2;show y.sent<y.clk.at y.r+1;omega⟩
 by_cases hz:z=0
 ·subst hz;rw[if_pos rfl]at w2;refine⟨_,Ho y e,w4 rfl (by rw[hC,e3,hr.r]) (by rw[hout,e5,hev]),λ _=>rfl,λ h=>absurd w2 h, ?_⟩;rw[w2];have hs:=ho.g.seq.out ho.r ho.s.1;have hd:gI h.ic [gq h e]=([gq h e],[],h.ic.inc h.r):=by
   refine abQ (by rw[hr.r];exact ho.r) rfl rfl ?_ (by rw[e3];exact QY _ _);exact adA.2 λ r _=>aom _
  have ha:LZ h.c.q h.sent h.wait (gq h e)=(h.wait++[gq h e],0):=by
   refine O8 (λ j hj=>?_) ?_ hq
   ·rw[e5]at hj⊢;rw[e2];exact hs.2 j hj
   ·have h1:=hs.1;have h3:=ho.s.2;rw[hev,e2,e5];show y.clk.at y.r+1=y.sent+(y.out.length:Int)+1;have h1:(y.out.length:Int)=(if y.clk.at y.r<=y.sent then 0 else y.clk.at y.r-y.sent):=h1;rw[h1];split<;>omega
  have hnx:Fe (nO (eqK (gq h e).key) h.log) (gq h e):=by
   rw[hev,e1];exact aeu hP.inv hP.tr hG.mem hG.ord (P:=y.log) (Q:=[]) rfl
  have:=X3 h e dk hB VY hck hq hH hmr w1 hd ha hnx (by rw[hev];exact hm);rw[hev]at this;rw[hev,<-e1,<-e2,<-e4];exact this
 ·rw[if_neg hz]at w2;refine⟨_,Zz,w5 hz h.log h.sent h.ic h.held h.wait,λ h=>(by rw[w2]at h;cases h),λ _=>rfl, ?_⟩;rw[w2];exact Rk h e dk z hz hB VY hck hq hH hmr w1
end
section
variable{k:Nat}{T:List Ev}{H:Nat->aS}{h:Nd}{y:Ny}
theorem VN(h:Nd)(hu:h.up=false):aj prog 45 [(0,.obs (jQ h))] [.box 0 0] (.v (.int .i64 18)) [(0,.obs (jQ h))]:=by
 refine gK (ho:=[]) ⟨_,_,func45,rfl,rfl⟩ ?_ rfl;obtain⟨c,r,up,d,log,sent,ic,held,wait⟩:=h;dsimp only[uQ,sN,List.append_nil]at hu⊢;subst hu;refine K1.M 0x2085 func45 40 ?_
 all_goals(conv=>whnf)
 exact iF []
theorem abS{b:List UInt8}{x:Rc}(h:eP b=(x,0)):b.length<=2048:=by
 rcases anr 2048 b.length with h1|h1
 ·unfold eP at h;rw[if_pos o_]at h;simp at h
 ·exact h1
theorem abT{b:List UInt8}{x:Rc}(h:eP b=(x,0)):jW x=true:=by
 rcases Cc b (abS h)with⟨z',h1,h2,_⟩|h1|h1
 ·rw[h]at h1;cases h1;exact h2
 ·rw[h]at h1;cases h1
 ·rw[h]at h1;cases h1
theorem abU{r:Nat}{s s':Int}{L:List Ev}(hL:Seq L)(hr:r<5)(h0:0<=s)(h1:s<=s')(h2:s'<=(cZ L).at r):s+(vN s s' (kL r s L).length:Int)=s'/\(kL r s L).drop (vN s s' (kL r s L).length)=kL r s' L:=by
 have ho:=hL.out hr h0;have hlen:((kL r s L).length:Int)=(cZ L).at r-s:=by have:=ho.1;split at this<;>omega
 have hk:vN s s' (kL r s L).length=(s'-s).toNat:=by unfold vN;split<;>omega
 rw[hk];refine⟨o_, ?_⟩;have e:kL r s' L=(kL r s L).filter (λ e=>decide (s'<e.n)):=by
  unfold kL;rw[anL];congr 1;funext e;unfold Rl;by_cases a:e.r=(r:Int)
  ·by_cases b:s'<e.n
   ·rw[decide_eq_true (p:=e.r=(r:Int)/\s'<e.n) ⟨a,b⟩,decide_eq_true (p:=e.r=(r:Int)/\s<e.n) ⟨a,o_⟩,decide_eq_true b];rfl
   ·rw[decide_eq_false (p:=e.r=(r:Int)/\s'<e.n) (λ h=>b h.2),decide_eq_false b];rfl
  ·rw[decide_eq_false (p:=e.r=(r:Int)/\s'<e.n) (λ h=>a h.1),decide_eq_false (p:=e.r=(r:Int)/\s<e.n) (λ h=>a h.1),Bool.and_false]
 rw[e];generalize kL r s L=w at ho hlen⊢;have h3:=ho.2;have key:∀(w:List Ev)(s:Int),s<=s'->(s'-s).toNat<=w.length->(∀j,j<w.length->(w.getD j default).n=s+1+(j:Int))->w.drop (s'-s).toNat=w.filter (λ e=>decide (s'<e.n)):=λ w=>by
  induction w with
  |nil=>intro s _ _ _;simp
  |cons x w ih=>
   intro s a b c;have hx:x.n=s+1:=by have:=c 0 s_;simpa using this
   have hw:∀j,j<w.length->(w.getD j default).n=s+1+1+(j:Int):=λ j hj=>by
    have:=c (j+1) (by simp;omega);rw[an']at this;omega
   by_cases q:s<s'
   ·rw[List.filter_cons_of_neg (by simp;omega),show(s'-s).toNat=(s'-(s+1)).toNat+1 by omega,List.drop_succ_cons];exact ih (s+1) o_ (by simp only[anb]at b;omega) hw
   ·obtain rfl:s=s':=o_
    rw[List.filter_cons_of_pos (by simp;omega),show(s-s).toNat=0 by omega,List.drop_zero];congr 1;refine(List.filter_eq_self.2 λ e he=>?_).symm;obtain⟨j,hj,rfl⟩:=anR he;have:=hw j hj;rw[show w.getD j default=w[j] by simp[List.getD,hj]]at this;exact decide_eq_true o_
 exact key w s h1 o_ h3
theorem sU.bounds(ho:sU k T H y):y.out.length<=8/\y.held.length<=20/\y.c.w<=4/\1<=y.c.w:=by
 have h1:=ho.q;have h2:=ho.hl;have hmc:=ho.may;simp only[qj,amY,tN]at hmc;omega
theorem abV{c c':aS}{l d w:List Ev}(h:gI c l=(d,w,c')):d.length<=l.length/\w.length<=l.length:=by
 have key:∀(f:Nat)(c:aS)(w d:List Ev),(LY f c w d).1.length<=d.length+f/\(LY f c w d).2.1.length<=w.length:=λ f=>by
  induction f with
  |zero=>intro c w d;exact⟨by simp[LY],ani _⟩
  |succ f ih=>
   intro c w d;unfold LY;split
   ·exact⟨s_,ani _⟩
   ·rename_i e he;have h1:=ih (c.inc e.r.toNat) (BO w e) (d++[e]);obtain⟨_,_,_,_,_,_,hw⟩:=J4 he;have h2:=UK hw;rw[am0]at h1;simp only[anb,anD]at h1;omega
 have h1:=key (kR c l).length c (kR c l) [];have h2:=Ad c l l.length (ani _);rw[aof]at h2;unfold gI at h;rw[h]at h1;simp only[anD]at h1;omega
theorem Ro{r:Nat}(hr:r<5):∀(d L:List Ev),(∀e∈d,e.r≠(r:Int))->(∀e∈d,0<=e.r/\e.r<5)->(cZ (L++d)).at r=(cZ L).at r
 |[],L,_,_=>by rw[am2]
 |e::d,L,q1,q2=>by
  rw[show L++e::d=(L++[e])++d by simp,Ro hr d (L++[e]) (λ x hx=>q1 x (am1 _ hx)) (λ x hx=>q2 x (am1 _ hx)),rP];have b1:=q1 e amW;have b2:=q2 e amW;rw[oz _ o_ hr,if_neg o_]
theorem Lm(ho:sU k T H y){d:List Ev}{c':aS}(g2:c'=cZ (y.log++d))(g3:Good T (y.log++d))(g4:Inv T (lH H y.r c'))(g5:∀e∈d,e.r≠(y.r:Int)):Pool k T (lH H y.r c')/\lH H y.r c' y.r=cZ (y.log++d)/\kL y.r y.sent (y.log++d)=y.out:=by
 refine⟨⟨g4,ho.p.tr,λ p hp=>?_,ho.p.may,ho.p.h⟩,by rw[lu,if_pos rfl];exact g2, ?_⟩
 ·rw[lu];split
  ·rename_i e0;rw[e0,g2,Ro ho.r d y.log g5 (λ e he=>by
    have:=Yd (ho.p.may e (g3.mem e (anx _ he)));omega),<-ho.hc]
   exact ho.p.le _ ho.r
  ·exact ho.p.le p hp
 ·unfold Ny.out kL;rw[aoq,(ao4 (p:=Rl y.r y.sent) (l:=d)).2 λ e he=>by
   unfold Rl;rw[decide_eq_true_eq];exact λ h=>g5 e he h.1,am2]
theorem ah0(hr:qy k h y)(ho:sU k T H y)(hk:k<=480)(b:List UInt8)(hb:∀x,eP b=(x,0)->x.k=4-> ∀e∈x.ev,e∈T){n:Nat}{F:Nat->List AV}(hF:bg F b)(hn:n=b.length):
  ∃h',qy (k+1) h' (AY y b).1/\aj prog 100 [(0,.obs (jQ h))] [.box 0 0,.sl 1 n true F] (.v (.int .i64 (AY y b).2)) [(0,.obs (jQ h'))]:=by
 unfold AY;by_cases hu:y.up=false
 ·rw[if_pos hu];exact⟨h,hr.mono o_,XK h (hr.up.trans hu) (.inr ⟨_,_,rfl⟩)⟩
 rw[if_neg hu];have hu:y.up=true:=by simpa using hu
 have VY:=hr.up.trans hu;obtain⟨e1,e2,e3,e4,e5,e6,e7,e8⟩:=hr.on hu;obtain⟨⟨x,z⟩,ht⟩:∃q,eP b=q:=⟨_,rfl⟩;rw[ht];dsimp only;by_cases hz:z≠0
 ·rw[if_pos hz];exact⟨h,hr.mono o_,Vo h VY b ht hz hF hn⟩
 rw[if_neg hz];have hz:z=0:=by simpa using hz
 subst hz;have hmf:=pK (abT ht);have hxl:=hmf.l;unfold Ye;by_cases hodd:x.r≠(y.r:Int)\/(∃e∈x.ev,Md y.r y.c.n e)\/x.k≠2/\x.k≠4
 ·rw[if_pos hodd];refine⟨h,hr.mono o_,Vp h VY b ht o_ ?_ hF hn⟩;rw[hr.r,hr.c];refine hodd.imp id (Or.imp (λ⟨e,he,ho⟩=>?_) id);obtain⟨j,hj,rfl⟩:=anR he;exact⟨j,hj,by rw[show x.ev.getD j default=x.ev[j] by simp[List.getD,hj]];exact ho⟩
 rw[if_neg hodd];simp only[not_or,not_exists,not_and,ne_eq,apu]at hodd;obtain⟨hxr,hno,hxk⟩:=hodd;have hB:=ho.sN hr hk hu;have hbd:=ho.bounds;have hat:=ho.g.at_ ho.p ho.r ho.hc;have hsk:=hat y.r;have hs:=ho.s;have qB:=ho.r;unfold Ny.clk at hs;by_cases hk2:x.k=2
 ·rw[if_pos hk2];have hev:x.ev=[]:=by
   rcases hmf.e0 with h1|h1
   ·rw[hk2]at h1;cases h1
   ·exact am9 h1
  have hsn:GR h x.u=lC y x.u:=by unfold GR lC;rw[e2,e3,hr.r]
  unfold Ii;by_cases hsame:lC y x.u=y.sent
  ·rw[if_pos hsame];exact⟨h,hr.mono o_,Lh h VY b ht (by rw[hr.r];exact qB) (by rw[hr.r];exact hxr) hk2 hev (by rw[hsn,hsame,e2]) hF hn⟩
  ·rw[if_neg hsame];have hb1:y.sent<=lC y x.u/\lC y x.u<=(cZ y.log).at y.r:=by
    show y.sent<=lC y x.u/\lC y x.u<=y.clk.at y.r;have hs':y.sent<=y.clk.at y.r:=hs.2;unfold lC;split<;>split<;>omega
   have hrc:(⟨3,y.r,lC y x.u,aV,[]⟩:Rc)=VX h (lC y x.u):=by unfold VX;rw[hr.r]
   have hmr:iE ⟨3,y.r,lC y x.u,aV,[]⟩=true:=aj8 o_ o_ o_;obtain⟨dk,z,w1,w2,w3,w3',w4,w5⟩:=Rn (L:=y.log) (s:=lC y x.u) (held:=y.held) (ic:=h.ic) (wait:=h.wait.drop (vN h.sent (lC y x.u) h.wait.length)) hr o_ hu hmr (by rfl) (by have:=ho.g.len ho.p ho.r ho.hc;omega);rw[hrc]at w1 hmr;have hd:=abU ho.g.seq qB hs.1 hb1.1 hb1.2;have hwo:h.wait=kL y.r y.sent y.log:=e5;by_cases hz:z=0
   ·subst hz;rw[if_pos rfl]at w2;refine⟨_,w4 rfl (by rw[e3];rfl) (by rw[hwo,e2];exact hd.2), ?_⟩;rw[w2];have:=Ri h VY b ht (by rw[hr.r];exact qB) (by rw[hr.r];exact hxr) hk2 hev hsn (by rw[e2];exact hsame) (by rw[e2];omega) o_ (by rw[e5];omega) (by have:=hr.bs;omega) hmr dk w1 hF hn;rw[show h.sent+(vN h.sent (lC y x.u) h.wait.length:Int)=lC y x.u by rw[hwo,e2];exact hd.1]at this;rw[<-e1,<-e4];exact this
   ·rw[if_neg hz]at w2;refine⟨_,w5 hz h.log h.sent h.ic h.held h.wait, ?_⟩;rw[w2];exact Lj h VY b ht (by rw[hr.r];exact qB) (by rw[hr.r];exact hxr) hk2 hev hsn (by rw[e2];exact hsame) (by have:=hr.bs;omega) hmr dk hz w1 hF hn
 ·rw[if_neg hk2];have hk4:x.k=4:=hxk hk2;have hin:=hb x ht hk4;unfold evY;obtain⟨⟨d,w,c'⟩,hd⟩:∃q,gI y.clk (y.held++x.ev)=q:=⟨_,rfl⟩;rw[hd];dsimp only;have hd':gI h.ic (h.held++x.ev)=(d,w,c'):=by rw[e3,e4];exact hd
  have hdl:=abV hd;rw[am0]at hdl;obtain⟨g1,g2,g3,g4,g5⟩:=KI qB ho.p.inv ho.hc ho.g (l:=y.held++x.ev) (λ e he=>(am6.1 he).elim (ho.h e) (hin e)) hd;have hno':∀j,j<x.ev.length-> ¬Md h.r h.c.n (x.ev.getD j default):=λ j hj=>by
   rw[hr.r,hr.c];exact hno _ (by simp[List.getD,hj])
  have hic:∀q,0<=h.ic.at q/\h.ic.at q<=1000000:=λ q=>by
   rw[e3];have:=hat q;show 0<=(cZ y.log).at q/\(cZ y.log).at q<=_;omega
  have tk:=λ{h':Nd} {z:Int} (hev:O5 h x.ev h' z)=>X8 h h' VY b ht (by rw[hr.r];exact hxr) hk4 hno' o_ hic (by rw[e4];omega) hev hF hn;by_cases hh:y.c.h<(w.length:Int)
  ·rw[if_pos hh];exact⟨h,hr.mono o_,tk (.hold hd' (by rw[hr.c];exact hh))⟩
  rw[if_neg hh];have hh':(w.length:Int)<=h.c.h:=by rw[hr.c];omega
  by_cases h0:d.length=0
  ·rw[if_pos h0];obtain rfl:=am9 h0;rw[am2]at g2;refine⟨_, ?_,tk (.none hd' hh')⟩;obtain⟨l,t,h1,h2,h3,h4⟩:=hr.disk;exact⟨hr.c,hr.r,rfl,⟨l,t,h1,h2,λ _=>h3 hu,λ j hj=>by have:=h4 j hj;omega⟩,λ _=>⟨e1,e2,g2,rfl,e5,e6,e7,e8⟩,by have:=hr.bs;show h.d.bs.length<=_;omega⟩
  rw[if_neg h0];obtain⟨hP,hcc,hout⟩:=Lm ho g2 g3 g4 g5;have hlen:(y.log++d).length<=5*k:=g3.len hP qB hcc;have amj:=g3.log hP qB hcc o_;have hmd:∀e∈d,dU e=0:=λ e he=>ho.p.may e (g3.mem e (anx _ he));have hrc:(⟨2,y.r,0,aV,d⟩:Rc)=VG h d:=by unfold VG;rw[hr.r]
  have hmr:iE ⟨2,y.r,0,aV,d⟩=true:=by
   simp[iE,rcK,EH,EJ,EI,NW,LU,aV,nI (show(0:Int)<=0 by omega) o_];exact⟨⟨o_,o_⟩,hmd⟩
  obtain⟨dk,z,w1,w2,w3,w3',w4,w5⟩:=Rn (L:=y.log++d) (s:=y.sent) (held:=w) (ic:=c') (wait:=h.wait) hr o_ hu hmr (by rfl) o_;rw[hrc]at w1 hmr;by_cases hz:z=0
  ·subst hz;rw[if_pos rfl]at w2;refine⟨_,w4 rfl g2 (by rw[e5];exact hout.symm), ?_⟩;rw[w2];have:=tk (.ok hd' hh' o_ hmr (by have:=hr.bs;omega) dk w1 (by rw[e1,<-Nat.add_le_add_iff_right (n:=d.length),<-am0];omega) λ j hj=>?_)
   ·rw[<-e1,<-e2];exact this
   ·have hjl:y.log.length+j<(y.log++d).length:=by rw[am0];omega
    have a1:=amj.nx _ hjl;rw[show(y.log++d).getD (y.log.length+j) default=d.getD j default by simp[List.getD,anI],apw,anf o_,Nat.add_sub_cancel_left]at a1;rw[e1];exact⟨a1,hmd _ (by simp[List.getD,hj])⟩
  ·rw[if_neg hz]at w2;refine⟨_,w5 hz h.log h.sent c' w h.wait, ?_⟩;rw[w2];exact tk (.down hd' hh' o_ hmr (by have:=hr.bs;omega) dk hz w1)
theorem afV(hr:qy k h y)(ho:sU k T H y)(hk:k<=480):∃h',qy (k+1) h' (xI y).1/\aj prog 45 [(0,.obs (jQ h))] [.box 0 0] (.v (.int .i64 (xI y).2)) [(0,.obs (jQ h'))]:=by
 unfold xI;by_cases hu:y.up=false
 ·rw[if_pos hu];exact⟨h,hr.mono o_,VN h (hr.up.trans hu)⟩
 rw[if_neg hu];have hu:y.up=true:=by simpa using hu
 have VY:=hr.up.trans hu;obtain⟨e1,e2,e3,e4,e5,e6,e7,e8⟩:=hr.on hu;have hlen:=ho.g.len ho.p ho.r ho.hc;have hat:=ho.g.at_ ho.p ho.r ho.hc y.r;have hs:=ho.s;have qB:=ho.r;unfold Ny.clk at hs;have hrc:(⟨4,y.r,y.sent,aV,y.log⟩:Rc)=Me h:=by unfold Me;rw[hr.r,e1,e2]
 have hmr:iE ⟨4,y.r,y.sent,aV,y.log⟩=true:=by
  simp[iE,rcK,EH,EJ,EI,NW,LU,aV,nI (show(0:Int)<=0 by omega) o_,nI hs.1 o_];exact⟨⟨o_,o_⟩,λ e he=>ho.p.may e (ho.g.mem e he)⟩
 obtain⟨dk,z,w1,w2,w3,w3',w4,w5⟩:=Rn (L:=y.log) (s:=y.sent) (held:=y.held) (ic:=h.ic) (wait:=h.wait) hr o_ hu hmr (by rfl) o_;rw[hrc]at w1 hmr;have hm:=XM h VY (by rw[e1];omega) hmr (by have:=hr.bs;omega) dk z w1;by_cases hz:z=0
 ·subst hz;rw[if_pos rfl]at w2;rw[if_pos rfl,if_pos rfl]at hm;refine⟨_,w4 rfl e3 e5, ?_⟩;rw[w2,<-e1,<-e2,<-e4];exact hm
 ·rw[if_neg hz]at w2;rw[if_neg hz,if_neg hz]at hm;refine⟨_,w5 hz h.log h.sent h.ic h.held h.wait, ?_⟩;rw[w2];exact hm
theorem afW(hr:qy k h y)(ho:sU k T H y)(hk:k<=480):∃h',qy k h' (uN y).1/\aj prog 73 [(0,.obs (jQ h))] [.box 0 0] (.v (.int .i64 (uN y).2)) [(0,.obs (jQ h'))]:=by
 unfold uN;by_cases hu:y.up=true
 ·rw[if_pos hu];exact⟨h,hr,Vq h (hr.up.trans hu)⟩
 rw[if_neg hu];have hu:y.up=false:=by simpa using hu
 obtain⟨l,t,h1,h2,h3,h4⟩:=hr.disk;have hat:=ho.g.at_ ho.p ho.r ho.hc y.r;have hs:=ho.s;have hbs:=hr.bs;unfold Ny.clk at hs;have hlen:=h1.eq;have hm:=XO h (hr.up.trans hu) l t h1 o_ (λ j hj=>by have:=h4 j hj;omega) (λ j hj=>by
  have:=h1.may (l.getD j default) (by simp[List.getD,hj]);simp only[iE,amY]at this;have:=of_decide_eq_true this.1.1.1.1.1.1.2;omega) (by rw[h2];exact ho.g.log ho.p ho.r ho.hc o_) (by rw[h2];dsimp only;omega)
 rw[h2]at hm;dsimp only at hm;refine⟨⟨h.c,h.r,true,⟨ji l,false,false,h.d.keep⟩,y.log,y.sent,cZ y.log,[],nP h.c.q y.sent h.r y.log⟩,⟨hr.c,hr.r,rfl,⟨l,[], ?_,h2,λ _=>rfl,h4⟩,λ _=>⟨rfl,rfl,rfl,rfl, ?_,rfl,rfl,λ h=>by cases h⟩, ?_⟩,hm⟩
 ·exact⟨h1.may,by rw[am2],vT⟩
 ·rw[hr.r,hr.c];exact ho.g.seq.wait ho.r hs.1 hs.2 ho.q
 ·show(ji l).length<=_;rw[hlen,am0]at hbs;omega
theorem afX(hr:qy k h y):∃h',qy k h' y.off/\aj prog 95 [(0,.obs (jQ h))] [.box 0 0] (.aZ []) [(0,.obs (jQ h'))]:=by
 obtain⟨l,t,h1,h2,h3,h4⟩:=hr.disk;exact⟨⟨h.c,h.r,false,⟨h.d.bs,true,false,h.d.keep⟩,h.log,h.sent,h.ic,h.held,h.wait⟩,⟨hr.c,hr.r,rfl,⟨l,t,h1,h2,(λ h=>by cases h),h4⟩,(λ h=>by cases h),hr.bs⟩,XQ h⟩
theorem akb(hr:qy k h y)(m:Int):∃h',qy k h' (afT y m)/\aj prog 283 [(0,.obs (jQ h))] [.box 0 0,.v (.int .i64 m)] (.aZ []) [(0,.obs (jQ h'))]:=by
 refine⟨⟨h.c,h.r,h.up,⟨h.d.bs,h.d.down,true,m⟩,h.log,h.sent,h.ic,h.held,h.wait⟩,⟨hr.c,hr.r,hr.up,hr.disk,λ hu=>?_,hr.bs⟩,afc h m⟩;obtain⟨e1,e2,e3,e4,e5,e6,e7,e8⟩:=hr.on hu;exact⟨e1,e2,e3,e4,e5,e6,rfl,λ _=>rfl⟩
end
instance:Inhabited Ny:=⟨⟨⟨0,0,0,0,0,0⟩,0,false,[],0,[],false,0⟩⟩
structure Wy where
 (c:lZ)(ns:List Ny)(hb:Ry)(fl:List (Int×List UInt8))
def Wy.nd(w:Wy)(r:Int):Ny:=w.ns.getD r.toNat default
def Wy.has(w:Wy)(r:Int):Prop:=0<=r/\r<(w.ns.length:Int)
instance(w:Wy)(r:Int):Decidable (w.has r):=inferInstanceAs (Decidable (_/\_))
def Wy.set(w:Wy)(r:Int)(y:Ny):Wy:=⟨w.c,w.ns.set r.toNat y,w.hb,w.fl⟩
def ZA(y:Ny):Rc:=⟨1,y.r,0,aV,y.out.take y.c.w.toNat⟩
def abW(y:Ny)(k:Int):Rc:=⟨k,y.r,0,y.clk,[]⟩
def Pg(y:Ny):List UInt8×Int:=if y.up=false then([],18)else if y.out.length=0 then([],24)else(aY (ZA y),0)
def Rq(y:Ny)(k:Int):List UInt8×Int:=if y.up=false then([],18)else(aY (abW y k),0)
def Wy.send(w:Wy)(b:List UInt8×Int):Wy×Int:=if b.2=0 then(⟨w.c,w.ns,w.hb,w.fl++[(5,b.1)]⟩,0)else(w,b.2)
def xJ(b:List UInt8)(bit mask:Int):List UInt8:=if b.length=0 then []else jO b (bit%(8*(b.length:Int))).toNat mask.toNat (min 32 (8*b.length-(bit%(8*(b.length:Int))).toNat))
def Wy.arrive(w:Wy)(to:Int)(b:List UInt8):Wy×Int:=
 if w.has to then(w.set to (AY (w.nd to) b).1,(AY (w.nd to) b).2)
 else match KZ w.hb b with
  |(h,.inl x)=>(⟨w.c,w.ns,h,w.fl⟩,x)
  |(h,.inr (r,b'))=>(⟨w.c,w.ns,h,w.fl++[((r:Int),b')]⟩,0)
def Wy.flight(w:Wy)(s:Stp):Wy×Int:=
 if s.at_<0\/(w.fl.length:Int)<=s.at_ then(w,24)
 else if s.k=6 then(⟨w.c,w.ns,w.hb,w.fl.eraseIdx s.at_.toNat⟩,0)
 else if s.k=5 then w.arrive (w.fl.getD s.at_.toNat (0,[])).1 (w.fl.getD s.at_.toNat (0,[])).2
 else if s.k=4 then Wy.arrive ⟨w.c,w.ns,w.hb,w.fl.eraseIdx s.at_.toNat⟩ (w.fl.getD s.at_.toNat (0,[])).1 (w.fl.getD s.at_.toNat (0,[])).2
 else Wy.arrive ⟨w.c,w.ns,w.hb,w.fl.eraseIdx s.at_.toNat⟩ (w.fl.getD s.at_.toNat (0,[])).1 (xJ (w.fl.getD s.at_.toNat (0,[])).2 s.bit s.mask)
def Wy.power(w:Wy)(s:Stp):Wy×Int:=
 if w.has s.r then
  (if s.k=8 then(w.set s.r (w.nd s.r).off,0)else if s.k=9 then(w.set s.r (uN (w.nd s.r)).1,(uN (w.nd s.r)).2)else(w.set s.r (afT (w.nd s.r) s.keep),0))
 else if s.r=5 then
  (if s.k=8 then(⟨w.c,w.ns,X7 w.hb,w.fl⟩,0)else if s.k=9 then(⟨w.c,w.ns,(rstart w.hb).1,w.fl⟩,(rstart w.hb).2)else(⟨w.c,w.ns,aj0 w.hb s.keep,w.fl⟩,0))
 else(w,1)
def Wy.step(w:Wy)(s:Stp):Wy×Int:=
 if 4<=s.k/\s.k<=7 then w.flight s
 else if 8<=s.k/\s.k<=10 then w.power s
 else if¬w.has s.r then(w,1)
 else if s.k=0 then(w.set s.r (uo (w.nd s.r) s.ed).1,(uo (w.nd s.r) s.ed).2)
 else if s.k=1 then w.send (Pg (w.nd s.r))
 else if s.k=2 then w.send (Rq (w.nd s.r) 3)
 else if s.k=3 then w.send (Rq (w.nd s.r) 5)
 else if s.k=11 then(w.set s.r (xI (w.nd s.r)).1,(xI (w.nd s.r)).2)
 else(w,1)
def wy0(c:lZ):Wy:=⟨c,(List.range c.n.toNat).map (ny0 c),ry0 c,[]⟩
def yj(T:List Ev)(b:List UInt8):Prop:= ∃x,b=aY x/\jW x=true/\ ∀e∈x.ev,e∈T
structure kZ(k:Nat)(T:List Ev)(H:Nat->aS)(w:Wy):Prop where
 c:qj w.c=true
 n:w.c.n=(w.ns.length:Int)
 nd:∀r,r<w.ns.length->sU k T H (w.ns.getD r default)/\(w.ns.getD r default).c=w.c/\(w.ns.getD r default).r=r
 z:∀q,w.ns.length<=q->H q=aV
 hc:w.hb.c=w.c
 hub:∀r,∀e∈(w.hb.p.s r).l,e∈T
 fl:∀f∈w.fl,(f.1=5\/w.has f.1)/\yj T f.2
 len:w.fl.length<=k
theorem yj.mono(h:yj T b)(S:List Ev):yj (T++S) b:=by
 obtain⟨x,h1,h2,h3⟩:=h;exact⟨x,h1,h2,λ e he=>anv _ (h3 e he)⟩
theorem yj.take(h:yj T b):∀x,eP b=(x,0)-> ∀e∈x.ev,e∈T:=λ x hx=>by
 obtain⟨z,rfl,h2,h3⟩:=h;rw[abe z h2]at hx;cases hx;exact h3
theorem yj.aiH(h:yj T b)(bit mask:Int):xJ b bit mask=b\/ ∃x,eP (xJ b bit mask)=(Zh,x)/\x=4:=by
 obtain⟨z,rfl,h2,h3⟩:=h;have h5:=GK z;have hmx:=zl z h2;unfold xJ;rw[if_neg o_];have hk:=Int.emod_lt_of_pos bit (b:=8*((aY z).length:Int)) o_;have hk0:=Int.emod_nonneg bit (b:=8*((aY z).length:Int)) o_;generalize bit%(8*((aY z).length:Int))=q at hk hk0;by_cases hs:mO (jO (aY z) q.toNat mask.toNat (min 32 (8*(aY z).length-q.toNat)))
 ·exact .inl (U5 (QV _) o_ o_ hs)
 ·refine .inr ⟨4, ?_,rfl⟩;unfold eP;rw[if_neg (by rw[rG];omega),if_neg hs]
theorem afY{s:Nat}(p5:y.ps.length=5):((vU n y s).s r).l=(y.s r).l:=by
 rcases anr r 5 with h|h
 ·show((dR _ s y.ps).getD r default).l=_;rw[qx o_];split<;>rfl
 ·show((dR _ s y.ps).getD r default).l=(y.ps.getD r default).l;rw[ang,ang,anz (by rw[dw];omega),anz o_]
theorem ZB{n r:Nat}:∀(L:List Nat){y:CP},y.ps.length=5->((L.foldl (λ y s=>vU n y s) y).s r).l=(y.s r).l
 |[],_,_=>rfl
 |s::L,y,p5=>(ZB (y:=vU n y s) L (by show(dR _ _ _).length=5;rw[dw];exact p5)).trans (afY p5)
theorem akc{s:LD}:∀e∈(jR w s l).1.l,e∈s.l\/e∈l:=λ e he=>by
 unfold jR at he;split at he
 ·split at he
  ·exact .inl he
  ·exact(am6.1 he).imp id λ h=>(ana.1 h).1
 ·exact .inl he
theorem ah1(p5:y.ps.length=5)(q:Nat):∀e∈((iW w n r l y).1.s q).l,e∈(y.s q).l\/e∈l:=λ e he=>by
 unfold iW at he;split at he
 ·rw[afY (by show(dR _ _ _).length=5;rw[dw];exact p5)]at he;have he:e∈((dR (λ _=>(jR w (y.ps.getD r default) l).1) r y.ps).getD q default).l:=he;rcases anr q 5 with h|h
  ·rw[qx o_]at he;split at he
   ·rename_i e0;subst e0;exact akc e he
   ·exact .inl he
  ·rw[ang,anz (by rw[dw];omega)]at he;cases he
 ·exact .inl he
theorem akd(p5:y.ps.length=5)(q:Nat):((zu n y r c).s q).l=(y.s q).l:=ZB (List.range n) (y:=⟨y.ps,dR (λ t=>t.jn c) r y.qY⟩) p5
theorem VO{r:Nat}{c:aS}:∀{l:List LD}{i:Nat}{e:Ev},e∈qZ r c i l-> ∃s∈l,e∈s.l
 |[],_,_,h=>by cases h
 |s::l,i,e,h=>by
  rcases am6.1 h with h|h
  ·split at h
   ·cases h
   ·exact⟨s,amW,aoG (ana.1 h).1⟩
  ·obtain⟨t,h1,h2⟩:=VO h;exact⟨t,am1 _ h1,h2⟩
theorem afZ{y y':Ry}{res:Res}{k:Nat}{h:Hb}(hr:jX k h y)(hT:∀r,∀e∈(y.p.s r).l,e∈T)(hm:∀e∈T,dU e=0)(hb:∀x,eP b=(x,0)-> ∀e∈x.ev,e∈T)(ht:KZ y b=(y',res)):
  y'.c=y.c/\(∀r,∀e∈(y'.p.s r).l,e∈T)/\ ∀r b',res= .inr (r,b')->(r:Int)<y.c.n/\yj T b':=by
 have p5:=hr.B.p5;have h5:=hr.B.n5;unfold KZ at ht;split at ht
 ·cases ht;exact⟨rfl,hT,λ r b' h=>by cases h⟩
 split at ht
 ·cases ht;exact⟨rfl,hT,λ r b' h=>by cases h⟩
 rename_i hx;obtain⟨⟨z,x⟩,htk⟩:∃q,eP b=q:=⟨_,rfl⟩;rw[htk]at ht hx;have hx:x=0:=by simpa using hx
 subst hx;have hz:=hb z htk;have hmf:=pK (La htk);have hr0:=hmf.r;dsimp only at ht;unfold X4 at ht;by_cases hrn:y.c.n<=z.r
 ·rw[if_pos hrn]at ht;cases ht;exact⟨rfl,hT,λ r b' h=>by cases h⟩
 rw[if_neg hrn]at ht;have hyn:=(afH hr.may).1;have hrz:z.r.toNat<y.n:=o_
 have hzr:(z.r.toNat:Int)<y.c.n:=o_
 have wr:∀(x:Rc)(p:CP),(∀r,∀e∈(p.s r).l,e∈T)->(kK y x p).1.c=y.c/\ ∀r,∀e∈((kK y x p).1.p.s r).l,e∈T:=λ x p hp=>by
  refine⟨rfl, ?_⟩;unfold kK;dsimp only;by_cases hc:y.cuts=false\/((ay x).length:Int)<=y.keep
  ·rw[if_pos hc];exact hp
  ·rw[if_neg hc];exact hT
 have amk:∀m:Int,0<=m/\m<=1048576->yj T (aY ⟨2,z.r,m,aV,[]⟩):=λ m hm=>⟨_,rfl,afB hr0.1 hr0.2 hm.1 hm.2,λ e he=>by cases he⟩;by_cases hk1:z.k=1
 ·rw[if_pos hk1]at ht;have hp:∀r,∀e∈((iW y.c.w y.n z.r.toNat z.ev y.p).1.s r).l,e∈T:=λ r e he=>(ah1 p5 r e he).elim (hT r e) (hz e);have hlen:0<=(iW y.c.w y.n z.r.toNat z.ev y.p).2.1/\(iW y.c.w y.n z.r.toNat z.ev y.p).2.1<=1048576:=by
   have hall:∀e∈z.ev,dU e=0/\e.r=(z.r.toNat:Int):=λ e he=>by
    have:=anh.1 hmf.ev e he;rw[hk1]at this;simp[uM]at this;omega
   have hG:=Zn (hr.G.s z.r.toNat (by rw[(xH hr.B).1];exact hrz)) hall;rw[zq hrz hr.B]at hG;have hs:RsB (y.p.ps.getD z.r.toNat default):=hr.B.s _ (getD_mem o_);have hB':RsB (jR y.c.w (y.p.ps.getD z.r.toNat default) z.ev).1:=afG hs (r:=z.r.toNat) hG;have hB:=hB'.ln;unfold iW;split
   ·exact⟨by show 0<=((_:Nat):Int);omega,by show((_:Nat):Int)<=_;omega⟩
   ·exact⟨aom _,by show(0:Int)<=_;omega⟩
  have hw:=wr ⟨5,z.r,0,aV,z.ev⟩ _ hp;have hr2:=amk _ hlen;unfold Rf at ht;generalize kK y ⟨5,z.r,0,aV,z.ev⟩ (iW y.c.w y.n z.r.toNat z.ev y.p).1=q at ht hw;generalize iW y.c.w y.n z.r.toNat z.ev y.p=p at ht hr2;split at ht
  ·cases ht;exact⟨rfl,hT,λ r b' h=>by cases h⟩
  split at ht
  ·split at ht
   ·cases ht;exact⟨hw.1,hw.2,λ r b' h=>by cases h⟩
   ·cases ht;exact⟨hw.1,hw.2,λ r b' h=>by cases h;exact⟨hzr,hr2⟩⟩
  ·cases ht;exact⟨rfl,hT,λ r b' h=>by cases h;exact⟨hzr,hr2⟩⟩
 rw[if_neg hk1]at ht;by_cases hk3:z.k=3
 ·rw[if_pos hk3]at ht;have hin:∀e∈qZ z.r.toNat z.c 0 (y.p.ps.take y.n),e∈T:=λ e he=>by
   obtain⟨s,h1,h2⟩:=VO he;obtain⟨i,hi,rfl⟩:=anR (an7 h1);refine hT i e ?_;show e∈(y.p.ps.getD i default).l;rw[show y.p.ps.getD i default=y.p.ps[i] by simp[List.getD,hi]];exact h2
  have aml:(qZ z.r.toNat z.c 0 (y.p.ps.take y.n)).length<=20:=by
   rw[<-KQ];have hfm:=CB (w:=y.c.w) (r:=z.r.toNat) (c:=z.c) (l:=(toP y.n y.p).sh) (i:=0) λ s hs=>by
    obtain⟨i,hi,rfl⟩:=anR hs;have:=hr.G.s i hi;rw[List.getD,amX hi]at this;exact⟨this.k,this.may⟩
   have hw4:=hr.g.w;rw[hr.c]at hw4;have h1:=hfm.1;rw[(xH hr.B).1]at h1;have h2:y.c.w*(y.n:Int)<=4*(y.n:Int):=Int.mul_le_mul_of_nonneg_right hw4 o_;have h3:(kX z.r.toNat z.c 0 (toP y.n y.p).sh).length<=20:=o_
   exact h3
  have hr4:yj T (aY ⟨4,z.r,0,aV,qZ z.r.toNat z.c 0 (y.p.ps.take y.n)⟩):=⟨_,rfl,afC hr0.1 hr0.2 aml λ e he=>hm e (hin e he),hin⟩;generalize qZ z.r.toNat z.c 0 (y.p.ps.take y.n)=L at ht hr4;cases ht;exact⟨rfl,hT,λ r b' h=>by cases h;exact⟨hzr,hr4⟩⟩
 rw[if_neg hk3]at ht;by_cases hk5:z.k=5
 ·rw[if_pos hk5]at ht;have hw:=wr ⟨6,z.r,0,z.c,[]⟩ (zu y.n y.p z.r.toNat z.c) λ r e he=>hT r e (by rw[akd p5]at he;exact he);unfold Zw at ht;generalize kK y ⟨6,z.r,0,z.c,[]⟩ (zu y.n y.p z.r.toNat z.c)=q at ht hw;split at ht
  ·split at ht
   ·cases ht;exact⟨hw.1,hw.2,λ r b' h=>by cases h⟩
   ·cases ht;exact⟨hw.1,hw.2,λ r b' h=>by cases h⟩
  ·cases ht;exact⟨rfl,hT,λ r b' h=>by cases h⟩
 ·rw[if_neg hk5]at ht;cases ht;exact⟨rfl,hT,λ r b' h=>by cases h⟩
end Go.Proofs.YtkimgljckickcaaGreat
