/-
  Contracts of the walk:RcW,Dk,NdG,NdH,NdK,WaA,FrW,NdV,InT,NdY.
-/
import Derived.Test.YtifjccndenojlaaGreatWf26
import Derived.Test.YtifjccndenojlaaGreatWf13
import Derived.Test.YtifjccndenojlaaGreatWf12
import Derived.Test.YtifjccndenojlaaGreatWf17
import Derived.Test.YtifjccndenojlaaGreatWf22
import Derived.WalkMore
import Derived.Test.YtifjccndenojlaaGreatWf24
import Derived.Test.YtifjccndenojlaaGreatWf28
set_option maxHeartbeats 16000000
set_option maxRecDepth 100000
set_option linter.unusedVariables false
set_option linter.unusedSimpArgs false
namespace Go.Proofs.YtifjccndenojlaaGreat
open Go.RowKit
open Go.Proofs.Tryz
variable{e:Ev}{f:FuncId}{q r sent x:Int}{ho:List (Nat×AO)}{aZ:List AV}{L T d l w:List Ev}{j n:Nat}{F:Nat->List AV}{z:Rc}
theorem acM(b:List UInt8):(jV b).1.ev.length<=4096:=by
 have hl (t:List UInt8) (l:List Ev) (h:o8 t=some l):l.length<=4096:=by
  unfold o8 at h;split at h
  ·cases h
  ·split at h
   ·cases h
   ·rename_i m k _ hm;cases h0:jm (t.drop k) m with
    |none=>rw[h0]at h;cases h
    |some p=>
     obtain⟨l0,r0⟩:=p;rw[h0]at h;simp only[apR,aoJ]at h;subst h;have:=(qm h0).1;omega
 have hr (k r u:Int) (t:List UInt8):(WB k r u t).1.ev.length<=4096:=by
  unfold WB;split
  ·simp
  ·rename_i l h;exact hl t l h
 unfold jV;split
 ·simp[rc0]
 ·unfold rdR;split
  ·exact hr ..
  ·split
   ·unfold ai6;split<;>simp
   ·split
    ·split
     ·simp
     ·exact hr ..
    ·split<;>simp
def Aa:Option (Rc×Nat)->AV
 |none=> .bI [rc0.av,.v (.int .i64 0),.v (.bool false)]
 |some (x,n)=> .bI [x.av,.v (.int .i64 (n:Int)),.v (.bool true)]
theorem WO(b c:AV)(f:Nat->List AV){a1 a2 a3 a4 a5 a6 a7 a8:AV}:aY (.bI [.agg [a1,a2,a3,a4,a5,a6,a7,a8,.v (.slice none 0 0)],b,c]) (.bI [.agg [a1,a2,a3,a4,a5,a6,a7,a8,.sl 12 0 true f],b,c]):=
 aY.bI (.of (λ _ _ h=>C1.P7 h) (.same (.same .nil)))
theorem aje(b:List UInt8)(hl:b.length<=1000000000):aH prog 106 [.sl 1 b.length true (aO b)] (Aa (qo b)) []:=by
 have hs:=iZ b (bG.bytes b) rfl;have hle:=zI b;unfold qo;obtain⟨⟨v,u,e⟩,hv⟩:∃p,cO b=p:=⟨_,rfl⟩;rw[hv]at hs hle⊢;dsimp only at hs hle⊢;by_cases h0:e≠0\/b.length-u<v
 ·rw[if_pos h0];dsimp only[Aa];refine K1.E 0x100040400040003ffd func106 ?_;repeat' ((conv=>whnf);first|refine K1.u ?_|refine K1.P1 hs ?_|refine aU.fF ?_|refine K1.y (λ _=>?_) (λ _=>?_)|fail)
  all_goals(conv=>whnf)
  all_goals first
   |exact bn.mk (WO _ _ _)
   |fail
 ·rw[if_neg h0];obtain rfl:e=0:=o_
  have hvl:u+v<=b.length:=o_
  obtain⟨W,hW⟩:∃W,W=(b.drop u).take v:=⟨_,rfl⟩;have hWl:W.length=v:=by rw[hW,aou,aoK];omega
  have hWF:bG (λ i=>aO b (u+i)) W:=by rw[hW];exact(bG.drop (bG.bytes b) u).take v
  rw[<-hW];by_cases ho:mY W
  ·rw[if_pos ho];have hil:(inner W).length<=W.length:=by unfold inner;rw[aou];omega
   have hop:∀{n:Nat}{F:Nat->List AV}(_:bG F W)(_:n=W.length),_:=λ{n} {F} hF hn=>(PW 0 (n:=n) (F:=F) (inner W) (by rw[<-Fa ho];exact hF) (by rw[<-Fa ho];exact hn) o_).thaw;have hrd:=Y1 (inner W) (bG.bytes _) rfl o_;have hrl:=acM (inner W);generalize inner W=m at hop hrd hrl hil;obtain⟨⟨z,ok⟩,hz⟩:∃p,jV m=p:=⟨_,rfl⟩;rw[hz]at hrd hrl⊢;dsimp only at hrd hrl⊢;cases ok with
   |false=>
    rw[if_neg s_];dsimp only[Aa];refine K1.E 0x100040400040003ffd func106 ?_;repeat' ((conv=>whnf);first|refine K1.u ?_|refine K1.P1 hs ?_|refine K1.P1 (hop hWF o_) ?_ rfl rfl|refine K1.P1 hrd ?_|refine aU.fF ?_|fail)
    all_goals(conv=>whnf)
    all_goals exact bn.mk (WO _ _ _)
   |true=>
    cases hm:iH z with
    |false=>
     rw[if_neg s_];have hp:=afY z o_ hm;dsimp only[Aa];refine K1.E 0x100040400040003ffd func106 ?_;repeat' ((conv=>whnf);first|refine K1.u ?_|refine K1.P1 hs ?_|refine K1.P1 (hop hWF o_) ?_ rfl rfl|refine K1.P1 hrd ?_|refine K1.P1 hp ?_|refine aU.fF ?_|fail)
     all_goals(conv=>whnf)
     all_goals exact bn.mk (WO _ _ _)
    |true=>
     have hp:=(wI 0 z hm).thaw;have he:∀{n:Nat}(_:n=u+v),_:=λ{n} hn=>LX (m:=n) (aB z) (b.take (u+v)) (bG.bytes _) rfl ((bG.bytes b).take (u+v)) (by rw[aou];omega);by_cases hb:aB z=b.take (u+v)
     ·rw[if_pos ⟨rfl,rfl,hb⟩];dsimp only[Aa];rw[decide_eq_true hb]at he;generalize aB z=w at hp he;refine K1.E 0x100040400040003ffd func106 ?_;repeat' ((conv=>whnf);first|refine K1.u ?_|refine K1.P1 hs ?_|refine K1.P1 (hop hWF o_) ?_ rfl rfl|refine K1.P1 hrd ?_|refine K1.P1 hp ?_|refine K1.P1 (he o_) ?_ rfl rfl|refine aU.fF ?_|fail)
      all_goals(conv=>whnf)
      all_goals exact bn.mk (aY.bI (.same (.of (λ X u h=>aY.int o_ X u h) (.same .nil))))
     ·rw[if_neg (λ h=>hb h.2.2)];dsimp only[Aa];rw[decide_eq_false hb]at he;generalize aB z=w at hp he;refine K1.E 0x100040400040003ffd func106 ?_;repeat' ((conv=>whnf);first|refine K1.u ?_|refine K1.P1 hs ?_|refine K1.P1 (hop hWF o_) ?_ rfl rfl|refine K1.P1 hrd ?_|refine K1.P1 hp ?_|refine K1.P1 (he o_) ?_ rfl rfl|refine aU.fF ?_|fail)
      all_goals(conv=>whnf)
      all_goals exact bn.mk (WO _ _ _)
  ·rw[if_neg ho];dsimp only[Aa];have hop:∀{n:Nat}{F:Nat->List AV}(_:bG F W)(_:n=W.length),_:=λ{n} {F} hF hn=>aaB (n:=n) (F:=F) W ho hF hn o_;refine K1.E 0x100040400040003ffd func106 ?_;repeat' ((conv=>whnf);first|refine K1.u ?_|refine K1.P1 hs ?_|refine K1.P1 (hop hWF o_) ?_ rfl rfl|refine aU.fF ?_|fail)
   all_goals(conv=>whnf)
   all_goals exact bn.mk (WO _ _ _)
theorem x9(b:List UInt8){p:Option (Rc×Nat)}(hp:qo b=p)(hF:bG F b)(hn:n=b.length)(hl:b.length<=1000000000):aH prog 106 [.sl 1 n true F] (Aa p) []:=by
 have:=(aje b hl).args (Ch.wS hF hn .nil);rwa [hp]at this
abbrev rcF(l:List Rc):Nat->List AV:=og Rc.cs l
theorem Fb:∀l:List Rc,l.length<=(jq l).length
 |[]=>aoH _
 |x::l=>by
  have:=Fb l;have:=uI x;show l.length+1<=(aB x++jq l).length;rw[aop];omega
theorem amN(b:List UInt8)(hl:b.length<=1000000000)(l:List Rc)(t:List UInt8)(hr:xZ b l t):
  aH prog 69 [.sl 1 b.length true (aO b)] (.bI [.sl 9 l.length false (rcF l),.v (.int .i64 ((jq l).length:Int))]) []:=by
 have hbl:(jq l).length<=b.length:=by rw[hr.eq,aop];omega
 have hat:∀j,j<=l.length->(jq (l.take j)).length<=b.length:=by
  intro j _;have e:jq l=jq (l.take j)++jq (l.drop j):=by
   show _=List.flatMap aB (l.take j)++List.flatMap aB (l.drop j);rw[<-aqv,apu];rfl
  have:=congrArg List.length e;rw[aop]at this;omega
 have hnx:∀j,j<l.length->(jq (l.take (j+1))).length=(jq (l.take j)).length+(aB (l.getD j default)).length:=λ j hj=>by rw[acI hj,aop]
 have hll:=Fb l;have hstep:=acH hr;have hend:=agt hr;refine Yy bQ 0x201fd (l:=0) func69 rfl rfl rfl (by rfl) ?_;conv=>whnf
 refine afk.mk {j:Nat//j<=l.length} (λ j=>match j with
  |⟨0,_⟩=>⟨[(0,.sl 1 b.length true (aO b)),(4,.v (.slice none 0 0)),(5,.v (.int .i64 0))],[],[],0⟩
  |⟨i+1,_⟩=>⟨[(0,.sl 1 b.length true (aO b)),(4,.own 90),(5,.v (.int .i64 ((jq (l.take (i+1))).length:Int)))],[(90,.row 127 9 (i+1) false (rcF (l.take (i+1))))],[],91⟩)
  (λ j=>l.length-j.1) ⟨0,aoB _⟩ _
  (dO.mk' [] _ _ _ rfl ⟨au,au,aY.int rfl,trivial⟩ trivial rfl) ?_
 rintro⟨_|i,hj⟩
 ·dsimp only;by_cases h0:0<l.length
  ·have hs:=hstep 0 h0;have hn:=hnx 0 h0;have ha:=hat (0+1) o_;rw[show jq (l.take 0)=[]from rfl,aoZ]at hs hn;have htk:(l.take (0+1)).length=1:=by rw[aou];omega
   have hg:l.take (0+1)=[l.getD 0 default]:=by cases l with|nil=>cases h0|cons a l=>rfl
   repeat' ((conv=>whnf);first|refine K1.u ?_|refine K1.P1 (x9 (b.drop 0) hs (bG.drop (bG.bytes b) 0) s_ (by simp;omega)) ?_ rfl rfl|fail)
   conv=>whnf
   refine⟨⟨0+1,o_⟩,_,dO.mk' [(2,90)] _ _ _ rfl ⟨au,au,aY.int o_,trivial⟩ ⟨⟨_,rfl,dK.row rfl (λ m hm=>?_)⟩,trivial⟩ rfl,by show l.length-(0+1)<l.length-0;omega⟩;have hm:m<1:=hm;obtain rfl:m=0:=o_
   show _=rcF (l.take (0+1)) 0;rw[hg];rfl
  ·have hl0:l=[]:=aoz o_;subst hl0;rw[show jq []=[]from rfl,aoZ]at hend;repeat' ((conv=>whnf);first|refine K1.u ?_|refine K1.P1 (x9 (b.drop 0) hend (bG.drop (bG.bytes b) 0) s_ (by simp;omega)) ?_ rfl rfl|refine aU.fF ?_|fail)
   conv=>whnf
   exact bn.mk (aY.bI (.of (λ X u h=>C1.gW d_ h) (.same .nil)))
 ·dsimp only;have hai:=hat (i+1) hj;have hlt:(l.take (i+1)).length=i+1:=by rw[aou];omega
  by_cases h0:i+1<l.length
  ·have hs:=hstep (i+1) h0;have hn:=hnx (i+1) h0;have ha:=hat (i+1+1) o_;have hg:l.take (i+1+1)=l.take (i+1)++[l.getD (i+1) default]:=by
    rw[List.getD,aom h0];exact(List.take_append_getElem h0).symm
   repeat' ((conv=>whnf);first|refine K1.u ?_|refine K1.P1 (x9 (b.drop (jq (l.take (i+1))).length) hs (bG.drop (bG.bytes b) _) s_ (by simp;omega)) ?_ rfl rfl|fail)
   conv=>whnf
   refine⟨⟨i+1+1,o_⟩,_,dO.mk' [(93,90)] _ _ _ rfl ⟨au,au,aY.int o_,trivial⟩ ⟨⟨_,rfl,dK.row rfl (λ m hm=>?_)⟩,trivial⟩ rfl,by show l.length-(i+1+1)<l.length-(i+1);omega⟩;show _=rcF (l.take (i+1+1)) m;rw[hg];exact dP (c:=Rc.cs) hlt.symm rfl m hm
  ·have Tc:l.take (i+1)=l:=aoF o_;have hle:i+1=l.length:=o_
   rw[Tc]at hai hlt⊢;rw[hle];repeat' ((conv=>whnf);first|refine K1.u ?_|refine K1.P1 (x9 (b.drop (jq l).length) hend (bG.drop (bG.bytes b) _) s_ (by simp;omega)) ?_ rfl rfl|refine aU.fF ?_|fail)
   conv=>whnf
   exact bn.mk (au)
theorem L8(b:List UInt8)(hF:bG F b)(hn:n=b.length)(hl:b.length<=1000000000){l:List Rc}{t:List UInt8}(hr:xZ b l t):
  aH prog 69 [.sl 1 n true F] (.bI [.sl 9 l.length false (rcF l),.v (.int .i64 ((jq l).length:Int))]) []:=
 (amN b hl l t hr).args (Ch.wS hF hn .nil)
structure Dk where
 (bs:List UInt8)(down cut:Bool)(keep:Int)
def pG(m:AV)(d:Dk):AO:= .box 210 [m,.v (.bool d.down),.v (.bool d.cut),.v (.int .i64 d.keep)]
def gI(l:List UInt8):AO:= .row 5 1 l.length true (aO l)
def dk0:Dk:=⟨[],false,false,0⟩
theorem C1.anK{X:CX}{f:Nat->List AV}{u:Value}(h:C1 X (.v (.slice none 0 0)) u):C1 X (.sl 1 0 true f) u:=by
 have h:u= .slice none 0 0:=h;subst h;exact .sl 1 0 true f none 0 [] o_ (aoH _) (by simp[maxLen]) rfl (λ i hi=>absurd hi o_) (λ _ x hx=>by cases hx) (λ i x u hx=>by simp[flat]at hx) (.inl rfl)
theorem sK(d:Nat)(l:List UInt8)(hF:bG F l)(hn:n=l.length)(hl:l.length<=1000000000):aH prog 74 [.sl 1 n true F] (.own d) [(d,gI l)]:=by
 refine K1.E 0x15 func74 ?_;repeat' ((conv=>whnf);first|refine K1.u ?_|refine K1.y (λ _=>?_) (λ _=>?_)|fail)
 all_goals(conv=>whnf)
 ·have h0:n=0:=a_
  obtain rfl:l=[]:=aoz o_;exact aU.nil d _ 1 _ rfl d_
 ·refine aU.uV d rfl rfl ?_ (au);refine dK.row o_ λ i hi=>?_;exact hF i o_
theorem clone_nil:aH prog 74 [.v (.slice none 0 0)] (.v (.slice none 0 0)) []:=by
 refine K1.E 0x15 func74 ?_;repeat' ((conv=>whnf);first|refine aU.fF ?_|fail)
 all_goals(conv=>whnf)
 exact bn.mk (au)
theorem all_nil:aH prog 69 [.v (.slice none 0 0)] (.bI [.sl 9 0 false (rcF []),.v (.int .i64 0)]) []:=by
 have hr:xZ [] [] []:=⟨s_,rfl,by unfold qo;rw[if_pos (.inl d_)]⟩;have:=L8 (n:=0) (F:=aO []) [] (bG.bytes _) rfl d_ hr;exact this.args (.of (λ _ _ h=>C1.anK h) .nil)
def o9(keep:Int)(n:Nat):Int:=if(n:Int)<(if 0>keep then 0 else keep)then(n:Int)else(if 0>keep then 0 else keep)
theorem Fe(keep:Int)(n:Nat):0<=o9 keep n/\o9 keep n<=n:=by
 unfold o9;split<;>split<;>omega
def jd(d:Dk)(b:List UInt8):Dk×Int:=
 if d.down then(d,18)else if d.cut then(⟨d.bs++b.take (o9 d.keep b.length).toNat,true,false,d.keep⟩,18)else(⟨d.bs++b,false,false,d.keep⟩,0)
theorem mF(d d':Dk)(b:List UInt8)(x:Int)(hF:bG F b)(hn:n=b.length)(h1:d.bs.length<=1000000000)(h2:b.length<=1000000000)(hw:jd d b=(d',x)):
  aj prog 87 [(0,pG (.own 1) d),(1,gI d.bs)] [.box 0 0,.sl 1 n true F] (.v (.int .i64 x)) [(0,pG (.own 2) d'),(2,gI d'.bs)]:=by
 obtain⟨bs,down,cut,keep⟩:=d;have hk:=Fe keep b.length;unfold jd at hw;dsimp only[pG,gI]at h1 hw⊢;subst hn;cases down with
 |true=>
  rw[if_pos rfl]at hw;obtain⟨rfl,rfl⟩:=Prod.mk.inj hw;dsimp only;refine K1.M 0x1113 func87 40 ?_
  all_goals(conv=>whnf)
  exact⟨[(1,2)],rfl,rfl,⟨ay rfl,ay rfl,trivial⟩,rfl,rfl,au⟩
 |false=>
  rw[if_neg s_]at hw;cases cut with
  |true=>
   rw[if_pos rfl]at hw;obtain⟨rfl,rfl⟩:=Prod.mk.inj hw;dsimp only;refine K1.M 0x1113 func87 40 ?_;repeat' ((conv=>whnf);first|refine K1.u ?_|fail)
   all_goals(conv=>whnf)
   generalize hb:o9 keep b.length=k at hk⊢;unfold o9 at hb;rw[hb];clear hb;repeat' ((conv=>whnf);first|refine K1.I 0x1 func129 ?_|fail)
   all_goals(conv=>whnf)
   exact⟨[(40,2)],rfl,rfl,⟨ay rfl,⟨_,rfl,dK.wS (bG.app (bG.bytes _) (hF.take _) rfl) (by rw[aop,aou];omega) rfl⟩,trivial⟩,rfl,rfl,au⟩
  |false=>
   rw[if_neg s_]at hw;obtain⟨rfl,rfl⟩:=Prod.mk.inj hw;dsimp only;refine K1.M 0x1113 func87 40 ?_;repeat' ((conv=>whnf);first|refine K1.u ?_|fail)
   all_goals(conv=>whnf)
   exact⟨[(40,2)],rfl,rfl,⟨ay rfl,⟨_,rfl,dK.wS (bG.app (bG.bytes _) hF rfl) aop.symm rfl⟩,trivial⟩,rfl,rfl,au⟩
theorem ajf{lo k m:Nat}{f g:Nat->List AV}(h:m<lo):Ud lo k f g m=f m:=by
 have hb:Nat.ble lo m=false:=by
  rw[aoU];intro e;have:=aox e;omega
 show(bif Nat.ble lo m then _ else f m)=f m;rw[hb];rfl
theorem Y4{l:List UInt8}{i:Nat}(h:i<n):aO (l.take n) i=aO l i:=by
 show bC _=bC _;rw[List.getD,List.getD,aqs h]
theorem Qg(d:Dk)(n:Nat)(hn:n<=d.bs.length)(h1:d.bs.length<=1000000000):
  aj prog 71 [(0,pG (.own 1) d),(1,gI d.bs)] [.box 0 0,.v (.int .i64 (n:Int))] (.bI []) [(0,pG (.own 2) ⟨d.bs.take n,d.down,d.cut,d.keep⟩),(2,gI (d.bs.take n))]:=by
 obtain⟨bs,down,cut,keep⟩:=d;dsimp only[pG,gI]at hn h1⊢;refine K1.M 0x4003 func71 40 ?_;iterate 5 ((conv=>whnf);first|refine K1.u ?_|refine ASl.part ?_|fail)
 repeat' ((conv=>whnf);first|refine K1.u ?_|refine ASl.cut ?_|fail)
 all_goals(conv=>whnf)
 exact⟨[(40,2)],rfl,rfl,⟨ay rfl,⟨_,rfl,dK.row (by rw[aou];omega) λ i hi=>(ajf hi).trans (Y4 hi).symm⟩,trivial⟩,rfl,rfl,au⟩
theorem Jy.scope{P:Program}{L:Lay}(hL:bJ P L)(lv:Nat){N:Nat}{c:Code}{Q:jk->AS->Prop}{st:AS}(h:BG P L 8 N lv c Q st):Jy P N (.scope c) Q st:=
 ⟨λ _ _ E _ _ _ hq R=>wp_scope_straight (dM hL 8 _ _ lv _ c Q (Exit.noGoto E) ⟨hq.1,hq.2.1,hq.2.2⟩ R h)⟩
theorem Jy.label{P:Program}{N l:Nat}{Q:jk->AS->Prop}{st:AS}(h:Q .normal st):Jy P N (.label l) Q st:=
 ⟨λ _ _ _ _ _ _ hq R=>wp_label (hq.1 _ _ _ _ R h)⟩
structure Nd where
 (c:kR)(r:Nat)(up:Bool)(d:Dk)(log:List Ev)(sent:Int)(ic:aV)(held wait:List Ev)
def tV(h:Nd)(dk lg bk ib ou:AV):AO:= .box 109 [.v (.int .i64 h.c.n),.v (.int .i64 h.c.w),.v (.int .i64 h.c.q),.v (.int .i64 h.c.h),.v (.int .i64 h.c.l),.v (.int .i64 h.c.p),.v (.int .i64 (h.r:Int)),.v (.bool h.up),dk,lg,.v (.int .i64 h.sent),bk,ib,ou]
def yG(l:List Ev):AV:= .sl 12 l.length true (dI l)
def wM(h:Nd)(_:Unit):List (Nat×AO):=[(0,tV h (.box 8 0) (.own 10) (.box 11 0) (.box 12 0) (.box 13 0)),(8,pG (.own 9) h.d),(11,.obs (wF h.log h.log.length)),(12,Bg h.c.h h.ic (yG h.held)),(13,zV h.c.q h.c.w h.sent (.own 14)),(9,gI h.d.bs),(10,bH h.log),(14,bH h.wait)]
def kC(h:Nd):OB:=OB.pack (wM h)
theorem L9(h:Nd):Closes (wM h ()) 0 (kC h):=Closes.pack (wM h) () rfl λ _ hok=>vY (hok _ aol)
theorem alz(σ:List (Nat×Nat)){h h':Nd}{r:AV}(hE:Enters prog f)(hs:kE σ 0=some 0)(hk:yO σ (wM h' ())=true)(hh:bP 0 (iL σ (wM h' ()))=true)(hm:aj prog f (wM h ()) aZ r (iL σ (wM h' ())++ho))
  (hb:(aZ.all (pO (λ _=>false) 0)&&fV (λ i=>bP i ho) 0 r&&fU ho ho&& !(bP 0 ho))=true):aj prog f [(0,.obs (kC h))] aZ r ((0,.obs (kC h'))::ho):=
 aj.opn hE (Opens.pack (wM h)) (λ _=>⟨_,(L9 h').ren σ hs hk,rfl,hh,hm⟩) hb
theorem iE{h h':Nd}{r:AV}(hE:Enters prog f)(hm:aj prog f (wM h ()) aZ r (wM h' ()++ho))
  (hb:(aZ.all (pO (λ _=>false) 0)&&fV (λ i=>bP i ho) 0 r&&fU ho ho&& !(bP 0 ho))=true):aj prog f [(0,.obs (kC h))] aZ r ((0,.obs (kC h'))::ho):=
 aj.opn hE (Opens.pack (wM h)) (λ _=>⟨_,L9 h',rfl,rfl,hm⟩) hb
def nd0(c:kR)(r:Nat):Nd:=⟨c,r,true,dk0,[],0,aW,[],[]⟩
theorem alA(c:kR)(r:Nat):Closes [(0,tV (nd0 c r) (.box 8 0) gW (.box 11 0) (.box 12 0) (.box 13 0)),(8,pG gW dk0),(11,.obs (wF [] 0)),(12,Bg c.h aW (yG [])),(13,zV c.q c.w 0 gW)] 0 (kC (nd0 c r)):=by
 unfold tV pG zV gW;refine Closes.aiw (sc:=true) (A:=[_]) (id:=8) (B:=[_,_,_]) (k:=0) (d:=9) (e:=5) (s:=1) (f:=aO []) ?_ rfl d_ rfl;refine Closes.aiw (sc:=true) (A:=[]) (id:=0) (B:=[_,_,_,_,_]) (k:=9) (d:=10) (e:=83) (s:=12) (f:=dI []) ?_ rfl d_ rfl;refine Closes.aiw (sc:=true) (A:=[_,_,_,_]) (id:=13) (B:=[_,_]) (k:=3) (d:=14) (e:=83) (s:=12) (f:=dI []) ?_ rfl d_ rfl;exact L9 (nd0 c r)
theorem agD(c:kR)(r:Nat)(hc:rC c=true)(hr:(r:Int)<c.n):aj prog 22 [] [c.av,.v (.int .i64 (r:Int))] (.bI [.box 0 0,.v (.int .i64 0)]) [(0,.obs (kC (nd0 c r)))]:=by
 have hm:=O8 c;rw[hc]at hm;have ha:=all_nil;refine aj.cls (hs':=_) (ho:=[]) (alA c r) ?_ rfl;obtain⟨cn,w,q,hh,l,p⟩:=c;dsimp only[kR.av,kR.cs,tV,nd0,pG,dk0,List.append_nil,gW]at hm hr⊢;refine K1.M 0x80077 func22 40 ?_;repeat' ((conv=>whnf);first|refine K1.u ?_|refine K1.P1 hm ?_|refine K1.P1 ha ?_|refine K1.P1 clone_nil ?_|refine K1.C 0 [] (VZ hh aW) rfl ?_|refine K1.C 0 [] (V3 q w 0) rfl ?_|refine K1.C 0 [] (aj8) rfl ?_|refine K1.I 0x40c7800008bd func39 ?_|refine K1.I 0x80000003c0000015 func72 ?_|refine K1.I 0x85 func67 ?_|refine K1.I 0x1 func105 ?_|refine K1.I 0x1 func68 ?_|refine K1.I 0x5 func70 ?_|refine K1.I 0x4003 func71 ?_|refine Jy.scope bQ 0x40c7800008bd ?_|refine Jy.label ?_|refine aI.yP 33 1 rfl ?_|refine aI.yP 32 1 rfl ?_|refine K1.o (id:=2) (nN [0,1,2,3,4,5,6,7,8,9,10,11,12,13,14] ((15,some [14,12,10,7,5,2])::nN [16,17] [(18,some [14,12,10,7,5,2,16])])) ?_|refine K1.o (id:=11) (nN [0,1,2,3,4,5,6] ((7,some [6,5,2])::nN [8,9] [(10,some [6,5,2,8])])) ?_|fail)
 all_goals(conv=>whnf)
 exact⟨[(41,0),(42,8),(44,11),(46,12),(45,13)],rfl,rfl,⟨ay rfl,ay rfl,ay rfl,⟨_,rfl,dK.box λ X us h=>aG.lW (k:=6) (x:= .v (.slice none 0 0)) (y:=yG []) rfl (λ X u h=>C1.gW (s:=12) d_ (show C1 X (.v (.slice none 0 0)) u from h)) h⟩,ay rfl,trivial⟩,rfl,rfl,au⟩
def mkE(e:Ev):List AV:=[.v (.int .i64 e.r),.v (.int .i64 e.n)]
abbrev NM(l:List Ev):Nat->List AV:=og mkE l
theorem Mc(l:List Ev)(hl:l.length<=1000000)(d:Nat):aH prog 60 [yG l] (.own d) [(d,.row 138 2 l.length true (NM l))]:=by
 dsimp only[yG];refine K1.E 0x3ed func60 ?_
 conv=>whnf
 refine aI.nil 3 40 138 2 (NM []) rfl d_ ?_;refine aI.mk {j:Nat//j<=l.length} (λ j=>⟨[(8,.v (.int .i64 (j.1:Int))),(7,.v (.int .i64 (l.length:Int))),(6,yG l),(3,.own 40)],[(40,.row 138 2 j.1 true (NM (l.take j.1)))],[],41⟩)
  (λ j=>l.length-j.1) ⟨0,aoB _⟩ _ (dO.mk' [] _ _ _ rfl ⟨aY.int rfl,au,au,au,trivial⟩ ⟨⟨_,rfl,dK.row rfl λ i hi=>absurd hi o_⟩,trivial⟩ rfl) ?_
 rintro⟨j,hj⟩;dsimp only[yG];by_cases hjl:j<l.length
 ·repeat' ((conv=>whnf);first|refine K1.u ?_|fail)
  all_goals(conv=>whnf)
  exact⟨⟨j+1,hjl⟩,_,dO.mk' [(43,40)] _ _ _ rfl ⟨aY.int rfl,au,au,au,trivial⟩ ⟨⟨_,rfl,dK.row rfl λ i hi=>by
   rw[show l.take (j+1)=l.take j++[l.getD (j:Int).toNat default] by rw[apB,aom hjl];simp[List.getD,hjl]];exact dP (c:=mkE) (l:=l.take j) (show j=(l.take j).length by rw[aou];omega) rfl i hi⟩,trivial⟩ rfl,by show l.length-(j+1)<l.length-j;omega⟩
 ·obtain rfl:j=l.length:=o_
  rw[aoF (aoH _)];repeat' ((conv=>whnf);first|refine K1.u ?_|fail)
  all_goals(conv=>whnf)
  exact aU.uV d rfl rfl (dK.refl _) (au)
theorem acN(h:Nd)(hu:h.up=true)(hp:∀key,YK (nX (eqK key) h.log) key)(hl:h.log.length<=1000000):aj prog 35 [(0,.obs (kC h))] [.box 0 0] (.bI [.own 3,.v (.int .i64 0)]) [(0,.obs (kC h)),(3,.row 68 7 (pz h.log).length false (F8 (pz h.log)))]:=by
 refine iE (ho:=[_]) ⟨_,_,func35,rfl,rfl⟩ ?_ rfl;have Tc:=LH hp h.log.length hl hl;obtain⟨c,r,up,d,log,sent,ic,held,wait⟩:=h;dsimp only[wM,tV,List.append_nil]at hu Tc⊢;subst hu;refine K1.M 0x10d func35 40 ?_;repeat' ((conv=>whnf);first|refine K1.C 3 [(0,_)] (Tc) rfl ?_|fail)
 all_goals(conv=>whnf)
 exact⟨[(40,3)],rfl,rfl,⟨ay rfl,ay rfl,ay rfl,ay rfl,ay rfl,ay rfl,ay rfl,ay rfl,ay rfl,trivial⟩,rfl,rfl,au⟩
theorem agE(h:Nd)(k:Int):aj prog 257 [(0,.obs (kC h))] [.box 0 0,.v (.int .i64 k)] (.bI []) [(0,.obs (kC ⟨h.c,h.r,h.up,⟨h.d.bs,h.d.down,true,k⟩,h.log,h.sent,h.ic,h.held,h.wait⟩))]:=by
 refine iE (ho:=[]) ⟨_,_,func257,rfl,rfl⟩ ?_ rfl;obtain⟨c,r,up,⟨bs,down,cut,keep⟩,log,sent,ic,held,wait⟩:=h;dsimp only[wM,tV,pG,List.append_nil];refine K1.M 0x3 func257 40 ?_;repeat' ((conv=>whnf);first|refine K1.I 0x85 func67 ?_|refine K1.I 0x3 func255 ?_|fail)
 all_goals(conv=>whnf)
 exact⟨[],rfl,rfl,⟨ay rfl,ay rfl,ay rfl,ay rfl,ay rfl,ay rfl,ay rfl,ay rfl,trivial⟩,rfl,rfl,au⟩
def Ig(h:Nd):AV:=bif h.up then .agg [.v (.bool true),.v (.int .i64 h.ic.c0),.v (.int .i64 h.ic.c1),.v (.int .i64 h.ic.c2),.v (.int .i64 h.ic.c3),.v (.int .i64 h.ic.c4),.v (.int .i64 h.sent),.sl 2 h.held.length true (NM h.held),.sl 2 h.log.length true (NM h.log)]
 else .agg [.v (.bool false),.v (.int .i64 0),.v (.int .i64 0),.v (.int .i64 0),.v (.int .i64 0),.v (.int .i64 0),.v (.int .i64 0),.v (.slice none 0 0),.v (.slice none 0 0)]
theorem acO(h:Nd)(h1:h.log.length<=1000000)(h2:h.held.length<=1000000):aj prog 33 [(0,.obs (kC h))] [.box 0 0] (Ig h) [(0,.obs (kC h))]:=by
 refine iE (ho:=[]) ⟨_,_,func33,rfl,rfl⟩ ?_ (by unfold Ig;cases h.up<;>rfl);have m1:=Mc h.log h1;have m2:=Mc h.held h2;have hcl:=ab7 (n:=h.held.length) (F:=dI h.held) o_;have hck:=l7 h.c.h h.ic (yG h.held) (.inr ⟨_,_,rfl⟩);obtain⟨c,r,up,d,log,sent,⟨c0,c1,c2,c3,c4⟩,held,wait⟩:=h;dsimp only[wM,tV,Ig,List.append_nil,yG,Bg,aV.av,aV.cs]at m1 m2 hcl hck⊢;cases up;all_goals
  refine K1.M 0x85 func33 40 ?_;repeat' ((conv=>whnf);first|refine K1.u ?_|refine K1.F1 (m1 _) ?_|refine K1.F1 (m2 _) ?_|refine K1.P1 hcl ?_|refine K1.C 1 [(0,_)] (hck) rfl ?_|refine K1.I 0x5 func61 ?_|refine K1.o (id:=3) (nN [0,1,2,3,5,6,7,8,9,10,11,12,15,16,17,18] [(4,some [3,1]),(13,some [3,1,12,10]),(14,some [3,1,12,10]),(19,some [3,1,12,10,18,16]),(20,none),(21,some [3,1,12,10,18,16,8,6])]) ?_|fail)
  all_goals(conv=>whnf)
  exact⟨[],rfl,rfl,⟨ay rfl,ay rfl,ay rfl,ay rfl,ay rfl,ay rfl,ay rfl,ay rfl,trivial⟩,rfl,rfl,au⟩
def ndN(h:Nd)(i9 i10 i11 i12 i13 i14:Nat):List (Nat×AO):=[(0,tV h (.box 8 0) (.own i10) (.box i11 0) (.box i12 0) (.box i13 0)),(8,pG (.own i9) h.d),(i11,.obs (wF h.log h.log.length)),(i12,Bg h.c.h h.ic (yG h.held)),(i13,zV h.c.q h.c.w h.sent (.own i14)),(i9,gI h.d.bs),(i10,bH h.log),(i14,bH h.wait)]
theorem yg(i9 i10 i11 i12 i13 i14:Nat){h h':Nd}{r:AV}(hE:Enters prog f)(hk:yO [(0,0),(8,8),(9,i9),(10,i10),(11,i11),(12,i12),(13,i13),(14,i14)] (wM h' ())=true)(hm:aj prog f (wM h ()) aZ r (ndN h' i9 i10 i11 i12 i13 i14++ho))
  (hb:(aZ.all (pO (λ _=>false) 0)&&fV (λ i=>bP i ho) 0 r&&fU ho ho&& !(bP 0 ho))=true):aj prog f [(0,.obs (kC h))] aZ r ((0,.obs (kC h'))::ho):=
 alz [(0,0),(8,8),(9,i9),(10,i10),(11,i11),(12,i12),(13,i13),(14,i14)] hE rfl hk rfl hm hb
def rcA(x:Rc)(n:Nat)(F:Nat->List AV):AV:= .agg [.v (.int .i64 x.k),.v (.int .i64 x.r),.v (.int .i64 x.u),.v (.int .i64 x.c.c0),.v (.int .i64 x.c.c1),.v (.int .i64 x.c.c2),.v (.int .i64 x.c.c3),.v (.int .i64 x.c.c4),.sl 12 n true F]
theorem Bv(x:Rc)(h:iH x=true)(hn:n=x.ev.length)(hF:∀i,i<n->F i=dI x.ev i):
  aH prog 86 [rcA x n F] (.bI [.sl 1 (aB x).length true (aO (aB x)),.v (.int .i64 0)]) []:=
 (wI 0 x h).thaw.args (.of (λ X u hu=>by
  obtain⟨us,e,ha⟩:=hu;exact⟨us,e,aG.lW (k:=8) rfl (x:= .sl 12 n true F) (y:= .sl 12 x.ev.length true (dI x.ev)) (λ X u hu=>show C2 X (.sl 12 x.ev.length true (dI x.ev)) u from aY.sl hn hF X u (show C2 X (.sl 12 n true F) u from hu)) ha⟩) .nil)
def acP(s:List Ev×Int)(x:Rc):List Ev×Int:=if x.k=3 then(s.1,x.u)else if x.k=4 then(x.ev,x.u)else(s.1++x.ev,s.2)
def IJ(l:List Rc):List Ev×Int:=l.foldl acP ([],0)
def cZ(l:List Ev):aV:=l.foldl (λ c e=>c.inc e.r.toNat) aW
def yH(q sent r:Int)(w:List Ev)(e:Ev):List Ev:=if e.r=r/\sent<e.n then(NT q sent w e).1 else w
def nY(q sent r:Int)(l:List Ev):List Ev:=l.foldl (yH q sent r) []
structure aj'(l:List Ev):Prop where
 len:l.length<=1000000
 nx:∀j,j<l.length->Gg (nX (eqK (l.getD j default).key) (l.take j)) (l.getD j default)
 may:∀j,j<l.length->eH (l.getD j default)=0
 r:∀j,j<l.length->0<=(l.getD j default).r/\(l.getD j default).r<5
 n:∀e∈l,0<=e.n/\e.n<=1000000
theorem acQ{x:Ev}(h:x∈yH q sent r w e):x∈w\/x=e:=by
 unfold yH NT at h;split at h
 ·split at h
  ·exact .inl h
  ·split at h
   ·simpa using h
   ·exact .inl h
 ·exact .inl h
theorem Qh{q sent r:Int}:∀(l w:List Ev){x:Ev},x∈l.foldl (yH q sent r) w->x∈w\/x∈l
 |[],_,_,h=> .inl h
 |e::l,w,x,h=>by
  rcases Qh l _ h with h|h
  ·rcases acQ h with h|rfl
   ·exact .inl h
   ·exact .inr aol
  ·exact .inr (aoq _ h)
theorem acR:(yH q sent r w e).length<=w.length+1:=by
 unfold yH NT;split
 ·split
  ·simp
  ·split<;>simp
 ·simp
theorem Qi{q sent r:Int}:∀(l w:List Ev),(l.foldl (yH q sent r) w).length<=w.length+l.length
 |[],_=>s_
 |e::l,w=>by
  have h1:=Qi (q:=q) (sent:=sent) (r:=r) l (yH q sent r w e);have h2:=acR (q:=q) (sent:=sent) (r:=r) (w:=w) (e:=e);simp only[aqz,aoE];omega
theorem alB(h:∀e∈l,0<=e.n/\e.n<=1000000)(j:Nat):0<=((nY q sent r l).getD j default).n/\((nY q sent r l).getD j default).n<=1000000:=by
 by_cases hj:j<(nY q sent r l).length
 ·rw[show(nY q sent r l).getD j default=(nY q sent r l)[j] by simp[List.getD,hj]];rcases Qh l [] (ao1 hj)with h1|h1
  ·cases h1
  ·exact h _ h1
 ·rw[show(nY q sent r l).getD j default=default by simp[List.getD,hj]];decide
def aV.upto(c:aV)(k:Int):Prop:=(0<=c.c0/\c.c0<=k)/\(0<=c.c1/\c.c1<=k)/\(0<=c.c2/\c.c2<=k)/\(0<=c.c3/\c.c3<=k)/\(0<=c.c4/\c.c4<=k)
theorem aV.agF{c:aV}{k:Int}(h:c.upto k)(r:Nat):(c.inc r).upto (k+1):=by
 unfold aV.upto at*;match r with
 |0=>simp only[aV.inc];omega
 |1=>simp only[aV.inc];omega
 |2=>simp only[aV.inc];omega
 |3=>simp only[aV.inc];omega
 |n+4=>simp only[aV.inc];omega
theorem aaM:∀(l:List Ev)(c:aV)(k:Int),c.upto k->(l.foldl (λ c e=>c.inc e.r.toNat) c).upto (k+l.length)
 |[],c,k,h=>by simpa using h
 |e::l,c,k,h=>by
  have:=aaM l _ _ (aV.agF h e.r.toNat);rw[aoE];rw[show k+((l.length+1:Nat):Int)=k+1+l.length by omega];exact this
theorem aaN(l:List Ev):(cZ l).upto l.length:=by
 have:=aaM l aW 0 (by unfold aV.upto aW;decide);rwa [Int.zero_add]at this
theorem agG{l:List Rc}(h:j<l.length):IJ (l.take (j+1))=acP (IJ (l.take j)) (l.getD j default):=AP h
theorem acS(h:j<l.length):cZ (l.take (j+1))=(cZ (l.take j)).inc (l.getD j default).r.toNat:=AP h
theorem Y5(h:j<l.length):nY q sent r (l.take (j+1))=yH q sent r (nY q sent r (l.take j)) (l.getD j default):=AP h
theorem take_snoc(h:j<l.length):l.take (j+1)=l.take j++[l.getD j default]:=by
 rw[apB,aom h];simp[List.getD,h]
theorem Inv.self{H:Nat->aV}(h:Inv T H)(he:e∈T):aP e e=false:=by
 obtain⟨r,h1,h3,h4,h5,h6⟩:=h.ev e he;unfold aP;rw[h3,aoU];intro k;rw[kM h1]at k;omega
theorem Inv.deliver{H:Nat->aV}(h:Inv T H){r p:Nat}(hr:r<5)(hp:p<5)(he:e∈T)(er:e.r=(p:Int))(en:e.n=(H r).at p+1)(ec:e.c.le (H r)=true):p≠r/\Inv T (lW H r ((H r).inc p)):=by
 obtain⟨p',k1,k2,k3,k4,k5⟩:=h.ev e he;obtain rfl:p'=p:=o_
 have hpr:p'≠r:=by
  rintro rfl;omega
 have hj:∀q,(lW H r ((H r).inc p') q)=if q=r then(H r).inc p' else H q:=λ q=>lK
 have dg:∀q,q<5->(lW H r ((H r).inc p') q).at q=(H q).at q:=λ q hq=>by
  rw[hj];split
  ·rename_i e1;subst e1;rw[oO _ hp hq,if_neg o_]
  ·rfl
 have ec:=aeX.1 ec;refine⟨hpr,λ x hx=>?_,λ q hq s hs=>?_,λ s hs n h1 h2=>?_,λ q hq x hx hh s hs=>?_,λ x hx s hs=>?_,h.dis,h.ord,h.hgt,h.pre,h.fine⟩
 ·obtain⟨s,h1,h2,h3,h4,h5⟩:=h.ev x hx;exact⟨s,h1,h2,h3,by rw[dg s h1];exact h4,h5⟩
 ·rw[dg s hs,hj];have:=h.ge q hq s hs;split
  ·rename_i e1;subst e1;rw[oO _ hp hs];split
   ·rename_i e1;subst e1;omega
   ·exact this
  ·exact this
 ·rw[dg s hs]at h2;exact h.all s hs n h1 h2
 ·rw[hj]at hh⊢;split
  ·rename_i e1;subst e1;rw[if_pos rfl]at hh;have hle:(H q).at s<=((H q).inc p').at s:=by rw[oO _ hp hs];split<;>omega
   obtain⟨t,t1,t2,t3,t4,t5⟩:=h.ev x hx;rw[t2,kM t1,oO _ hp t1]at hh;by_cases e2:x.n<=(H q).at t
   ·have:=h.clo q hq x hx (by rw[t2];exact(kM t1).2 ⟨hh.1,e2⟩) s hs;omega
   ·split at hh
    ·rename_i e3;subst e3;have:x=e:=h.mark hx he (by rw[t2,er]) o_;rw[this];have:=ec s hs;omega
    ·omega
  ·rename_i e1;rw[if_neg e1]at hh;exact h.clo q hq x hx hh s hs
 ·rw[dg s hs];exact h.own x hx s hs
inductive Seq:List Ev->Prop where
 |nil:Seq []
 |snoc {L:List Ev} {e:Ev} {p:Nat} (h:Seq L) (hp:p<5) (er:e.r=(p:Int)) (en:e.n=(cZ L).at p+1):Seq (L++[e])
theorem sN(L:List Ev)(e:Ev):cZ (L++[e])=(cZ L).inc e.r.toNat:=by
 unfold cZ;rw[apO];rfl
theorem Tj(L:List Ev)(q:Nat):0<=(cZ L).at q:=by
 have h:=aaN L;unfold aV.upto at h;match q with
 |0=>exact h.1.1
 |1=>exact h.2.1.1
 |2=>exact h.2.2.1.1
 |3=>exact h.2.2.2.1.1
 |_+4=>exact h.2.2.2.2.1
theorem aaO:∀p,(cZ []).at p=0
 |0=>rfl
 |1=>rfl
 |2=>rfl
 |3=>rfl
 |_+4=>rfl
theorem Seq.at_(h:Seq L):(∀e∈L,∃p:Nat,p<5/\e.r=(p:Int)/\1<=e.n/\e.n<=(cZ L).at p)/\(∀p:Nat,p<5-> ∀n:Int,1<=n->n<=(cZ L).at p-> ∃e∈L,e.r=(p:Int)/\e.n=n)/\L.Pairwise (λ a b=> ¬ (a.r=b.r/\a.n=b.n))/\(L.length:Int)=(cZ L).c0+(cZ L).c1+(cZ L).c2+(cZ L).c3+(cZ L).c4:=by
 induction h with
 |nil=>
  refine⟨λ e h=>(by cases h),λ p hp n h1 h2=>?_,.nil,rfl⟩;have:=aaO p;omega
 | @snoc L e p h hp er en ih=>
   obtain⟨i1,i2,i3,i4⟩:=ih;have ht:e.r.toNat=p:=o_
   have hc:∀q,q<5->(cZ (L++[e])).at q=if q=p then(cZ L).at q+1 else(cZ L).at q:=λ q hq=>by
    rw[sN,ht,oO _ hp hq]
   have g:=Tj L p;refine⟨λ x hx=>?_,λ q hq n h1 h2=>?_, ?_, ?_⟩
   ·rcases aov.1 hx with hx|hx
    ·obtain⟨q,a1,a2,a3,a4⟩:=i1 x hx;exact⟨q,a1,a2,a3,by rw[hc q a1];split<;>omega⟩
    ·obtain rfl:=aoo.1 hx;exact⟨p,hp,er,o_,by rw[hc p hp,if_pos rfl];omega⟩
   ·rw[hc q hq]at h2;by_cases h3:n<=(cZ L).at q
    ·obtain⟨x,a1,a2⟩:=i2 q hq n h1 h3;exact⟨x,aoT _ a1,a2⟩
    ·split at h2
     ·rename_i e1;subst e1;exact⟨e,s_,er,o_⟩
     ·omega
   ·refine apw.2 ⟨i3,apI _ _,λ a ha b hb=>?_⟩;rw[aoo.1 hb];rintro⟨k1,k2⟩;obtain⟨q,a1,a2,a3,a4⟩:=i1 a ha;obtain rfl:q=p:=o_
    omega
   ·rw[aop,sN,ht];obtain rfl|rfl|rfl|rfl|rfl:p=0\/p=1\/p=2\/p=3\/p=4:=o_
    all_goals
     simp only[aV.inc,aoE,aoZ];omega
structure Good(T L:List Ev):Prop where
 mem:∀e∈L,e∈T
 seq:Seq L
 ord:L.Pairwise λ a b=>aP b a=false
theorem Good.nil(T:List Ev):Good T []:=⟨λ e h=>(by cases h),.nil,.nil⟩
theorem Good.mono(h:Good T L)(S:List Ev):Good (T++S) L:=⟨λ e he=>aoT _ (h.mem e he),h.seq,h.ord⟩
theorem Good.snoc{T L:List Ev}{H:Nat->aV}(hI:Inv T H){r:Nat}(hr:r<5)(hH:H r=cZ L)(h:Good T L){e:Ev}(he:e∈T){p:Nat}(hp:p<5)(er:e.r=(p:Int))(en:e.n=(cZ L).at p+1):Good T (L++[e]):=by
 refine⟨λ x hx=>?_,h.seq.snoc hp er en,apw.2 ⟨h.ord,apI _ _,λ a ha b hb=>?_⟩⟩
 ·rcases aov.1 hx with hx|hx
  ·exact h.mem x hx
  ·rw[aoo.1 hx];exact he
 ·rw[aoo.1 hb];unfold aP;rw[er,aoU];intro k;rw[kM hp]at k;obtain⟨q,a1,a2,a3,a4⟩:=h.seq.at_.1 a ha;have:=hI.clo r hr a (h.mem a ha) (by rw[a2];exact(kM a1).2 ⟨a3,by rw[hH];exact a4⟩) p hp;rw[hH]at this;omega
theorem agH(H:Nat->aV)(r:Nat)(a b:aV):lW (lW H r a) r b=lW H r b:=by
 funext i
 rw[lK,lK,lK];split<;>rfl
theorem aaP(H:Nat->aV)(r:Nat):lW H r (H r)=H:=by
 funext i
 rw[lK];split
 ·rename_i e;rw[e]
 ·rfl
theorem WQ{T:List Ev}{r:Nat}(hr:r<5):∀(f:Nat)(w d L:List Ev)(H:Nat->aV),Inv T H->H r=cZ L->Good T L->(∀e∈w,e∈T)->
 ∃x,(NS f (H r) w d).1=d++x/\(∀e∈(NS f (H r) w d).2.1,e∈w)/\(NS f (H r) w d).2.2=cZ (L++x)/\Good T (L++x)/\Inv T (lW H r (cZ (L++x)))/\(∀e∈x,e.r≠(r:Int))
 |0,w,d,L,H,hI,hH,hG,hw=>⟨[],by simp[NS],λ e h=>h,by simp[NS,hH],by rw[aor];exact hG,by rw[aor,<-hH,aaP];exact hI,λ e h=>(by cases h)⟩
 |f+1,w,d,L,H,hI,hH,hG,hw=>by
  unfold NS;split
  ·exact⟨[],s_,λ e h=>h,by simp[hH],by rw[aor];exact hG,by rw[aor,<-hH,aaP];exact hI,λ e h=>(by cases h)⟩
  ·rename_i e hn;obtain⟨p,hp,er,en,ec,e1,hew⟩:=Lp hn;obtain⟨hpr,hI2⟩:=hI.deliver hr hp (hw e hew) er en ec;have hc:(H r).inc e.r.toNat=cZ (L++[e]):=by rw[sN,hH]
   rw[show p=e.r.toNat by omega,hc]at hI2;have hG2:=hG.snoc hI hr hH (hw e hew) hp er (by rw[en,hH]);have hsub:∀x∈C9 w e,x∈w:=λ x hx=>List.mem_of_mem_eraseP hx;have hh:(lW H r (cZ (L++[e]))) r=cZ (L++[e]):=by rw[lK,if_pos rfl]
   obtain⟨x,h1,h2,h3,h4,h5,h6⟩:=WQ hr f (C9 w e) (d++[e]) (L++[e]) _ hI2 hh hG2 λ x hx=>hw x (hsub x hx);rw[hh,<-hc]at h1 h2 h3;rw[aoL]at h1 h3 h4 h5;rw[agH]at h5;refine⟨e::x,h1,λ y hy=>hsub y (h2 y hy),h3,h4,h5,λ y hy=>?_⟩;rcases aot.1 hy with rfl|hy
   ·omega
   ·exact h6 y hy
theorem Qj{c:aV}:∀(l w:List Ev){x:Ev},x∈l.foldl (rE c) w->x∈w\/x∈l
 |[],_,_,h=> .inl h
 |e::l,w,x,h=>by
  rcases Qj l _ h with h|h
  ·unfold rE at h;split at h
   ·exact .inl h
   ·rcases aov.1 h with h|h
    ·exact .inl h
    ·rw[aoo.1 h];exact .inr aol
  ·exact .inr (aoq _ h)
theorem Md{H:Nat->aV}{r:Nat}{c':aV}(hr:r<5)(hI:Inv T H)(hH:H r=cZ L)(hG:Good T L)(hl:∀e∈l,e∈T)(hd:gX (cZ L) l=(d,w,c')):
  (∀e∈w,e∈T)/\c'=cZ (L++d)/\Good T (L++d)/\Inv T (lW H r c')/\(∀e∈d,e.r≠(r:Int)):=by
 unfold gX at hd;rw[<-hH]at hd;have h0:∀e∈kZ (H r) l,e∈T:=λ e he=>by
  rcases Qj l [] he with h|h
  ·cases h
  ·exact hl e h
 obtain⟨x,h1,h2,h3,h4,h5,h6⟩:=WQ hr (kZ (H r) l).length (kZ (H r) l) [] L H hI hH hG h0;rw[hd]at h1 h2 h3;dsimp only at h1 h2 h3;rw[aoN]at h1;subst h1 h3;exact⟨λ e he=>h0 e (h2 e he),rfl,h4,h5,h6⟩
theorem agI{b:List UInt8}(h:NW b=some l):l.length<=255:=by
 rcases b with _|⟨c,t⟩
 ·cases h
 ·have h:(jm t c.toNat).map (·.1)=some l:=h;cases h0:jm t c.toNat with
  |none=>rw[h0]at h;cases h
  |some p=>
   obtain⟨l0,r0⟩:=p;rw[h0]at h;simp only[apR,aoJ]at h;subst h;have:=(qm h0).1;have:=apv c;omega
theorem acT(b:List UInt8):(jD b).1.ev.length<=255:=by
 unfold jD;split
 ·simp[rc0]
 ·unfold rdB;split
  ·split
   ·simp
   ·rename_i l h;exact agI h
  ·split
   ·split<;>simp
   ·split<;>simp
theorem agJ(l:List UInt8)(hl:l.length<=2048):aH prog 110 [.sl 1 l.length true (aO l)] (.bI [(dS l).1.av,.v (.int .i64 (dS l).2)]) []:=by
 unfold dS;rw[if_neg o_];by_cases ho:mY l
 ·rw[if_pos ho];have hF:bG (aO l) (dZ (inner l)):=by rw[<-Fa ho];exact bG.bytes l
  have hil:(inner l).length<=l.length:=by unfold inner;rw[aou];omega
  have hop:=(PW 0 (inner l) hF (by rw[<-Fa ho]) o_).thaw;have hrd:=acL (inner l) (bG.bytes _) rfl o_;have hrl:=acT (inner l);generalize inner l=m at hop hrd hrl;obtain⟨⟨z,ok⟩,hz⟩:∃p,jD m=p:=⟨_,rfl⟩;rw[hz]at hrd hrl⊢;dsimp only at hrd hrl⊢;cases ok with
  |false=>
   rw[if_neg s_];refine K1.E 0x200080809fd func110 ?_;repeat' ((conv=>whnf);first|refine K1.u ?_|refine K1.P1 hop ?_|refine K1.P1 hrd ?_|refine aU.fF ?_|fail)
   all_goals(conv=>whnf)
   all_goals exact bn.mk (aY.gG _)
  |true=>
   cases hm:ku z with
   |false=>
    rw[if_neg s_];have hp:=agp z o_ hm;refine K1.E 0x200080809fd func110 ?_;repeat' ((conv=>whnf);first|refine K1.u ?_|refine K1.P1 hop ?_|refine K1.P1 hrd ?_|refine K1.P1 hp ?_|refine aU.fF ?_|fail)
    all_goals(conv=>whnf)
    all_goals exact bn.mk (aY.gG _)
   |true=>
    have hp:=(Bl 0 z hm).thaw;have he:=LX (bF z) l (bG.bytes _) rfl (bG.bytes _) rfl;by_cases hb:bF z=l
    ·rw[if_pos ⟨rfl,rfl,hb⟩];rw[decide_eq_true hb]at he;generalize bF z=w at hp he;refine K1.E 0x200080809fd func110 ?_;repeat' ((conv=>whnf);first|refine K1.u ?_|refine K1.P1 hop ?_|refine K1.P1 hrd ?_|refine K1.P1 hp ?_|refine K1.P1 he ?_|refine aU.fF ?_|fail)
     all_goals(conv=>whnf)
     all_goals exact bn.mk (au)
    ·rw[if_neg (λ h=>hb h.2.2)];rw[decide_eq_false hb]at he;generalize bF z=w at hp he;refine K1.E 0x200080809fd func110 ?_;repeat' ((conv=>whnf);first|refine K1.u ?_|refine K1.P1 hop ?_|refine K1.P1 hrd ?_|refine K1.P1 hp ?_|refine K1.P1 he ?_|refine aU.fF ?_|fail)
     all_goals(conv=>whnf)
     all_goals exact bn.mk (aY.gG _)
 ·rw[if_neg ho];have hop:=aaB l ho (bG.bytes _) rfl o_;refine K1.E 0x200080809fd func110 ?_;repeat' ((conv=>whnf);first|refine K1.u ?_|refine K1.P1 hop ?_|refine aU.fF ?_|fail)
  all_goals(conv=>whnf)
  all_goals exact bn.mk (aY.gG _)
theorem nP(l:List UInt8)(ht:dS l=(z,x))(hF:bG F l)(hn:n=l.length):
  aH prog 110 [.sl 1 n true F] (.bI [z.av,.v (.int .i64 x)]) []:=by
 rcases aoP 2048 l.length with h|h
 ·unfold dS at ht;rw[if_pos h]at ht;simp only[apW]at ht;obtain⟨rfl,rfl⟩:=ht;exact(Ti (n:=n) (F:=F) o_).res (aY.gG _)
 ·have:=agJ l h;rw[ht]at this;exact this.args (Ch.wS hF hn .nil)
theorem Y6(h:Nd)(hu:h.up=false){av:AV}(hav:av=gW\/ ∃n F,av= .sl 1 n true F):aj prog 75 [(0,.obs (kC h))] [.box 0 0,av] (.v (.int .i64 18)) [(0,.obs (kC h))]:=by
 refine iE (ho:=[]) ⟨_,_,func75,rfl,rfl⟩ ?_ (by rcases hav with rfl|⟨n,F,rfl⟩<;>rfl);obtain⟨c,r,up,d,log,sent,ic,held,wait⟩:=h;dsimp only[wM,tV,gW,List.append_nil]at hu hav⊢;subst hu;rcases hav with rfl|⟨n,F,rfl⟩;all_goals
  refine K1.M 0x41900003d0102173 func75 40 ?_
  all_goals(conv=>whnf)
  exact⟨[],rfl,rfl,⟨ay rfl,ay rfl,ay rfl,ay rfl,ay rfl,ay rfl,ay rfl,ay rfl,trivial⟩,rfl,rfl,au⟩
theorem WR(h:Nd)(hu:h.up=true)(l:List UInt8)(ht:dS l=(z,x))(hx:x≠0)(hF:bG F l)(hn:n=l.length):
  aj prog 75 [(0,.obs (kC h))] [.box 0 0,.sl 1 n true F] (.v (.int .i64 x)) [(0,.obs (kC h))]:=by
 refine iE (ho:=[]) ⟨_,_,func75,rfl,rfl⟩ ?_ rfl;have hf:=nP l ht hF hn;obtain⟨c,r,up,d,log,sent,ic,held,wait⟩:=h;obtain⟨xk,xr,xu,⟨xc0,xc1,xc2,xc3,xc4⟩,ev⟩:=z;dsimp only[wM,tV,Rc.av,Rc.cs,YW,List.append_nil]at hu hf⊢;subst hu;clear ht hF;refine K1.M 0x41900003d0102173 func75 40 ?_;repeat' ((conv=>whnf);first|refine K1.u ?_|refine K1.P1 hf ?_|fail)
 all_goals(conv=>whnf)
 exact⟨[],rfl,rfl,⟨ay rfl,ay rfl,ay rfl,ay rfl,ay rfl,ay rfl,ay rfl,ay rfl,trivial⟩,rfl,rfl,au⟩
def NZ(r:Nat)(n:Int)(e:Ev):Prop:=e.r=(r:Int)\/n<=e.r
theorem WS(h:Nd)(hu:h.up=true)(l:List UInt8){x:Rc}(ht:dS l=(x,0))(hl:x.ev.length<=255)(hs:x.r≠(h.r:Int)\/(∃j,j<x.ev.length/\NZ h.r h.c.n (x.ev.getD j default))\/x.k≠2/\x.k≠4)(hF:bG F l)(hn:n=l.length):
  aj prog 75 [(0,.obs (kC h))] [.box 0 0,.sl 1 n true F] (.v (.int .i64 23)) [(0,.obs (kC h))]:=by
 refine iE (ho:=[]) ⟨_,_,func75,rfl,rfl⟩ ?_ rfl;have hf:=nP l ht hF hn;obtain⟨c,r,up,d,log,sent,ic,held,wait⟩:=h;obtain⟨xk,xr,xu,⟨xc0,xc1,xc2,xc3,xc4⟩,ev⟩:=x;dsimp only[wM,tV,Rc.av,Rc.cs,YW,List.append_nil]at hu hf hs hl⊢;subst hu;clear ht hF;by_cases hr:xr=(r:Int)
 ·refine K1.M 0x41900003d0102173 func75 40 ?_;repeat' ((conv=>whnf);first|refine K1.u ?_|refine K1.P1 hf ?_|fail)
  conv=>whnf
  refine aI.mk {j:Nat//j<=ev.length/\ ∀i,i<j-> ¬NZ r c.n (ev.getD i default)} (λ j=>⟨[(0,.box 0 0),(5,.box 40 0),(30,.sl 12 ev.length true (dI ev)),(31,.v (.int .i64 (ev.length:Int))),(32,.v (.int .i64 (j.1:Int)))],
    [(40,.box 134 [.v (.int .i64 xk),.v (.int .i64 xr),.v (.int .i64 xu),.v (.int .i64 xc0),.v (.int .i64 xc1),.v (.int .i64 xc2),.v (.int .i64 xc3),.v (.int .i64 xc4),.sl 12 ev.length true (dI ev)]),
     (0,tV ⟨c,r,true,d,log,sent,ic,held,wait⟩ (.box 8 0) (.own 10) (.box 11 0) (.box 12 0) (.box 13 0)),(8,pG (.own 9) d),(11,.obs (wF log log.length)),(12,Bg c.h ic (yG held)),(13,zV c.q c.w sent (.own 14)),(9,gI d.bs),(10,bH log),(14,bH wait)],[[(0,.box 0 0),(1,.box 8 0),(2,.own 11),(3,.box 12 0),(4,.box 13 0),(5,.own 9),(6,.own 10),(7,.own 14)]],41⟩) (λ j=>ev.length-j.1) ⟨0,aoB _,λ i hi=>absurd hi (aoM i)⟩ _
   (by exact dO.mk' [] _ _ _ rfl ⟨au,au,au,au,aY.int rfl,trivial⟩ ⟨ay rfl,ay rfl,ay rfl,ay rfl,ay rfl,ay rfl,ay rfl,ay rfl,ay rfl,trivial⟩ rfl) ?_
  rintro⟨j,hj,hno⟩;dsimp only[tV];by_cases hjl:j<ev.length
  ·by_cases ho:NZ r c.n (ev.getD (j:Int).toNat default)
   ·clear hs hno;unfold NZ at ho;rcases ho with h1|h1;all_goals
     repeat' ((conv=>whnf);first|refine K1.u ?_|refine K1.y (λ _=>?_) (λ _=>?_)|fail)
     all_goals(conv=>whnf)
     all_goals exact⟨[],rfl,rfl,⟨ay rfl,ay rfl,ay rfl,ay rfl,ay rfl,ay rfl,ay rfl,ay rfl,trivial⟩,rfl,rfl,au⟩
   ·have hno':∀i,i<j+1-> ¬NZ r c.n (ev.getD i default):=λ i hi=>by
     by_cases hij:i=j
     ·rw[hij];exact ho
     ·exact hno i o_
    clear hs hno;have h1:¬ (ev.getD (j:Int).toNat default).r=(r:Int):=λ h=>ho (.inl h);have h2:¬c.n<=(ev.getD (j:Int).toNat default).r:=λ h=>ho (.inr h);repeat' ((conv=>whnf);first|refine K1.u ?_|fail)
    all_goals(conv=>whnf)
    exact⟨⟨j+1,hjl,hno'⟩,_,dO.mk' [] _ _ _ rfl ⟨au,au,au,au,aY.int rfl,trivial⟩ ⟨ay rfl,ay rfl,ay rfl,ay rfl,ay rfl,ay rfl,ay rfl,ay rfl,ay rfl,trivial⟩ rfl,by show ev.length-(j+1)<ev.length-j;omega⟩
  ·obtain rfl:j=ev.length:=o_
   obtain⟨k1,k2⟩:xk≠2/\xk≠4:=by
    rcases hs with h|⟨i,hi,ho⟩|h
    ·exact absurd hr h
    ·exact absurd ho (hno i hi)
    ·exact h
   clear hs hno;repeat' ((conv=>whnf);first|refine K1.u ?_|fail)
   all_goals(conv=>whnf)
   exact⟨[],rfl,rfl,⟨ay rfl,ay rfl,ay rfl,ay rfl,ay rfl,ay rfl,ay rfl,ay rfl,trivial⟩,rfl,rfl,au⟩
 ·clear hs;refine K1.M 0x41900003d0102173 func75 40 ?_;repeat' ((conv=>whnf);first|refine K1.u ?_|refine K1.P1 hf ?_|fail)
  all_goals(conv=>whnf)
  exact⟨[],rfl,rfl,⟨ay rfl,ay rfl,ay rfl,ay rfl,ay rfl,ay rfl,ay rfl,ay rfl,trivial⟩,rfl,rfl,au⟩
theorem GI(most:Int)(c:aV)(h l:List Ev)(hc:∀r,0<=c.at r/\c.at r<=1000000)(hh:h.length<=400000)(hl:l.length<=400000){c':aV}(hd:gX c (h++l)=(d,w,c'))(hw:(w.length:Int)<=most):
  aj prog 148 [(0,Bg most c (yG h))] [.box 0 0,yG l] (.bI [yG d,.v (.int .i64 0)]) [(0,Bg most c' (yG w))]:=by
 have hcc:=(LM 0 h l hh hl).thaw;have hdr:=Gv c (h++l) hc (by rw[aop];omega) hd (n:=(h++l).length) (F:=dI (h++l)) rfl λ i hi=>rfl;clear hd;dsimp only[aV.av,aV.cs,Bg,yG,DT]at hcc hdr⊢;refine K1.M 0x800003f3 func148 40 ?_;repeat' ((conv=>whnf);first|refine K1.u ?_|refine K1.P1 hcc ?_|refine K1.P1 hdr ?_|refine K1.I 0x73 func88 ?_|fail)
 all_goals(conv=>whnf)
 exact⟨[],rfl,rfl,⟨ay rfl,trivial⟩,rfl,rfl,au⟩
theorem acU(most:Int)(c:aV)(h l:List Ev)(hc:∀r,0<=c.at r/\c.at r<=1000000)(hh:h.length<=400000)(hl:l.length<=400000){c':aV}(hd:gX c (h++l)=(d,w,c'))(hw:most<(w.length:Int)):
  aj prog 148 [(0,Bg most c (yG h))] [.box 0 0,yG l] (.bI [gW,.v (.int .i64 22)]) [(0,Bg most c (yG h))]:=by
 have hcc:=(LM 0 h l hh hl).thaw;have hdr:=Gv c (h++l) hc (by rw[aop];omega) hd (n:=(h++l).length) (F:=dI (h++l)) rfl λ i hi=>rfl;clear hd;dsimp only[aV.av,aV.cs,Bg,yG,DT,gW]at hcc hdr⊢;refine K1.M 0x800003f3 func148 40 ?_;repeat' ((conv=>whnf);first|refine K1.u ?_|refine K1.P1 hcc ?_|refine K1.P1 hdr ?_|refine K1.I 0x73 func88 ?_|fail)
 all_goals(conv=>whnf)
 exact⟨[],rfl,rfl,⟨ay rfl,trivial⟩,rfl,rfl,au⟩
theorem WT(h:Nd)(hu:h.up=true):aj prog 39 [(0,.obs (kC h))] [.box 0 0] (.v (.int .i64 19)) [(0,.obs (kC h))]:=by
 refine iE (ho:=[]) ⟨_,_,func39,rfl,rfl⟩ ?_ rfl;obtain⟨c,r,up,d,log,sent,ic,held,wait⟩:=h;dsimp only[wM,tV,gW,List.append_nil]at hu⊢;subst hu;refine K1.M 0x40c7800008bd func39 40 ?_;repeat' ((conv=>whnf);first|refine Jy.scope bQ 0x40c7800008bd ?_|fail)
 all_goals(conv=>whnf)
 exact⟨[],rfl,rfl,⟨ay rfl,ay rfl,ay rfl,ay rfl,ay rfl,ay rfl,ay rfl,ay rfl,trivial⟩,rfl,rfl,au⟩
theorem Y7(x:Rc)(h:iH x=true):aj prog 86 [(0,bH x.ev)] [.agg [.v (.int .i64 x.k),.v (.int .i64 x.r),.v (.int .i64 x.u),.v (.int .i64 x.c.c0),.v (.int .i64 x.c.c1),.v (.int .i64 x.c.c2),.v (.int .i64 x.c.c3),.v (.int .i64 x.c.c4),.own 0]] (.bI [.sl 1 (aB x).length true (aO (aB x)),.v (.int .i64 0)]) [(0,bH x.ev)]:=by
 refine⟨⟨_,_,func86,rfl,rfl⟩,λ w keep ρ args hkp jo hnd hbl hargs=>?_⟩;have hob:=jo _ (aoo.2 rfl);obtain⟨us,hown,hs0,hfl,hsc,ha⟩:=hob;have hown:w.ownsRow 0 83 12 (ρ 0) x.ev.length us:=hown;have ha:aG (PC w keep) (flat x.ev.length (dI x.ev)) us:=ha;obtain⟨u,rfl,vs,rfl,hv⟩:=rM hargs;have hblk:∀c∈blks (ρ 0),c<w.heap.size:=λ c hc=>(hbl c (aQ.2 ⟨_,aoo.2 rfl,hc⟩)).1;have hpc:PC w (λ c=>c∈blks (ρ 0)) (.sl 12 x.ev.length true (dI x.ev)) (ρ 0):=by
  have ha':=(PY (w':=w) (keep':=λ c=>c∈blks (ρ 0)) (λ y hy=>hsc rfl y hy) ha).1;rcases hown.2 with⟨hv',hz⟩|⟨b,cap,cur,hv',_,hh,hnc,hcm,_⟩
  ·rw[hv',hz];rw[hz]at ha' hown hfl hsc;exact .sl 12 0 true _ none 0 us d_ (aoH _) (by simp[maxLen]) hown.1 hfl hsc (by rw[hv']at ha';exact ha'.2) (.inl rfl)
  ·rw[hv'];refine .sl 12 _ true _ _ cap us d_ hnc hcm hown.1 hfl hsc (by rw[hv']at ha';exact ha'.2) (.inr ⟨b,0,rfl,aol,λ j u hj=>?_⟩);have:=hown.cells (g:=b) (by rw[hv'];rfl) j u hj;rwa [apk]at this
 have hax:aG (C1 ⟨w,λ c=>c∈blks (ρ 0),λ _=>undef⟩) [x.av] [.agg vs.toArray]:=by
  refine aG.cons ⟨vs,rfl,⟨hv.1,λ i y v hy hv'=>?_⟩⟩ aG.nil;match i,hy with
  |0,hy=>cases hy;exact hv.2 0 _ v rfl hv'
  |1,hy=>cases hy;exact hv.2 1 _ v rfl hv'
  |2,hy=>cases hy;exact hv.2 2 _ v rfl hv'
  |3,hy=>cases hy;exact hv.2 3 _ v rfl hv'
  |4,hy=>cases hy;exact hv.2 4 _ v rfl hv'
  |5,hy=>cases hy;exact hv.2 5 _ v rfl hv'
  |6,hy=>cases hy;exact hv.2 6 _ v rfl hv'
  |7,hy=>cases hy;exact hv.2 7 _ v rfl hv'
  |8,hy=>
   cases hy;have:v=dJ (ρ 0):=hv.2 8 _ v rfl hv';rw[this,eY hown];exact hpc
 refine((wI 1 x h).2 w (λ c=>c∈blks (ρ 0)) [.agg vs.toArray] hblk hax).mono ?_;rintro e w' ⟨u',ρ',h1,h2,h3,h4,h5,h6⟩;obtain⟨us',hown',hs',aek,Rf,hall⟩:=h4 _ (aoo.2 rfl);have hown':w'.ownsRow 0 5 1 (ρ' 1) (aB x).length us':=hown';have hb0:∀c∈blks (ρ 0),c<w.heap.size/\ ¬keep c:=λ c hc=>hbl c (aQ.2 ⟨_,aoo.2 rfl,hc⟩);have hmem:∀c,c<w.heap.size->w'.heap[c]? =w.heap[c]? :=λ c hc=>h2.block c hc;have hkk:∀c,keep c->aJ (dX w keep (λ b=>b∈ah ρ [(0,bH x.ev)])) w' ρ [(0,bH x.ev)] c:=λ c hc=>
  ⟨apQ (hkp c hc) h2.size,λ _=> .inl hc,λ hm=>(hbl c hm).2 hc⟩
 refine⟨u',ρ,h1,.of h2,λ _ _ _ _ _=> .refl _, ?_,λ p hp=>?_,hnd,λ b hb=> .inr hb⟩
 ·obtain⟨ts,rfl,ht⟩:=h3;refine⟨ts,rfl,⟨ht.1,λ i y v hy hv'=>?_⟩⟩;match i,hy with
  |0,hy=>
   cases hy;have:v=ρ' 1:=Eq.trans (show v=dJ (ρ' 1)from ht.2 0 _ v rfl hv') (eY hown');subst this;have ha':=(PY (w':=w') (keep':=aJ (dX w keep (λ b=>b∈ah ρ [(0,bH x.ev)])) w' ρ [(0,bH x.ev)]) (λ y hy=>Rf rfl y hy) hall).1;show PC w' (aJ (dX w keep (λ b=>b∈ah ρ [(0,bH x.ev)])) w' ρ [(0,bH x.ev)]) (.sl 1 (aB x).length true (aO (aB x))) (ρ' 1);rcases hown'.2 with⟨hz,hn⟩|⟨g,cap,cur,hz,_,hh,hnc,hcm,_⟩
   ·exact absurd hn (by have:=uI x;omega)
   ·have hge:w.heap.size<=g:=h6 g (aQ.2 ⟨_,aoo.2 rfl,by rw[hz];exact aol⟩);rw[hz];refine .sl 1 _ true _ _ cap us' d_ hnc hcm hown'.1 aek Rf ha'.2 (.inr ⟨g,0,rfl,⟨(ao5.1 hh).1,λ hlt=>absurd (show g<w.heap.size from hlt) o_,λ h=>?_⟩,λ j u hj=>?_⟩)
    ·have:=(hbl g h).1;omega
    ·have:=hown'.cells (g:=g) (by rw[hz];rfl) j u hj;rwa [apk]at this
  |1,hy=>cases hy;exact ht.2 1 _ v rfl hv'
 ·obtain rfl:=aoo.1 hp;exact aT.move (X:=⟨w,keep,ρ⟩) (id:=0) (o:=bH x.ev) hkk (λ c hc=>hmem c (hkp c hc)) rfl (λ c hc=>hmem c (hblk c hc)) rfl (jo _ (aoo.2 rfl))
def N7(h:Nd):Rc:=⟨4,h.r,h.sent,aW,h.log⟩
theorem Y8(h:Nd)(hu:h.up=true)(hl:h.log.length<=4096)(hm:iH (N7 h)=true)(hb:h.d.bs.length<=100000000)(dk:Dk)(y:Int)(hw:jd h.d (aB (N7 h))=(dk,y)):
  aj prog 31 [(0,.obs (kC h))] [.box 0 0] (.v (.int .i64 (if y=0 then 0 else 18))) [(0,.obs (kC ⟨h.c,h.r,if y=0 then true else false,dk,h.log,h.sent,h.ic,h.held,h.wait⟩))]:=by
 refine yg (ho:=[]) 15 10 11 12 13 14 ⟨_,_,func31,rfl,rfl⟩ rfl ?_ rfl;rw[aor];have hpu:=Y7 (N7 h) hm;have hmx:=iP (N7 h) hm;have hdk:=mF h.d dk (aB (N7 h)) y (bG.bytes _) rfl o_ o_ hw;generalize aB (N7 h)=wb at hpu hdk hmx hw;clear hm hw;obtain⟨c,r,up,d,log,sent,ic,held,wait⟩:=h;dsimp only at hu hl;subst hu;by_cases he:y=0
 ·subst he;dsimp only[wM,ndN,tV,pG,N7,rcA,aW,bH,gI]at hpu hdk⊢;rw[if_pos rfl,if_pos rfl];refine K1.M 0x2085 func31 40 ?_;repeat' ((conv=>whnf);first|refine K1.u ?_|refine K1.C 1 [(0,_)] (hpu) rfl ?_|refine K1.C 2 [(0,_),(1,_)] (hdk) rfl ?_|refine K1.I 0x8207b func50 ?_|refine K1.I 0x85 func67 ?_|refine K1.o (id:=5) (nN [0,1,2,3,4,5,6,7,8,9,10,11,12,13] [(14,some [12,10,8,6,4,2]),(15,none)]) ?_|fail)
  all_goals(conv=>whnf)
  exact⟨[(42,15)],rfl,rfl,⟨ay rfl,ay rfl,ay rfl,ay rfl,ay rfl,ay rfl,ay rfl,ay rfl,trivial⟩,rfl,rfl,au⟩
 ·dsimp only[wM,ndN,tV,pG,N7,rcA,aW,bH,gI]at hpu hdk⊢;rw[if_neg he,if_neg he];refine K1.M 0x2085 func31 40 ?_;repeat' ((conv=>whnf);first|refine K1.u ?_|refine K1.C 1 [(0,_)] (hpu) rfl ?_|refine K1.C 2 [(0,_),(1,_)] (hdk) rfl ?_|refine K1.I 0x8207b func50 ?_|refine K1.I 0x85 func67 ?_|refine K1.o (id:=5) (nN [0,1,2,3,4,5,6,7,8,9,10,11,12,13] [(14,some [12,10,8,6,4,2]),(15,none)]) ?_|fail)
  all_goals(conv=>whnf)
  exact⟨[(42,15)],rfl,rfl,⟨ay rfl,ay rfl,ay rfl,ay rfl,ay rfl,ay rfl,ay rfl,ay rfl,trivial⟩,rfl,rfl,au⟩
end Go.Proofs.YtifjccndenojlaaGreat
