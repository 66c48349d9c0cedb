/-
  Contracts of the walk:RcW,Dk,NdG,NdH,NdK,WaA,FrW,NdV,InT,NdY.
-/
import Derived.Test.YtkimgljckickcaaGreatRa27
import Derived.Test.YtkimgljckickcaaGreatRa13
import Derived.Test.YtkimgljckickcaaGreatRa12
import Derived.Test.YtkimgljckickcaaGreatRa20
import Derived.Test.YtkimgljckickcaaGreatRa22
import Derived.WalkMore
import Derived.Test.YtkimgljckickcaaGreatRa26
import Derived.Test.YtkimgljckickcaaGreatRa28
set_option maxHeartbeats 16000000
set_option maxRecDepth 100000
set_option linter.unusedVariables false
set_option linter.unusedSimpArgs false
namespace Go.Proofs.YtkimgljckickcaaGreat
open Go.RowKit
open Go.Proofs.Tryz
variable{e:Ev}{f:FuncId}{q r sent x:Int}{ho:List (Nat×AO)}{aW:List AV}{L T d l w:List Ev}{j n:Nat}{F:Nat->List AV}{z:Rc}
theorem abm(b:List UInt8):(jP b).1.ev.length<=4096:=by
 have hl (t:List UInt8) (l:List Ev) (h:oL t=some l):l.length<=4096:=by
  unfold oL at h;split at h
  ·cases h
  ·split at h
   ·cases h
   ·rename_i m k _ hm;cases h0:jf (t.drop k) m with
    |none=>rw[h0]at h;cases h
    |some p=>
     obtain⟨l0,r0⟩:=p;rw[h0]at h;simp only[aoo,ank]at h;subst h;have:=(pF h0).1;omega
 have hr (k r u:Int) (t:List UInt8):(Ve k r u t).1.ev.length<=4096:=by
  unfold Ve;split
  ·simp
  ·rename_i l h;exact hl t l h
 unfold jP;split
 ·simp[Zh]
 ·unfold rdR;split
  ·exact hr ..
  ·split
   ·unfold ahx;split<;>simp
   ·split
    ·split
     ·simp
     ·exact hr ..
    ·split<;>simp
def zo:Option (Rc×Nat)->AV
 |none=> .aZ [Zh.av,.v (.int .i64 0),.v (.bool false)]
 |some (x,n)=> .aZ [x.av,.v (.int .i64 (n:Int)),.v (.bool true)]
theorem Vl(b c:AV)(f:Nat->List AV){a1 a2 a3 a4 a5 a6 a7 a8:AV}:dJ (.aZ [.agg [a1,a2,a3,a4,a5,a6,a7,a8,.v (.slice none 0 0)],b,c]) (.aZ [.agg [a1,a2,a3,a4,a5,a6,a7,a8,.sl 12 0 true f],b,c]):=
 dJ.aZ (.of (λ _ _ h=>C1.Ov h) (.same (.same .nil)))
theorem ahF(b:List UInt8)(hl:b.length<=1000000000):aF prog 176 [.sl 1 b.length true (aO b)] (zo (pG b)) []:=by
 have hs:=iR b (bg.bytes b) rfl;have hle:=yQ b;unfold pG;obtain⟨⟨v,u,e⟩,hv⟩:∃p,bW b=p:=⟨_,rfl⟩;rw[hv]at hs hle⊢;dsimp only at hs hle⊢;by_cases h0:e≠0\/b.length-u<v
 ·rw[if_pos h0];dsimp only[zo];refine K1.E 0x100040400040003ffd func176 ?_;repeat' ((conv=>whnf);first|refine K1.u ?_|refine K1.P1 hs ?_|refine aT.fH ?_|refine K1.y (λ _=>?_) (λ _=>?_)|fail)
  all_goals(conv=>whnf)
  all_goals first
   |exact bF.mk (Vl _ _ _)
   |fail
 ·rw[if_neg h0];obtain rfl:e=0:=o_
  have hvl:u+v<=b.length:=o_
  obtain⟨W,hW⟩:∃W,W=(b.drop u).take v:=⟨_,rfl⟩;have hWl:W.length=v:=by rw[hW,am5,anl];omega
  have hWF:bg (λ i=>aO b (u+i)) W:=by rw[hW];exact(bg.drop (bg.bytes b) u).take v
  rw[<-hW];by_cases ho:mO W
  ·rw[if_pos ho];have hil:(inner W).length<=W.length:=by unfold inner;rw[am5];omega
   have hop:∀{n:Nat}{F:Nat->List AV}(_:bg F W)(_:n=W.length),_:=λ{n} {F} hF hn=>(Ol 0 (n:=n) (F:=F) (inner W) (by rw[<-Et ho];exact hF) (by rw[<-Et ho];exact hn) o_).thaw;have hrd:=XF (inner W) (bg.bytes _) rfl o_;have hrl:=abm (inner W);generalize inner W=m at hop hrd hrl hil;obtain⟨⟨z,ok⟩,hz⟩:∃p,jP m=p:=⟨_,rfl⟩;rw[hz]at hrd hrl⊢;dsimp only at hrd hrl⊢;cases ok with
   |false=>
    rw[if_neg s_];dsimp only[zo];refine K1.E 0x100040400040003ffd func176 ?_;repeat' ((conv=>whnf);first|refine K1.u ?_|refine K1.P1 hs ?_|refine K1.P1 (hop hWF o_) ?_ rfl rfl|refine K1.P1 hrd ?_|refine aT.fH ?_|fail)
    all_goals(conv=>whnf)
    all_goals exact bF.mk (Vl _ _ _)
   |true=>
    cases hm:iE z with
    |false=>
     rw[if_neg s_];have hp:=aeB z o_ hm;dsimp only[zo];refine K1.E 0x100040400040003ffd func176 ?_;repeat' ((conv=>whnf);first|refine K1.u ?_|refine K1.P1 hs ?_|refine K1.P1 (hop hWF o_) ?_ rfl rfl|refine K1.P1 hrd ?_|refine K1.P1 hp ?_|refine aT.fH ?_|fail)
     all_goals(conv=>whnf)
     all_goals exact bF.mk (Vl _ _ _)
    |true=>
     have hp:=(vP 0 z hm).thaw;have he:∀{n:Nat}(_:n=u+v),_:=λ{n} hn=>KA (m:=n) (ay z) (b.take (u+v)) (bg.bytes _) rfl ((bg.bytes b).take (u+v)) (by rw[am5];omega);by_cases hb:ay z=b.take (u+v)
     ·rw[if_pos ⟨rfl,rfl,hb⟩];dsimp only[zo];rw[decide_eq_true hb]at he;generalize ay z=w at hp he;refine K1.E 0x100040400040003ffd func176 ?_;repeat' ((conv=>whnf);first|refine K1.u ?_|refine K1.P1 hs ?_|refine K1.P1 (hop hWF o_) ?_ rfl rfl|refine K1.P1 hrd ?_|refine K1.P1 hp ?_|refine K1.P1 (he o_) ?_ rfl rfl|refine aT.fH ?_|fail)
      all_goals(conv=>whnf)
      all_goals exact bF.mk (dJ.aZ (.same (.of (λ X u h=>dJ.int o_ X u h) (.same .nil))))
     ·rw[if_neg (λ h=>hb h.2.2)];dsimp only[zo];rw[decide_eq_false hb]at he;generalize ay z=w at hp he;refine K1.E 0x100040400040003ffd func176 ?_;repeat' ((conv=>whnf);first|refine K1.u ?_|refine K1.P1 hs ?_|refine K1.P1 (hop hWF o_) ?_ rfl rfl|refine K1.P1 hrd ?_|refine K1.P1 hp ?_|refine K1.P1 (he o_) ?_ rfl rfl|refine aT.fH ?_|fail)
      all_goals(conv=>whnf)
      all_goals exact bF.mk (Vl _ _ _)
  ·rw[if_neg ho];dsimp only[zo];have hop:∀{n:Nat}{F:Nat->List AV}(_:bg F W)(_:n=W.length),_:=λ{n} {F} hF hn=>Y7 (n:=n) (F:=F) W ho hF hn o_;refine K1.E 0x100040400040003ffd func176 ?_;repeat' ((conv=>whnf);first|refine K1.u ?_|refine K1.P1 hs ?_|refine K1.P1 (hop hWF o_) ?_ rfl rfl|refine aT.fH ?_|fail)
   all_goals(conv=>whnf)
   all_goals exact bF.mk (Vl _ _ _)
theorem xC(b:List UInt8){p:Option (Rc×Nat)}(hp:pG b=p)(hF:bg F b)(hn:n=b.length)(hl:b.length<=1000000000):aF prog 176 [.sl 1 n true F] (zo p) []:=by
 have:=(ahF b hl).args (Ch.vX hF hn .nil);rwa [hp]at this
abbrev rcF(l:List Rc):Nat->List AV:=qh Rc.cs l
theorem Eu:∀l:List Rc,l.length<=(ji l).length
 |[]=>ani _
 |x::l=>by
  have:=Eu l;have:=uh x;show l.length+1<=(ay x++ji l).length;rw[am0];omega
theorem ak'(b:List UInt8)(hl:b.length<=1000000000)(l:List Rc)(t:List UInt8)(hr:xB b l t):
  aF prog 118 [.sl 1 b.length true (aO b)] (.aZ [.sl 9 l.length false (rcF l),.v (.int .i64 ((ji l).length:Int))]) []:=by
 have hbl:(ji l).length<=b.length:=by rw[hr.eq,am0];omega
 have hat:∀j,j<=l.length->(ji (l.take j)).length<=b.length:=by
  intro j _;have e:ji l=ji (l.take j)++ji (l.drop j):=by
   show _=List.flatMap ay (l.take j)++List.flatMap ay (l.drop j);rw[<-ao0,an8];rfl
  have:=congrArg List.length e;rw[am0]at this;omega
 have hnx:∀j,j<l.length->(ji (l.take (j+1))).length=(ji (l.take j)).length+(ay (l.getD j default)).length:=λ j hj=>by rw[abh hj,am0]
 have hll:=Eu l;have hstep:=abg hr;have hend:=ae6 hr;refine Xd bU 0x201fd (l:=0) func118 rfl rfl rfl (by rfl) ?_;conv=>whnf
 refine adZ.mk {j:Nat//j<=l.length} (λ j=>match j with
  |⟨0,_⟩=>⟨[(0,.sl 1 b.length true (aO b)),(4,.v (.slice none 0 0)),(5,.v (.int .i64 0))],[],[],0⟩
  |⟨i+1,_⟩=>⟨[(0,.sl 1 b.length true (aO b)),(4,.own 90),(5,.v (.int .i64 ((ji (l.take (i+1))).length:Int)))],[(90,.row 168 9 (i+1) false (rcF (l.take (i+1))))],[],91⟩)
  (λ j=>l.length-j.1) ⟨0,ane _⟩ _
  (dZ.mk' [] _ _ _ rfl gQ trivial rfl) ?_
 rintro⟨_|i,hj⟩
 ·dsimp only;by_cases h0:0<l.length
  ·have hs:=hstep 0 h0;have hn:=hnx 0 h0;have ha:=hat (0+1) o_;rw[show ji (l.take 0)=[]from rfl,anD]at hs hn;have htk:(l.take (0+1)).length=1:=by rw[am5];omega
   have hg:l.take (0+1)=[l.getD 0 default]:=by cases l with|nil=>cases h0|cons a l=>rfl
   repeat' ((conv=>whnf);first|refine K1.u ?_|refine K1.P1 (xC (b.drop 0) hs (bg.drop (bg.bytes b) 0) s_ (by simp;omega)) ?_ rfl rfl|fail)
   conv=>whnf
   refine⟨⟨0+1,o_⟩,_,dZ.mk' [(2,90)] _ _ _ rfl ⟨bY,bY,dJ.int o_,trivial⟩ ⟨⟨_,rfl,dK.row rfl (λ m hm=>?_)⟩,trivial⟩ rfl,by show l.length-(0+1)<l.length-0;omega⟩;have hm:m<1:=hm;obtain rfl:m=0:=o_
   show _=rcF (l.take (0+1)) 0;rw[hg];rfl
  ·have hl0:l=[]:=am9 o_;subst hl0;rw[show ji []=[]from rfl,anD]at hend;repeat' ((conv=>whnf);first|refine K1.u ?_|refine K1.P1 (xC (b.drop 0) hend (bg.drop (bg.bytes b) 0) s_ (by simp;omega)) ?_ rfl rfl|refine aT.fH ?_|fail)
   conv=>whnf
   exact bF.mk (dJ.aZ (.of (λ X u h=>C1.iC d_ h) (.same .nil)))
 ·dsimp only;have hai:=hat (i+1) hj;have hlt:(l.take (i+1)).length=i+1:=by rw[am5];omega
  by_cases h0:i+1<l.length
  ·have hs:=hstep (i+1) h0;have hn:=hnx (i+1) h0;have ha:=hat (i+1+1) o_;have hg:l.take (i+1+1)=l.take (i+1)++[l.getD (i+1) default]:=by
    rw[List.getD,amX h0];exact(List.take_append_getElem h0).symm
   repeat' ((conv=>whnf);first|refine K1.u ?_|refine K1.P1 (xC (b.drop (ji (l.take (i+1))).length) hs (bg.drop (bg.bytes b) _) s_ (by simp;omega)) ?_ rfl rfl|fail)
   conv=>whnf
   refine⟨⟨i+1+1,o_⟩,_,dZ.mk' [(93,90)] _ _ _ rfl ⟨bY,bY,dJ.int o_,trivial⟩ ⟨⟨_,rfl,dK.row rfl (λ m hm=>?_)⟩,trivial⟩ rfl,by show l.length-(i+1+1)<l.length-(i+1);omega⟩;show _=rcF (l.take (i+1+1)) m;rw[hg];exact eF (c:=Rc.cs) hlt.symm rfl m hm
  ·have QW:l.take (i+1)=l:=anf o_;have hle:i+1=l.length:=o_
   rw[QW]at hai hlt⊢;rw[hle];repeat' ((conv=>whnf);first|refine K1.u ?_|refine K1.P1 (xC (b.drop (ji l).length) hend (bg.drop (bg.bytes b) _) s_ (by simp;omega)) ?_ rfl rfl|refine aT.fH ?_|fail)
   conv=>whnf
   exact bF.mk (bY)
theorem KF(b:List UInt8)(hF:bg F b)(hn:n=b.length)(hl:b.length<=1000000000){l:List Rc}{t:List UInt8}(hr:xB b l t):
  aF prog 118 [.sl 1 n true F] (.aZ [.sl 9 l.length false (rcF l),.v (.int .i64 ((ji l).length:Int))]) []:=
 (ak' b hl l t hr).args (Ch.vX hF hn .nil)
structure Dk where
 (bs:List UInt8)(down cut:Bool)(keep:Int)
def pO(m:AV)(d:Dk):AO:= .box 285 [m,.v (.bool d.down),.v (.bool d.cut),.v (.int .i64 d.keep)]
def gX(l:List UInt8):AO:= .row 5 1 l.length true (aO l)
def dk0:Dk:=⟨[],false,false,0⟩
theorem C1.amd{X:CX}{f:Nat->List AV}{u:Value}(h:C1 X (.v (.slice none 0 0)) u):C1 X (.sl 1 0 true f) u:=by
 have h:u= .slice none 0 0:=h;subst h;exact .sl 1 0 true f none 0 [] o_ (ani _) (by simp[maxLen]) rfl (λ i hi=>absurd hi o_) (λ _ x hx=>by cases hx) (λ i x u hx=>by simp[flat]at hx) (.inl rfl)
theorem rO(d:Nat)(l:List UInt8)(hF:bg F l)(hn:n=l.length)(hl:l.length<=1000000000):aF prog 123 [.sl 1 n true F] (.own d) [(d,gX l)]:=by
 refine K1.E 0x15 func123 ?_;repeat' ((conv=>whnf);first|refine K1.u ?_|refine K1.y (λ _=>?_) (λ _=>?_)|fail)
 all_goals(conv=>whnf)
 ·have h0:n=0:=a_
  obtain rfl:l=[]:=am9 o_;exact aT.nil d _ 1 _ rfl d_
 ·refine aT.uX d rfl rfl ?_ (bY);refine dK.row o_ λ i hi=>?_;exact hF i o_
theorem clone_nil:aF prog 123 [.v (.slice none 0 0)] (.v (.slice none 0 0)) []:=by
 refine K1.E 0x15 func123 ?_;repeat' ((conv=>whnf);first|refine aT.fH ?_|fail)
 all_goals(conv=>whnf)
 exact bF.mk (bY)
theorem all_nil:aF prog 118 [.v (.slice none 0 0)] (.aZ [.sl 9 0 false (rcF []),.v (.int .i64 0)]) []:=by
 have hr:xB [] [] []:=⟨s_,rfl,by unfold pG;rw[if_pos (.inl d_)]⟩;have:=KF (n:=0) (F:=aO []) [] (bg.bytes _) rfl d_ hr;exact this.args (.of (λ _ _ h=>C1.amd h) .nil)
def oM(keep:Int)(n:Nat):Int:=if(n:Int)<(if 0>keep then 0 else keep)then(n:Int)else(if 0>keep then 0 else keep)
theorem Ew(keep:Int)(n:Nat):0<=oM keep n/\oM keep n<=n:=by
 unfold oM;split<;>split<;>omega
def iV(d:Dk)(b:List UInt8):Dk×Int:=
 if d.down then(d,18)else if d.cut then(⟨d.bs++b.take (oM d.keep b.length).toNat,true,false,d.keep⟩,18)else(⟨d.bs++b,false,false,d.keep⟩,0)
theorem lT(d d':Dk)(b:List UInt8)(x:Int)(hF:bg F b)(hn:n=b.length)(h1:d.bs.length<=1000000000)(h2:b.length<=1000000000)(hw:iV d b=(d',x)):
  aj prog 131 [(0,pO (.own 1) d),(1,gX d.bs)] [.box 0 0,.sl 1 n true F] (.v (.int .i64 x)) [(0,pO (.own 2) d'),(2,gX d'.bs)]:=by
 obtain⟨bs,down,cut,keep⟩:=d;have hk:=Ew keep b.length;unfold iV at hw;dsimp only[pO,gX]at h1 hw⊢;subst hn;cases down with
 |true=>
  rw[if_pos rfl]at hw;obtain⟨rfl,rfl⟩:=Prod.mk.inj hw;dsimp only;refine K1.M 0x1113 func131 40 ?_
  all_goals(conv=>whnf)
  exact iF [(1,2)]
 |false=>
  rw[if_neg s_]at hw;cases cut with
  |true=>
   rw[if_pos rfl]at hw;obtain⟨rfl,rfl⟩:=Prod.mk.inj hw;dsimp only;refine K1.M 0x1113 func131 40 ?_;repeat' ((conv=>whnf);first|refine K1.u ?_|fail)
   all_goals(conv=>whnf)
   generalize hb:oM keep b.length=k at hk⊢;unfold oM at hb;rw[hb];clear hb;repeat' ((conv=>whnf);first|refine K1.I 0x1 func142 ?_|fail)
   all_goals(conv=>whnf)
   exact⟨[(40,2)],rfl,rfl,⟨dB rfl,⟨_,rfl,dK.vX (bg.app (bg.bytes _) (hF.take _) rfl) (by rw[am0,am5];omega) rfl⟩,trivial⟩,rfl,rfl,bY⟩
  |false=>
   rw[if_neg s_]at hw;obtain⟨rfl,rfl⟩:=Prod.mk.inj hw;dsimp only;refine K1.M 0x1113 func131 40 ?_;repeat' ((conv=>whnf);first|refine K1.u ?_|fail)
   all_goals(conv=>whnf)
   exact⟨[(40,2)],rfl,rfl,⟨dB rfl,⟨_,rfl,dK.vX (bg.app (bg.bytes _) hF rfl) am0.symm rfl⟩,trivial⟩,rfl,rfl,bY⟩
theorem ahG{lo k m:Nat}{f g:Nat->List AV}(h:m<lo):RH lo k f g m=f m:=by
 have hb:Nat.ble lo m=false:=by
  rw[anw];intro e;have:=am7 e;omega
 show(bif Nat.ble lo m then _ else f m)=f m;rw[hb];rfl
theorem XH{l:List UInt8}{i:Nat}(h:i<n):aO (l.take n) i=aO l i:=by
 show bC _=bC _;rw[List.getD,List.getD,apl h]
theorem OG(d:Dk)(n:Nat)(hn:n<=d.bs.length)(h1:d.bs.length<=1000000000):
  aj prog 120 [(0,pO (.own 1) d),(1,gX d.bs)] [.box 0 0,.v (.int .i64 (n:Int))] (.aZ []) [(0,pO (.own 2) ⟨d.bs.take n,d.down,d.cut,d.keep⟩),(2,gX (d.bs.take n))]:=by
 obtain⟨bs,down,cut,keep⟩:=d;dsimp only[pO,gX]at hn h1⊢;refine K1.M 0x4003 func120 40 ?_;iterate 5 ((conv=>whnf);first|refine K1.u ?_|refine ASl.part ?_|fail)
 repeat' ((conv=>whnf);first|refine K1.u ?_|refine ASl.cut ?_|fail)
 all_goals(conv=>whnf)
 exact⟨[(40,2)],rfl,rfl,⟨dB rfl,⟨_,rfl,dK.row (by rw[am5];omega) λ i hi=>(ahG hi).trans (XH hi).symm⟩,trivial⟩,rfl,rfl,bY⟩
theorem Iy.scope{P:Program}{L:Lay}(hL:bD P L)(lv:Nat){N:Nat}{c:Code}{Q:jd->AS->Prop}{st:AS}(h:zC P L 8 N lv c Q st):Iy P N (.scope c) Q st:=
 ⟨λ _ _ E _ _ _ hq R=>wp_scope_straight (dS hL 8 _ _ lv _ c Q (Exit.noGoto E) ⟨hq.1,hq.2.1,hq.2.2⟩ R h)⟩
theorem Iy.label{P:Program}{N l:Nat}{Q:jd->AS->Prop}{st:AS}(h:Q .normal st):Iy P N (.label l) Q st:=
 ⟨λ _ _ _ _ _ _ hq R=>wp_label (hq.1 _ _ _ _ R h)⟩
structure Nd where
 (c:lZ)(r:Nat)(up:Bool)(d:Dk)(log:List Ev)(sent:Int)(ic:aS)(held wait:List Ev)
def sN(h:Nd)(dk lg bk ib ou:AV):AO:= .box 152 [.v (.int .i64 h.c.n),.v (.int .i64 h.c.w),.v (.int .i64 h.c.q),.v (.int .i64 h.c.h),.v (.int .i64 h.c.l),.v (.int .i64 h.c.p),.v (.int .i64 (h.r:Int)),.v (.bool h.up),dk,lg,.v (.int .i64 h.sent),bk,ib,ou]
def xU(l:List Ev):AV:= .sl 12 l.length true (dA l)
def uQ(h:Nd)(_:Unit):List (Nat×AO):=[(0,sN h (.box 8 0) (.own 10) (.box 11 0) (.box 12 0) (.box 13 0)),(8,pO (.own 9) h.d),(11,.obs (vM h.log h.log.length)),(12,Ae h.c.h h.ic (xU h.held)),(13,zh h.c.q h.c.w h.sent (.own 14)),(9,gX h.d.bs),(10,bn h.log),(14,bn h.wait)]
def jQ(h:Nd):OB:=OB.pack (uQ h)
theorem KG(h:Nd):Closes (uQ h ()) 0 (jQ h):=Closes.pack (uQ h) () rfl λ _ hok=>vF (hok _ amW)
theorem ajR(σ:List (Nat×Nat)){h h':Nd}{r:AV}(hE:Enters prog f)(hs:jY σ 0=some 0)(hk:x9 σ (uQ h' ())=true)(hh:bJ 0 (iO σ (uQ h' ()))=true)(hm:aj prog f (uQ h ()) aW r (iO σ (uQ h' ())++ho))
  (hb:(aW.all (oQ (λ _=>false) 0)&&fG (λ i=>bJ i ho) 0 r&&fF ho ho&& !(bJ 0 ho))=true):aj prog f [(0,.obs (jQ h))] aW r ((0,.obs (jQ h'))::ho):=
 aj.opn hE (Opens.pack (uQ h)) (λ _=>⟨_,(KG h').ren σ hs hk,rfl,hh,hm⟩) hb
theorem gK{h h':Nd}{r:AV}(hE:Enters prog f)(hm:aj prog f (uQ h ()) aW r (uQ h' ()++ho))
  (hb:(aW.all (oQ (λ _=>false) 0)&&fG (λ i=>bJ i ho) 0 r&&fF ho ho&& !(bJ 0 ho))=true):aj prog f [(0,.obs (jQ h))] aW r ((0,.obs (jQ h'))::ho):=
 aj.opn hE (Opens.pack (uQ h)) (λ _=>⟨_,KG h',rfl,rfl,hm⟩) hb
def nd0(c:lZ)(r:Nat):Nd:=⟨c,r,true,dk0,[],0,aV,[],[]⟩
theorem ajS(c:lZ)(r:Nat):Closes [(0,sN (nd0 c r) (.box 8 0) iC (.box 11 0) (.box 12 0) (.box 13 0)),(8,pO iC dk0),(11,.obs (vM [] 0)),(12,Ae c.h aV (xU [])),(13,zh c.q c.w 0 iC)] 0 (jQ (nd0 c r)):=by
 unfold sN pO zh iC;refine Closes.adU (sc:=true) (A:=[_]) (id:=8) (B:=[_,_,_]) (k:=0) (d:=9) (e:=5) (s:=1) (f:=aO []) ?_ rfl d_ rfl;refine Closes.adU (sc:=true) (A:=[]) (id:=0) (B:=[_,_,_,_,_]) (k:=9) (d:=10) (e:=74) (s:=12) (f:=dA []) ?_ rfl d_ rfl;refine Closes.adU (sc:=true) (A:=[_,_,_,_]) (id:=13) (B:=[_,_]) (k:=3) (d:=14) (e:=74) (s:=12) (f:=dA []) ?_ rfl d_ rfl;exact KG (nd0 c r)
theorem afb(c:lZ)(r:Nat)(hc:qj c=true)(hr:(r:Int)<c.n):aj prog 36 [] [c.av,.v (.int .i64 (r:Int))] (.aZ [.box 0 0,.v (.int .i64 0)]) [(0,.obs (jQ (nd0 c r)))]:=by
 have hm:=Fh c;rw[hc]at hm;have ha:=all_nil;refine aj.cls (hs':=_) (ho:=[]) (ajS c r) ?_ rfl;obtain⟨cn,w,q,hh,l,p⟩:=c;dsimp only[lZ.av,lZ.cs,sN,nd0,pO,dk0,List.append_nil,iC]at hm hr⊢;refine K1.M 0x80077 func36 40 ?_;repeat' ((conv=>whnf);first|refine K1.u ?_|refine K1.P1 hm ?_|refine K1.P1 ha ?_|refine K1.P1 clone_nil ?_|refine K1.C 0 [] (UL hh aV) rfl ?_|refine K1.C 0 [] (UM q w 0) rfl ?_|refine K1.C 0 [] (aiB) rfl ?_|refine K1.I 0x40c7800008bd func73 ?_|refine K1.I 0x80000003c0000015 func121 ?_|refine K1.I 0x85 func116 ?_|refine K1.I 0x1 func175 ?_|refine K1.I 0x1 func117 ?_|refine K1.I 0x5 func119 ?_|refine K1.I 0x4003 func120 ?_|refine Iy.scope bU 0x40c7800008bd ?_|refine Iy.label ?_|refine aI.Au 33 1 rfl ?_|refine aI.Au 32 1 rfl ?_|refine K1.o (id:=2) (nN [0,1,2,3,4,5,6,7,8,9,10,11,12,13,14] ((15,some [14,12,10,7,5,2])::nN [16,17] [(18,some [14,12,10,7,5,2,16])])) ?_|refine K1.o (id:=11) (nN [0,1,2,3,4,5,6] ((7,some [6,5,2])::nN [8,9] [(10,some [6,5,2,8])])) ?_|fail)
 all_goals(conv=>whnf)
 exact⟨[(41,0),(42,8),(44,11),(46,12),(45,13)],rfl,rfl,⟨dB rfl,dB rfl,dB rfl,⟨_,rfl,dK.box λ X us h=>aC.lH (k:=6) (x:= .v (.slice none 0 0)) (y:=xU []) rfl (λ X u h=>C1.iC (s:=12) d_ (show C1 X (.v (.slice none 0 0)) u from h)) h⟩,dB rfl,trivial⟩,rfl,rfl,bY⟩
def mkE(e:Ev):List AV:=[.v (.int .i64 e.r),.v (.int .i64 e.n)]
abbrev LV(l:List Ev):Nat->List AV:=qh mkE l
theorem KH(l:List Ev)(hl:l.length<=1000000)(d:Nat):aF prog 92 [xU l] (.own d) [(d,.row 79 2 l.length true (LV l))]:=by
 dsimp only[xU];refine K1.E 0x3ed func92 ?_
 conv=>whnf
 refine aI.nil 3 40 79 2 (LV []) rfl d_ ?_;refine aI.mk {j:Nat//j<=l.length} (λ j=>⟨[(8,.v (.int .i64 (j.1:Int))),(7,.v (.int .i64 (l.length:Int))),(6,xU l),(3,.own 40)],[(40,.row 79 2 j.1 true (LV (l.take j.1)))],[],41⟩)
  (λ j=>l.length-j.1) ⟨0,ane _⟩ _ (dZ.mk' [] _ _ _ rfl gQ ⟨⟨_,rfl,dK.row rfl λ i hi=>absurd hi o_⟩,trivial⟩ rfl) ?_
 rintro⟨j,hj⟩;dsimp only[xU];by_cases hjl:j<l.length
 ·repeat' ((conv=>whnf);first|refine K1.u ?_|fail)
  all_goals(conv=>whnf)
  exact⟨⟨j+1,hjl⟩,_,dZ.mk' [(43,40)] _ _ _ rfl gQ ⟨⟨_,rfl,dK.row rfl λ i hi=>by
   rw[show l.take (j+1)=l.take j++[l.getD (j:Int).toNat default] by rw[aoa,amX hjl];simp[List.getD,hjl]];exact eF (c:=mkE) (l:=l.take j) (show j=(l.take j).length by rw[am5];omega) rfl i hi⟩,trivial⟩ rfl,by show l.length-(j+1)<l.length-j;omega⟩
 ·obtain rfl:j=l.length:=o_
  rw[anf (ani _)];repeat' ((conv=>whnf);first|refine K1.u ?_|fail)
  all_goals(conv=>whnf)
  exact aT.uX d rfl rfl (dK.refl _) (bY)
theorem XI(h:Nd)(hu:h.up=false):aj prog 53 [(0,.obs (jQ h))] [.box 0 0] (.aZ [.v (.slice none 0 0),.v (.int .i64 18)]) [(0,.obs (jQ h))]:=by
 refine gK (ho:=[]) ⟨_,_,func53,rfl,rfl⟩ ?_ rfl;obtain⟨c,r,up,d,log,sent,ic,held,wait⟩:=h;dsimp only[uQ,sN,List.append_nil]at hu⊢;subst hu;refine K1.M 0x10d func53 40 ?_
 all_goals(conv=>whnf)
 exact iF []
theorem abn(h:Nd)(hu:h.up=true)(hp:∀key,Xo (nO (eqK key) h.log) key)(hl:h.log.length<=1000000):aj prog 53 [(0,.obs (jQ h))] [.box 0 0] (.aZ [.own 3,.v (.int .i64 0)]) [(0,.obs (jQ h)),(3,.row 86 7 (qV h.log).length false (TQ (qV h.log)))]:=by
 refine gK (ho:=[_]) ⟨_,_,func53,rfl,rfl⟩ ?_ rfl;have QW:=Ko hp h.log.length hl hl;obtain⟨c,r,up,d,log,sent,ic,held,wait⟩:=h;dsimp only[uQ,sN,List.append_nil]at hu QW⊢;subst hu;refine K1.M 0x10d func53 40 ?_;repeat' ((conv=>whnf);first|refine K1.C 3 [(0,_)] (QW) rfl ?_|fail)
 all_goals(conv=>whnf)
 exact iF [(40,3)]
theorem afc(h:Nd)(k:Int):aj prog 283 [(0,.obs (jQ h))] [.box 0 0,.v (.int .i64 k)] (.aZ []) [(0,.obs (jQ ⟨h.c,h.r,h.up,⟨h.d.bs,h.d.down,true,k⟩,h.log,h.sent,h.ic,h.held,h.wait⟩))]:=by
 refine gK (ho:=[]) ⟨_,_,func283,rfl,rfl⟩ ?_ rfl;obtain⟨c,r,up,⟨bs,down,cut,keep⟩,log,sent,ic,held,wait⟩:=h;dsimp only[uQ,sN,pO,List.append_nil];refine K1.M 0x3 func283 40 ?_;repeat' ((conv=>whnf);first|refine K1.I 0x85 func116 ?_|refine K1.I 0x3 func282 ?_|fail)
 all_goals(conv=>whnf)
 exact iF []
def GL(h:Nd):AV:=bif h.up then .agg [.v (.bool true),.v (.int .i64 h.ic.c0),.v (.int .i64 h.ic.c1),.v (.int .i64 h.ic.c2),.v (.int .i64 h.ic.c3),.v (.int .i64 h.ic.c4),.v (.int .i64 h.sent),.sl 2 h.held.length true (LV h.held),.sl 2 h.log.length true (LV h.log)]
 else .agg [.v (.bool false),.v (.int .i64 0),.v (.int .i64 0),.v (.int .i64 0),.v (.int .i64 0),.v (.int .i64 0),.v (.int .i64 0),.v (.slice none 0 0),.v (.slice none 0 0)]
theorem abo(h:Nd)(h1:h.log.length<=1000000)(h2:h.held.length<=1000000):aj prog 46 [(0,.obs (jQ h))] [.box 0 0] (GL h) [(0,.obs (jQ h))]:=by
 refine gK (ho:=[]) ⟨_,_,func46,rfl,rfl⟩ ?_ (by unfold GL;cases h.up<;>rfl);have m1:=KH h.log h1;have m2:=KH h.held h2;have hcl:=aaT (n:=h.held.length) (F:=dA h.held) o_;have hck:=lM h.c.h h.ic (xU h.held) (.inr ⟨_,_,rfl⟩);obtain⟨c,r,up,d,log,sent,⟨c0,c1,c2,c3,c4⟩,held,wait⟩:=h;dsimp only[uQ,sN,GL,List.append_nil,xU,Ae,aS.av,aS.cs]at m1 m2 hcl hck⊢;cases up;all_goals
  refine K1.M 0x85 func46 40 ?_;repeat' ((conv=>whnf);first|refine K1.u ?_|refine K1.F1 (m1 _) ?_|refine K1.F1 (m2 _) ?_|refine K1.P1 hcl ?_|refine K1.C 1 [(0,_)] (hck) rfl ?_|refine K1.I 0x5 func93 ?_|refine K1.o (id:=3) (nN [0,1,2,3,5,6,7,8,9,10,11,12,15,16,17,18] [(4,some [3,1]),(13,some [3,1,12,10]),(14,some [3,1,12,10]),(19,some [3,1,12,10,18,16]),(20,none),(21,some [3,1,12,10,18,16,8,6])]) ?_|fail)
  all_goals(conv=>whnf)
  exact iF []
def ndN(h:Nd)(i9 i10 i11 i12 i13 i14:Nat):List (Nat×AO):=[(0,sN h (.box 8 0) (.own i10) (.box i11 0) (.box i12 0) (.box i13 0)),(8,pO (.own i9) h.d),(i11,.obs (vM h.log h.log.length)),(i12,Ae h.c.h h.ic (xU h.held)),(i13,zh h.c.q h.c.w h.sent (.own i14)),(i9,gX h.d.bs),(i10,bn h.log),(i14,bn h.wait)]
theorem xE(i9 i10 i11 i12 i13 i14:Nat){h h':Nd}{r:AV}(hE:Enters prog f)(hk:x9 [(0,0),(8,8),(9,i9),(10,i10),(11,i11),(12,i12),(13,i13),(14,i14)] (uQ h' ())=true)(hm:aj prog f (uQ h ()) aW r (ndN h' i9 i10 i11 i12 i13 i14++ho))
  (hb:(aW.all (oQ (λ _=>false) 0)&&fG (λ i=>bJ i ho) 0 r&&fF ho ho&& !(bJ 0 ho))=true):aj prog f [(0,.obs (jQ h))] aW r ((0,.obs (jQ h'))::ho):=
 ajR [(0,0),(8,8),(9,i9),(10,i10),(11,i11),(12,i12),(13,i13),(14,i14)] hE rfl hk rfl hm hb
def rcA(x:Rc)(n:Nat)(F:Nat->List AV):AV:= .agg [.v (.int .i64 x.k),.v (.int .i64 x.r),.v (.int .i64 x.u),.v (.int .i64 x.c.c0),.v (.int .i64 x.c.c1),.v (.int .i64 x.c.c2),.v (.int .i64 x.c.c3),.v (.int .i64 x.c.c4),.sl 12 n true F]
theorem Ak(x:Rc)(h:iE x=true)(hn:n=x.ev.length)(hF:∀i,i<n->F i=dA x.ev i):
  aF prog 130 [rcA x n F] (.aZ [.sl 1 (ay x).length true (aO (ay x)),.v (.int .i64 0)]) []:=
 (vP 0 x h).thaw.args (.of (λ X u hu=>by
  obtain⟨us,e,ha⟩:=hu;exact⟨us,e,aC.lH (k:=8) rfl (x:= .sl 12 n true F) (y:= .sl 12 x.ev.length true (dA x.ev)) (λ X u hu=>show C2 X (.sl 12 x.ev.length true (dA x.ev)) u from dJ.sl hn hF X u (show C2 X (.sl 12 n true F) u from hu)) ha⟩) .nil)
def abp(s:List Ev×Int)(x:Rc):List Ev×Int:=if x.k=3 then(s.1,x.u)else if x.k=4 then(x.ev,x.u)else(s.1++x.ev,s.2)
def Hl(l:List Rc):List Ev×Int:=l.foldl abp ([],0)
def cZ(l:List Ev):aS:=l.foldl (λ c e=>c.inc e.r.toNat) aV
def xW(q sent r:Int)(w:List Ev)(e:Ev):List Ev:=if e.r=r/\sent<e.n then(LZ q sent w e).1 else w
def nP(q sent r:Int)(l:List Ev):List Ev:=l.foldl (xW q sent r) []
structure aiD(l:List Ev):Prop where
 len:l.length<=1000000
 nx:∀j,j<l.length->Fe (nO (eqK (l.getD j default).key) (l.take j)) (l.getD j default)
 may:∀j,j<l.length->dU (l.getD j default)=0
 r:∀j,j<l.length->0<=(l.getD j default).r/\(l.getD j default).r<5
 n:∀e∈l,0<=e.n/\e.n<=1000000
theorem abq{x:Ev}(h:x∈xW q sent r w e):x∈w\/x=e:=by
 unfold xW LZ at h;split at h
 ·split at h
  ·exact .inl h
  ·split at h
   ·simpa using h
   ·exact .inl h
 ·exact .inl h
theorem OH{q sent r:Int}:∀(l w:List Ev){x:Ev},x∈l.foldl (xW q sent r) w->x∈w\/x∈l
 |[],_,_,h=> .inl h
 |e::l,w,x,h=>by
  rcases OH l _ h with h|h
  ·rcases abq h with h|rfl
   ·exact .inl h
   ·exact .inr amW
  ·exact .inr (am1 _ h)
theorem abr:(xW q sent r w e).length<=w.length+1:=by
 unfold xW LZ;split
 ·split
  ·simp
  ·split<;>simp
 ·simp
theorem OI{q sent r:Int}:∀(l w:List Ev),(l.foldl (xW q sent r) w).length<=w.length+l.length
 |[],_=>s_
 |e::l,w=>by
  have h1:=OI (q:=q) (sent:=sent) (r:=r) l (xW q sent r w e);have h2:=abr (q:=q) (sent:=sent) (r:=r) (w:=w) (e:=e);simp only[ao6,anb];omega
theorem ajT(h:∀e∈l,0<=e.n/\e.n<=1000000)(j:Nat):0<=((nP q sent r l).getD j default).n/\((nP q sent r l).getD j default).n<=1000000:=by
 by_cases hj:j<(nP q sent r l).length
 ·rw[show(nP q sent r l).getD j default=(nP q sent r l)[j] by simp[List.getD,hj]];rcases OH l [] (anH hj)with h1|h1
  ·cases h1
  ·exact h _ h1
 ·rw[show(nP q sent r l).getD j default=default by simp[List.getD,hj]];decide
def aS.upto(c:aS)(k:Int):Prop:=(0<=c.c0/\c.c0<=k)/\(0<=c.c1/\c.c1<=k)/\(0<=c.c2/\c.c2<=k)/\(0<=c.c3/\c.c3<=k)/\(0<=c.c4/\c.c4<=k)
theorem aS.afd{c:aS}{k:Int}(h:c.upto k)(r:Nat):(c.inc r).upto (k+1):=by
 unfold aS.upto at*;match r with
 |0=>simp only[aS.inc];omega
 |1=>simp only[aS.inc];omega
 |2=>simp only[aS.inc];omega
 |3=>simp only[aS.inc];omega
 |n+4=>simp only[aS.inc];omega
theorem Zj:∀(l:List Ev)(c:aS)(k:Int),c.upto k->(l.foldl (λ c e=>c.inc e.r.toNat) c).upto (k+l.length)
 |[],c,k,h=>by simpa using h
 |e::l,c,k,h=>by
  have:=Zj l _ _ (aS.afd h e.r.toNat);rw[anb];rw[show k+((l.length+1:Nat):Int)=k+1+l.length by omega];exact this
theorem Zk(l:List Ev):(cZ l).upto l.length:=by
 have:=Zj l aV 0 (by unfold aS.upto aV;decide);rwa [Int.zero_add]at this
theorem afe{l:List Rc}(h:j<l.length):Hl (l.take (j+1))=abp (Hl (l.take j)) (l.getD j default):=zT h
theorem abt(h:j<l.length):cZ (l.take (j+1))=(cZ (l.take j)).inc (l.getD j default).r.toNat:=zT h
theorem XJ(h:j<l.length):nP q sent r (l.take (j+1))=xW q sent r (nP q sent r (l.take j)) (l.getD j default):=zT h
theorem take_snoc(h:j<l.length):l.take (j+1)=l.take j++[l.getD j default]:=by
 rw[aoa,amX h];simp[List.getD,h]
theorem Inv.self{H:Nat->aS}(h:Inv T H)(he:e∈T):aJ e e=false:=by
 obtain⟨r,h1,h3,h4,h5,h6⟩:=h.ev e he;unfold aJ;rw[h3,anw];intro k;rw[kG h1]at k;omega
theorem Inv.deliver{H:Nat->aS}(h:Inv T H){r p:Nat}(hr:r<5)(hp:p<5)(he:e∈T)(er:e.r=(p:Int))(en:e.n=(H r).at p+1)(ec:e.c.le (H r)=true):p≠r/\Inv T (lH H r ((H r).inc p)):=by
 obtain⟨p',k1,k2,k3,k4,k5⟩:=h.ev e he;obtain rfl:p'=p:=o_
 have hpr:p'≠r:=by
  rintro rfl;omega
 have hj:∀q,(lH H r ((H r).inc p') q)=if q=r then(H r).inc p' else H q:=λ q=>lu
 have dg:∀q,q<5->(lH H r ((H r).inc p') q).at q=(H q).at q:=λ q hq=>by
  rw[hj];split
  ·rename_i e1;subst e1;rw[oz _ hp hq,if_neg o_]
  ·rfl
 have ec:=adA.1 ec;refine⟨hpr,λ x hx=>?_,λ q hq s hs=>?_,λ s hs n h1 h2=>?_,λ q hq x hx hh s hs=>?_,λ x hx s hs=>?_,h.dis,h.ord,h.hgt,h.pre,h.fine⟩
 ·obtain⟨s,h1,h2,h3,h4,h5⟩:=h.ev x hx;exact⟨s,h1,h2,h3,by rw[dg s h1];exact h4,h5⟩
 ·rw[dg s hs,hj];have:=h.ge q hq s hs;split
  ·rename_i e1;subst e1;rw[oz _ hp hs];split
   ·rename_i e1;subst e1;omega
   ·exact this
  ·exact this
 ·rw[dg s hs]at h2;exact h.all s hs n h1 h2
 ·rw[hj]at hh⊢;split
  ·rename_i e1;subst e1;rw[if_pos rfl]at hh;have hle:(H q).at s<=((H q).inc p').at s:=by rw[oz _ hp hs];split<;>omega
   obtain⟨t,t1,t2,t3,t4,t5⟩:=h.ev x hx;rw[t2,kG t1,oz _ hp t1]at hh;by_cases e2:x.n<=(H q).at t
   ·have:=h.clo q hq x hx (by rw[t2];exact(kG t1).2 ⟨hh.1,e2⟩) s hs;omega
   ·split at hh
    ·rename_i e3;subst e3;have:x=e:=h.mark hx he (by rw[t2,er]) o_;rw[this];have:=ec s hs;omega
    ·omega
  ·rename_i e1;rw[if_neg e1]at hh;exact h.clo q hq x hx hh s hs
 ·rw[dg s hs];exact h.own x hx s hs
inductive Seq:List Ev->Prop where
 |nil:Seq []
 |snoc {L:List Ev} {e:Ev} {p:Nat} (h:Seq L) (hp:p<5) (er:e.r=(p:Int)) (en:e.n=(cZ L).at p+1):Seq (L++[e])
theorem rP(L:List Ev)(e:Ev):cZ (L++[e])=(cZ L).inc e.r.toNat:=by
 unfold cZ;rw[aoj];rfl
theorem QY(L:List Ev)(q:Nat):0<=(cZ L).at q:=by
 have h:=Zk L;unfold aS.upto at h;match q with
 |0=>exact h.1.1
 |1=>exact h.2.1.1
 |2=>exact h.2.2.1.1
 |3=>exact h.2.2.2.1.1
 |_+4=>exact h.2.2.2.2.1
theorem Zl:∀p,(cZ []).at p=0
 |0=>rfl
 |1=>rfl
 |2=>rfl
 |3=>rfl
 |_+4=>rfl
theorem Seq.at_(h:Seq L):(∀e∈L,∃p:Nat,p<5/\e.r=(p:Int)/\1<=e.n/\e.n<=(cZ L).at p)/\(∀p:Nat,p<5-> ∀n:Int,1<=n->n<=(cZ L).at p-> ∃e∈L,e.r=(p:Int)/\e.n=n)/\L.Pairwise (λ a b=> ¬ (a.r=b.r/\a.n=b.n))/\(L.length:Int)=(cZ L).c0+(cZ L).c1+(cZ L).c2+(cZ L).c3+(cZ L).c4:=by
 induction h with
 |nil=>
  refine⟨λ e h=>(by cases h),λ p hp n h1 h2=>?_,.nil,rfl⟩;have:=Zl p;omega
 | @snoc L e p h hp er en ih=>
   obtain⟨i1,i2,i3,i4⟩:=ih;have ht:e.r.toNat=p:=o_
   have hc:∀q,q<5->(cZ (L++[e])).at q=if q=p then(cZ L).at q+1 else(cZ L).at q:=λ q hq=>by
    rw[rP,ht,oz _ hp hq]
   have g:=QY L p;refine⟨λ x hx=>?_,λ q hq n h1 h2=>?_, ?_, ?_⟩
   ·rcases am6.1 hx with hx|hx
    ·obtain⟨q,a1,a2,a3,a4⟩:=i1 x hx;exact⟨q,a1,a2,a3,by rw[hc q a1];split<;>omega⟩
    ·obtain rfl:=amZ.1 hx;exact⟨p,hp,er,o_,by rw[hc p hp,if_pos rfl];omega⟩
   ·rw[hc q hq]at h2;by_cases h3:n<=(cZ L).at q
    ·obtain⟨x,a1,a2⟩:=i2 q hq n h1 h3;exact⟨x,anv _ a1,a2⟩
    ·split at h2
     ·rename_i e1;subst e1;exact⟨e,s_,er,o_⟩
     ·omega
   ·refine an4.2 ⟨i3,aog _ _,λ a ha b hb=>?_⟩;rw[amZ.1 hb];rintro⟨k1,k2⟩;obtain⟨q,a1,a2,a3,a4⟩:=i1 a ha;obtain rfl:q=p:=o_
    omega
   ·rw[am0,rP,ht];obtain rfl|rfl|rfl|rfl|rfl:p=0\/p=1\/p=2\/p=3\/p=4:=o_
    all_goals
     simp only[aS.inc,anb,anD];omega
structure Good(T L:List Ev):Prop where
 mem:∀e∈L,e∈T
 seq:Seq L
 ord:L.Pairwise λ a b=>aJ b a=false
theorem Good.nil(T:List Ev):Good T []:=⟨λ e h=>(by cases h),.nil,.nil⟩
theorem Good.mono(h:Good T L)(S:List Ev):Good (T++S) L:=⟨λ e he=>anv _ (h.mem e he),h.seq,h.ord⟩
theorem Good.snoc{T L:List Ev}{H:Nat->aS}(hI:Inv T H){r:Nat}(hr:r<5)(hH:H r=cZ L)(h:Good T L){e:Ev}(he:e∈T){p:Nat}(hp:p<5)(er:e.r=(p:Int))(en:e.n=(cZ L).at p+1):Good T (L++[e]):=by
 refine⟨λ x hx=>?_,h.seq.snoc hp er en,an4.2 ⟨h.ord,aog _ _,λ a ha b hb=>?_⟩⟩
 ·rcases am6.1 hx with hx|hx
  ·exact h.mem x hx
  ·rw[amZ.1 hx];exact he
 ·rw[amZ.1 hb];unfold aJ;rw[er,anw];intro k;rw[kG hp]at k;obtain⟨q,a1,a2,a3,a4⟩:=h.seq.at_.1 a ha;have:=hI.clo r hr a (h.mem a ha) (by rw[a2];exact(kG a1).2 ⟨a3,by rw[hH];exact a4⟩) p hp;rw[hH]at this;omega
theorem aff(H:Nat->aS)(r:Nat)(a b:aS):lH (lH H r a) r b=lH H r b:=by
 funext i
 rw[lu,lu,lu];split<;>rfl
theorem Zm(H:Nat->aS)(r:Nat):lH H r (H r)=H:=by
 funext i
 rw[lu];split
 ·rename_i e;rw[e]
 ·rfl
theorem Vm{T:List Ev}{r:Nat}(hr:r<5):∀(f:Nat)(w d L:List Ev)(H:Nat->aS),Inv T H->H r=cZ L->Good T L->(∀e∈w,e∈T)->
 ∃x,(LY f (H r) w d).1=d++x/\(∀e∈(LY f (H r) w d).2.1,e∈w)/\(LY f (H r) w d).2.2=cZ (L++x)/\Good T (L++x)/\Inv T (lH H r (cZ (L++x)))/\(∀e∈x,e.r≠(r:Int))
 |0,w,d,L,H,hI,hH,hG,hw=>⟨[],by simp[LY],λ e h=>h,by simp[LY,hH],by rw[am2];exact hG,by rw[am2,<-hH,Zm];exact hI,λ e h=>(by cases h)⟩
 |f+1,w,d,L,H,hI,hH,hG,hw=>by
  unfold LY;split
  ·exact⟨[],s_,λ e h=>h,by simp[hH],by rw[am2];exact hG,by rw[am2,<-hH,Zm];exact hI,λ e h=>(by cases h)⟩
  ·rename_i e hn;obtain⟨p,hp,er,en,ec,e1,hew⟩:=J4 hn;obtain⟨hpr,hI2⟩:=hI.deliver hr hp (hw e hew) er en ec;have hc:(H r).inc e.r.toNat=cZ (L++[e]):=by rw[rP,hH]
   rw[show p=e.r.toNat by omega,hc]at hI2;have hG2:=hG.snoc hI hr hH (hw e hew) hp er (by rw[en,hH]);have hsub:∀x∈BO w e,x∈w:=λ x hx=>List.mem_of_mem_eraseP hx;have hh:(lH H r (cZ (L++[e]))) r=cZ (L++[e]):=by rw[lu,if_pos rfl]
   obtain⟨x,h1,h2,h3,h4,h5,h6⟩:=Vm hr f (BO w e) (d++[e]) (L++[e]) _ hI2 hh hG2 λ x hx=>hw x (hsub x hx);rw[hh,<-hc]at h1 h2 h3;rw[anm]at h1 h3 h4 h5;rw[aff]at h5;refine⟨e::x,h1,λ y hy=>hsub y (h2 y hy),h3,h4,h5,λ y hy=>?_⟩;rcases am4.1 hy with rfl|hy
   ·omega
   ·exact h6 y hy
theorem OJ{c:aS}:∀(l w:List Ev){x:Ev},x∈l.foldl (qK c) w->x∈w\/x∈l
 |[],_,_,h=> .inl h
 |e::l,w,x,h=>by
  rcases OJ l _ h with h|h
  ·unfold qK at h;split at h
   ·exact .inl h
   ·rcases am6.1 h with h|h
    ·exact .inl h
    ·rw[amZ.1 h];exact .inr amW
  ·exact .inr (am1 _ h)
theorem KI{H:Nat->aS}{r:Nat}{c':aS}(hr:r<5)(hI:Inv T H)(hH:H r=cZ L)(hG:Good T L)(hl:∀e∈l,e∈T)(hd:gI (cZ L) l=(d,w,c')):
  (∀e∈w,e∈T)/\c'=cZ (L++d)/\Good T (L++d)/\Inv T (lH H r c')/\(∀e∈d,e.r≠(r:Int)):=by
 unfold gI at hd;rw[<-hH]at hd;have h0:∀e∈kR (H r) l,e∈T:=λ e he=>by
  rcases OJ l [] he with h|h
  ·cases h
  ·exact hl e h
 obtain⟨x,h1,h2,h3,h4,h5,h6⟩:=Vm hr (kR (H r) l).length (kR (H r) l) [] L H hI hH hG h0;rw[hd]at h1 h2 h3;dsimp only at h1 h2 h3;rw[ano]at h1;subst h1 h3;exact⟨λ e he=>h0 e (h2 e he),rfl,h4,h5,h6⟩
theorem afg{b:List UInt8}(h:L9 b=some l):l.length<=255:=by
 rcases b with _|⟨c,t⟩
 ·cases h
 ·have h:(jf t c.toNat).map (·.1)=some l:=h;cases h0:jf t c.toNat with
  |none=>rw[h0]at h;cases h
  |some p=>
   obtain⟨l0,r0⟩:=p;rw[h0]at h;simp only[aoo,ank]at h;subst h;have:=(pF h0).1;have:=an3 c;omega
theorem abu(b:List UInt8):(jw b).1.ev.length<=255:=by
 unfold jw;split
 ·simp[Zh]
 ·unfold rdB;split
  ·split
   ·simp
   ·rename_i l h;exact afg h
  ·split
   ·split<;>simp
   ·split<;>simp
theorem afh(l:List UInt8)(hl:l.length<=2048):aF prog 145 [.sl 1 l.length true (aO l)] (.aZ [(eP l).1.av,.v (.int .i64 (eP l).2)]) []:=by
 unfold eP;rw[if_neg o_];by_cases ho:mO l
 ·rw[if_pos ho];have hF:bg (aO l) (dP (inner l)):=by rw[<-Et ho];exact bg.bytes l
  have hil:(inner l).length<=l.length:=by unfold inner;rw[am5];omega
  have hop:=(Ol 0 (inner l) hF (by rw[<-Et ho]) o_).thaw;have hrd:=abl (inner l) (bg.bytes _) rfl o_;have hrl:=abu (inner l);generalize inner l=m at hop hrd hrl;obtain⟨⟨z,ok⟩,hz⟩:∃p,jw m=p:=⟨_,rfl⟩;rw[hz]at hrd hrl⊢;dsimp only at hrd hrl⊢;cases ok with
  |false=>
   rw[if_neg s_];refine K1.E 0x200080809fd func145 ?_;repeat' ((conv=>whnf);first|refine K1.u ?_|refine K1.P1 hop ?_|refine K1.P1 hrd ?_|refine aT.fH ?_|fail)
   all_goals(conv=>whnf)
   all_goals exact bF.mk (dJ.fZ _)
  |true=>
   cases hm:jW z with
   |false=>
    rw[if_neg s_];have hp:=ae3 z o_ hm;refine K1.E 0x200080809fd func145 ?_;repeat' ((conv=>whnf);first|refine K1.u ?_|refine K1.P1 hop ?_|refine K1.P1 hrd ?_|refine K1.P1 hp ?_|refine aT.fH ?_|fail)
    all_goals(conv=>whnf)
    all_goals exact bF.mk (dJ.fZ _)
   |true=>
    have hp:=(Ai 0 z hm).thaw;have he:=KA (aY z) l (bg.bytes _) rfl (bg.bytes _) rfl;by_cases hb:aY z=l
    ·rw[if_pos ⟨rfl,rfl,hb⟩];rw[decide_eq_true hb]at he;generalize aY z=w at hp he;refine K1.E 0x200080809fd func145 ?_;repeat' ((conv=>whnf);first|refine K1.u ?_|refine K1.P1 hop ?_|refine K1.P1 hrd ?_|refine K1.P1 hp ?_|refine K1.P1 he ?_|refine aT.fH ?_|fail)
     all_goals(conv=>whnf)
     all_goals exact bF.mk (bY)
    ·rw[if_neg (λ h=>hb h.2.2)];rw[decide_eq_false hb]at he;generalize aY z=w at hp he;refine K1.E 0x200080809fd func145 ?_;repeat' ((conv=>whnf);first|refine K1.u ?_|refine K1.P1 hop ?_|refine K1.P1 hrd ?_|refine K1.P1 hp ?_|refine K1.P1 he ?_|refine aT.fH ?_|fail)
     all_goals(conv=>whnf)
     all_goals exact bF.mk (dJ.fZ _)
 ·rw[if_neg ho];have hop:=Y7 l ho (bg.bytes _) rfl o_;refine K1.E 0x200080809fd func145 ?_;repeat' ((conv=>whnf);first|refine K1.u ?_|refine K1.P1 hop ?_|refine aT.fH ?_|fail)
  all_goals(conv=>whnf)
  all_goals exact bF.mk (dJ.fZ _)
theorem nH(l:List UInt8)(ht:eP l=(z,x))(hF:bg F l)(hn:n=l.length):
  aF prog 145 [.sl 1 n true F] (.aZ [z.av,.v (.int .i64 x)]) []:=by
 rcases anr 2048 l.length with h|h
 ·unfold eP at ht;rw[if_pos h]at ht;simp only[aot]at ht;obtain⟨rfl,rfl⟩:=ht;exact(QX (n:=n) (F:=F) o_).res (dJ.fZ _)
 ·have:=afh l h;rw[ht]at this;exact this.args (Ch.vX hF hn .nil)
theorem XK(h:Nd)(hu:h.up=false){av:AV}(hav:av=iC\/ ∃n F,av= .sl 1 n true F):aj prog 100 [(0,.obs (jQ h))] [.box 0 0,av] (.v (.int .i64 18)) [(0,.obs (jQ h))]:=by
 refine gK (ho:=[]) ⟨_,_,func100,rfl,rfl⟩ ?_ (by rcases hav with rfl|⟨n,F,rfl⟩<;>rfl);obtain⟨c,r,up,d,log,sent,ic,held,wait⟩:=h;dsimp only[uQ,sN,iC,List.append_nil]at hu hav⊢;subst hu;rcases hav with rfl|⟨n,F,rfl⟩;all_goals
  refine K1.M 0x41900003d0102173 func100 40 ?_
  all_goals(conv=>whnf)
  exact iF []
theorem Vo(h:Nd)(hu:h.up=true)(l:List UInt8)(ht:eP l=(z,x))(hx:x≠0)(hF:bg F l)(hn:n=l.length):
  aj prog 100 [(0,.obs (jQ h))] [.box 0 0,.sl 1 n true F] (.v (.int .i64 x)) [(0,.obs (jQ h))]:=by
 refine gK (ho:=[]) ⟨_,_,func100,rfl,rfl⟩ ?_ rfl;have hf:=nH l ht hF hn;obtain⟨c,r,up,d,log,sent,ic,held,wait⟩:=h;obtain⟨xk,xr,xu,⟨xc0,xc1,xc2,xc3,xc4⟩,ev⟩:=z;dsimp only[uQ,sN,Rc.av,Rc.cs,XB,List.append_nil]at hu hf⊢;subst hu;clear ht hF;refine K1.M 0x41900003d0102173 func100 40 ?_;repeat' ((conv=>whnf);first|refine K1.u ?_|refine K1.P1 hf ?_|fail)
 all_goals(conv=>whnf)
 exact iF []
def Md(r:Nat)(n:Int)(e:Ev):Prop:=e.r=(r:Int)\/n<=e.r
theorem Vp(h:Nd)(hu:h.up=true)(l:List UInt8){x:Rc}(ht:eP l=(x,0))(hl:x.ev.length<=255)(hs:x.r≠(h.r:Int)\/(∃j,j<x.ev.length/\Md h.r h.c.n (x.ev.getD j default))\/x.k≠2/\x.k≠4)(hF:bg F l)(hn:n=l.length):
  aj prog 100 [(0,.obs (jQ h))] [.box 0 0,.sl 1 n true F] (.v (.int .i64 23)) [(0,.obs (jQ h))]:=by
 refine gK (ho:=[]) ⟨_,_,func100,rfl,rfl⟩ ?_ rfl;have hf:=nH l ht hF hn;obtain⟨c,r,up,d,log,sent,ic,held,wait⟩:=h;obtain⟨xk,xr,xu,⟨xc0,xc1,xc2,xc3,xc4⟩,ev⟩:=x;dsimp only[uQ,sN,Rc.av,Rc.cs,XB,List.append_nil]at hu hf hs hl⊢;subst hu;clear ht hF;by_cases hr:xr=(r:Int)
 ·refine K1.M 0x41900003d0102173 func100 40 ?_;repeat' ((conv=>whnf);first|refine K1.u ?_|refine K1.P1 hf ?_|fail)
  conv=>whnf
  refine aI.mk {j:Nat//j<=ev.length/\ ∀i,i<j-> ¬Md r c.n (ev.getD i default)} (λ j=>⟨[(0,.box 0 0),(5,.box 40 0),(30,.sl 12 ev.length true (dA ev)),(31,.v (.int .i64 (ev.length:Int))),(32,.v (.int .i64 (j.1:Int)))],
    [(40,.box 174 [.v (.int .i64 xk),.v (.int .i64 xr),.v (.int .i64 xu),.v (.int .i64 xc0),.v (.int .i64 xc1),.v (.int .i64 xc2),.v (.int .i64 xc3),.v (.int .i64 xc4),.sl 12 ev.length true (dA ev)]),
     (0,sN ⟨c,r,true,d,log,sent,ic,held,wait⟩ (.box 8 0) (.own 10) (.box 11 0) (.box 12 0) (.box 13 0)),(8,pO (.own 9) d),(11,.obs (vM log log.length)),(12,Ae c.h ic (xU held)),(13,zh c.q c.w sent (.own 14)),(9,gX d.bs),(10,bn log),(14,bn wait)],[[(0,.box 0 0),(1,.box 8 0),(2,.own 11),(3,.box 12 0),(4,.box 13 0),(5,.own 9),(6,.own 10),(7,.own 14)]],41⟩) (λ j=>ev.length-j.1) ⟨0,ane _,λ i hi=>absurd hi (anA i)⟩ _
   (by exact dZ.mk' [] _ _ _ rfl gQ nM rfl) ?_
  rintro⟨j,hj,hno⟩;dsimp only[sN];by_cases hjl:j<ev.length
  ·by_cases ho:Md r c.n (ev.getD (j:Int).toNat default)
   ·clear hs hno;unfold Md at ho;rcases ho with h1|h1;all_goals
     repeat' ((conv=>whnf);first|refine K1.u ?_|refine K1.y (λ _=>?_) (λ _=>?_)|fail)
     all_goals(conv=>whnf)
     all_goals exact iF []
   ·have hno':∀i,i<j+1-> ¬Md r c.n (ev.getD i default):=λ i hi=>by
     by_cases hij:i=j
     ·rw[hij];exact ho
     ·exact hno i o_
    clear hs hno;have h1:¬ (ev.getD (j:Int).toNat default).r=(r:Int):=λ h=>ho (.inl h);have h2:¬c.n<=(ev.getD (j:Int).toNat default).r:=λ h=>ho (.inr h);repeat' ((conv=>whnf);first|refine K1.u ?_|fail)
    all_goals(conv=>whnf)
    exact⟨⟨j+1,hjl,hno'⟩,_,dZ.mk' [] _ _ _ rfl gQ nM rfl,by show ev.length-(j+1)<ev.length-j;omega⟩
  ·obtain rfl:j=ev.length:=o_
   obtain⟨k1,k2⟩:xk≠2/\xk≠4:=by
    rcases hs with h|⟨i,hi,ho⟩|h
    ·exact absurd hr h
    ·exact absurd ho (hno i hi)
    ·exact h
   clear hs hno;repeat' ((conv=>whnf);first|refine K1.u ?_|fail)
   all_goals(conv=>whnf)
   exact iF []
 ·clear hs;refine K1.M 0x41900003d0102173 func100 40 ?_;repeat' ((conv=>whnf);first|refine K1.u ?_|refine K1.P1 hf ?_|fail)
  all_goals(conv=>whnf)
  exact iF []
theorem FT(most:Int)(c:aS)(h l:List Ev)(hc:∀r,0<=c.at r/\c.at r<=1000000)(hh:h.length<=400000)(hl:l.length<=400000){c':aS}(hd:gI c (h++l)=(d,w,c'))(hw:(w.length:Int)<=most):
  aj prog 202 [(0,Ae most c (xU h))] [.box 0 0,xU l] (.aZ [xU d,.v (.int .i64 0)]) [(0,Ae most c' (xU w))]:=by
 have hcc:=(Kt 0 h l hh hl).thaw;have hdr:=FI c (h++l) hc (by rw[am0];omega) hd (n:=(h++l).length) (F:=dA (h++l)) rfl λ i hi=>rfl;clear hd;dsimp only[aS.av,aS.cs,Ae,xU,CZ]at hcc hdr⊢;refine K1.M 0x800003f3 func202 40 ?_;repeat' ((conv=>whnf);first|refine K1.u ?_|refine K1.P1 hcc ?_|refine K1.P1 hdr ?_|refine K1.I 0x73 func132 ?_|fail)
 all_goals(conv=>whnf)
 exact iF []
theorem abv(most:Int)(c:aS)(h l:List Ev)(hc:∀r,0<=c.at r/\c.at r<=1000000)(hh:h.length<=400000)(hl:l.length<=400000){c':aS}(hd:gI c (h++l)=(d,w,c'))(hw:most<(w.length:Int)):
  aj prog 202 [(0,Ae most c (xU h))] [.box 0 0,xU l] (.aZ [iC,.v (.int .i64 22)]) [(0,Ae most c (xU h))]:=by
 have hcc:=(Kt 0 h l hh hl).thaw;have hdr:=FI c (h++l) hc (by rw[am0];omega) hd (n:=(h++l).length) (F:=dA (h++l)) rfl λ i hi=>rfl;clear hd;dsimp only[aS.av,aS.cs,Ae,xU,CZ,iC]at hcc hdr⊢;refine K1.M 0x800003f3 func202 40 ?_;repeat' ((conv=>whnf);first|refine K1.u ?_|refine K1.P1 hcc ?_|refine K1.P1 hdr ?_|refine K1.I 0x73 func132 ?_|fail)
 all_goals(conv=>whnf)
 exact iF []
theorem Vq(h:Nd)(hu:h.up=true):aj prog 73 [(0,.obs (jQ h))] [.box 0 0] (.v (.int .i64 19)) [(0,.obs (jQ h))]:=by
 refine gK (ho:=[]) ⟨_,_,func73,rfl,rfl⟩ ?_ rfl;obtain⟨c,r,up,d,log,sent,ic,held,wait⟩:=h;dsimp only[uQ,sN,iC,List.append_nil]at hu⊢;subst hu;refine K1.M 0x40c7800008bd func73 40 ?_;repeat' ((conv=>whnf);first|refine Iy.scope bU 0x40c7800008bd ?_|fail)
 all_goals(conv=>whnf)
 exact iF []
theorem XL(x:Rc)(h:iE x=true):aj prog 130 [(0,bn x.ev)] [.agg [.v (.int .i64 x.k),.v (.int .i64 x.r),.v (.int .i64 x.u),.v (.int .i64 x.c.c0),.v (.int .i64 x.c.c1),.v (.int .i64 x.c.c2),.v (.int .i64 x.c.c3),.v (.int .i64 x.c.c4),.own 0]] (.aZ [.sl 1 (ay x).length true (aO (ay x)),.v (.int .i64 0)]) [(0,bn x.ev)]:=by
 refine⟨⟨_,_,func130,rfl,rfl⟩,λ w keep ρ args hkp jg hnd hbl hargs=>?_⟩;have hob:=jg _ (amZ.2 rfl);obtain⟨us,hown,hs0,hfl,hsc,ha⟩:=hob;have hown:w.ownsRow 0 74 12 (ρ 0) x.ev.length us:=hown;have ha:aC (PC w keep) (flat x.ev.length (dA x.ev)) us:=ha;obtain⟨u,rfl,vs,rfl,hv⟩:=qR hargs;have hblk:∀c∈blks (ρ 0),c<w.heap.size:=λ c hc=>(hbl c (aN.2 ⟨_,amZ.2 rfl,hc⟩)).1;have hpc:PC w (λ c=>c∈blks (ρ 0)) (.sl 12 x.ev.length true (dA x.ev)) (ρ 0):=by
  have ha':=(Oo (w':=w) (keep':=λ c=>c∈blks (ρ 0)) (λ y hy=>hsc rfl y hy) ha).1;rcases hown.2 with⟨hv',hz⟩|⟨b,cap,cur,hv',_,hh,hnc,hcm,_⟩
  ·rw[hv',hz];rw[hz]at ha' hown hfl hsc;exact .sl 12 0 true _ none 0 us d_ (ani _) (by simp[maxLen]) hown.1 hfl hsc (by rw[hv']at ha';exact ha'.2) (.inl rfl)
  ·rw[hv'];refine .sl 12 _ true _ _ cap us d_ hnc hcm hown.1 hfl hsc (by rw[hv']at ha';exact ha'.2) (.inr ⟨b,0,rfl,amW,λ j u hj=>?_⟩);have:=hown.cells (g:=b) (by rw[hv'];rfl) j u hj;rwa [anW]at this
 have hax:aC (C1 ⟨w,λ c=>c∈blks (ρ 0),λ _=>undef⟩) [x.av] [.agg vs.toArray]:=by
  refine aC.cons ⟨vs,rfl,⟨hv.1,λ i y v hy hv'=>?_⟩⟩ aC.nil;match i,hy with
  |0,hy=>cases hy;exact hv.2 0 _ v rfl hv'
  |1,hy=>cases hy;exact hv.2 1 _ v rfl hv'
  |2,hy=>cases hy;exact hv.2 2 _ v rfl hv'
  |3,hy=>cases hy;exact hv.2 3 _ v rfl hv'
  |4,hy=>cases hy;exact hv.2 4 _ v rfl hv'
  |5,hy=>cases hy;exact hv.2 5 _ v rfl hv'
  |6,hy=>cases hy;exact hv.2 6 _ v rfl hv'
  |7,hy=>cases hy;exact hv.2 7 _ v rfl hv'
  |8,hy=>
   cases hy;have:v=dD (ρ 0):=hv.2 8 _ v rfl hv';rw[this,dY hown];exact hpc
 refine((vP 1 x h).2 w (λ c=>c∈blks (ρ 0)) [.agg vs.toArray] hblk hax).mono ?_;rintro e w' ⟨u',ρ',h1,h2,h3,h4,h5,h6⟩;obtain⟨us',hown',hs',acV,PZ,hall⟩:=h4 _ (amZ.2 rfl);have hown':w'.ownsRow 0 5 1 (ρ' 1) (ay x).length us':=hown';have hb0:∀c∈blks (ρ 0),c<w.heap.size/\ ¬keep c:=λ c hc=>hbl c (aN.2 ⟨_,amZ.2 rfl,hc⟩);have hmem:∀c,c<w.heap.size->w'.heap[c]? =w.heap[c]? :=λ c hc=>h2.block c hc;have hkk:∀c,keep c->aH (dN w keep (λ b=>b∈ah ρ [(0,bn x.ev)])) w' ρ [(0,bn x.ev)] c:=λ c hc=>
  ⟨aon (hkp c hc) h2.size,λ _=> .inl hc,λ hm=>(hbl c hm).2 hc⟩
 refine⟨u',ρ,h1,.of h2,λ _ _ _ _ _=> .refl _, ?_,λ p hp=>?_,hnd,λ b hb=> .inr hb⟩
 ·obtain⟨ts,rfl,ht⟩:=h3;refine⟨ts,rfl,⟨ht.1,λ i y v hy hv'=>?_⟩⟩;match i,hy with
  |0,hy=>
   cases hy;have:v=ρ' 1:=Eq.trans (show v=dD (ρ' 1)from ht.2 0 _ v rfl hv') (dY hown');subst this;have ha':=(Oo (w':=w') (keep':=aH (dN w keep (λ b=>b∈ah ρ [(0,bn x.ev)])) w' ρ [(0,bn x.ev)]) (λ y hy=>PZ rfl y hy) hall).1;show PC w' (aH (dN w keep (λ b=>b∈ah ρ [(0,bn x.ev)])) w' ρ [(0,bn x.ev)]) (.sl 1 (ay x).length true (aO (ay x))) (ρ' 1);rcases hown'.2 with⟨hz,hn⟩|⟨g,cap,cur,hz,_,hh,hnc,hcm,_⟩
   ·exact absurd hn (by have:=uh x;omega)
   ·have hge:w.heap.size<=g:=h6 g (aN.2 ⟨_,amZ.2 rfl,by rw[hz];exact amW⟩);rw[hz];refine .sl 1 _ true _ _ cap us' d_ hnc hcm hown'.1 acV PZ ha'.2 (.inr ⟨g,0,rfl,⟨(anQ.1 hh).1,λ hlt=>absurd (show g<w.heap.size from hlt) o_,λ h=>?_⟩,λ j u hj=>?_⟩)
    ·have:=(hbl g h).1;omega
    ·have:=hown'.cells (g:=g) (by rw[hz];rfl) j u hj;rwa [anW]at this
  |1,hy=>cases hy;exact ht.2 1 _ v rfl hv'
 ·obtain rfl:=amZ.1 hp;exact aQ.move (X:=⟨w,keep,ρ⟩) (id:=0) (o:=bn x.ev) hkk (λ c hc=>hmem c (hkp c hc)) rfl (λ c hc=>hmem c (hblk c hc)) rfl (jg _ (amZ.2 rfl))
def Me(h:Nd):Rc:=⟨4,h.r,h.sent,aV,h.log⟩
theorem XM(h:Nd)(hu:h.up=true)(hl:h.log.length<=4096)(hm:iE (Me h)=true)(hb:h.d.bs.length<=100000000)(dk:Dk)(y:Int)(hw:iV h.d (ay (Me h))=(dk,y)):
  aj prog 45 [(0,.obs (jQ h))] [.box 0 0] (.v (.int .i64 (if y=0 then 0 else 18))) [(0,.obs (jQ ⟨h.c,h.r,if y=0 then true else false,dk,h.log,h.sent,h.ic,h.held,h.wait⟩))]:=by
 refine xE (ho:=[]) 15 10 11 12 13 14 ⟨_,_,func45,rfl,rfl⟩ rfl ?_ rfl;rw[am2];have hpu:=XL (Me h) hm;have hmx:=iJ (Me h) hm;have hdk:=lT h.d dk (ay (Me h)) y (bg.bytes _) rfl o_ o_ hw;generalize ay (Me h)=wb at hpu hdk hmx hw;clear hm hw;obtain⟨c,r,up,d,log,sent,ic,held,wait⟩:=h;dsimp only at hu hl;subst hu;by_cases he:y=0
 ·subst he;dsimp only[uQ,ndN,sN,pO,Me,rcA,aV,bn,gX]at hpu hdk⊢;rw[if_pos rfl,if_pos rfl];refine K1.M 0x2085 func45 40 ?_;repeat' ((conv=>whnf);first|refine K1.u ?_|refine K1.C 1 [(0,_)] (hpu) rfl ?_|refine K1.C 2 [(0,_),(1,_)] (hdk) rfl ?_|refine K1.I 0x8207b func83 ?_|refine K1.I 0x85 func116 ?_|refine K1.o (id:=5) (nN [0,1,2,3,4,5,6,7,8,9,10,11,12,13] [(14,some [12,10,8,6,4,2]),(15,none)]) ?_|fail)
  all_goals(conv=>whnf)
  exact iF [(42,15)]
 ·dsimp only[uQ,ndN,sN,pO,Me,rcA,aV,bn,gX]at hpu hdk⊢;rw[if_neg he,if_neg he];refine K1.M 0x2085 func45 40 ?_;repeat' ((conv=>whnf);first|refine K1.u ?_|refine K1.C 1 [(0,_)] (hpu) rfl ?_|refine K1.C 2 [(0,_),(1,_)] (hdk) rfl ?_|refine K1.I 0x8207b func83 ?_|refine K1.I 0x85 func116 ?_|refine K1.o (id:=5) (nN [0,1,2,3,4,5,6,7,8,9,10,11,12,13] [(14,some [12,10,8,6,4,2]),(15,none)]) ?_|fail)
  all_goals(conv=>whnf)
  exact iF [(42,15)]
end Go.Proofs.YtkimgljckickcaaGreat
