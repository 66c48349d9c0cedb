/-
  Contracts of the walk:TkF,FrT,FrU,FrLaw,FrN,RcLaw,RcV,RcX.
-/
import Derived.Test.YtifjccndenojlaaGreatWf25
import Derived.Test.YtifjccndenojlaaGreatWf9
import Derived.Test.YtifjccndenojlaaGreatWf13
import Derived.Test.YtifjccndenojlaaGreatWf24
set_option maxHeartbeats 16000000
set_option maxRecDepth 100000
set_option linter.unusedVariables false
set_option linter.unusedSimpArgs false
namespace Go.Proofs.YtifjccndenojlaaGreat
open Go.RowKit
open Go.Proofs.Tryz
variable{e:Ev}{hi lo:Int}{l:List Rc}{b bs r t:List UInt8}{j k m n:Nat}{F:Nat->List AV}{x:Rc}{s:Sq}
def E23(x:Int):Prop:=x=0\/x=2\/x=3
theorem zX(h:E23 s.2):E23 (iC bs lo hi s).2.2:=by
 unfold iC;split
 ·exact h
 ·split
  ·exact .inr (.inl rfl)
  ·split
   ·exact .inl rfl
   ·exact .inr (.inr rfl)
theorem LW(h:E23 s.2):E23 (jy bs lo hi s).2.2:=by
 unfold jy;split
 ·exact h
 ·split
  ·have h:gB ((bs.drop s.1).take 10) 0 0=cO (bs.drop s.1):=rfl;have:=KT ((bs.drop s.1).take 10) 0 0;rw[h]at this;exact this
  ·split
   ·exact .inl rfl
   ·exact .inr (.inr rfl)
theorem P9{sz:Int}{may:ByteArray->Int}(h:E23 s.2):E23 (jl bs sz may s).2.2:=by
 unfold jl;split
 ·exact h
 ·split
  ·exact .inr (.inl rfl)
  ·dsimp only;split
   ·exact .inl rfl
   ·exact .inr (.inr rfl)
theorem acC{r:Int}(h:E23 s.2):E23 (OU bs r j s).2.2:=by
 unfold OU;split
 ·exact h
 ·exact LW h
theorem Qa{bs:List UInt8}{r:Int}{s:Sq}(h:E23 s.2):∀j,E23 (Ky bs r s j).2.2
 |0=>h
 |j+1=>acC (Qa h j)
theorem YX(bs:List UInt8):E23 (nM bs (0,0)).2.2:=by
 have h6:E23 (jl bs (iC bs 1 8 (jy bs 1 16777216 (Kz bs (iC bs 0 4 (iC bs 1 5 (0,0)).2).1 (jy bs 1 1048576 (iC bs 0 4 (iC bs 1 5 (0,0)).2).2).2).2).2).1 keyE (iC bs 1 8 (jy bs 1 16777216 (Kz bs (iC bs 0 4 (iC bs 1 5 (0,0)).2).1 (jy bs 1 1048576 (iC bs 0 4 (iC bs 1 5 (0,0)).2).2).2).2).2).2).2.2:=
  P9 (zX (LW (Qa (LW (zX (zX (.inl rfl)))) 5)))
 unfold nM;dsimp only;split
 ·exact P9 (zX (zX h6))
 ·exact h6
theorem xU(bs:List UInt8):(∃e m,oZ bs=(e,m,0)/\eH e=0/\m<=bs.length/\bs.take m=fC e/\m=(fC e).length)\/oZ bs=(SY,0,2)\/oZ bs=(SY,0,3):=by
 obtain⟨⟨e,m,x⟩,hf⟩:∃p,nM bs (0,0)=p:=⟨_,rfl⟩;have he:=YX bs;rw[hf]at he;unfold oZ;rw[hf];rcases he with h|h|h<;>dsimp only at h<;>subst h
 ·obtain⟨h1,h2,h3⟩:=afj bs hf;refine .inl ⟨e,m,s_,h1,h2,h3, ?_⟩;rw[<-h3,aou];omega
 ·exact .inr (.inl s_)
 ·exact .inr (.inr s_)
theorem acD(e:Ev)(h:eH e=0)(rest:List UInt8):oZ (fC e++rest)=(e,(fC e).length,0):=by
 unfold oZ;rw[abL e h rest];simp
theorem Ch.wS{n:Nat}{sc:Bool}{F:Nat->List AV}{l:List UInt8}{xs ys:List AV}(h:bG F l)(hn:n=l.length)(k:Ch xs ys):Ch (.sl 1 n sc F::xs) (.sl 1 l.length sc (aO l)::ys):=
 .of (λ X u hu=>aY.wS (sc:=sc) h hn X u hu) k
theorem take_any(l:List UInt8){x:Int}(ht:oZ l=(e,m,x))(hF:bG F l)(hn:n=l.length)(hl:l.length<=1000000000):
  aH prog 205 [.sl 1 n true F] (.bI [e.av,.v (.int .i64 (m:Int)),.v (.int .i64 x)]) []:=by
 have h:=acB l hl;rw[ht]at h;exact h.args (Ch.wS hF hn .nil)
def mD(b:List UInt8):Option (Nat×Nat):=if(cO b).2.2=0/\(cO b).1<=1048576 then some ((cO b).1,(cO b).2.1)else none
theorem sG(l:List UInt8)(h:mD l=some (m,k))(hF:bG F l)(hn:n=l.length):aH prog 177 [.sl 1 n true F] (.bI [.v (.int .i64 (m:Int)),.v (.int .i64 (k:Int)),.v (.bool true)]) []:=by
 obtain⟨⟨a,c,e⟩,hv⟩:∃p,cO l=p:=⟨_,rfl⟩;have hs:=iZ l hF hn;unfold mD at h;rw[hv]at hs h;dsimp only at hs h;split at h
 ·rename_i h0;obtain⟨h0,h1⟩:=h0;simp only[aoJ,apW]at h;obtain⟨rfl,rfl⟩:=h;subst h0;refine K1.E 0x800fd func177 ?_;repeat' ((conv=>whnf);first|refine K1.u ?_|refine K1.P1 hs ?_|refine aU.fF ?_|fail)
  conv=>whnf
  exact bn.mk (au)
 ·cases h
theorem sH(l:List UInt8)(h:mD l=none)(hF:bG F l)(hn:n=l.length):aH prog 177 [.sl 1 n true F] (.bI [.v (.int .i64 0),.v (.int .i64 0),.v (.bool false)]) []:=by
 obtain⟨⟨a,c,e⟩,hv⟩:∃p,cO l=p:=⟨_,rfl⟩;have hs:=iZ l hF hn;unfold mD at h;rw[hv]at hs h;dsimp only at hs h;split at h
 ·cases h
 ·rename_i h0;refine K1.E 0x800fd func177 ?_;repeat' ((conv=>whnf);first|refine K1.u ?_|refine K1.P1 hs ?_|refine aU.fF ?_|refine K1.y (λ _=>?_) (λ _=>?_)|fail)
  all_goals(conv=>whnf)
  all_goals first
   |exact bn.mk (au)
   |fail
def jm(b:List UInt8):Nat->Option (List Ev×List UInt8)
 |0=>some ([],b)
 |j+1=>match jm b j with
  |none=>none
  |some (l,r)=>if(oZ r).2.2=0 then some (l++[(oZ r).1],r.drop (oZ r).2.1)else none
def NW:List UInt8->Option (List Ev)
 |[]=>none
 |c::r=>(jm r c.toNat).map (·.1)
theorem qm{b:List UInt8}:∀{j:Nat}{l:List Ev}{r:List UInt8},jm b j=some (l,r)->l.length=j/\r.length<=b.length
 |0,l,r,h=>by
  simp only[jm,aoJ,apW]at h;obtain⟨rfl,rfl⟩:=h;exact⟨rfl,aoH _⟩
 |j+1,l,r,h=>by
  unfold jm at h;cases h0:jm b j with
  |none=>rw[h0]at h;cases h
  |some p=>
   obtain⟨l0,r0⟩:=p;rw[h0]at h;dsimp only at h;have ih:=qm h0;split at h
   ·simp only[aoJ,apW]at h;obtain⟨rfl,rfl⟩:=h;refine⟨by simp[ih.1], ?_⟩;rw[aoK];omega
   ·cases h
theorem tJ{l:List Ev}(h:jm b j=some (l,r))(ht:oZ r=(e,m,0)):jm b (j+1)=some (l++[e],r.drop m):=by
 unfold jm;rw[h];dsimp only;rw[ht];rfl
theorem xW{l:List Ev}(h:jm b j=some (l,r))(ht:(oZ r).2.2≠0):jm b (j+1)=none:=by
 unfold jm;rw[h];dsimp only;rw[if_neg ht]
theorem xX(h:jm b j=none):∀n,j<=n->jm b n=none:=by
 intro n hn;obtain⟨d,rfl⟩:=Nat.le.dest hn;clear hn;induction d with
 |zero=>exact h
 |succ d ih=>
  show jm b (j+d+1)=none;unfold jm;rw[ih]
theorem C1.amJ{X:CX}{f:Nat->List AV}{u:Value}(h:C1 X (.v (.slice none 0 0)) u):C1 X (.sl 12 0 true f) u:=by
 have h:u= .slice none 0 0:=h;subst h;exact(show C0 X (.sl 12 0 true f) (.slice none 0 0)from .sl 12 0 true f none 0 [] o_ (aoH _) (by simp[maxLen]) s_ (λ i hi=>absurd hi (aoM i)) (λ _ x hx=>by simp[flat]at hx) (λ i x u hx=>by simp[flat]at hx) (.inl rfl))
theorem aG.hd{R:AV->Value->Prop}{x y:AV}{xs:List AV}{us:List Value}(h:aG R (x::xs) us)(hi:∀u,R x u->R y u):aG R (y::xs) us:=by
 rcases us with _|⟨u,us⟩
 ·have:=h.1;simp at this
 ·exact aG.cons (hi u (h.2 0 _ _ rfl rfl)) ⟨by have:=h.1;simpa using this,λ i a b ha hb=>h.2 (i+1) a b (by simpa using ha) (by simpa using hb)⟩
theorem aY.ai5{b:AV}(f:Nat->List AV):aY (.bI [.v (.slice none 0 0),b]) (.bI [.sl 12 0 true f,b]):=by
 rintro X u ⟨us,e,ha⟩;exact⟨us,e,ha.hd λ u hu=>C1.amJ hu⟩
def NY:Option (List Ev)->AV
 |none=> .bI [.v (.slice none 0 0),.v (.bool false)]
 |some l=> .bI [.sl 12 l.length true (dI l),.v (.bool true)]
theorem LX{G:Nat->List AV}(a b:List UInt8)(hF:bG F a)(hn:n=a.length)(hG:bG G b)(hm:m=b.length):aH prog 145 [.sl 1 n true F,.sl 1 m true G] (.v (.bool (decide (a=b)))) []:=by
 refine K1.E 0x13 func145 ?_;repeat' ((conv=>whnf);first|refine Bs.of a hF hn ?_|refine Bs.of b hG hm ?_|refine aU.fF ?_|refine K1.y (λ _=>?_) (λ _=>?_)|fail)
 all_goals(conv=>whnf)
 all_goals(refine bn.mk (aY.of ?_))
 ·have h:(⟨a.toArray⟩:ByteArray)=⟨b.toArray⟩:=a_
  have:a=b:=by simpa using h
  simp[this]
 ·have h:¬ (⟨a.toArray⟩:ByteArray)=⟨b.toArray⟩:=a_
  have:¬a=b:=by simpa using h
  simp[this]
theorem agr(b:List UInt8)(hl:b.length<=1000000000):aH prog 176 [.sl 1 b.length true (aO b)] (NY (NW b)) []:=by
 rcases b with _|⟨c,t⟩
 ·show aH prog 176 [.sl 1 0 true (aO [])] _ [];refine K1.E 0x101c09fd func176 ?_;repeat' ((conv=>whnf);first|refine K1.u ?_|refine aU.fF ?_|fail)
  all_goals(conv=>whnf)
  all_goals exact bn.mk (au)
 ·have hc:=apv c;rw[aoE]at hl⊢;refine K1.E 0x101c09fd func176 ?_;repeat' ((conv=>whnf);first|refine K1.u ?_|fail)
  conv=>whnf
  refine aI.mk {p:Nat×List Ev×List UInt8//jm t p.1=some p.2/\p.1<=c.toNat} (λ p=>match p with
   |⟨(0,_,r),_⟩=>⟨[(0,.sl 1 r.length true (aO r)),(4,.v (.slice none 0 0)),(18,.v (.int .i64 (c.toNat:Int))),(19,.v (.int .i64 0))],[],[],0⟩
   |⟨(i+1,l,r),_⟩=>⟨[(0,.sl 1 r.length true (aO r)),(4,.own 90),(18,.v (.int .i64 (c.toNat:Int))),(19,.v (.int .i64 ((i:Int)+1)))],[(90,.row 83 12 l.length true (dI l))],[],91⟩)
   (λ p=>c.toNat-p.1.1) ⟨(0,[],t),rfl,aoB _⟩ _
   (dO.mk' [] _ _ _ rfl ⟨aY.wS (bG.drop (bG.bytes (c::t)) 1) s_,au,au,aY.int rfl,trivial⟩ trivial rfl) ?_
  rintro⟨⟨_|i,l,r⟩,hp,hj⟩
  ·dsimp only at hp hj;obtain⟨hl0,hr0⟩:=qm hp;obtain rfl:l=[]:=aoz hl0;have hz:c.toNat=0->NW (c::t)=some []:=λ h=>by show(jm t c.toNat).map (·.1)=_;rw[h,hp];rfl
   rcases xU r with⟨e,m,ht,-,hm,-⟩|ht|ht
   ·dsimp only;repeat' ((conv=>whnf);first|refine K1.u ?_|refine K1.P1 (take_any r ht (bG.bytes r) rfl o_) ?_ rfl rfl|refine aU.fF ?_|refine K1.y (λ _=>?_) (λ _=>?_)|fail)
    all_goals(conv=>whnf)
    ·refine⟨⟨(0+1,[]++[e],r.drop m),tJ hp ht,o_⟩,_,dO.mk' [(2,90)] _ _ _ rfl ⟨aY.wS (bG.drop (bG.bytes r) m) s_,au,au,aY.int rfl,trivial⟩ ⟨⟨_,rfl,dK.row rfl (λ i hi=>?_)⟩,trivial⟩ rfl,by show c.toNat-(0+1)<c.toNat-0;omega⟩;have hi:i<1:=hi;obtain rfl:i=0:=o_
     rfl
    ·rw[hz o_];exact bn.mk (aY.ai5 _)
   all_goals
    have hno:0<c.toNat->NW (c::t)=none:=λ h=>by show(jm t c.toNat).map (·.1)=_;rw[xX (xW hp (by rw[ht];decide)) c.toNat o_];rfl
    dsimp only;repeat' ((conv=>whnf);first|refine K1.u ?_|refine K1.P1 (take_any r ht (bG.bytes r) rfl o_) ?_ rfl rfl|refine aU.fF ?_|refine K1.y (λ _=>?_) (λ _=>?_)|fail)
    all_goals(conv=>whnf)
    ·rw[hno o_];exact bn.mk (au)
    ·rw[hz o_];exact bn.mk (aY.ai5 _)
  ·dsimp only at hp hj;obtain⟨hl0,hr0⟩:=qm hp;have hz:c.toNat=i+1->NW (c::t)=some l:=λ h=>by show(jm t c.toNat).map (·.1)=_;rw[h,hp];rfl
   rcases xU r with⟨e,m,ht,-,hm,-⟩|ht|ht
   ·dsimp only;repeat' ((conv=>whnf);first|refine K1.u ?_|refine K1.P1 (take_any r ht (bG.bytes r) rfl o_) ?_ rfl rfl|refine aU.fF ?_|refine K1.y (λ _=>?_) (λ _=>?_)|fail)
    all_goals(conv=>whnf)
    ·refine⟨⟨(i+1+1,l++[e],r.drop m),tJ hp ht,o_⟩,_,dO.mk' [(93,90)] _ _ _ rfl ⟨aY.wS (bG.drop (bG.bytes r) m) s_,au,au,aY.int rfl,trivial⟩ ⟨⟨_,rfl,dK.row s_ (λ m hm=>dP (c:=Ev.cs) rfl rfl m hm)⟩,trivial⟩ rfl,by show c.toNat-(i+1+1)<c.toNat-(i+1);omega⟩
    ·rw[hz o_];exact bn.mk (au)
   all_goals
    have hno:i+1<c.toNat->NW (c::t)=none:=λ h=>by show(jm t c.toNat).map (·.1)=_;rw[xX (xW hp (by rw[ht];decide)) c.toNat o_];rfl
    dsimp only;repeat' ((conv=>whnf);first|refine K1.u ?_|refine K1.P1 (take_any r ht (bG.bytes r) rfl o_) ?_ rfl rfl|refine aU.fF ?_|refine K1.y (λ _=>?_) (λ _=>?_)|fail)
    all_goals(conv=>whnf)
    ·rw[hno o_];exact bn.mk (au)
    ·rw[hz o_];exact bn.mk (au)
theorem WA(b:List UInt8)(hF:bG F b)(hn:n=b.length)(hl:b.length<=1000000000):aH prog 176 [.sl 1 n true F] (NY (NW b)) []:=
 (agr b hl).args (Ch.wS hF hn .nil)
def DF(b:List UInt8):aV×Bool:=
 match mD b with
 |none=>(⟨0,0,0,0,0⟩,false)
 |some (n0,k0)=>match mD (b.drop k0)with
  |none=>(⟨n0,0,0,0,0⟩,false)
  |some (n1,k1)=>match mD ((b.drop k0).drop k1)with
   |none=>(⟨n0,n1,0,0,0⟩,false)
   |some (n2,k2)=>match mD (((b.drop k0).drop k1).drop k2)with
    |none=>(⟨n0,n1,n2,0,0⟩,false)
    |some (n3,k3)=>match mD ((((b.drop k0).drop k1).drop k2).drop k3)with
     |none=>(⟨n0,n1,n2,n3,0⟩,false)
     |some (n4,_)=>(⟨n0,n1,n2,n3,n4⟩,true)
def rc0:Rc:=⟨0,0,0,aW,[]⟩
def rdB(k r:Int)(t:List UInt8):Rc×Bool:=
 if k=1\/k=4 then(match NW t with|none=>(⟨k,r,0,aW,[]⟩,false)|some l=>(⟨k,r,0,aW,l⟩,true))
 else if k=2 then(match mD t with|none=>(⟨k,r,0,aW,[]⟩,false)|some (n,_)=>(⟨k,r,n,aW,[]⟩,true))
 else if k=3\/k=5 then(⟨k,r,0,(DF t).1,[]⟩,(DF t).2)
 else(⟨k,r,0,aW,[]⟩,false)
def jD(b:List UInt8):Rc×Bool:=
 if(cO b).2.2≠0\/b.length<(cO b).2.1+2 then(rc0,false)
 else rdB ((b.getD (cO b).2.1 default).toNat:Int) ((b.getD ((cO b).2.1+1) default).toNat:Int) (b.drop ((cO b).2.1+2))
theorem o7(h:n<=1048576)(t:List UInt8):mD (aN n++t)=some (n,(aN n).length):=by
 unfold mD;rw[wz n t o_,if_pos ⟨rfl,h⟩]
theorem Gz(l:List Ev)(h:∀e∈l,eH e=0)(t:List UInt8):∀j,j<=l.length->jm (gZ l++t) j=some (l.take j,gZ (l.drop j)++t)
 |0,_=>by simp[jm]
 |j+1,hj=>by
  have ih:=Gz l h t j o_;have e0:l.drop j=l[j]::l.drop (j+1):=apJ o_;have e1:gZ (l.drop j)++t=fC l[j]++(gZ (l.drop (j+1))++t):=by
   rw[e0];show fC l[j]++gZ (l.drop (j+1))++t=_;rw[aoL]
  have ht:=acD l[j] (h _ (ao1 _)) (gZ (l.drop (j+1))++t);rw[<-e1]at ht;rw[tJ ih ht,e1,apE];congr 2;exact List.take_append_getElem o_
theorem ags(l:List Ev)(h:∀e∈l,eH e=0)(hl:l.length<=255)(t:List UInt8):NW (UInt8.ofNat l.length::(gZ l++t))=some l:=by
 show(jm (gZ l++t) (UInt8.ofNat l.length).toNat).map (·.1)=_;rw[Vx o_,Gz l h t _ (aoH _),apH];rfl
theorem aaK{c0 c1 c2 c3 c4:Nat}(h0:c0<=1048576)(h1:c1<=1048576)(h2:c2<=1048576)(h3:c3<=1048576)(h4:c4<=1048576)(t:List UInt8):
  DF (aN c0++(aN c1++(aN c2++(aN c3++(aN c4++t)))))=(⟨c0,c1,c2,c3,c4⟩,true):=by
 unfold DF;rw[o7 h0];dsimp only;rw[apE,o7 h1];dsimp only;rw[apE,o7 h2];dsimp only;rw[apE,o7 h3];dsimp only;rw[apE,o7 h4]
theorem acE(x:Rc)(h:ku x=true)(n:Nat)(hn:n<=4294967296)(t:List UInt8):jD (aN n++(lH x++t))=(x,true):=by
 have m:=qC h;obtain⟨k,r,u,⟨c0,c1,c2,c3,c4⟩,ev⟩:=x;obtain⟨mk,mr,mu,E5,BO,me0,⟨m0,m1,m2,m3,m4⟩,ml,YV,SX⟩:=m;dsimp only at mk mr mu ml m0 m1 m2 m3 m4 E5 BO me0 SX YV;have P6:=LV SX;obtain⟨rest,hrest⟩:∃rest,rest=(if Hw k then UInt8.ofNat ev.length::gZ ev else [])++(if Hy k then ig u else [])++(if Hz k then ER ⟨c0,c1,c2,c3,c4⟩else [])++t:=⟨_,rfl⟩;have hb:aN n++(lH ⟨k,r,u,⟨c0,c1,c2,c3,c4⟩,ev⟩++t)=aN n++([byteOf k,byteOf r]++rest):=by
  rw[hrest];simp[lH]
 have g0:((aN n++([byteOf k,byteOf r]++rest)).getD (aN n).length default)=byteOf k:=by
  rw[List.getD,ao2 (aoH _),Nat.sub_self];rfl
 have g1:((aN n++([byteOf k,byteOf r]++rest)).getD ((aN n).length+1) default)=byteOf r:=by
  rw[List.getD,ao2 o_,Nat.add_sub_cancel_left];rfl
 have g2:(aN n++([byteOf k,byteOf r]++rest)).drop ((aN n).length+2)=rest:=by
  rw[<-aqg,apE];rfl
 rw[hb];unfold jD;rw[wz n _ hn];rw[if_neg s_];dsimp only;rw[g0,g1,g2,lY o_ o_,lY o_ o_];clear g0 g1 g2 hb;unfold rdB;rcases(show(k=1\/k=4)\/k=2\/(k=3\/k=5) by omega)with hk|hk|hk
 ·have hU:Hy k=false:=by simp[Hy];omega
  have hC:Hz k=false:=by simp[Hz];omega
  have hE:Hw k=true:=by simp[Hw];omega
  rw[hU]at E5 hrest;rw[hC]at BO hrest;rw[hE]at hrest;simp only[aph,false_or]at E5 BO;rw[if_pos hk,hrest];simp only[if_true,aph,if_false,aor,ao6];rw[ags ev (uH P6) o_];rw[E5,BO]
 ·have hU:Hy k=true:=by simp[Hy];omega
  have hC:Hz k=false:=by simp[Hz];omega
  have hE:Hw k=false:=by simp[Hw];omega
  rw[hU]at hrest;rw[hC]at BO hrest;rw[hE]at me0 hrest;simp only[aph,false_or]at me0 BO;obtain⟨un,rfl,hun⟩:=iw mu;rw[if_neg o_,if_pos hk,hrest];simp only[if_true,aph,if_false,aor,aoN];rw[mO,o7 hun];dsimp only;rw[aoz me0,BO]
 ·have hU:Hy k=false:=by simp[Hy];omega
  have hC:Hz k=true:=by simp[Hz];omega
  have hE:Hw k=false:=by simp[Hw];omega
  rw[hU]at E5 hrest;rw[hC]at hrest;rw[hE]at me0 hrest;simp only[aph,false_or]at E5 me0;obtain⟨c0,rfl,hc0⟩:=iw m0;obtain⟨c1,rfl,hc1⟩:=iw m1;obtain⟨c2,rfl,hc2⟩:=iw m2;obtain⟨c3,rfl,hc3⟩:=iw m3;obtain⟨c4,rfl,hc4⟩:=iw m4;rw[if_neg o_,if_neg o_,if_pos hk,hrest];simp only[if_true,aph,if_false,aor,aoN,ER,mO,aoL];rw[aaK hc0 hc1 hc2 hc3 hc4];dsimp only;rw[aoz me0,E5]
instance(l:List UInt8):Decidable (mY l):=inferInstanceAs (Decidable (_/\_))
def inner(l:List UInt8):List UInt8:=l.take (l.length-4)
theorem Dl(m:List UInt8):inner (dZ m)=m:=by
 unfold inner;rw[eU,aqi];simp[dZ]
theorem S9(m:List UInt8):mY (dZ m):=by
 refine⟨by rw[eU];omega, ?_⟩;have:=Dl m;unfold inner at this;rw[this]
theorem Fa{l:List UInt8}(h:mY l):l=dZ (inner l):=h.2
def dS(l:List UInt8):Rc×Int:=
 if 2048<l.length then(rc0,5)else if mY l then
  if(jD (inner l)).2=true/\ku (jD (inner l)).1=true/\bF (jD (inner l)).1=l then((jD (inner l)).1,0)else(rc0,3)
 else(rc0,4)
theorem LY(x:Rc)(h:ku x=true):2<=(lH x).length/\(lH x).length<=1000:=by
 have m:=qC h;have hv (n:Nat):(aN n).length<=10:=dF 9 _;have hvi (n:Int):(ig n).length<=10:=hv _;have he:=zW (uH (LV m.ev));have hl:=m.l;have e1:(lH x).length=2+(if Hw x.k then 1+(gZ x.ev).length else 0)+(if Hy x.k then(ig x.u).length else 0)+(if Hz x.k then(ER x.c).length else 0):=by
  unfold lH;simp only[aop];congr 1
  ·congr 1
   ·congr 1
    split<;>simp;omega
   ·split<;>rfl
  ·split<;>rfl
 have hc:(ER x.c).length<=50:=by
  have:=hvi x.c.c0;have:=hvi x.c.c1;have:=hvi x.c.c2;have:=hvi x.c.c3;have:=hvi x.c.c4;unfold ER;simp only[aop];omega
 have:=hvi x.u;rw[e1];refine⟨o_, ?_⟩;split<;>split<;>split<;>omega
theorem zY(x:Rc)(h:ku x=true):(bF x).length<=2048:=by
 have:=LY x h;have hv:(aN (lH x).length).length<=10:=dF 9 _;unfold bF;rw[eU,aop];omega
theorem acF(x:Rc)(h:ku x=true):dS (bF x)=(x,0):=by
 have hb:=LY x h;have hr:=acE x h (lH x).length o_ [];rw[aor]at hr;have hi:inner (bF x)=aN (lH x).length++lH x:=Dl _;have ho:mY (bF x):=S9 _;unfold dS;rw[if_neg (by have:=zY x h;omega),if_pos ho,hi,hr,if_pos ⟨rfl,h,rfl⟩]
theorem Dn(l:List UInt8)(h:l.length<=2048):(∃z,dS l=(z,0)/\ku z=true/\bF z=l)\/dS l=(rc0,3)\/dS l=(rc0,4):=by
 unfold dS;rw[if_neg o_];split
 ·split
  ·rename_i h1;exact .inl ⟨_,rfl,h1.2.1,h1.2.2⟩
  ·exact .inr (.inl rfl)
 ·exact .inr (.inr rfl)
theorem aY.gG{a1 a2 a3 a4 a5 a6 a7 a8 b:AV}(f:Nat->List AV):aY (.bI [.agg [a1,a2,a3,a4,a5,a6,a7,a8,.v (.slice none 0 0)],b]) (.bI [.agg [a1,a2,a3,a4,a5,a6,a7,a8,.sl 12 0 true f],b]):=by
 rintro X u ⟨us,e,ha⟩;exact⟨us,e,ha.hd λ u hu=>C1.P7 hu⟩
theorem xY(h:mD b=some (m,k)):k<=b.length/\m<=1048576:=by
 have hle:=zI b;unfold mD at h;split at h
 ·rename_i h0;simp only[aoJ,apW]at h;omega
 ·cases h
theorem aH.res{P:Program}{f:FuncId}{aZ:List AV}{r r':AV}{h:List (Nat×AO)}(hs:aH P f aZ r h)(hr:aY r r'):aH P f aZ r' h:=
 ⟨hs.1,λ w keep args hk ha=>(hs.2 w keep args hk ha).mono λ _ _ ⟨u,ρ,h1,h2,h3,h4⟩=>⟨u,ρ,h1,h2,hr _ _ h3,h4⟩⟩
instance:Inhabited Rc:=⟨rc0⟩
def o8(b:List UInt8):Option (List Ev):=match mD b with
 |none=>none
 |some (m,k)=>if 4096<m then none else(jm (b.drop k) m).map (·.1)
def ai6(k r:Int)(t:List UInt8):Rc×Bool:=match mD t with
 |none=>(⟨k,r,0,aW,[]⟩,false)
 |some (n,_)=>(⟨k,r,n,aW,[]⟩,true)
def WB(k r u:Int)(t:List UInt8):Rc×Bool:=match o8 t with
 |none=>(⟨k,r,u,aW,[]⟩,false)
 |some l=>(⟨k,r,u,aW,l⟩,true)
def rdR(k r:Int)(t:List UInt8):Rc×Bool:=
 if k=1\/k=2\/k=5 then WB k r 0 t
 else if k=3 then ai6 k r t
 else if k=4 then(match mD t with|none=>(⟨k,r,0,aW,[]⟩,false)|some (n,j)=>WB k r n (t.drop j))
 else if k=6 then(⟨k,r,0,(DF t).1,[]⟩,(DF t).2)
 else(⟨k,r,0,aW,[]⟩,false)
def jV(b:List UInt8):Rc×Bool:=
 if b.length<2 then(rc0,false)else rdR ((b.getD 0 default).toNat:Int) ((b.getD 1 default).toNat:Int) (b.drop 2)
theorem Qb(l:List Ev)(h:∀e∈l,eH e=0)(hl:l.length<=4096)(t:List UInt8):o8 (aN l.length++(gZ l++t))=some l:=by
 unfold o8;rw[o7 o_];dsimp only;rw[if_neg o_,apE,Gz l h t _ (aoH _),apH];rfl
theorem acG(x:Rc)(h:iH x=true)(t:List UInt8):jV (fE x++t)=(x,true):=by
 have m:=xQ h;obtain⟨k,r,u,⟨c0,c1,c2,c3,c4⟩,ev⟩:=x;obtain⟨mk,mr,mu,ml,⟨m0,m1,m2,m3,m4⟩,E5,BO,me0,P6,YV⟩:=m;dsimp only at mk mr mu ml m0 m1 m2 m3 m4 E5 BO me0 P6 YV;obtain⟨rest,hrest⟩:∃rest,rest=(if FD k then ig u else [])++(if FI k then ER ⟨c0,c1,c2,c3,c4⟩else [])++(if FH k then aN ev.length++gZ ev else [])++t:=⟨_,rfl⟩;have hb:fE ⟨k,r,u,⟨c0,c1,c2,c3,c4⟩,ev⟩++t=byteOf k::byteOf r::rest:=by
  rw[hrest];simp[fE]
 rw[hb];unfold jV;rw[if_neg s_];rw[show(byteOf k::byteOf r::rest).getD 0 default=byteOf k from rfl,show(byteOf k::byteOf r::rest).getD 1 default=byteOf r from rfl,show(byteOf k::byteOf r::rest).drop 2=rest from rfl,lY o_ o_,lY o_ o_];clear hb;unfold rdR;rcases(show(k=1\/k=2\/k=5)\/k=3\/k=4\/k=6 by omega)with hk|hk|hk|hk
 ·have hU:FD k=false:=by simp[FD];omega
  have hC:FI k=false:=by simp[FI];omega
  have hE:FH k=true:=by simp[FH];omega
  rw[hU]at E5 hrest;rw[hC]at BO hrest;rw[hE]at hrest;simp only[aph,false_or]at E5 BO;rw[if_pos hk,hrest];simp only[if_true,aph,if_false,aoN,aoL];unfold WB;rw[Qb ev (uH P6) ml t];dsimp only;rw[E5,BO]
 ·have hU:FD k=true:=by simp[FD];omega
  have hC:FI k=false:=by simp[FI];omega
  have hE:FH k=false:=by simp[FH];omega
  rw[hU]at hrest;rw[hC]at BO hrest;rw[hE]at me0 hrest;simp only[aph,false_or]at me0 BO;obtain⟨un,rfl,hun⟩:=iw mu;rw[if_neg o_,if_pos hk,hrest];simp only[if_true,aph,if_false,aor];unfold ai6;rw[mO,o7 hun];dsimp only;rw[aoz me0,BO]
 ·have hU:FD k=true:=by simp[FD];omega
  have hC:FI k=false:=by simp[FI];omega
  have hE:FH k=true:=by simp[FH];omega
  rw[hU]at hrest;rw[hC]at BO hrest;rw[hE]at hrest;simp only[aph,false_or]at BO;obtain⟨un,rfl,hun⟩:=iw mu;rw[if_neg o_,if_neg o_,if_pos hk,hrest];simp only[if_true,aph,if_false,aor,aoL];rw[mO,o7 hun];dsimp only;rw[apE];unfold WB;rw[Qb ev (uH P6) ml t];dsimp only;rw[BO]
 ·have hU:FD k=false:=by simp[FD];omega
  have hC:FI k=true:=by simp[FI];omega
  have hE:FH k=false:=by simp[FH];omega
  rw[hU]at E5 hrest;rw[hC]at hrest;rw[hE]at me0 hrest;simp only[aph,false_or]at E5 me0;obtain⟨c0,rfl,hc0⟩:=iw m0;obtain⟨c1,rfl,hc1⟩:=iw m1;obtain⟨c2,rfl,hc2⟩:=iw m2;obtain⟨c3,rfl,hc3⟩:=iw m3;obtain⟨c4,rfl,hc4⟩:=iw m4;rw[if_neg o_,if_neg o_,if_neg o_,if_pos hk,hrest];simp only[if_true,aph,if_false,aoN,ER,mO,aoL];rw[aaK hc0 hc1 hc2 hc3 hc4];dsimp only;rw[aoz me0,E5]
def qo(b:List UInt8):Option (Rc×Nat):=
 if(cO b).2.2≠0\/b.length-(cO b).2.1<(cO b).1 then none
 else if mY ((b.drop (cO b).2.1).take (cO b).1)then
  if(jV (inner ((b.drop (cO b).2.1).take (cO b).1))).2=true/\iH (jV (inner ((b.drop (cO b).2.1).take (cO b).1))).1=true/\aB (jV (inner ((b.drop (cO b).2.1).take (cO b).1))).1=b.take ((cO b).2.1+(cO b).1)
  then some ((jV (inner ((b.drop (cO b).2.1).take (cO b).1))).1,(cO b).2.1+(cO b).1)else none
 else none
theorem Dp(x:Rc)(h:iH x=true):2<=(fE x).length/\(fE x).length<=200000:=by
 have m:=xQ h;have hv (n:Nat):(aN n).length<=10:=dF 9 _;have hvi (n:Int):(ig n).length<=10:=hv _;have he:=zW (uH m.ev);have hl:=m.l;have e1:(fE x).length=2+(if FD x.k then(ig x.u).length else 0)+(if FI x.k then(ER x.c).length else 0)+(if FH x.k then(aN x.ev.length).length+(gZ x.ev).length else 0):=by
  unfold fE;simp only[aop];congr 1
  ·congr 1
   ·congr 1
    split<;>rfl
   ·split<;>rfl
  ·split
   ·rw[aop]
   ·rfl
 have hc:(ER x.c).length<=50:=by
  have:=hvi x.c.c0;have:=hvi x.c.c1;have:=hvi x.c.c2;have:=hvi x.c.c3;have:=hvi x.c.c4;unfold ER;simp only[aop];omega
 have:=hvi x.u;have:=hv x.ev.length;rw[e1];refine⟨o_, ?_⟩;split<;>split<;>split<;>omega
theorem iP(x:Rc)(h:iH x=true):(aB x).length<=200100:=by
 have:=Dp x h;have hv:(aN (dZ (fE x)).length).length<=10:=dF 9 _;unfold aB;rw[aop,eU];rw[eU]at hv;omega
theorem YZ(x:Rc)(h:iH x=true)(t:List UInt8):qo (aB x++t)=some (x,(aB x).length):=by
 have hb:=Dp x h;have hs:=eU (fE x);have hr:=acG x h [];rw[aor]at hr;have e:aB x++t=aN (dZ (fE x)).length++(dZ (fE x)++t):=by unfold aB;rw[aoL]
 have hv:=wz (dZ (fE x)).length (dZ (fE x)++t) o_;have hl:(aB x).length=(aN (dZ (fE x)).length).length+(dZ (fE x)).length:=by unfold aB;rw[aop]
 unfold qo;rw[e,hv,apE,aqJ,if_neg s_,if_pos (S9 _),Dl,hr,if_pos ⟨rfl,h,by rw[<-e,<-hl,aqJ]⟩,hl]
def jq(l:List Rc):List UInt8:=l.flatMap aB
structure xZ(b:List UInt8)(l:List Rc)(t:List UInt8):Prop where
 may:∀r∈l,iH r=true
 eq:b=jq l++t
 no:qo t=none
theorem Qc(l:List Rc)(x:Rc):jq (l++[x])=jq l++aB x:=by simp[jq]
theorem acH(h:xZ b l t)(j:Nat)(hj:j<l.length):qo (b.drop (jq (l.take j)).length)=some (l.getD j default,(aB (l.getD j default)).length):=by
 have e:l=l.take j++l.getD j default::l.drop (j+1):=by
  rw[List.getD,aom hj];simp
 have e2:b=jq (l.take j)++(aB (l.getD j default)++(jq (l.drop (j+1))++t)):=by
  rw[h.eq];conv=>lhs;rw[e]
  simp[jq]
 rw[e2,apE];refine YZ _ (h.may _ ?_) _;rw[List.getD,aom hj];exact ao1 hj
theorem agt(h:xZ b l t):qo (b.drop (jq l).length)=none:=by
 rw[h.eq,apE];exact h.no
theorem acI(hj:j<l.length):jq (l.take (j+1))=jq (l.take j)++aB (l.getD j default):=by
 have:l.take (j+1)=l.take j++[l.getD j default]:=by
  rw[List.getD,aom hj];simp
 rw[this,Qc]
theorem aY.bI{xs ys:List AV}(h:Ch xs ys):aY (.bI xs) (.bI ys):=λ _ _ ⟨us,e,ha⟩=>⟨us,e,h.all ha⟩
theorem uJ(l:List UInt8)(h:mD l=some (m,k))(hF:bG F l)(hn:n=l.length):aH prog 174 [.sl 1 n true F] (.bI [.v (.int .i64 (m:Int)),.sl 1 (l.drop k).length true (aO (l.drop k)),.v (.bool true)]) []:=by
 have hle:=xY h;obtain⟨⟨a,c,e⟩,hv⟩:∃p,cO l=p:=⟨_,rfl⟩;have hs:=iZ l hF hn;unfold mD at h;rw[hv]at hs h;dsimp only at hs h;split at h
 ·rename_i h0;obtain⟨h0,h1⟩:=h0;simp only[aoJ,apW]at h;obtain⟨rfl,rfl⟩:=h;subst h0;refine K1.E 0x800fd func174 ?_;repeat' ((conv=>whnf);first|refine K1.u ?_|refine K1.P1 hs ?_|refine aU.fF ?_|refine K1.o (id:=4) (nN [0,1,2,3,4,5,6,7] []) ?_|fail)
  conv=>whnf
  exact bn.mk (aY.bI (.same (.wS (bG.drop hF _) (by simp[hn]) (.same .nil))))
 ·cases h
theorem uK(l:List UInt8)(h:mD l=none)(hF:bG F l)(hn:n=l.length):aH prog 174 [.sl 1 n true F] (.bI [.v (.int .i64 0),.v (.slice none 0 0),.v (.bool false)]) []:=by
 obtain⟨⟨a,c,e⟩,hv⟩:∃p,cO l=p:=⟨_,rfl⟩;have hs:=iZ l hF hn;unfold mD at h;rw[hv]at hs h;dsimp only at hs h;split at h
 ·cases h
 ·rename_i h0;refine K1.E 0x800fd func174 ?_;repeat' ((conv=>whnf);first|refine K1.u ?_|refine K1.P1 hs ?_|refine aU.fF ?_|refine K1.y (λ _=>?_) (λ _=>?_)|fail)
  all_goals(conv=>whnf)
  all_goals first
   |exact bn.mk (au)
   |fail
theorem ai7(b:List UInt8)(hl:b.length<=1000000000):aH prog 175 [.sl 1 b.length true (aO b)] (NY (o8 b)) []:=by
 cases hN:mD b with
 |none=>
  have hnum:=uK b hN (bG.bytes b) rfl;rw[show o8 b=none by unfold o8;rw[hN]];refine K1.E 0x101e003fd func175 ?_;repeat' ((conv=>whnf);first|refine K1.P1 hnum ?_|refine aU.fF ?_|fail)
  all_goals(conv=>whnf)
  all_goals exact bn.mk (au)
 |some p=>
  obtain⟨c,k⟩:=p;have hnum:=uJ b hN (bG.bytes b) rfl;have hle:=xY hN;have hdl:(b.drop k).length<=b.length:=by rw[aoK];omega
  by_cases hc:4096<c
  ·rw[show o8 b=none by unfold o8;rw[hN];dsimp only;rw[if_pos hc]];refine K1.E 0x101e003fd func175 ?_;repeat' ((conv=>whnf);first|refine K1.u ?_|refine K1.P1 hnum ?_|refine aU.fF ?_|fail)
   all_goals(conv=>whnf)
   all_goals exact bn.mk (au)
  ·have hlf:o8 b=(jm (b.drop k) c).map (·.1):=by unfold o8;rw[hN];dsimp only;rw[if_neg hc]
   generalize b.drop k=t at hnum hdl hlf;refine K1.E 0x101e003fd func175 ?_;repeat' ((conv=>whnf);first|refine K1.u ?_|refine K1.P1 hnum ?_|fail)
   conv=>whnf
   refine aI.mk {p:Nat×List Ev×List UInt8//jm t p.1=some p.2/\p.1<=c} (λ p=>match p with
    |⟨(0,_,r),_⟩=>⟨[(0,.sl 1 r.length true (aO r)),(6,.v (.slice none 0 0)),(22,.v (.int .i64 (c:Int))),(23,.v (.int .i64 0))],[],[],0⟩
    |⟨(i+1,l,r),_⟩=>⟨[(0,.sl 1 r.length true (aO r)),(6,.own 90),(22,.v (.int .i64 (c:Int))),(23,.v (.int .i64 ((i:Int)+1)))],[(90,.row 83 12 l.length true (dI l))],[],91⟩)
    (λ p=>c-p.1.1) ⟨(0,[],t),rfl,aoB _⟩ _
    (dO.mk' [] _ _ _ rfl ⟨au,au,au,aY.int rfl,trivial⟩ trivial rfl) ?_
   rintro⟨⟨_|i,l,r⟩,hp,hj⟩
   ·dsimp only at hp hj;obtain⟨hl0,hr0⟩:=qm hp;obtain rfl:l=[]:=aoz hl0;have hz:c=0->o8 b=some []:=λ h=>by rw[hlf,h,hp];rfl
    rcases xU r with⟨e,m,ht,-,hm,-⟩|ht|ht
    ·dsimp only;repeat' ((conv=>whnf);first|refine K1.u ?_|refine K1.P1 (take_any r ht (bG.bytes r) rfl o_) ?_ rfl rfl|refine aU.fF ?_|refine K1.o (id:=10) (nN [0,1,4,5,6] ((2,some [1])::(3,some [1])::nN [7,8] [])) ?_|refine K1.y (λ _=>?_) (λ _=>?_)|fail)
     all_goals(conv=>whnf)
     ·refine⟨⟨(0+1,[]++[e],r.drop m),tJ hp ht,o_⟩,_,dO.mk' [(2,90)] _ _ _ rfl ⟨aY.wS (bG.drop (bG.bytes r) m) s_,au,au,aY.int rfl,trivial⟩ ⟨⟨_,rfl,dK.row rfl (λ i hi=>?_)⟩,trivial⟩ rfl,by show c-(0+1)<c-0;omega⟩;have hi:i<1:=hi;obtain rfl:i=0:=o_
      rfl
     ·rw[hz o_];exact bn.mk (aY.ai5 _)
    all_goals
     have hno:0<c->o8 b=none:=λ h=>by rw[hlf,xX (xW hp (by rw[ht];decide)) c o_];rfl
     dsimp only;repeat' ((conv=>whnf);first|refine K1.u ?_|refine K1.P1 (take_any r ht (bG.bytes r) rfl o_) ?_ rfl rfl|refine aU.fF ?_|refine K1.y (λ _=>?_) (λ _=>?_)|fail)
     all_goals(conv=>whnf)
     ·rw[hno o_];exact bn.mk (au)
     ·rw[hz o_];exact bn.mk (aY.ai5 _)
   ·dsimp only at hp hj;obtain⟨hl0,hr0⟩:=qm hp;have hz:c=i+1->o8 b=some l:=λ h=>by rw[hlf,h,hp];rfl
    rcases xU r with⟨e,m,ht,-,hm,-⟩|ht|ht
    ·dsimp only;repeat' ((conv=>whnf);first|refine K1.u ?_|refine K1.P1 (take_any r ht (bG.bytes r) rfl o_) ?_ rfl rfl|refine aU.fF ?_|refine K1.o (id:=10) (nN [0,1,4,5,6] ((2,some [1])::(3,some [1])::nN [7,8] [])) ?_|refine K1.y (λ _=>?_) (λ _=>?_)|fail)
     all_goals(conv=>whnf)
     ·refine⟨⟨(i+1+1,l++[e],r.drop m),tJ hp ht,o_⟩,_,dO.mk' [(93,90)] _ _ _ rfl ⟨aY.wS (bG.drop (bG.bytes r) m) s_,au,au,aY.int rfl,trivial⟩ ⟨⟨_,rfl,dK.row s_ (λ m hm=>dP (c:=Ev.cs) rfl rfl m hm)⟩,trivial⟩ rfl,by show c-(i+1+1)<c-(i+1);omega⟩
     ·rw[hz o_];exact bn.mk (au)
    all_goals
     have hno:i+1<c->o8 b=none:=λ h=>by rw[hlf,xX (xW hp (by rw[ht];decide)) c o_];rfl
     dsimp only;repeat' ((conv=>whnf);first|refine K1.u ?_|refine K1.P1 (take_any r ht (bG.bytes r) rfl o_) ?_ rfl rfl|refine aU.fF ?_|refine K1.y (λ _=>?_) (λ _=>?_)|fail)
     all_goals(conv=>whnf)
     ·rw[hno o_];exact bn.mk (au)
     ·rw[hz o_];exact bn.mk (au)
theorem LZ(b:List UInt8)(hF:bG F b)(hn:n=b.length)(hl:b.length<=1000000000):aH prog 175 [.sl 1 n true F] (NY (o8 b)) []:=
 (ai7 b hl).args (Ch.wS hF hn .nil)
theorem WC(k:Int)(h:k=1\/k=2\/k=5):aH prog 128 [.v (.int .i64 k)] (.bI [.v (.bool false),.v (.bool true),.v (.bool false),.v (.bool true)]) []:=by
 have:=gy k;rcases h with rfl|rfl|rfl<;>exact this
theorem WE(k:Int)(h:k=3):aH prog 128 [.v (.int .i64 k)] (.bI [.v (.bool true),.v (.bool false),.v (.bool false),.v (.bool true)]) []:=by
 have:=gy k;rcases h with rfl;exact this
theorem GH(k:Int)(h:k=4):aH prog 128 [.v (.int .i64 k)] (.bI [.v (.bool true),.v (.bool true),.v (.bool false),.v (.bool true)]) []:=by
 have:=gy k;rcases h with rfl;exact this
theorem wJ(k:Int)(h:k=6):aH prog 128 [.v (.int .i64 k)] (.bI [.v (.bool false),.v (.bool false),.v (.bool true),.v (.bool true)]) []:=by
 have:=gy k;rcases h with rfl;exact this
theorem zZ(hu:2<=b.length):jV b=rdR ((b.getD 0 default).toNat:Int) ((b.getD 1 default).toNat:Int) (b.drop 2):=by
 unfold jV;rw[if_neg o_]
theorem agu(b:List UInt8)(hl:b.length<=1000000000)(h:b.length<2):
  aH prog 144 [.sl 1 b.length true (aO b)] (.bI [(jV b).1.av,.v (.bool (jV b).2)]) []:=by
 rw[show jV b=(rc0,false) by unfold jV;rw[if_pos h]];dsimp only[Rc.av,Rc.cs];refine K1.E 0x200042020000027fd func144 ?_;repeat' ((conv=>whnf);first|refine K1.u ?_|refine aU.fF ?_|fail)
 all_goals(conv=>whnf)
 all_goals exact bn.mk (aY.gG _)
theorem Y0(b:List UInt8)(hl:b.length<=1000000000)(hu:2<=b.length)(hk:¬ (((b.getD 0 default).toNat:Int)=1\/((b.getD 0 default).toNat:Int)=2\/((b.getD 0 default).toNat:Int)=5)/\ ¬ ((b.getD 0 default).toNat:Int)=3/\ ¬ ((b.getD 0 default).toNat:Int)=4/\ ¬ ((b.getD 0 default).toNat:Int)=6):
  aH prog 144 [.sl 1 b.length true (aO b)] (.bI [(jV b).1.av,.v (.bool (jV b).2)]) []:=by
 rw[zZ hu];unfold rdR;rw[if_neg hk.1,if_neg hk.2.1,if_neg hk.2.2.1,if_neg hk.2.2.2];have hf:=H8 ((b.getD 0 default).toNat:Int) o_;dsimp only[Rc.av,Rc.cs];refine K1.E 0x200042020000027fd func144 ?_;repeat' ((conv=>whnf);first|refine K1.u ?_|refine K1.P1 hf ?_|refine aU.fF ?_|refine K1.o (id:=3) (nN [0,1,2,3,4,5,6,7,8] [(9,some []),(10,some [7,6,3,2])]) ?_|fail)
 all_goals(conv=>whnf)
 all_goals exact bn.mk (aY.gG _)
theorem ai8(b:List UInt8)(hl:b.length<=1000000000)(hu:2<=b.length)(hk:((b.getD 0 default).toNat:Int)=1\/((b.getD 0 default).toNat:Int)=2\/((b.getD 0 default).toNat:Int)=5):
  aH prog 144 [.sl 1 b.length true (aO b)] (.bI [(jV b).1.av,.v (.bool (jV b).2)]) []:=by
 rw[zZ hu];unfold rdR;rw[if_pos hk];unfold WB;have he:=LZ (n:=b.length-2) (b.drop 2) (bG.drop (bG.bytes b) 2) s_ (by simp;omega);cases hE:o8 (b.drop 2)with
 |none=>
  rw[hE]at he;dsimp only[NY]at he;dsimp only[Rc.av,Rc.cs];refine K1.E 0x200042020000027fd func144 ?_;repeat' ((conv=>whnf);first|refine K1.u ?_|refine K1.P1 (WC _ hk) ?_|refine K1.P1 he ?_|refine aU.fF ?_|refine K1.o (id:=3) (nN [0,1,2,3,4,5,6,7,8] [(9,some []),(10,some [7,6,3,2])]) ?_|fail)
  all_goals(conv=>whnf)
  all_goals exact bn.mk (aY.gG _)
 |some l=>
  rw[hE]at he;dsimp only[NY]at he;dsimp only[Rc.av,Rc.cs];refine K1.E 0x200042020000027fd func144 ?_;repeat' ((conv=>whnf);first|refine K1.u ?_|refine K1.P1 (WC _ hk) ?_|refine K1.P1 he ?_|refine aU.fF ?_|refine K1.o (id:=3) (nN [0,1,2,3,4,5,6,7,8] [(9,some []),(10,some [7,6,3,2])]) ?_|fail)
  all_goals(conv=>whnf)
  all_goals exact bn.mk (au)
theorem ai9(b:List UInt8)(hl:b.length<=1000000000)(hu:2<=b.length)(hk:((b.getD 0 default).toNat:Int)=3):
  aH prog 144 [.sl 1 b.length true (aO b)] (.bI [(jV b).1.av,.v (.bool (jV b).2)]) []:=by
 rw[zZ hu];unfold rdR;rw[if_neg o_,if_pos hk];unfold ai6;cases hE:mD (b.drop 2)with
 |none=>
  have he:=uK (n:=b.length-2) (b.drop 2) hE (bG.drop (bG.bytes b) 2) s_;dsimp only[Rc.av,Rc.cs];refine K1.E 0x200042020000027fd func144 ?_;repeat' ((conv=>whnf);first|refine K1.u ?_|refine K1.P1 (WE _ hk) ?_|refine K1.P1 he ?_|refine aU.fF ?_|refine K1.o (id:=3) (nN [0,1,2,3,4,5,6,7,8] [(9,some []),(10,some [7,6,3,2])]) ?_|fail)
  all_goals(conv=>whnf)
  all_goals exact bn.mk (aY.gG _)
 |some p=>
  obtain⟨m,k⟩:=p;have he:=uJ (n:=b.length-2) (b.drop 2) hE (bG.drop (bG.bytes b) 2) s_;dsimp only[Rc.av,Rc.cs];refine K1.E 0x200042020000027fd func144 ?_;repeat' ((conv=>whnf);first|refine K1.u ?_|refine K1.P1 (WE _ hk) ?_|refine K1.P1 he ?_|refine aU.fF ?_|refine K1.o (id:=3) (nN [0,1,2,3,4,5,6,7,8] [(9,some []),(10,some [7,6,3,2])]) ?_|fail)
  all_goals(conv=>whnf)
  all_goals exact bn.mk (aY.gG _)
theorem agv(b:List UInt8)(hl:b.length<=1000000000)(hu:2<=b.length)(hk:((b.getD 0 default).toNat:Int)=4):
  aH prog 144 [.sl 1 b.length true (aO b)] (.bI [(jV b).1.av,.v (.bool (jV b).2)]) []:=by
 rw[zZ hu];unfold rdR;rw[if_neg o_,if_neg o_,if_pos hk];cases hE:mD (b.drop 2)with
 |none=>
  have he:=uK (n:=b.length-2) (b.drop 2) hE (bG.drop (bG.bytes b) 2) s_;dsimp only[Rc.av,Rc.cs];refine K1.E 0x200042020000027fd func144 ?_;repeat' ((conv=>whnf);first|refine K1.u ?_|refine K1.P1 (GH _ hk) ?_|refine K1.P1 he ?_|refine aU.fF ?_|refine K1.o (id:=3) (nN [0,1,2,3,4,5,6,7,8] [(9,some []),(10,some [7,6,3,2])]) ?_|fail)
  all_goals(conv=>whnf)
  all_goals exact bn.mk (aY.gG _)
 |some p=>
  obtain⟨m,k⟩:=p;have he:=uJ (n:=b.length-2) (b.drop 2) hE (bG.drop (bG.bytes b) 2) s_;dsimp only;have hdl:((b.drop 2).drop k).length<=b.length:=by rw[aoK,aoK];omega
  generalize(b.drop 2).drop k=t at he hdl;have Tc:=LZ t (bG.bytes t) rfl o_;unfold WB;cases hL:o8 t with
  |none=>
   rw[hL]at Tc;dsimp only[NY]at Tc;dsimp only[Rc.av,Rc.cs];refine K1.E 0x200042020000027fd func144 ?_;repeat' ((conv=>whnf);first|refine K1.u ?_|refine K1.P1 (GH _ hk) ?_|refine K1.P1 he ?_|refine K1.P1 Tc ?_|refine aU.fF ?_|refine K1.o (id:=3) (nN [0,1,2,3,4,5,6,7,8] [(9,some []),(10,some [7,6,3,2])]) ?_|fail)
   all_goals(conv=>whnf)
   all_goals exact bn.mk (aY.gG _)
  |some l=>
   rw[hL]at Tc;dsimp only[NY]at Tc;dsimp only[Rc.av,Rc.cs];refine K1.E 0x200042020000027fd func144 ?_;repeat' ((conv=>whnf);first|refine K1.u ?_|refine K1.P1 (GH _ hk) ?_|refine K1.P1 he ?_|refine K1.P1 Tc ?_|refine aU.fF ?_|refine K1.o (id:=3) (nN [0,1,2,3,4,5,6,7,8] [(9,some []),(10,some [7,6,3,2])]) ?_|fail)
   all_goals(conv=>whnf)
   all_goals exact bn.mk (au)
theorem ai'(b:List UInt8)(hl:b.length<=1000000000)(hu:2<=b.length)(hk:((b.getD 0 default).toNat:Int)=6):
  aH prog 144 [.sl 1 b.length true (aO b)] (.bI [(jV b).1.av,.v (.bool (jV b).2)]) []:=by
 rw[zZ hu];unfold rdR;rw[if_neg o_,if_neg o_,if_neg o_,if_pos hk];cases g0:mD (b.drop 2)with
 |none=>
  have e0:=uK (n:=b.length-2) (b.drop 2) g0 (bG.drop (bG.bytes b) 2) s_;have hr:DF (b.drop 2)=(⟨0,0,0,0,0⟩,false):=by unfold DF;simp only[g0]
  rw[hr];dsimp only[Rc.av,Rc.cs];refine K1.E 0x200042020000027fd func144 ?_;repeat' ((conv=>whnf);first|refine K1.u ?_|refine K1.P1 (wJ _ hk) ?_|refine K1.P1 e0 ?_|refine aI.yP 10 6 rfl ?_|refine aU.fF ?_|refine K1.o (id:=3) (nN [0,1,2,3,4,5,6,7,8] [(9,some []),(10,some [7,6,3,2])]) ?_|refine K1.z ?_|fail)
  all_goals(conv=>whnf)
  all_goals exact bn.mk (aY.gG _)
 |some p0=>
  obtain⟨m0,k0⟩:=p0;have e0:=uJ (n:=b.length-2) (b.drop 2) g0 (bG.drop (bG.bytes b) 2) s_;cases g1:mD ((b.drop 2).drop k0)with
  |none=>
   have e1:=uK ((b.drop 2).drop k0) g1 (bG.bytes _) rfl;have hr:DF (b.drop 2)=(⟨m0,0,0,0,0⟩,false):=by unfold DF;simp only[g0,g1]
   rw[hr];dsimp only[Rc.av,Rc.cs];refine K1.E 0x200042020000027fd func144 ?_;repeat' ((conv=>whnf);first|refine K1.u ?_|refine K1.P1 (wJ _ hk) ?_|refine K1.P1 e0 ?_|refine K1.P1 e1 ?_|refine aI.yP 10 6 rfl ?_|refine aU.fF ?_|refine K1.o (id:=3) (nN [0,1,2,3,4,5,6,7,8] [(9,some []),(10,some [7,6,3,2])]) ?_|refine K1.z ?_|fail)
   all_goals(conv=>whnf)
   all_goals exact bn.mk (aY.gG _)
  |some p1=>
   obtain⟨m1,k1⟩:=p1;have e1:=uJ ((b.drop 2).drop k0) g1 (bG.bytes _) rfl;cases g2:mD (((b.drop 2).drop k0).drop k1)with
   |none=>
    have e2:=uK (((b.drop 2).drop k0).drop k1) g2 (bG.bytes _) rfl;have hr:DF (b.drop 2)=(⟨m0,m1,0,0,0⟩,false):=by unfold DF;simp only[g0,g1,g2]
    rw[hr];dsimp only[Rc.av,Rc.cs];refine K1.E 0x200042020000027fd func144 ?_;repeat' ((conv=>whnf);first|refine K1.u ?_|refine K1.P1 (wJ _ hk) ?_|refine K1.P1 e0 ?_|refine K1.P1 e1 ?_|refine K1.P1 e2 ?_|refine aI.yP 10 6 rfl ?_|refine aU.fF ?_|refine K1.o (id:=3) (nN [0,1,2,3,4,5,6,7,8] [(9,some []),(10,some [7,6,3,2])]) ?_|refine K1.z ?_|fail)
    all_goals(conv=>whnf)
    all_goals exact bn.mk (aY.gG _)
   |some p2=>
    obtain⟨m2,k2⟩:=p2;have e2:=uJ (((b.drop 2).drop k0).drop k1) g2 (bG.bytes _) rfl;cases g3:mD ((((b.drop 2).drop k0).drop k1).drop k2)with
    |none=>
     have e3:=uK ((((b.drop 2).drop k0).drop k1).drop k2) g3 (bG.bytes _) rfl;have hr:DF (b.drop 2)=(⟨m0,m1,m2,0,0⟩,false):=by unfold DF;simp only[g0,g1,g2,g3]
     rw[hr];dsimp only[Rc.av,Rc.cs];refine K1.E 0x200042020000027fd func144 ?_;repeat' ((conv=>whnf);first|refine K1.u ?_|refine K1.P1 (wJ _ hk) ?_|refine K1.P1 e0 ?_|refine K1.P1 e1 ?_|refine K1.P1 e2 ?_|refine K1.P1 e3 ?_|refine aI.yP 10 6 rfl ?_|refine aU.fF ?_|refine K1.o (id:=3) (nN [0,1,2,3,4,5,6,7,8] [(9,some []),(10,some [7,6,3,2])]) ?_|refine K1.z ?_|fail)
     all_goals(conv=>whnf)
     all_goals exact bn.mk (aY.gG _)
    |some p3=>
     obtain⟨m3,k3⟩:=p3;have e3:=uJ ((((b.drop 2).drop k0).drop k1).drop k2) g3 (bG.bytes _) rfl;cases g4:mD (((((b.drop 2).drop k0).drop k1).drop k2).drop k3)with
     |none=>
      have e4:=uK (((((b.drop 2).drop k0).drop k1).drop k2).drop k3) g4 (bG.bytes _) rfl;have hr:DF (b.drop 2)=(⟨m0,m1,m2,m3,0⟩,false):=by unfold DF;simp only[g0,g1,g2,g3,g4]
      rw[hr];dsimp only[Rc.av,Rc.cs];refine K1.E 0x200042020000027fd func144 ?_;repeat' ((conv=>whnf);first|refine K1.u ?_|refine K1.P1 (wJ _ hk) ?_|refine K1.P1 e0 ?_|refine K1.P1 e1 ?_|refine K1.P1 e2 ?_|refine K1.P1 e3 ?_|refine K1.P1 e4 ?_|refine aI.yP 10 6 rfl ?_|refine aU.fF ?_|refine K1.o (id:=3) (nN [0,1,2,3,4,5,6,7,8] [(9,some []),(10,some [7,6,3,2])]) ?_|refine K1.z ?_|fail)
      all_goals(conv=>whnf)
      all_goals exact bn.mk (aY.gG _)
     |some p4=>
      obtain⟨m4,k4⟩:=p4;have e4:=uJ (((((b.drop 2).drop k0).drop k1).drop k2).drop k3) g4 (bG.bytes _) rfl;have hr:DF (b.drop 2)=(⟨m0,m1,m2,m3,m4⟩,true):=by unfold DF;simp only[g0,g1,g2,g3,g4]
      rw[hr];dsimp only[Rc.av,Rc.cs];refine K1.E 0x200042020000027fd func144 ?_;repeat' ((conv=>whnf);first|refine K1.u ?_|refine K1.P1 (wJ _ hk) ?_|refine K1.P1 e0 ?_|refine K1.P1 e1 ?_|refine K1.P1 e2 ?_|refine K1.P1 e3 ?_|refine K1.P1 e4 ?_|refine aI.yP 10 6 rfl ?_|refine aU.fF ?_|refine K1.o (id:=3) (nN [0,1,2,3,4,5,6,7,8] [(9,some []),(10,some [7,6,3,2])]) ?_|refine K1.z ?_|fail)
      all_goals(conv=>whnf)
      all_goals exact bn.mk (aY.gG _)
theorem Y1(b:List UInt8)(hF:bG F b)(hn:n=b.length)(hl:b.length<=1000000000):aH prog 144 [.sl 1 n true F] (.bI [(jV b).1.av,.v (.bool (jV b).2)]) []:=by
 refine aH.args ?_ (Ch.wS hF hn .nil);by_cases h:b.length<2
 ·exact agu b hl h
 ·have hu:2<=b.length:=o_
  by_cases h1:((b.getD 0 default).toNat:Int)=1\/((b.getD 0 default).toNat:Int)=2\/((b.getD 0 default).toNat:Int)=5
  ·exact ai8 b hl hu h1
  ·by_cases h2:((b.getD 0 default).toNat:Int)=3
   ·exact ai9 b hl hu h2
   ·by_cases h3:((b.getD 0 default).toNat:Int)=4
    ·exact agv b hl hu h3
    ·by_cases h4:((b.getD 0 default).toNat:Int)=6
     ·exact ai' b hl hu h4
     ·exact Y0 b hl hu ⟨h1,h2,h3,h4⟩
theorem wK:qo []=none:=by unfold qo;rw[if_pos (.inl d_)]
theorem acJ(x:Rc)(h:iH x=true)(i:Nat)(hi:i<(aB x).length):qo ((aB x).take i)=none:=by
 have hb:=Dp x h;have hs:=eU (fE x);have hl:(aB x).length=(aN (dZ (fE x)).length).length+(dZ (fE x)).length:=by unfold aB;rw[aop]
 unfold qo;by_cases hc:i<(aN (dZ (fE x)).length).length
 ·have e:(aB x).take i=(aN (dZ (fE x)).length).take i:=by unfold aB;rw[aqt o_]
  rw[e,abK hc,if_pos (.inl d_)]
 ·have e:(aB x).take i=aN (dZ (fE x)).length++(dZ (fE x)).take (i-(aN (dZ (fE x)).length).length):=by
   unfold aB;rw[aqY,aoF o_]
  rw[e,wz _ _ o_];rw[if_pos (.inr (by rw[aop,aou];dsimp only;omega))]
theorem Bq(h:xZ bs l [])(hx:iH x=true):xZ (bs++aB x) (l++[x]) []:=by
 have e:=h.eq;rw[aor]at e;refine⟨λ r hr=>?_, ?_,wK⟩
 ·rcases aov.1 hr with hr|hr
  ·exact h.may r hr
  ·rw[aoo.1 hr];exact hx
 ·rw[e,aor,Qc]
theorem Qd(h:xZ bs l [])(hx:iH x=true){i:Nat}(hi:i<(aB x).length):xZ (bs++(aB x).take i) l ((aB x).take i):=by
 have e:=h.eq;rw[aor]at e;exact⟨h.may,by rw[e],acJ x hx i hi⟩
end Go.Proofs.YtifjccndenojlaaGreat
