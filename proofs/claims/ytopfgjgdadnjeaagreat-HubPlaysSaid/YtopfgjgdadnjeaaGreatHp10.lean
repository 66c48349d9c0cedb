/-
  Contracts of the walk:TkLawC,TkLawD,TkF,FrT,FrU,FrLaw,FrN,RcLaw.
-/
import Derived.Test.YtopfgjgdadnjeaaGreatHp9
import Derived.Test.YtopfgjgdadnjeaaGreatHp7
set_option maxHeartbeats 16000000
set_option maxRecDepth 100000
set_option linter.unusedVariables false
set_option linter.unusedSimpArgs false
namespace Go.Proofs.YtopfgjgdadnjeaaGreat
open Go.RowKit
variable{may:ByteArray->Int}{e:Ev}{c hi lo sz:Int}{l:List Rc}{b bs r t:List UInt8}{j k m n:Nat}{F:Nat->List AV}{s s':Sq}
theorem xM(h:dA bs lo hi s=(c,s'))(h0:s'.2=0):s.2=0/\lo<=c/\c<=hi/\0<=c/\c<=255/\s'.1<=bs.length/\bs.drop s.1=byteOf c::bs.drop s'.1:=by
 unfold dA at h;split at h
 ·rename_i h1;cases h;exact absurd h0 h1
 ·rename_i h1;split at h
  ·cases h;cases h0
  ·rename_i h2;split at h
   ·rename_i h3;cases h;have hb:=UInt8.toNat_lt (bs.getD s.1 0);refine⟨by simpa using h1,h3.1,h3.2,by omega,by omega,by dsimp only;omega, ?_⟩;have hlt:s.1<bs.length:=by omega
    rw[List.drop_eq_getElem_cons hlt];congr 1;apply aam;have:=jr (n:=((bs.getD s.1 0).toNat:Int)) (by omega) (by omega);have e:bs.getD s.1 0=bs[s.1]:=by rw[List.getD_eq_getElem?_getD,List.getElem?_eq_getElem hlt];rfl
    rw[e]at this⊢;omega
   ·cases h;cases h0
theorem xO(h:dB bs lo hi s=(c,s'))(h0:s'.2=0)(hs:s.1<=bs.length):s.2=0/\lo<=c/\c<=hi/\0<=c/\s'.1<=bs.length/\bs.drop s.1=gu c++bs.drop s'.1:=by
 unfold dB at h;split at h
 ·rename_i h1;cases h;exact absurd h0 h1
 ·rename_i h1;split at h
  ·rename_i h2;cases h;exact absurd h0 h2
  ·rename_i h2;split at h
   ·rename_i h3;cases h;have h2':(dH (bs.drop s.1)).2.2=0:=by simpa using h2
    obtain⟨k1,k2,k3⟩:=Md (l:=bs.drop s.1) (m:=(dH (bs.drop s.1)).1) (k:=(dH (bs.drop s.1)).2.1) (by rw[<-h2']);rw[List.length_drop]at k2;refine⟨by simpa using h1,h3.1,h3.2,by omega,by dsimp only;omega, ?_⟩;have e:gu (((dH (bs.drop s.1)).1:Nat):Int)=ak (dH (bs.drop s.1)).1:=jF _;rw[e,<-k3,<-List.drop_drop,List.take_append_drop]
   ·cases h;cases h0
theorem MG{c:ByteArray}(h:dY bs sz may s=(c,s'))(h0:s'.2=0)(hs:s.1<=bs.length)(hz:0<=sz):s.2=0/\(c.size:Int)=sz/\may c=0/\s'.1<=bs.length/\bs.drop s.1=c.data.toList++bs.drop s'.1:=by
 unfold dY at h;split at h
 ·rename_i h1;cases h;exact absurd h0 h1
 ·rename_i h1;split at h
  ·cases h;cases h0
  ·rename_i h2;cases h;dsimp only at h0;have h3:may (Du bs s.1 sz.toNat)=0:=by
    split at h0
    ·assumption
    ·cases h0
   refine⟨by simpa using h1, ?_,h3,by dsimp only;omega, ?_⟩
   ·show((Du bs s.1 sz.toNat).data.size:Int)=sz;simp only[Du,List.size_toArray,List.length_take,List.length_drop];omega
   ·simp only[Du];rw[<-List.drop_drop,List.take_append_drop]
theorem WT{k:Int}(h:cu k=false):k=1\/k=2:=by
 simp only[cu,Bool.and_eq_false_iff,bne_eq_false_iff_eq]at h;exact h
theorem MH(s:ByteArray)(h:(s.size:Int)=c):byteOf c::s.data.toList=words s:=by
 subst h;simp[words,byteOf]
theorem MJ{e:Ed}(h1:1<=e.k/\e.k<=5)(h2:keyE e.key=0)(h3:e.k=1\/e.k=2)(h4:e.l=0)(h5:e.v.size=0):uV e=0:=by
 unfold uV;rw[if_neg (by omega),if_neg (by simp[h2]),if_pos h3,if_neg (by simp[h4]),if_neg (by simp[h5])]
theorem Ph{e:Ed}(h1:1<=e.k/\e.k<=5)(h2:keyE e.key=0)(h3:cu e.k=true)(h4:0<=e.l/\e.l<2)(h5:gI e.v=0):uV e=0:=by
 have hk:¬ (e.k=1\/e.k=2):=by
  simp only[cu,Bool.and_eq_true,bne_iff_ne,ne_eq]at h3;omega
 have hlab:mg e.l=0:=by unfold mg;rw[if_pos h4]
 unfold uV;rw[if_neg (by omega),if_neg (by simp[h2]),if_neg hk,if_neg (by simp[hlab]),h5]
theorem dG(h:dA bs lo hi s=(c,s'))(h0:s'.2=0):s.2=0:=(xM h h0).1
theorem bM(h:dB bs lo hi s=(c,s'))(h0:s'.2=0):s.2=0:=by
 unfold dB at h;split at h
 ·rename_i h1;cases h;exact absurd h0 h1
 ·rename_i h1;simpa using h1
theorem fG{c:ByteArray}(h:dY bs sz may s=(c,s'))(h0:s'.2=0):s.2=0:=by
 unfold dY at h;split at h
 ·rename_i h1;cases h;exact absurd h0 h1
 ·rename_i h1;simpa using h1
theorem QX{l:List UInt8}(_hm:m<=bs.length)(h:bs=l++bs.drop m):bs.take m=l:=by
 have h1:bs=bs.take m++bs.drop m:=(List.take_append_drop m bs).symm;exact List.append_cancel_right (h1.symm.trans h)
theorem WU(bs:List UInt8)(h:eP bs (0,0)=(e,(m,0))):fH e=0/\m<=bs.length/\bs.take m=dK e:=by
 obtain⟨⟨k,s1⟩,e1⟩:∃p,dA bs 1 5 (0,0)=p:=⟨_,rfl⟩;obtain⟨⟨R,s2⟩,e2⟩:∃p,dA bs 0 4 s1=p:=⟨_,rfl⟩;obtain⟨⟨N,s3⟩,e3⟩:∃p,dB bs 1 1048576 s2=p:=⟨_,rfl⟩;obtain⟨⟨x1,t1⟩,f1⟩:∃p,dB bs 0 1048576 s3=p:=⟨_,rfl⟩;obtain⟨⟨x2,t2⟩,f2⟩:∃p,dB bs 0 1048576 t1=p:=⟨_,rfl⟩;obtain⟨⟨x3,t3⟩,f3⟩:∃p,dB bs 0 1048576 t2=p:=⟨_,rfl⟩;obtain⟨⟨x4,t4⟩,f4⟩:∃p,dB bs 0 1048576 t3=p:=⟨_,rfl⟩;obtain⟨⟨H,s5⟩,e5⟩:∃p,dB bs 1 16777216 t4=p:=⟨_,rfl⟩;obtain⟨⟨ks,s6⟩,e6⟩:∃p,dA bs 1 8 s5=p:=⟨_,rfl⟩;obtain⟨⟨key,s7⟩,e7⟩:∃p,dY bs ks keyE s6=p:=⟨_,rfl⟩;obtain⟨⟨l,s8⟩,e8⟩:∃p,dA bs 0 1 s7=p:=⟨_,rfl⟩;obtain⟨⟨vs,s9⟩,e9⟩:∃p,dA bs 1 12 s8=p:=⟨_,rfl⟩;obtain⟨⟨v,s10⟩,e10⟩:∃p,dY bs vs gI s9=p:=⟨_,rfl⟩;have hR0:=Fe (bs:=bs) (lo:=0) (hi:=4) (s:=s1);rw[e2]at hR0;have hR:0<=R/\R<=4:=by simp only at hR0;omega
 have hF:=λ hR=>Au (l:=l) (vs:=vs) (v:=v) (s8:=s8) (s9:=s9) (s10:=s10) hR e1 e2 e3 f1 f2 f3 f4 e5 e6 e7;have hF:=hF hR;obtain⟨hg,ho⟩:=QW (o:=N-1) (a:=x1) (b:=x2) (c:=x3) (d:=x4) hR;have hC:=λ P=>Za (R:=R) (o:=N-1) (a:=x1) (b:=x2) (c:=x3) (d:=x4) P;generalize Ar R (N-1) x1 x2 x3 x4=C at hF hg ho hC;have b0:bs=bs.drop (0,(0:Int)).1:=rfl;have go:s7.2=0->(1<=k/\k<=5)/\(1<=N/\N<=1048576)/\(1<=H/\H<=16777216)/\(0<=R/\R<=4)/\((0<=C.c0/\C.c0<=1048576)/\(0<=C.c1/\C.c1<=1048576)/\(0<=C.c2/\C.c2<=1048576)/\(0<=C.c3/\C.c3<=1048576)/\(0<=C.c4/\C.c4<=1048576))/\keyE key=0/\s7.1<=bs.length/\
   bs=byteOf k::byteOf R::(gu N++(gu x1++(gu x2++(gu x3++(gu x4++(gu H++(words key++bs.drop s7.1))))))):=λ y7=>by
  have y6:=(fG e7 y7);have y5:=(dG e6 y6);have yp:=(bM e5 y5);have yt4:=(bM f4 yp);have yt3:=(bM f3 yt4);have yt2:=(bM f2 yt3);have y3:=(bM f1 yt2);have y2:=(bM e3 y3);have y1:=(dG e2 y2);obtain⟨_,k1,k2,_,_,u1,b1⟩:=xM e1 y1;obtain⟨_,r1,r2,_,_,u2,b2⟩:=xM e2 y2;obtain⟨_,n1,n2,_,u3,b3⟩:=xO e3 y3 u2;obtain⟨_,m1,mm1,_,v1,g1⟩:=xO f1 yt2 u3;obtain⟨_,m2,mm2,_,v2,g2⟩:=xO f2 yt3 v1;obtain⟨_,m3,mm3,_,v3,g3⟩:=xO f3 yt4 v2;obtain⟨_,m4,mm4,_,v4,g4⟩:=xO f4 yp v3;obtain⟨_,h1,h2,_,u5,b5⟩:=xO e5 y5 v4;obtain⟨_,k3,k4,k5,_,u6,b6⟩:=xM e6 y6;obtain⟨_,q1,q2,u7,b7⟩:=MG e7 y7 u6 k5;refine⟨⟨k1,k2⟩,⟨n1,n2⟩,⟨h1,h2⟩,⟨r1,r2⟩,hC (λ x=>0<=x/\x<=1048576) ⟨by omega,by omega⟩ ⟨m1,mm1⟩ ⟨m2,mm2⟩ ⟨m3,mm3⟩ ⟨m4,mm4⟩,q2,u7, ?_⟩;conv=>lhs;rw[b0,b1,b2,b3,g1,g2,g3,g4,b5,b6,b7]
  simp[<-MH key q1]
 cases hl:cu k with
 |false=>
  rw[hF.1 hl]at h;simp only[Prod.mk.injEq]at h;obtain⟨rfl,hs⟩:=h;obtain⟨kk,nn,hh,rr,⟨a0,a1,a2,a3,a4⟩,q2,u7,hb⟩:=go (by rw[hs]);have hm:s7.1=m:=by rw[hs]
  refine⟨Qo ⟨rr.1,rr.2,nn.1,nn.2,hh.1,hh.2,a0,a1,a2,a3,a4,hg,MJ (e:=⟨k,key,0,⟨#[]⟩⟩) kk q2 (WT hl) rfl rfl⟩,by rw[<-hm];exact u7,QX (by rw[<-hm];exact u7) (l:=dK _) ?_⟩;rw[<-hm];conv=>lhs;rw[hb]
  simp[dK,ho,hl]
 |true=>
  rw[hF.2 e8 e9 e10 hl]at h;simp only[Prod.mk.injEq]at h;obtain⟨rfl,hs⟩:=h;have y10:s10.2=0:=by rw[hs]
  have hm:s10.1=m:=by rw[hs]
  have y9:=(fG e10 y10);have y8:=(dG e9 y9);obtain⟨kk,nn,hh,rr,⟨a0,a1,a2,a3,a4⟩,q2,u7,hb⟩:=go (dG e8 y8);obtain⟨_,l1,l2,_,_,u8,b8⟩:=xM e8 y8;obtain⟨_,l3,l4,l5,_,u9,b9⟩:=xM e9 y9;obtain⟨_,p1,p2,u10,b10⟩:=MG e10 y10 u9 l5;refine⟨Qo ⟨rr.1,rr.2,nn.1,nn.2,hh.1,hh.2,a0,a1,a2,a3,a4,hg,Ph (e:=⟨k,key,l,v⟩) kk q2 hl (by dsimp only;omega) p2⟩,by rw[<-hm];exact u10,QX (by rw[<-hm];exact u10) (l:=dK _) ?_⟩;rw[<-hm];conv=>lhs;rw[hb,b8,b9,b10]
  simp[dK,ho,hl,<-MH v p1]

def UY(x:Int):Prop:=x=0\/x=2\/x=3
theorem wH(h:UY s.2):UY (dA bs lo hi s).2.2:=by
 unfold dA;split
 ·exact h
 ·split
  ·exact .inr (.inl rfl)
  ·split
   ·exact .inl rfl
   ·exact .inr (.inr rfl)
theorem Fv(h:UY s.2):UY (dB bs lo hi s).2.2:=by
 unfold dB;split
 ·exact h
 ·split
  ·have h:gQ ((bs.drop s.1).take 10) 0 0=dH (bs.drop s.1):=rfl;have:=Fp ((bs.drop s.1).take 10) 0 0;rw[h]at this;exact this
  ·split
   ·exact .inl rfl
   ·exact .inr (.inr rfl)
theorem Il(h:UY s.2):UY (dY bs sz may s).2.2:=by
 unfold dY;split
 ·exact h
 ·split
  ·exact .inr (.inl rfl)
  ·dsimp only;split
   ·exact .inl rfl
   ·exact .inr (.inr rfl)
theorem Tq{r:Int}(h:UY s.2):UY (nI bs r j s).2.2:=by
 unfold nI;split
 ·exact h
 ·exact Fv h
theorem Io{bs:List UInt8}{r:Int}{s:Sq}(h:UY s.2):∀j,UY (lY bs r s j).2.2
 |0=>h
 |j+1=>Tq (Io h j)
theorem Pj(bs:List UInt8):UY (eP bs (0,0)).2.2:=by
 have h6:UY (dY bs (dA bs 1 8 (dB bs 1 16777216 (dO bs (dA bs 0 4 (dA bs 1 5 (0,0)).2).1 (dB bs 1 1048576 (dA bs 0 4 (dA bs 1 5 (0,0)).2).2).2).2).2).1 keyE (dA bs 1 8 (dB bs 1 16777216 (dO bs (dA bs 0 4 (dA bs 1 5 (0,0)).2).1 (dB bs 1 1048576 (dA bs 0 4 (dA bs 1 5 (0,0)).2).2).2).2).2).2).2.2:=
  Il (wH (Fv (Io (Fv (wH (wH (.inl rfl)))) 5)))
 unfold eP;dsimp only;split
 ·exact Il (wH (wH h6))
 ·exact h6
theorem uJ(bs:List UInt8):(∃e m,lg bs=(e,m,0)/\fH e=0/\m<=bs.length/\bs.take m=dK e/\m=(dK e).length)\/lg bs=(yT,0,2)\/lg bs=(yT,0,3):=by
 obtain⟨⟨e,m,x⟩,hf⟩:∃p,eP bs (0,0)=p:=⟨_,rfl⟩;have he:=Pj bs;rw[hf]at he;unfold lg;rw[hf];rcases he with h|h|h<;>dsimp only at h<;>subst h
 ·obtain⟨h1,h2,h3⟩:=WU bs hf;refine .inl ⟨e,m,by simp,h1,h2,h3, ?_⟩;rw[<-h3,List.length_take];omega
 ·exact .inr (.inl (by simp))
 ·exact .inr (.inr (by simp))
theorem Ip(e:Ev)(h:fH e=0)(rest:List UInt8):lg (dK e++rest)=(e,(dK e).length,0):=by
 unfold lg;rw[Tm e h rest];simp
theorem Ch.lH{n:Nat}{sc:Bool}{F:Nat->List AV}{l:List UInt8}{xs ys:List AV}(h:aS F l)(hn:n=l.length)(k:Ch xs ys):Ch (.sl 1 n sc F::xs) (.sl 1 l.length sc (aG l)::ys):=
 .of (λ X u hu=>bI.lH (sc:=sc) h hn X u hu) k
theorem take_any(l:List UInt8){x:Int}(ht:lg l=(e,m,x))(hF:aS F l)(hn:n=l.length)(hl:l.length<=1000000000):
  aC Tryz.prog 103 [.sl 1 n true F] (.bJ [e.av,.v (.int .i64 (m:Int)),.v (.int .i64 x)]) []:=by
 have h:=Tn l hl;rw[ht]at h;exact h.args (Ch.lH hF hn .nil)
def kN(b:List UInt8):Option (Nat×Nat):=if(dH b).2.2=0/\(dH b).1<=1048576 then some ((dH b).1,(dH b).2.1)else none
theorem qh(l:List UInt8)(h:kN l=some (m,k))(hF:aS F l)(hn:n=l.length):aC Tryz.prog 72 [.sl 1 n true F] (.bJ [.v (.int .i64 (m:Int)),.v (.int .i64 (k:Int)),.v (.bool true)]) []:=by
 obtain⟨⟨a,c,e⟩,hv⟩:∃p,dH l=p:=⟨_,rfl⟩;have hs:=iW l hF hn;unfold kN at h;rw[hv]at hs h;dsimp only at hs h;split at h
 ·rename_i h0;obtain⟨h0,h1⟩:=h0;simp only[Option.some.injEq,Prod.mk.injEq]at h;obtain⟨rfl,rfl⟩:=h;subst h0;refine K1.E 0x800fd Tryz.func72 ?_;repeat' ((conv=>whnf);first|refine K1.u ?_|refine K1.P1 hs ?_|refine aO.dW ?_|refine K1.z ?_|refine K1.y (λ _=>?_) (λ _=>?_)|fail)
  conv=>whnf
  exact aW.mk (aP)
 ·cases h
theorem qj(l:List UInt8)(h:kN l=none)(hF:aS F l)(hn:n=l.length):aC Tryz.prog 72 [.sl 1 n true F] (.bJ [.v (.int .i64 0),.v (.int .i64 0),.v (.bool false)]) []:=by
 obtain⟨⟨a,c,e⟩,hv⟩:∃p,dH l=p:=⟨_,rfl⟩;have hs:=iW l hF hn;unfold kN at h;rw[hv]at hs h;dsimp only at hs h;split at h
 ·cases h
 ·rename_i h0;refine K1.E 0x800fd Tryz.func72 ?_;repeat' ((conv=>whnf);first|refine K1.u ?_|refine K1.P1 hs ?_|refine aO.dW ?_|refine K1.z ?_|refine K1.y (λ _=>?_) (λ _=>?_)|fail)
  all_goals(conv=>whnf)
  all_goals first
   |exact aW.mk (aP)
   |(exfalso;apply h0;constructor<;>omega)
def je(b:List UInt8):Nat->Option (List Ev×List UInt8)
 |0=>some ([],b)
 |j+1=>match je b j with
  |none=>none
  |some (l,r)=>if(lg r).2.2=0 then some (l++[(lg r).1],r.drop (lg r).2.1)else none
def GH:List UInt8->Option (List Ev)
 |[]=>none
 |c::r=>(je r c.toNat).map (·.1)
theorem nZ{b:List UInt8}:∀{j:Nat}{l:List Ev}{r:List UInt8},je b j=some (l,r)->l.length=j/\r.length<=b.length
 |0,l,r,h=>by
  simp only[je,Option.some.injEq,Prod.mk.injEq]at h;obtain⟨rfl,rfl⟩:=h;exact⟨rfl,Nat.le_refl _⟩
 |j+1,l,r,h=>by
  unfold je at h;cases h0:je b j with
  |none=>rw[h0]at h;cases h
  |some p=>
   obtain⟨l0,r0⟩:=p;rw[h0]at h;dsimp only at h;have ih:=nZ h0;split at h
   ·simp only[Option.some.injEq,Prod.mk.injEq]at h;obtain⟨rfl,rfl⟩:=h;refine⟨by simp[ih.1], ?_⟩;rw[List.length_drop];omega
   ·cases h
theorem qC{l:List Ev}(h:je b j=some (l,r))(ht:lg r=(e,m,0)):je b (j+1)=some (l++[e],r.drop m):=by
 unfold je;rw[h];dsimp only;rw[ht];rfl
theorem uK{l:List Ev}(h:je b j=some (l,r))(ht:(lg r).2.2≠0):je b (j+1)=none:=by
 unfold je;rw[h];dsimp only;rw[if_neg ht]
theorem uM(h:je b j=none):∀n,j<=n->je b n=none:=by
 intro n hn;obtain⟨d,rfl⟩:=Nat.le.dest hn;clear hn;induction d with
 |zero=>exact h
 |succ d ih=>
  show je b (j+d+1)=none;unfold je;rw[ih]
theorem C1.ab8{X:CX}{f:Nat->List AV}{u:Value}(h:C1 X (.v (.slice none 0 0)) u):C1 X (.sl 12 0 true f) u:=by
 have h:u= .slice none 0 0:=h;subst h;exact(show C0 X (.sl 12 0 true f) (.slice none 0 0)from .sl 12 0 true f none 0 [] (by omega) (Nat.le_refl _) (by simp[maxLen]) (by simp) (λ i hi=>absurd hi (Nat.not_lt_zero i)) (λ _ x hx=>by simp[flat]at hx) (λ i x u hx=>by simp[flat]at hx) (.inl rfl))
theorem aN.hd{R:AV->Value->Prop}{x y:AV}{xs:List AV}{us:List Value}(h:aN R (x::xs) us)(hi:∀u,R x u->R y u):aN R (y::xs) us:=by
 rcases us with _|⟨u,us⟩
 ·have:=h.1;simp at this
 ·exact aN.cons (hi u (h.2 0 _ _ rfl rfl)) ⟨by have:=h.1;simpa using this,λ i a b ha hb=>h.2 (i+1) a b (by simpa using ha) (by simpa using hb)⟩
theorem bI.Zb{b:AV}(f:Nat->List AV):bI (.bJ [.v (.slice none 0 0),b]) (.bJ [.sl 12 0 true f,b]):=by
 rintro X u ⟨us,e,ha⟩;exact⟨us,e,ha.hd λ u hu=>C1.ab8 hu⟩
def GI:Option (List Ev)->AV
 |none=> .bJ [.v (.slice none 0 0),.v (.bool false)]
 |some l=> .bJ [.sl 12 l.length true (jH l),.v (.bool true)]
theorem Fz{G:Nat->List AV}(a b:List UInt8)(hF:aS F a)(hn:n=a.length)(hG:aS G b)(hm:m=b.length):aC Tryz.prog 40 [.sl 1 n true F,.sl 1 m true G] (.v (.bool (decide (a=b)))) []:=by
 refine K1.E 0x13 Tryz.func40 ?_;repeat' ((conv=>whnf);first|refine K1.u ?_|refine Bs.of a hF hn ?_|refine Bs.of b hG hm ?_|refine aO.dW ?_|refine K1.z ?_|refine K1.y (λ _=>?_) (λ _=>?_)|fail)
 all_goals(conv=>whnf)
 all_goals(refine aW.mk (bI.of ?_))
 ·have h:(⟨a.toArray⟩:ByteArray)=⟨b.toArray⟩:=by assumption
  have:a=b:=by simpa using h
  simp[this]
 ·have h:¬ (⟨a.toArray⟩:ByteArray)=⟨b.toArray⟩:=by assumption
  have:¬a=b:=by simpa using h
  simp[this]
theorem WV(b:List UInt8)(hl:b.length<=1000000000):aC Tryz.prog 71 [.sl 1 b.length true (aG b)] (GI (GH b)) []:=by
 rcases b with _|⟨c,t⟩
 ·show aC Tryz.prog 71 [.sl 1 0 true (aG [])] _ [];refine K1.E 0x101c09fd Tryz.func71 ?_;repeat' ((conv=>whnf);first|refine K1.u ?_|refine aO.dW ?_|refine K1.z ?_|refine K1.y (λ _=>?_) (λ _=>?_)|fail)
  all_goals(conv=>whnf)
  all_goals exact aW.mk (aP)
 ·have hc:=UInt8.toNat_lt c;rw[List.length_cons]at hl⊢;refine K1.E 0x101c09fd Tryz.func71 ?_;repeat' ((conv=>whnf);first|refine K1.u ?_|refine aO.dW ?_|refine K1.z ?_|refine K1.y (λ _=>?_) (λ _=>?_)|fail)
  conv=>whnf
  refine aK.mk {p:Nat×List Ev×List UInt8//je t p.1=some p.2/\p.1<=c.toNat} (λ p=>match p with
   |⟨(0,_,r),_⟩=>⟨[(0,.sl 1 r.length true (aG r)),(4,.v (.slice none 0 0)),(18,.v (.int .i64 (c.toNat:Int))),(19,.v (.int .i64 0))],[],[],0⟩
   |⟨(i+1,l,r),_⟩=>⟨[(0,.sl 1 r.length true (aG r)),(4,.own 90),(18,.v (.int .i64 (c.toNat:Int))),(19,.v (.int .i64 ((i:Int)+1)))],[(90,.row 84 12 l.length true (jH l))],[],91⟩)
   (λ p=>c.toNat-p.1.1) ⟨(0,[],t),rfl,Nat.zero_le _⟩ _
   (iw.mk' [] _ _ _ rfl ⟨bI.lH (aS.drop (aS.bytes (c::t)) 1) (by simp),aP,aP,bI.int rfl,trivial⟩ trivial rfl) ?_
  rintro⟨⟨_|i,l,r⟩,hp,hj⟩
  ·dsimp only at hp hj;obtain⟨hl0,hr0⟩:=nZ hp;obtain rfl:l=[]:=List.eq_nil_of_length_eq_zero hl0;have hz:c.toNat=0->GH (c::t)=some []:=λ h=>by show(je t c.toNat).map (·.1)=_;rw[h,hp];rfl
   rcases uJ r with⟨e,m,ht,-,hm,-⟩|ht|ht
   ·dsimp only;repeat' ((conv=>whnf);first|refine K1.u ?_|refine K1.P1 (take_any r ht (aS.bytes r) rfl (by omega)) ?_ rfl rfl|refine aO.dW ?_|refine K1.z ?_|refine K1.y (λ _=>?_) (λ _=>?_)|fail)
    all_goals(conv=>whnf)
    ·refine⟨⟨(0+1,[]++[e],r.drop m),qC hp ht,by omega⟩,_,iw.mk' [(2,90)] _ _ _ rfl ⟨bI.lH (aS.drop (aS.bytes r) m) (by simp),aP,aP,bI.int rfl,trivial⟩ ⟨⟨_,rfl,fP.row rfl (λ i hi=>?_)⟩,trivial⟩ rfl,by show c.toNat-(0+1)<c.toNat-0;omega⟩;have hi:i<1:=hi;obtain rfl:i=0:=by omega
     rfl
    ·rw[hz (by omega)];exact aW.mk (bI.Zb _)
   all_goals
    have hno:0<c.toNat->GH (c::t)=none:=λ h=>by show(je t c.toNat).map (·.1)=_;rw[uM (uK hp (by rw[ht];decide)) c.toNat (by omega)];rfl
    dsimp only;repeat' ((conv=>whnf);first|refine K1.u ?_|refine K1.P1 (take_any r ht (aS.bytes r) rfl (by omega)) ?_ rfl rfl|refine aO.dW ?_|refine K1.z ?_|refine K1.y (λ _=>?_) (λ _=>?_)|fail)
    all_goals(conv=>whnf)
    ·rw[hno (by omega)];exact aW.mk (aP)
    ·rw[hz (by omega)];exact aW.mk (bI.Zb _)
  ·dsimp only at hp hj;obtain⟨hl0,hr0⟩:=nZ hp;have hz:c.toNat=i+1->GH (c::t)=some l:=λ h=>by show(je t c.toNat).map (·.1)=_;rw[h,hp];rfl
   rcases uJ r with⟨e,m,ht,-,hm,-⟩|ht|ht
   ·dsimp only;repeat' ((conv=>whnf);first|refine K1.u ?_|refine K1.P1 (take_any r ht (aS.bytes r) rfl (by omega)) ?_ rfl rfl|refine aO.dW ?_|refine K1.z ?_|refine K1.y (λ _=>?_) (λ _=>?_)|fail)
    all_goals(conv=>whnf)
    ·refine⟨⟨(i+1+1,l++[e],r.drop m),qC hp ht,by omega⟩,_,iw.mk' [(93,90)] _ _ _ rfl ⟨bI.lH (aS.drop (aS.bytes r) m) (by simp),aP,aP,bI.int rfl,trivial⟩ ⟨⟨_,rfl,fP.row (by simp) (λ m hm=>jX (c:=Ev.cs) rfl rfl m hm)⟩,trivial⟩ rfl,by show c.toNat-(i+1+1)<c.toNat-(i+1);omega⟩
    ·rw[hz (by omega)];exact aW.mk (aP)
   all_goals
    have hno:i+1<c.toNat->GH (c::t)=none:=λ h=>by show(je t c.toNat).map (·.1)=_;rw[uM (uK hp (by rw[ht];decide)) c.toNat (by omega)];rfl
    dsimp only;repeat' ((conv=>whnf);first|refine K1.u ?_|refine K1.P1 (take_any r ht (aS.bytes r) rfl (by omega)) ?_ rfl rfl|refine aO.dW ?_|refine K1.z ?_|refine K1.y (λ _=>?_) (λ _=>?_)|fail)
    all_goals(conv=>whnf)
    ·rw[hno (by omega)];exact aW.mk (aP)
    ·rw[hz (by omega)];exact aW.mk (aP)
theorem MK(b:List UInt8)(hF:aS F b)(hn:n=b.length)(hl:b.length<=1000000000):aC Tryz.prog 71 [.sl 1 n true F] (GI (GH b)) []:=
 (WV b hl).args (Ch.lH hF hn .nil)
def zB(b:List UInt8):dD×Bool:=
 match kN b with
 |none=>(⟨0,0,0,0,0⟩,false)
 |some (n0,k0)=>match kN (b.drop k0)with
  |none=>(⟨n0,0,0,0,0⟩,false)
  |some (n1,k1)=>match kN ((b.drop k0).drop k1)with
   |none=>(⟨n0,n1,0,0,0⟩,false)
   |some (n2,k2)=>match kN (((b.drop k0).drop k1).drop k2)with
    |none=>(⟨n0,n1,n2,0,0⟩,false)
    |some (n3,k3)=>match kN ((((b.drop k0).drop k1).drop k2).drop k3)with
     |none=>(⟨n0,n1,n2,n3,0⟩,false)
     |some (n4,_)=>(⟨n0,n1,n2,n3,n4⟩,true)
def Gs:Rc:=⟨0,0,0,aJ,[]⟩
def Zc(k r:Int)(t:List UInt8):Rc×Bool:=
 if k=1\/k=4 then(match GH t with|none=>(⟨k,r,0,aJ,[]⟩,false)|some l=>(⟨k,r,0,aJ,l⟩,true))
 else if k=2 then(match kN t with|none=>(⟨k,r,0,aJ,[]⟩,false)|some (n,_)=>(⟨k,r,n,aJ,[]⟩,true))
 else if k=3\/k=5 then(⟨k,r,0,(zB t).1,[]⟩,(zB t).2)
 else(⟨k,r,0,aJ,[]⟩,false)
def jl(b:List UInt8):Rc×Bool:=
 if(dH b).2.2≠0\/b.length<(dH b).2.1+2 then(Gs,false)
 else Zc ((b.getD (dH b).2.1 default).toNat:Int) ((b.getD ((dH b).2.1+1) default).toNat:Int) (b.drop ((dH b).2.1+2))
theorem ng(h:n<=1048576)(t:List UInt8):kN (ak n++t)=some (n,(ak n).length):=by
 unfold kN;rw[tq n t (by omega),if_pos ⟨rfl,h⟩]
theorem BN(l:List Ev)(h:∀e∈l,fH e=0)(t:List UInt8):∀j,j<=l.length->je (dJ l++t) j=some (l.take j,dJ (l.drop j)++t)
 |0,_=>by simp[je]
 |j+1,hj=>by
  have ih:=BN l h t j (by omega);have e0:l.drop j=l[j]::l.drop (j+1):=List.drop_eq_getElem_cons (by omega);have e1:dJ (l.drop j)++t=dK l[j]++(dJ (l.drop (j+1))++t):=by
   rw[e0];show dK l[j]++dJ (l.drop (j+1))++t=_;rw[List.append_assoc]
  have ht:=Ip l[j] (h _ (List.getElem_mem _)) (dJ (l.drop (j+1))++t);rw[<-e1]at ht;rw[qC ih ht,e1,List.drop_left];congr 2;exact List.take_append_getElem (by omega)
theorem WW(l:List Ev)(h:∀e∈l,fH e=0)(hl:l.length<=255)(t:List UInt8):GH (UInt8.ofNat l.length::(dJ l++t))=some l:=by
 show(je (dJ l++t) (UInt8.ofNat l.length).toNat).map (·.1)=_;rw[uZ (by omega),BN l h t _ (Nat.le_refl _),List.take_length];rfl
theorem QY{c0 c1 c2 c3 c4:Nat}(h0:c0<=1048576)(h1:c1<=1048576)(h2:c2<=1048576)(h3:c3<=1048576)(h4:c4<=1048576)(t:List UInt8):
  zB (ak c0++(ak c1++(ak c2++(ak c3++(ak c4++t)))))=(⟨c0,c1,c2,c3,c4⟩,true):=by
 unfold zB;rw[ng h0];dsimp only;rw[List.drop_left,ng h1];dsimp only;rw[List.drop_left,ng h2];dsimp only;rw[List.drop_left,ng h3];dsimp only;rw[List.drop_left,ng h4]
theorem Tt(x:Rc)(h:iC x=true)(n:Nat)(hn:n<=4294967296)(t:List UInt8):jl (ak n++(fK x++t))=(x,true):=by
 have m:=iP h;obtain⟨k,r,u,⟨c0,c1,c2,c3,c4⟩,ev⟩:=x;obtain⟨mk,mr,mu,nY,nH,me0,⟨m0,m1,m2,m3,m4⟩,ml,Aq,xX⟩:=m;dsimp only at mk mr mu ml m0 m1 m2 m3 m4 nY nH me0 xX Aq;have uj:=wF xX;obtain⟨rest,hrest⟩:∃rest,rest=(if uY k then UInt8.ofNat ev.length::dJ ev else [])++(if vC k then gu u else [])++(if vF k then vw ⟨c0,c1,c2,c3,c4⟩else [])++t:=⟨_,rfl⟩;have hb:ak n++(fK ⟨k,r,u,⟨c0,c1,c2,c3,c4⟩,ev⟩++t)=ak n++([byteOf k,byteOf r]++rest):=by
  rw[hrest];simp[fK]
 have g0:((ak n++([byteOf k,byteOf r]++rest)).getD (ak n).length default)=byteOf k:=by
  rw[List.getD,List.getElem?_append_right (Nat.le_refl _),Nat.sub_self];rfl
 have g1:((ak n++([byteOf k,byteOf r]++rest)).getD ((ak n).length+1) default)=byteOf r:=by
  rw[List.getD,List.getElem?_append_right (by omega),Nat.add_sub_cancel_left];rfl
 have g2:(ak n++([byteOf k,byteOf r]++rest)).drop ((ak n).length+2)=rest:=by
  rw[<-List.drop_drop,List.drop_left];rfl
 rw[hb];unfold jl;rw[tq n _ hn];rw[if_neg (by simp)];dsimp only;rw[g0,g1,g2,jr (by omega) (by omega),jr (by omega) (by omega)];clear g0 g1 g2 hb;unfold Zc;rcases(show(k=1\/k=4)\/k=2\/(k=3\/k=5) by omega)with hk|hk|hk
 ·have hU:vC k=false:=by simp[vC];omega
  have hC:vF k=false:=by simp[vF];omega
  have hE:uY k=true:=by simp[uY];omega
  rw[hU]at nY hrest;rw[hC]at nH hrest;rw[hE]at hrest;simp only[Bool.false_eq_true,false_or]at nY nH;rw[if_pos hk,hrest];simp only[if_true,Bool.false_eq_true,if_false,List.append_nil,List.cons_append];rw[WW ev (lM uj) (by omega)];rw[nY,nH]
 ·have hU:vC k=true:=by simp[vC];omega
  have hC:vF k=false:=by simp[vF];omega
  have hE:uY k=false:=by simp[uY];omega
  rw[hU]at hrest;rw[hC]at nH hrest;rw[hE]at me0 hrest;simp only[Bool.false_eq_true,false_or]at me0 nH;obtain⟨un,rfl,hun⟩:=dR mu;rw[if_neg (by omega),if_pos hk,hrest];simp only[if_true,Bool.false_eq_true,if_false,List.append_nil,List.nil_append];rw[jF,ng hun];dsimp only;rw[List.eq_nil_of_length_eq_zero me0,nH]
 ·have hU:vC k=false:=by simp[vC];omega
  have hC:vF k=true:=by simp[vF];omega
  have hE:uY k=false:=by simp[uY];omega
  rw[hU]at nY hrest;rw[hC]at hrest;rw[hE]at me0 hrest;simp only[Bool.false_eq_true,false_or]at nY me0;obtain⟨c0,rfl,hc0⟩:=dR m0;obtain⟨c1,rfl,hc1⟩:=dR m1;obtain⟨c2,rfl,hc2⟩:=dR m2;obtain⟨c3,rfl,hc3⟩:=dR m3;obtain⟨c4,rfl,hc4⟩:=dR m4;rw[if_neg (by omega),if_neg (by omega),if_pos hk,hrest];simp only[if_true,Bool.false_eq_true,if_false,List.append_nil,List.nil_append,vw,jF,List.append_assoc];rw[QY hc0 hc1 hc2 hc3 hc4];dsimp only;rw[List.eq_nil_of_length_eq_zero me0,nY]
instance(l:List UInt8):Decidable (nV l):=inferInstanceAs (Decidable (_/\_))
def inner(l:List UInt8):List UInt8:=l.take (l.length-4)
theorem uN(m:List UInt8):inner (dF m)=m:=by
 unfold inner;rw[bP,Nat.add_sub_cancel];simp[dF]
theorem QZ(m:List UInt8):nV (dF m):=by
 refine⟨by rw[bP];omega, ?_⟩;have:=uN m;unfold inner at this;rw[this]
theorem qE{l:List UInt8}(h:nV l):l=dF (inner l):=h.2
def gV(l:List UInt8):Rc×Int:=
 if 2048<l.length then(Gs,5)else if nV l then
  if(jl (inner l)).2=true/\iC (jl (inner l)).1=true/\bg (jl (inner l)).1=l then((jl (inner l)).1,0)else(Gs,3)
 else(Gs,4)
theorem yU(x:Rc)(h:iC x=true):2<=(fK x).length/\(fK x).length<=1000:=by
 have m:=iP h;have hv (n:Nat):(ak n).length<=10:=aX 9 _;have Tv (n:Int):(gu n).length<=10:=hv _;have he:=oM (lM (wF m.ev));have hl:=m.l;have e1:(fK x).length=2+(if uY x.k then 1+(dJ x.ev).length else 0)+(if vC x.k then(gu x.u).length else 0)+(if vF x.k then(vw x.c).length else 0):=by
  unfold fK;simp only[List.length_append];congr 1
  ·congr 1
   ·congr 1
    split<;>simp;omega
   ·split<;>rfl
  ·split<;>rfl
 have hc:(vw x.c).length<=50:=by
  have:=Tv x.c.c0;have:=Tv x.c.c1;have:=Tv x.c.c2;have:=Tv x.c.c3;have:=Tv x.c.c4;unfold vw;simp only[List.length_append];omega
 have:=Tv x.u;rw[e1];refine⟨by omega, ?_⟩;split<;>split<;>split<;>omega
theorem CZ(x:Rc)(h:iC x=true):(bg x).length<=2048:=by
 have:=yU x h;have hv:(ak (fK x).length).length<=10:=aX 9 _;unfold bg;rw[bP,List.length_append];omega
theorem BO(x:Rc)(h:iC x=true):gV (bg x)=(x,0):=by
 have hb:=yU x h;have hr:=Tt x h (fK x).length (by omega) [];rw[List.append_nil]at hr;have hi:inner (bg x)=ak (fK x).length++fK x:=uN _;have ho:nV (bg x):=QZ _;unfold gV;rw[if_neg (by have:=CZ x h;omega),if_pos ho,hi,hr,if_pos ⟨rfl,h,rfl⟩]
theorem FB(l:List UInt8)(h:l.length<=2048):(∃z,gV l=(z,0)/\iC z=true/\bg z=l)\/gV l=(Gs,3)\/gV l=(Gs,4):=by
 unfold gV;rw[if_neg (by omega)];split
 ·split
  ·rename_i h1;exact .inl ⟨_,rfl,h1.2.1,h1.2.2⟩
  ·exact .inr (.inl rfl)
 ·exact .inr (.inr rfl)
theorem bI.fO{a1 a2 a3 a4 a5 a6 a7 a8 b:AV}(f:Nat->List AV):bI (.bJ [.agg [a1,a2,a3,a4,a5,a6,a7,a8,.v (.slice none 0 0)],b]) (.bJ [.agg [a1,a2,a3,a4,a5,a6,a7,a8,.sl 12 0 true f],b]):=by
 rintro X u ⟨us,e,ha⟩;exact⟨us,e,ha.hd λ u hu=>C1.pF hu⟩
theorem uO(h:kN b=some (m,k)):k<=b.length/\m<=1048576:=by
 have hle:=wB b;unfold kN at h;split at h
 ·rename_i h0;simp only[Option.some.injEq,Prod.mk.injEq]at h;omega
 ·cases h
theorem aC.res{P:Program}{f:FuncId}{bD:List AV}{r r':AV}{h:List (Nat×AO)}(hs:aC P f bD r h)(hr:bI r r'):aC P f bD r' h:=
 ⟨hs.1,λ w keep args hk ha=>(hs.2 w keep args hk ha).mono λ _ _ ⟨u,ρ,h1,h2,h3,h4⟩=>⟨u,ρ,h1,h2,hr _ _ h3,h4⟩⟩
instance:Inhabited Rc:=⟨Gs⟩
def ni(b:List UInt8):Option (List Ev):=match kN b with
 |none=>none
 |some (m,k)=>if 4096<m then none else(je (b.drop k) m).map (·.1)
def Zd(k r:Int)(t:List UInt8):Rc×Bool:=match kN t with
 |none=>(⟨k,r,0,aJ,[]⟩,false)
 |some (n,_)=>(⟨k,r,n,aJ,[]⟩,true)
def ML(k r u:Int)(t:List UInt8):Rc×Bool:=match ni t with
 |none=>(⟨k,r,u,aJ,[]⟩,false)
 |some l=>(⟨k,r,u,aJ,l⟩,true)
def Ze(k r:Int)(t:List UInt8):Rc×Bool:=
 if k=1\/k=2\/k=5 then ML k r 0 t
 else if k=3 then Zd k r t
 else if k=4 then(match kN t with|none=>(⟨k,r,0,aJ,[]⟩,false)|some (n,j)=>ML k r n (t.drop j))
 else if k=6 then(⟨k,r,0,(zB t).1,[]⟩,(zB t).2)
 else(⟨k,r,0,aJ,[]⟩,false)
def jG(b:List UInt8):Rc×Bool:=
 if b.length<2 then(Gs,false)else Ze ((b.getD 0 default).toNat:Int) ((b.getD 1 default).toNat:Int) (b.drop 2)
theorem Iq(l:List Ev)(h:∀e∈l,fH e=0)(hl:l.length<=4096)(t:List UInt8):ni (ak l.length++(dJ l++t))=some l:=by
 unfold ni;rw[ng (by omega)];dsimp only;rw[if_neg (by omega),List.drop_left,BN l h t _ (Nat.le_refl _),List.take_length];rfl
theorem Tz(x:Rc)(h:jR x=true)(t:List UInt8):jG (eU x++t)=(x,true):=by
 have m:=lN h;obtain⟨k,r,u,⟨c0,c1,c2,c3,c4⟩,ev⟩:=x;obtain⟨mk,mr,mu,ml,⟨m0,m1,m2,m3,m4⟩,nY,nH,me0,uj,Aq⟩:=m;dsimp only at mk mr mu ml m0 m1 m2 m3 m4 nY nH me0 uj Aq;obtain⟨rest,hrest⟩:∃rest,rest=(if yQ k then gu u else [])++(if yS k then vw ⟨c0,c1,c2,c3,c4⟩else [])++(if yR k then ak ev.length++dJ ev else [])++t:=⟨_,rfl⟩;have hb:eU ⟨k,r,u,⟨c0,c1,c2,c3,c4⟩,ev⟩++t=byteOf k::byteOf r::rest:=by
  rw[hrest];simp[eU]
 rw[hb];unfold jG;rw[if_neg (by simp)];rw[show(byteOf k::byteOf r::rest).getD 0 default=byteOf k from rfl,show(byteOf k::byteOf r::rest).getD 1 default=byteOf r from rfl,show(byteOf k::byteOf r::rest).drop 2=rest from rfl,jr (by omega) (by omega),jr (by omega) (by omega)];clear hb;unfold Ze;rcases(show(k=1\/k=2\/k=5)\/k=3\/k=4\/k=6 by omega)with hk|hk|hk|hk
 ·have hU:yQ k=false:=by simp[yQ];omega
  have hC:yS k=false:=by simp[yS];omega
  have hE:yR k=true:=by simp[yR];omega
  rw[hU]at nY hrest;rw[hC]at nH hrest;rw[hE]at hrest;simp only[Bool.false_eq_true,false_or]at nY nH;rw[if_pos hk,hrest];simp only[if_true,Bool.false_eq_true,if_false,List.nil_append,List.append_assoc];unfold ML;rw[Iq ev (lM uj) ml t];dsimp only;rw[nY,nH]
 ·have hU:yQ k=true:=by simp[yQ];omega
  have hC:yS k=false:=by simp[yS];omega
  have hE:yR k=false:=by simp[yR];omega
  rw[hU]at hrest;rw[hC]at nH hrest;rw[hE]at me0 hrest;simp only[Bool.false_eq_true,false_or]at me0 nH;obtain⟨un,rfl,hun⟩:=dR mu;rw[if_neg (by omega),if_pos hk,hrest];simp only[if_true,Bool.false_eq_true,if_false,List.append_nil];unfold Zd;rw[jF,ng hun];dsimp only;rw[List.eq_nil_of_length_eq_zero me0,nH]
 ·have hU:yQ k=true:=by simp[yQ];omega
  have hC:yS k=false:=by simp[yS];omega
  have hE:yR k=true:=by simp[yR];omega
  rw[hU]at hrest;rw[hC]at nH hrest;rw[hE]at hrest;simp only[Bool.false_eq_true,false_or]at nH;obtain⟨un,rfl,hun⟩:=dR mu;rw[if_neg (by omega),if_neg (by omega),if_pos hk,hrest];simp only[if_true,Bool.false_eq_true,if_false,List.append_nil,List.append_assoc];rw[jF,ng hun];dsimp only;rw[List.drop_left];unfold ML;rw[Iq ev (lM uj) ml t];dsimp only;rw[nH]
 ·have hU:yQ k=false:=by simp[yQ];omega
  have hC:yS k=true:=by simp[yS];omega
  have hE:yR k=false:=by simp[yR];omega
  rw[hU]at nY hrest;rw[hC]at hrest;rw[hE]at me0 hrest;simp only[Bool.false_eq_true,false_or]at nY me0;obtain⟨c0,rfl,hc0⟩:=dR m0;obtain⟨c1,rfl,hc1⟩:=dR m1;obtain⟨c2,rfl,hc2⟩:=dR m2;obtain⟨c3,rfl,hc3⟩:=dR m3;obtain⟨c4,rfl,hc4⟩:=dR m4;rw[if_neg (by omega),if_neg (by omega),if_neg (by omega),if_pos hk,hrest];simp only[if_true,Bool.false_eq_true,if_false,List.nil_append,vw,jF,List.append_assoc];rw[QY hc0 hc1 hc2 hc3 hc4];dsimp only;rw[List.eq_nil_of_length_eq_zero me0,nY]
def og(b:List UInt8):Option (Rc×Nat):=
 if(dH b).2.2≠0\/b.length-(dH b).2.1<(dH b).1 then none
 else if nV ((b.drop (dH b).2.1).take (dH b).1)then
  if(jG (inner ((b.drop (dH b).2.1).take (dH b).1))).2=true/\jR (jG (inner ((b.drop (dH b).2.1).take (dH b).1))).1=true/\aH (jG (inner ((b.drop (dH b).2.1).take (dH b).1))).1=b.take ((dH b).2.1+(dH b).1)
  then some ((jG (inner ((b.drop (dH b).2.1).take (dH b).1))).1,(dH b).2.1+(dH b).1)else none
 else none
theorem yV(x:Rc)(h:jR x=true):2<=(eU x).length/\(eU x).length<=200000:=by
 have m:=lN h;have hv (n:Nat):(ak n).length<=10:=aX 9 _;have Tv (n:Int):(gu n).length<=10:=hv _;have he:=oM (lM m.ev);have hl:=m.l;have e1:(eU x).length=2+(if yQ x.k then(gu x.u).length else 0)+(if yS x.k then(vw x.c).length else 0)+(if yR x.k then(ak x.ev.length).length+(dJ x.ev).length else 0):=by
  unfold eU;simp only[List.length_append];congr 1
  ·congr 1
   ·congr 1
    split<;>rfl
   ·split<;>rfl
  ·split
   ·rw[List.length_append]
   ·rfl
 have hc:(vw x.c).length<=50:=by
  have:=Tv x.c.c0;have:=Tv x.c.c1;have:=Tv x.c.c2;have:=Tv x.c.c3;have:=Tv x.c.c4;unfold vw;simp only[List.length_append];omega
 have:=Tv x.u;have:=hv x.ev.length;rw[e1];refine⟨by omega, ?_⟩;split<;>split<;>split<;>omega
theorem C9(x:Rc)(h:jR x=true):(aH x).length<=200100:=by
 have:=yV x h;have hv:(ak (dF (eU x)).length).length<=10:=aX 9 _;unfold aH;rw[List.length_append,bP];rw[bP]at hv;omega
theorem Pm(x:Rc)(h:jR x=true)(t:List UInt8):og (aH x++t)=some (x,(aH x).length):=by
 have hb:=yV x h;have hs:=bP (eU x);have hr:=Tz x h [];rw[List.append_nil]at hr;have e:aH x++t=ak (dF (eU x)).length++(dF (eU x)++t):=by unfold aH;rw[List.append_assoc]
 have hv:=tq (dF (eU x)).length (dF (eU x)++t) (by omega);have hl:(aH x).length=(ak (dF (eU x)).length).length+(dF (eU x)).length:=by unfold aH;rw[List.length_append]
 unfold og;rw[e,hv,List.drop_left,List.take_left,if_neg (by simp),if_pos (QZ _),uN,hr,if_pos ⟨rfl,h,by rw[<-e,<-hl,List.take_left]⟩,hl]
def kE(l:List Rc):List UInt8:=l.flatMap aH
structure yX(b:List UInt8)(l:List Rc)(t:List UInt8):Prop where
 may:∀r∈l,jR r=true
 eq:b=kE l++t
 no:og t=none
theorem Ir(l:List Rc)(x:Rc):kE (l++[x])=kE l++aH x:=by simp[kE]
theorem TA(h:yX b l t)(j:Nat)(hj:j<l.length):og (b.drop (kE (l.take j)).length)=some (l.getD j default,(aH (l.getD j default)).length):=by
 have e:l=l.take j++l.getD j default::l.drop (j+1):=by
  rw[List.getD,List.getElem?_eq_getElem hj];simp
 have e2:b=kE (l.take j)++(aH (l.getD j default)++(kE (l.drop (j+1))++t)):=by
  rw[h.eq];conv=>lhs;rw[e]
  simp[kE]
 rw[e2,List.drop_left];refine Pm _ (h.may _ ?_) _;rw[List.getD,List.getElem?_eq_getElem hj];exact List.getElem_mem hj
theorem WX(h:yX b l t):og (b.drop (kE l).length)=none:=by
 rw[h.eq,List.drop_left];exact h.no
theorem TB(hj:j<l.length):kE (l.take (j+1))=kE (l.take j)++aH (l.getD j default):=by
 have:l.take (j+1)=l.take j++[l.getD j default]:=by
  rw[List.getD,List.getElem?_eq_getElem hj];simp
 rw[this,Ir]
end Go.Proofs.YtopfgjgdadnjeaaGreat
