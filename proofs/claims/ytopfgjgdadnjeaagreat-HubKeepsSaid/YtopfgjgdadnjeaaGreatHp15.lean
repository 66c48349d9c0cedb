/-
  Contracts of the walk:HyA,HyH,HyP,HyQ,HyR,FrV,FrmF,FrmG,FrW,Ay.
-/
import Derived.Test.YtopfgjgdadnjeaaGreatHp14
import Derived.Test.YtopfgjgdadnjeaaGreatHp12
import Derived.Test.YtopfgjgdadnjeaaGreatHp13
import Derived.Test.YtopfgjgdadnjeaaGreatHp10
import Derived.Test.YtopfgjgdadnjeaaGreatHp9
import Derived.Test.YtopfgjgdadnjeaaGreatHp7
set_option maxHeartbeats 16000000
set_option maxRecDepth 100000
set_option linter.unusedVariables false
set_option linter.unusedSimpArgs false
namespace Go.Proofs.YtopfgjgdadnjeaaGreat
open Go.RowKit
variable{a l:List Ev}{b:List UInt8}{n u v:Nat}{F:Nat->List AV}
def rH(most cuts:Int)(m:AV):AO:= .box 69 [.v (.int .i64 most),.v (.int .i64 cuts),m]
theorem XD(most:Int)(s:AQ)(n:Int):au Tryz.prog 113 [(0,rH most s.cuts (.own 9)),(9,bU s.l)] [.box 0 0,.v (.int .i64 n)] (.bJ []) [(0,rH most (qG s n) (.own 9)),(9,bU s.l)]:=by
 dsimp only[rH,bU];refine K1.M 0x3 Tryz.func113 10 ?_;repeat' ((conv=>whnf);first|refine K1.u ?_|refine K1.o (id:=0) (nN [0,1,2,3,4,5,6,7,8,9,10,11,12,13,14] [(15,some [12,11,9,7,4,2,13])]) ?_|refine K1.z ?_|refine K1.y (λ _=>?_) (λ _=>?_)|fail)
 all_goals(conv=>whnf)
 exact⟨[],rfl,rfl,⟨aY rfl,aY rfl,trivial⟩,rfl,rfl,aP⟩
theorem tV(most:Int)(s:AQ)(n:Int)(h:FV s):au Tryz.prog 94 [(0,rH most s.cuts (.own 9)),(9,bU s.l)] [.box 0 0,.v (.int .i64 n)] (.own 1) [(0,rH most s.cuts (.own 9)),(9,bU s.l),(1,bU (Rl s n))]:=by
 have h0:=h.c0;have h1:=h.c1;have h2:=h.ln;obtain⟨cuts,l⟩:=s;dsimp only[rH,bU,Rl]at h0 h1 h2⊢;have hD:(l.drop cuts.toNat).length=l.length-cuts.toNat:=List.length_drop;have hg:∀j:Nat,(l.drop cuts.toNat).getD j default=l.getD (cuts+(j:Int)).toNat default:=λ j=>by
  rw[List.getD_eq_getElem?_getD,List.getElem?_drop,List.getD_eq_getElem?_getD,show(cuts+(j:Int)).toNat=cuts.toNat+j by omega]
 generalize l.drop cuts.toNat=D at hD hg;refine K1.M 0x40040073 Tryz.func94 10 ?_;repeat' ((conv=>whnf);first|refine K1.u ?_|refine K1.z ?_|refine K1.y (λ _=>?_) (λ _=>?_)|fail)
 conv=>whnf
 refine aK.mk {j:Nat//j<=D.length} (λ j=>⟨[(6,.v (.int .i64 (cuts+(j.1:Int)))),(5,.own 10),(0,.box 0 0),(1,.v (.int .i64 n))],[(10,.row 84 12 ((D.take j.1).filter (gW n)).length true (jH ((D.take j.1).filter (gW n)))),(0,.box 69 [.v (.int .i64 most),.v (.int .i64 cuts),.own 9]),(9,.row 84 12 l.length true (jH l))],[[(0,.box 0 0),(1,.own 9)]],11⟩)
  (λ j=>D.length-j.1) ⟨0,Nat.zero_le _⟩ _ (iw.mk' [] _ _ _ rfl ⟨bI.int (by show cuts=cuts+((0:Nat):Int);omega),aP,aP,aP,trivial⟩ ⟨⟨_,rfl,fP.row rfl (λ m hm=>absurd hm (Nat.not_lt_zero _))⟩,aY rfl,aY rfl,trivial⟩ rfl) ?_
 rintro⟨j,hj⟩;dsimp only;by_cases hjl:j<D.length
 ·have hf:=wM (p:=gW n) hjl;rw[hg]at hf;have hfl:=List.length_filter_le (gW n) (D.take j);rw[List.length_take]at hfl;have hb:Nat.ble ((cuts+(j:Int)).toNat+1) l.length=true:=Nat.ble_eq_true_of_le (by omega);cases ho:gW n (l.getD (cuts+(j:Int)).toNat default)with
  |true=>
   have hq:n<(l.getD (cuts+(j:Int)).toNat default).n:=by simpa[gW]using ho
   rw[ho,if_pos rfl]at hf;repeat' ((conv=>whnf);first|refine K1.u ?_|refine K1.z ?_|refine K1.y (λ _=>?_) (λ _=>?_)|fail)
   all_goals(conv=>whnf)
   refine⟨⟨j+1,hjl⟩,_,iw.mk' [(12,10)] _ _ _ rfl ⟨bI.int (by show cuts+(j:Int)+1=cuts+((j+1:Nat):Int);omega),aP,aP,aP,trivial⟩ ⟨⟨_,rfl,fP.row (by rw[hf];simp) (λ m hm=>?_)⟩,aY rfl,aY rfl,trivial⟩ rfl,by show D.length-(j+1)<D.length-j;omega⟩;rw[hf];exact jX (c:=Ev.cs) (l:=(D.take j).filter (gW n)) rfl rfl m hm
  |false=>
   have hq:¬n<(l.getD (cuts+(j:Int)).toNat default).n:=by simpa[gW]using ho
   rw[ho,if_neg (by simp),List.append_nil]at hf;repeat' ((conv=>whnf);first|refine K1.u ?_|refine K1.z ?_|refine K1.y (λ _=>?_) (λ _=>?_)|fail)
   all_goals(conv=>whnf)
   exact⟨⟨j+1,hjl⟩,_,iw.mk' [] _ _ _ rfl ⟨bI.int (by show cuts+(j:Int)+1=cuts+((j+1:Nat):Int);omega),aP,aP,aP,trivial⟩ ⟨⟨_,rfl,by rw[hf];exact fP.refl _⟩,aY rfl,aY rfl,trivial⟩ rfl,by show D.length-(j+1)<D.length-j;omega⟩
 ·have e1:D.take j=D:=List.take_of_length_le (by omega);rw[e1];repeat' ((conv=>whnf);first|refine K1.u ?_|refine K1.z ?_|refine K1.y (λ _=>?_) (λ _=>?_)|fail)
  all_goals(conv=>whnf)
  exact⟨[(10,1)],rfl,rfl,⟨aY rfl,aY rfl,aY rfl,trivial⟩,rfl,rfl,aP⟩
theorem XE(most:Int)(s:AQ)(l:List Ev)(s':AQ)(x:Int)(h:FV s)(h3:l.length<=1000000)(hN:∀j,0<=(l.getD j default).n/\(l.getD j default).n<=1000000000)(hp:gB most s l=(s',x)):au Tryz.prog 91 [(0,rH most s.cuts (.own 9)),(9,bU s.l)] [.box 0 0,.sl 12 l.length true (jH l)] (.v (.int .i64 x)) [(0,rH most s'.cuts (.own 8)),(8,bU s'.l)]:=by
 have h0:=h.c0;have h1:=h.c1;have h2:=h.ln;obtain⟨cuts,k⟩:=s;dsimp only[rH,bU]at h0 h1 h2⊢;refine K1.M 0x800000201080000000000201f3 Tryz.func91 10 ?_;repeat' ((conv=>whnf);first|refine K1.u ?_|refine K1.z ?_|refine K1.y (λ _=>?_) (λ _=>?_)|fail)
 conv=>whnf
 refine aK.mk {j:Nat//j<=l.length/\ ∀i,i<j->rF ⟨cuts,k⟩ l i} (λ j=>⟨[(6,.v (.int .i64 (j.1:Int))),(5,.v (.int .i64 (k.length:Int))),(0,.box 0 0),(1,.sl 12 l.length true (jH l))],[(0,.box 69 [.v (.int .i64 most),.v (.int .i64 cuts),.own 9]),(9,.row 84 12 k.length true (jH k))],[[(0,.box 0 0),(1,.own 9)]],10⟩)
  (λ j=>l.length-j.1) ⟨0,Nat.zero_le _,λ i hi=>absurd hi (Nat.not_lt_zero _)⟩ _ (iw.mk' [] _ _ _ rfl ⟨bI.int rfl,aP,aP,aP,trivial⟩ ⟨aY rfl,aY rfl,trivial⟩ rfl) ?_
 rintro⟨j,hj,hok⟩;dsimp only;have back:∀(hjl:j<l.length),rF ⟨cuts,k⟩ l j-> ∃y:{j:Nat//j<=l.length/\ ∀i,i<j->rF ⟨cuts,k⟩ l i},y.1=j+1:=λ hjl h=>⟨⟨j+1,hjl,λ i hi=>by
  rcases Nat.lt_or_ge i j with hi'|hi'
  ·exact hok i hi'
  ·obtain rfl:i=j:=by omega
   exact h⟩,rfl⟩
 by_cases hjl:j<l.length
 ·have bad:¬rF ⟨cuts,k⟩ l j->s'=⟨cuts,k⟩/\x=20:=λ h=>by
   unfold gB at hp;rw[if_neg (λ hall=>h (by
    have:=List.all_eq_true.1 hall j (List.mem_range.2 hjl);simpa using this))]at hp
   cases hp;exact⟨rfl,rfl⟩
  have hn:=hN (j:Int).toNat;have hm:=hN ((j:Int)-1).toNat;have hz:=hN (0:Int).toNat;by_cases ho:rF ⟨cuts,k⟩ l j
  ·obtain⟨y,hy⟩:=back hjl ho;unfold rF at ho;by_cases hj0:j=0
   ·rw[if_pos hj0]at ho;have ho':(l.getD (0:Int).toNat default).n<=(k.length:Int)+1:=ho;clear hp back bad ho;repeat' ((conv=>whnf);first|refine K1.u ?_|refine K1.z ?_|refine K1.y (λ _=>?_) (λ _=>?_)|fail)
    all_goals(conv=>whnf)
    all_goals exact⟨y,_,iw.mk' [] _ _ _ rfl ⟨bI.int (by rw[hy];rfl),aP,aP,aP,trivial⟩ ⟨aY rfl,aY rfl,trivial⟩ rfl,by show l.length-y.1<l.length-j;omega⟩
   ·rw[if_neg hj0]at ho;have ho':(l.getD (j:Int).toNat default).n=(l.getD ((j:Int)-1).toNat default).n+1:=by
     rw[show((j:Int)-1).toNat=j-1 by omega,show(j:Int).toNat=j by omega];exact ho
    clear hp back bad ho;repeat' ((conv=>whnf);first|refine K1.u ?_|refine K1.z ?_|refine K1.y (λ _=>?_) (λ _=>?_)|fail)
    all_goals(conv=>whnf)
    all_goals exact⟨y,_,iw.mk' [] _ _ _ rfl ⟨bI.int (by rw[hy];rfl),aP,aP,aP,trivial⟩ ⟨aY rfl,aY rfl,trivial⟩ rfl,by show l.length-y.1<l.length-j;omega⟩
  ·obtain⟨rfl,rfl⟩:=bad ho;unfold rF at ho;by_cases hj0:j=0
   ·rw[if_pos hj0]at ho;have ho':¬ (l.getD (0:Int).toNat default).n<=(k.length:Int)+1:=ho;clear hp back bad ho;repeat' ((conv=>whnf);first|refine K1.u ?_|refine K1.z ?_|refine K1.y (λ _=>?_) (λ _=>?_)|fail)
    all_goals(conv=>whnf)
    all_goals exact⟨[(9,8)],rfl,rfl,⟨aY rfl,aY rfl,trivial⟩,rfl,rfl,aP⟩
   ·rw[if_neg hj0]at ho;have ho':¬ (l.getD (j:Int).toNat default).n=(l.getD ((j:Int)-1).toNat default).n+1:=by
     rw[show((j:Int)-1).toNat=j-1 by omega,show(j:Int).toNat=j by omega];exact ho
    clear hp back bad ho;repeat' ((conv=>whnf);first|refine K1.u ?_|refine K1.z ?_|refine K1.y (λ _=>?_) (λ _=>?_)|fail)
    all_goals(conv=>whnf)
    all_goals exact⟨[(9,8)],rfl,rfl,⟨aY rfl,aY rfl,trivial⟩,rfl,rfl,aP⟩
 ·have hall:(List.range l.length).all (λ j=>decide (rF ⟨cuts,k⟩ l j))=true:=List.all_eq_true.2 λ i hi=>decide_eq_true (hok i (by have:=List.mem_range.1 hi;omega));unfold gB at hp;rw[if_pos hall]at hp;clear hall back hok;repeat' ((conv=>whnf);first|refine K1.u ?_|refine K1.z ?_|refine K1.y (λ _=>?_) (λ _=>?_)|fail)
  conv=>whnf
  have hNf:Ns ⟨cuts,k⟩ l=l.filter (gW (k.length:Int)):=rfl;rw[hNf]at hp;refine aK.mk {j:Nat//j<=l.length} (λ j=>⟨[(8,.v (.int .i64 (j.1:Int))),(7,.own 10),(5,.v (.int .i64 (k.length:Int))),(0,.box 0 0),(1,.sl 12 l.length true (jH l))],[(10,.row 84 12 ((l.take j.1).filter (gW (k.length:Int))).length true (jH ((l.take j.1).filter (gW (k.length:Int))))),(0,.box 69 [.v (.int .i64 most),.v (.int .i64 cuts),.own 9]),(9,.row 84 12 k.length true (jH k))],[[(0,.box 0 0),(1,.own 9)]],11⟩)
   (λ j=>l.length-j.1) ⟨0,Nat.zero_le _⟩ _ (iw.mk' [] _ _ _ rfl ⟨bI.int rfl,aP,aP,aP,aP,trivial⟩ ⟨⟨_,rfl,fP.row rfl (λ m hm=>absurd hm (Nat.not_lt_zero _))⟩,aY rfl,aY rfl,trivial⟩ rfl) ?_
  rintro⟨j,hj⟩;dsimp only;by_cases hjl:j<l.length
  ·clear hp hNf;have hf:=wM (p:=gW (k.length:Int)) hjl;rw[show l.getD j default=l.getD (j:Int).toNat default from rfl]at hf;have hfl:=List.length_filter_le (gW (k.length:Int)) (l.take j);rw[List.length_take]at hfl;cases ho:gW (k.length:Int) (l.getD (j:Int).toNat default)with
   |true=>
    have hq:(k.length:Int)<(l.getD (j:Int).toNat default).n:=by simpa[gW]using ho
    rw[ho,if_pos rfl]at hf;repeat' ((conv=>whnf);first|refine K1.u ?_|refine K1.z ?_|refine K1.y (λ _=>?_) (λ _=>?_)|fail)
    all_goals(conv=>whnf)
    refine⟨⟨j+1,hjl⟩,_,iw.mk' [(12,10)] _ _ _ rfl ⟨bI.int rfl,aP,aP,aP,aP,trivial⟩ ⟨⟨_,rfl,fP.row (by rw[hf];simp) (λ m hm=>?_)⟩,aY rfl,aY rfl,trivial⟩ rfl,by show l.length-(j+1)<l.length-j;omega⟩;rw[hf];exact jX (c:=Ev.cs) (l:=(l.take j).filter (gW (k.length:Int))) rfl rfl m hm
   |false=>
    have hq:¬ (k.length:Int)<(l.getD (j:Int).toNat default).n:=by simpa[gW]using ho
    rw[ho,if_neg (by simp),List.append_nil]at hf;repeat' ((conv=>whnf);first|refine K1.u ?_|refine K1.z ?_|refine K1.y (λ _=>?_) (λ _=>?_)|fail)
    all_goals(conv=>whnf)
    exact⟨⟨j+1,hjl⟩,_,iw.mk' [] _ _ _ rfl ⟨bI.int rfl,aP,aP,aP,aP,trivial⟩ ⟨⟨_,rfl,by rw[hf];exact fP.refl _⟩,aY rfl,aY rfl,trivial⟩ rfl,by show l.length-(j+1)<l.length-j;omega⟩
  ·have e1:l.take j=l:=List.take_of_length_le (by omega);rw[e1];have hfl:=List.length_filter_le (gW (k.length:Int)) l;generalize l.filter (gW (k.length:Int))=N at hp hfl⊢;clear hNf;by_cases hm:N≠[]/\most<(k.length:Int)-cuts+(N.length:Int)
   ·rw[if_pos hm]at hp;obtain⟨rfl,rfl⟩:=Prod.mk.inj hp;have hl0:0<N.length:=List.length_pos_iff.2 hm.1;have hm:=hm.2;repeat' ((conv=>whnf);first|refine K1.u ?_|refine K1.z ?_|refine K1.y (λ _=>?_) (λ _=>?_)|fail)
    all_goals(conv=>whnf)
    all_goals exact⟨[(9,8)],rfl,rfl,⟨aY rfl,aY rfl,trivial⟩,rfl,rfl,aP⟩
   ·rw[if_neg hm]at hp;obtain⟨rfl,rfl⟩:=Prod.mk.inj hp;have hor:¬0<(N.length:Int)\/ ¬most<(k.length:Int)-cuts+(N.length:Int):=by
     by_cases h:N=[]
     ·exact .inl (by rw[h];simp)
     ·exact .inr λ h'=>hm ⟨h,h'⟩
    clear hm;rcases hor with hor|hor;all_goals
     repeat' ((conv=>whnf);first|refine K1.u ?_|refine K1.z ?_|refine K1.y (λ _=>?_) (λ _=>?_)|fail)
     all_goals(conv=>whnf)
     all_goals exact⟨[(11,8)],rfl,rfl,⟨aY rfl,⟨_,rfl,fP.row (by rw[List.length_append]) (λ m _=>els_app (c:=Ev.cs) (l:=k) (l':=N) rfl m)⟩,trivial⟩,rfl,rfl,aP⟩
def gX.s(y:gX)(i:Nat):AQ:=y.ps.getD i default
def qQ(l:List dD):List AV:=jM (l.getD 0 aJ)++(jM (l.getD 1 aJ)++(jM (l.getD 2 aJ)++(jM (l.getD 3 aJ)++jM (l.getD 4 aJ))))
def FY(c:jv)(l:List dD)(s0 s1 s2 s3 s4:Nat):AO:= .box 73 (.v (.int .i64 c.n):: .v (.int .i64 c.w):: .v (.int .i64 c.q):: .v (.int .i64 c.h):: .v (.int .i64 c.l):: .v (.int .i64 c.p):: .box s0 0:: .box s1 0:: .box s2 0:: .box s3 0:: .box s4 0::qQ l)
def AU(p s0 s1 s2 s3 s4 m0 m1 m2 m3 m4:Nat)(c:jv)(y:gX):List (Nat×AO):=
 [(p,FY c y.dS s0 s1 s2 s3 s4),(s0,rH c.w (y.s 0).cuts (.own m0)),(s1,rH c.w (y.s 1).cuts (.own m1)),(s2,rH c.w (y.s 2).cuts (.own m2)),(s3,rH c.w (y.s 3).cuts (.own m3)),(s4,rH c.w (y.s 4).cuts (.own m4)),(m0,bU (y.s 0).l),(m1,bU (y.s 1).l),(m2,bU (y.s 2).l),(m3,bU (y.s 3).l),(m4,bU (y.s 4).l)]
def oP:jv->gX->List (Nat×AO):=AU 0 20 21 22 23 24 30 31 32 33 34
def rpR(r:Nat):jv->gX->List (Nat×AO):=match r with
 |0=>AU 0 20 21 22 23 24 40 31 32 33 34
 |1=>AU 0 20 21 22 23 24 30 40 32 33 34
 |2=>AU 0 20 21 22 23 24 30 31 40 33 34
 |3=>AU 0 20 21 22 23 24 30 31 32 40 34
 |_=>AU 0 20 21 22 23 24 30 31 32 33 40
theorem gX.five{C:gX->Prop}(y:gX)(p5:y.ps.length=5)(a5:y.dS.length=5)(h:∀s0 s1 s2 s3 s4 a0 a1 a2 a3 a4,C ⟨[s0,s1,s2,s3,s4],[a0,a1,a2,a3,a4]⟩):C y:=by
 obtain⟨ps,dS⟩:=y;dsimp only at p5 a5;rcases ps with _|⟨s0,_|⟨s1,_|⟨s2,_|⟨s3,_|⟨s4,_|⟨s5,ps⟩⟩⟩⟩⟩⟩<;>simp at p5;rcases dS with _|⟨a0,_|⟨a1,_|⟨a2,_|⟨a3,_|⟨a4,_|⟨a5',dS⟩⟩⟩⟩⟩⟩<;>simp at a5;exact h _ _ _ _ _ _ _ _ _ _
theorem zn{r:Nat}(h:r<5):r=0\/r=1\/r=2\/r=3\/r=4:=by omega
theorem tX(c:jv)(y:gX)(n s:Nat)(hs:s<n)(h5:n<=5)(hn:c.n=(n:Int))(p5:y.ps.length=5)(a5:y.dS.length=5):au Tryz.prog 92 (oP c y) [.box 0 0,.v (.int .i64 (s:Int))] (.bJ []) (oP c (lq n y s)):=by
 refine gX.five (C:=λ y=>au Tryz.prog 92 (oP c y) [.box 0 0,.v (.int .i64 (s:Int))] (.bJ []) (oP c (lq n y s))) y p5 a5 ?_;intro s0 s1 s2 s3 s4 a0 a1 a2 a3 a4;obtain⟨cn,w,q,h,l,p⟩:=c;dsimp only at hn;subst hn;rcases(show n=1\/n=2\/n=3\/n=4\/n=5 by omega)with rfl|rfl|rfl|rfl|rfl;all_goals
  rcases zn (show s<5 by omega)with rfl|rfl|rfl|rfl|rfl<;>try omega
 all_goals
  dsimp only[oP,AU,FY,qQ,rH,bU,jM,gX.s,lq,IE,wP,yZ,dL,List.headD,List.take,dD.at,List.getD_cons_zero,List.getD_cons_succ,List.cons_append,List.nil_append];refine K1.M 0x80033 Tryz.func92 50 ?_;repeat' ((conv=>whnf);first|refine K1.u ?_|refine K1.C 99 [(0,_),(9,_)] (XD _ _ _) rfl ?_|refine aK.rounds 6 ?_|refine qM.mk (by decide) ?_|refine lD.yes (by decide) ?_|refine lD.no (by decide) ?_|refine K1.z ?_|refine K1.y (λ _=>?_) (λ _=>?_)|fail)
  all_goals(conv=>whnf)
  refine⟨[],rfl,rfl, ?_,rfl,rfl,aP⟩;repeat' first|exact trivial|refine⟨aY rfl, ?_⟩
theorem Ub{most:Int}{s:AQ}(h:(gB most s l).2≠0):(gB most s l).1=s:=by
 revert h;unfold gB;split<;>(try split)<;>simp
theorem Uc(c:jv)(y:gX)(n r:Nat)(hr:r<n)(h5:n<=5)(hn:c.n=(n:Int))(hB:Dw n y)(l:List Ev)(hl:EvB l)(hall:∀j,j<l.length->(l.getD j default).r=(r:Int))(y':gX)(u x:Int)(hp:iQ c.w n r l y=(y',u,x)):
  au Tryz.prog 52 (oP c y) [.box 0 0,.v (.int .i64 (r:Int)),.sl 12 l.length true (jH l)] (.bJ [.v (.int .i64 u),.v (.int .i64 x)]) (rpR r c y'):=by
 obtain⟨⟨s',e⟩,hs⟩:∃q,gB c.w (y.ps.getD r default) l=q:=⟨_,rfl⟩;have hsB:FV (y.ps.getD r default):=hB.s _ (by have:=hB.p5;rw[List.getD,List.getElem?_eq_getElem (by omega)];exact List.getElem_mem _);have hput:=XE c.w _ l s' e hsB hl.h hl.n hs;have hcut:=λ(y:gX)=>tX c y n r hr h5 hn;have hcut:=hcut ⟨dL (λ _=>s') r y.ps,y.dS⟩ (by show(dL _ _ _).length=5;rw[dI];exact hB.p5) hB.a5;have hln:((lq n ⟨dL (λ _=>s') r y.ps,y.dS⟩ r).s r).l=s'.l:=by
  show((dL (λ x=>IE x _) r (dL (λ _=>s') r y.ps)).getD r default).l=s'.l;have kC:r<y.ps.length:=by have:=hB.p5;omega
  rw[kR (by rw[dI];exact kC),if_pos rfl,kR kC,if_pos rfl];rfl
 have herr:=Ub (most:=c.w) (s:=y.ps.getD r default) (l:=l);unfold iQ at hp;rw[hs]at hp herr;dsimp only at hp herr;have p5:=hB.p5;have a5:=hB.a5;clear hB hs hsB;have hlh:=hl.h;clear hl;have hrn:(r:Int)<c.n:=by omega
 by_cases he:e=0
 ·subst he;rw[if_pos rfl]at hp;simp only[Prod.mk.injEq]at hp;obtain⟨rfl,rfl,rfl⟩:=hp;clear herr;generalize lq n ⟨dL (λ _=>s') r y.ps,y.dS⟩ r=z at hcut hln⊢;rw[<-hln];obtain⟨ps,dS⟩:=y;refine gX.five (C:=λ y=>au Tryz.prog 91 [(0,rH c.w (y.ps.getD r default).cuts (.own 9)),(9,bU (y.ps.getD r default).l)] [.box 0 0,.sl 12 l.length true (jH l)] (.v (.int .i64 0)) [(0,rH c.w s'.cuts (.own 8)),(8,bU s'.l)]->au Tryz.prog 92 (oP c ⟨dL (λ _=>s') r y.ps,y.dS⟩) [.box 0 0,.v (.int .i64 (r:Int))] (.bJ []) (oP c z)->au Tryz.prog 52 (oP c y) [.box 0 0,.v (.int .i64 (r:Int)),.sl 12 l.length true (jH l)] (.bJ [.v (.int .i64 (z.s r).l.length),.v (.int .i64 0)]) (rpR r c z)) ⟨ps,dS⟩ p5 a5 ?_ hput hcut;clear hput hcut p5 a5;intro s0 s1 s2 s3 s4 a0 a1 a2 a3 a4 hput hcut;rcases zn (show r<5 by omega)with rfl|rfl|rfl|rfl|rfl;all_goals
   dsimp only[rpR,oP,AU,FY,qQ,rH,bU,jM,gX.s,dL,List.getD_cons_zero,List.getD_cons_succ,List.cons_append,List.nil_append]at hput hcut hln⊢;refine K1.M 0x200800207c7 Tryz.func52 50 ?_;repeat' ((conv=>whnf);first|refine K1.u ?_|refine K1.I 0x13 Tryz.func90 ?_|refine lD.yes (by decide) ?_|refine lD.no (by decide) ?_|refine K1.z ?_|refine K1.y (λ _=>?_) (λ _=>?_)|fail)
   conv=>whnf
   refine aK.cnt 9 l.length ?_ ?_
   ·refine iw.mk' [] _ _ _ rfl ?_ ?_ rfl;all_goals repeat' first|exact trivial|refine⟨aP, ?_⟩|refine⟨aY rfl, ?_⟩
   rintro⟨j,hj⟩;dsimp only;by_cases hjl:j<l.length
   ·have hq:=hall j hjl;rw[show j=(j:Int).toNat by omega]at hq;clear hput hcut hall;repeat' ((conv=>whnf);first|refine K1.u ?_|refine K1.z ?_|refine K1.y (λ _=>?_) (λ _=>?_)|fail)
    all_goals(conv=>whnf)
    refine⟨⟨j+1,hjl⟩,[],iw.mk' [] _ _ _ rfl ?_ ?_ rfl,by show l.length-(j+1)<l.length-j;omega⟩;all_goals repeat' first|exact trivial|refine⟨aP, ?_⟩|refine⟨aY rfl, ?_⟩
   ·clear hall;repeat' ((conv=>whnf);first|refine K1.u ?_|refine K1.C 8 [(0,_),(9,_)] (hput) rfl ?_|refine K1.C 99 [(0,_),(20,_),(21,_),(22,_),(23,_),(24,_),(30,_),(31,_),(32,_),(33,_),(34,_)] (hcut) rfl ?_|refine qM.mk (by decide) ?_|refine K1.z ?_|refine K1.y (λ _=>?_) (λ _=>?_)|fail)
    all_goals(conv=>whnf)
    refine⟨[(50,40)],rfl,rfl, ?_,rfl,rfl,aP⟩;repeat' first|exact trivial|refine⟨aY rfl, ?_⟩
 ·rw[if_neg he]at hp;simp only[Prod.mk.injEq]at hp;obtain⟨rfl,rfl,rfl⟩:=hp;obtain rfl:=herr he;clear herr hcut hln;obtain⟨ps,dS⟩:=y;refine gX.five (C:=λ y=>au Tryz.prog 91 [(0,rH c.w (y.ps.getD r default).cuts (.own 9)),(9,bU (y.ps.getD r default).l)] [.box 0 0,.sl 12 l.length true (jH l)] (.v (.int .i64 e)) [(0,rH c.w (y.ps.getD r default).cuts (.own 8)),(8,bU (y.ps.getD r default).l)]->au Tryz.prog 52 (oP c y) [.box 0 0,.v (.int .i64 (r:Int)),.sl 12 l.length true (jH l)] (.bJ [.v (.int .i64 0),.v (.int .i64 e)]) (rpR r c y)) ⟨ps,dS⟩ p5 a5 ?_ hput;clear hput p5 a5;intro s0 s1 s2 s3 s4 a0 a1 a2 a3 a4 hput;rcases zn (show r<5 by omega)with rfl|rfl|rfl|rfl|rfl;all_goals
   dsimp only[rpR,oP,AU,FY,qQ,rH,bU,jM,gX.s,List.cons_append,List.nil_append]at hput⊢;refine K1.M 0x200800207c7 Tryz.func52 50 ?_;repeat' ((conv=>whnf);first|refine K1.u ?_|refine K1.I 0x13 Tryz.func90 ?_|refine lD.yes (by decide) ?_|refine lD.no (by decide) ?_|refine K1.z ?_|refine K1.y (λ _=>?_) (λ _=>?_)|fail)
   conv=>whnf
   refine aK.cnt 9 l.length ?_ ?_
   ·refine iw.mk' [] _ _ _ rfl ?_ ?_ rfl;all_goals repeat' first|exact trivial|refine⟨aP, ?_⟩|refine⟨aY rfl, ?_⟩
   rintro⟨j,hj⟩;dsimp only;by_cases hjl:j<l.length
   ·have hq:=hall j hjl;rw[show j=(j:Int).toNat by omega]at hq;clear hput hall;repeat' ((conv=>whnf);first|refine K1.u ?_|refine K1.z ?_|refine K1.y (λ _=>?_) (λ _=>?_)|fail)
    all_goals(conv=>whnf)
    refine⟨⟨j+1,hjl⟩,[],iw.mk' [] _ _ _ rfl ?_ ?_ rfl,by show l.length-(j+1)<l.length-j;omega⟩;all_goals repeat' first|exact trivial|refine⟨aP, ?_⟩|refine⟨aY rfl, ?_⟩
   ·clear hall;repeat' ((conv=>whnf);first|refine K1.u ?_|refine K1.C 8 [(0,_),(9,_)] (hput) rfl ?_|refine qM.mk (by decide) ?_|refine K1.z ?_|refine K1.y (λ _=>?_) (λ _=>?_)|fail)
    all_goals(conv=>whnf)
    refine⟨[(50,40)],rfl,rfl, ?_,rfl,rfl,aP⟩;repeat' first|exact trivial|refine⟨aY rfl, ?_⟩
def atN(n:Nat)(f:Nat->Int):dD:=⟨if 0<n then f 0 else 0,if 1<n then f 1 else 0,if 2<n then f 2 else 0,if 3<n then f 3 else 0,if 4<n then f 4 else 0⟩
def pq(n:Nat)(y:gX):Sit:=⟨true,atN n λ i=>(y.s i).cuts,atN n λ i=>((y.s i).l.length:Int),y.dS.getD 0 aJ,y.dS.getD 1 aJ,y.dS.getD 2 aJ,y.dS.getD 3 aJ,y.dS.getD 4 aJ⟩
theorem Ud(c:jv)(y:gX)(n:Nat)(h1:1<=n)(h5:n<=5)(hn:c.n=(n:Int))(p5:y.ps.length=5)(a5:y.dS.length=5):au Tryz.prog 29 (oP c y) [.box 0 0] (.agg ((pq n y).vs.map .v)) (oP c y):=by
 refine gX.five (C:=λ y=>au Tryz.prog 29 (oP c y) [.box 0 0] (.agg ((pq n y).vs.map .v)) (oP c y)) y p5 a5 ?_;intro s0 s1 s2 s3 s4 a0 a1 a2 a3 a4;obtain⟨cn,w,q,h,l,p⟩:=c;dsimp only at hn;subst hn;rcases(show n=1\/n=2\/n=3\/n=4\/n=5 by omega)with rfl|rfl|rfl|rfl|rfl;all_goals
  dsimp only[oP,AU,FY,qQ,rH,bU,jM,gX.s,pq,List.cons_append,List.nil_append];refine K1.M 0x1001d Tryz.func29 50 ?_;repeat' ((conv=>whnf);first|refine K1.u ?_|refine aK.rounds 6 ?_|refine qM.mk (by decide) ?_|refine lD.yes (by decide) ?_|refine lD.no (by decide) ?_|refine K1.z ?_|refine K1.y (λ _=>?_) (λ _=>?_)|fail)
  all_goals(conv=>whnf)
  refine⟨[],rfl,rfl, ?_,rfl,rfl,aP⟩;repeat' first|exact trivial|refine⟨aY rfl, ?_⟩
theorem qH(a b:dD):aC Tryz.prog 56 [.agg (jM a),.agg (jM b)] (.agg (jM (a.jn b))) []:=by
 dsimp only[jM,dD.jn];refine K1.E 0x27f Tryz.func56 ?_;repeat' ((conv=>whnf);first|refine K1.u ?_|refine aK.rounds 6 ?_|refine aO.dW ?_|refine K1.o (id:=5) (nN [0,1,2,3,4,5,6,7,8] [(9,some [7,6,3])]) ?_|refine K1.z ?_|refine K1.y (λ _=>?_) (λ _=>?_)|fail)
 conv=>whnf
 exact aW.mk (aP)
theorem tY{s:Nat}{y:gX}(p5:y.ps.length=5)(a5:y.dS.length=5):(lq n y s).ps.length=5/\(lq n y s).dS.length=5:=⟨by show(dL _ _ _).length=5;rw[dI];exact p5,a5⟩
theorem XF(c:jv)(y:gX)(n r:Nat)(hr:r<n)(h5:n<=5)(hn:c.n=(n:Int))(p5:y.ps.length=5)(a5:y.dS.length=5)(k:dD):au Tryz.prog 55 (oP c y) [.box 0 0,.v (.int .i64 (r:Int)),.agg (jM k)] (.v (.int .i64 0)) (oP c (rG n y r k)):=by
 refine gX.five (C:=λ y=>au Tryz.prog 55 (oP c y) [.box 0 0,.v (.int .i64 (r:Int)),.agg (jM k)] (.v (.int .i64 0)) (oP c (rG n y r k))) y p5 a5 ?_;clear p5 a5;intro s0 s1 s2 s3 s4 a0 a1 a2 a3 a4;have q0:(⟨[s0,s1,s2,s3,s4],dL (λ t=>t.jn k) r [a0,a1,a2,a3,a4]⟩:gX).ps.length=5/\(⟨[s0,s1,s2,s3,s4],dL (λ t=>t.jn k) r [a0,a1,a2,a3,a4]⟩:gX).dS.length=5:=⟨rfl,by show(dL _ _ _).length=5;rw[dI];rfl⟩;have q1:=tY (n:=n) (s:=0) q0.1 q0.2;have q2:=tY (n:=n) (s:=1) q1.1 q1.2;have q3:=tY (n:=n) (s:=2) q2.1 q2.2;have q4:=tY (n:=n) (s:=3) q3.1 q3.2;have c0:=λ h=>tX c _ n 0 h h5 hn q0.1 q0.2;have c1:=λ h=>tX c _ n 1 h h5 hn q1.1 q1.2;have c2:=λ h=>tX c _ n 2 h h5 hn q2.1 q2.2;have c3:=λ h=>tX c _ n 3 h h5 hn q3.1 q3.2;have c4:=λ h=>tX c _ n 4 h h5 hn q4.1 q4.2;clear q0 q1 q2 q3 q4;have hj:=qH;obtain⟨cn,w,q,h,l,p⟩:=c;dsimp only at hn;subst hn;rcases(show n=1\/n=2\/n=3\/n=4\/n=5 by omega)with rfl|rfl|rfl|rfl|rfl;all_goals
  rcases zn (show r<5 by omega)with rfl|rfl|rfl|rfl|rfl<;>try omega
 all_goals
  dsimp only[oP,AU,FY,qQ,rH,bU,jM,List.cons_append,List.nil_append]at c0 c1 c2 c3 c4 hj⊢;refine K1.M 0x800008e7 Tryz.func55 50 ?_;repeat' ((conv=>whnf);first|refine K1.u ?_|refine K1.P1 (hj _ _) ?_|refine K1.C 99 [(0,_),(20,_),(21,_),(22,_),(23,_),(24,_),(30,_),(31,_),(32,_),(33,_),(34,_)] (c0 (by decide)) rfl ?_ rfl rfl rfl|refine K1.C 99 [(0,_),(20,_),(21,_),(22,_),(23,_),(24,_),(30,_),(31,_),(32,_),(33,_),(34,_)] (c1 (by decide)) rfl ?_ rfl rfl rfl|refine K1.C 99 [(0,_),(20,_),(21,_),(22,_),(23,_),(24,_),(30,_),(31,_),(32,_),(33,_),(34,_)] (c2 (by decide)) rfl ?_ rfl rfl rfl|refine K1.C 99 [(0,_),(20,_),(21,_),(22,_),(23,_),(24,_),(30,_),(31,_),(32,_),(33,_),(34,_)] (c3 (by decide)) rfl ?_ rfl rfl rfl|refine K1.C 99 [(0,_),(20,_),(21,_),(22,_),(23,_),(24,_),(30,_),(31,_),(32,_),(33,_),(34,_)] (c4 (by decide)) rfl ?_ rfl rfl rfl|refine K1.I 0x13 Tryz.func90 ?_|refine aK.rounds 6 ?_|refine qM.mk (by decide) ?_|refine lD.yes (by decide) ?_|refine lD.no (by decide) ?_|refine K1.o (id:=3) (nN [0,1,2,3,4,5,6,7,8,10,11] [(9,some [8,7,4]),(12,none),(13,some [8,7,4,10])]) ?_|refine K1.z ?_|refine K1.y (λ _=>?_) (λ _=>?_)|fail)
  all_goals(conv=>whnf)
  refine⟨[],rfl,rfl, ?_,rfl,rfl,aP⟩;repeat' first|exact trivial|refine⟨aY rfl, ?_⟩
structure RE(n:Nat)(F:Nat->List AV)(l:List Ev):Prop where
 ln:n=l.length
 f:∀i,i<n->F i=jH l i
theorem RE.nil:RE 0 F []:=⟨rfl,λ i hi=>absurd hi (Nat.not_lt_zero i)⟩
theorem RE.app(h:RE n F l):RE (n+a.length) (kJ n F (jH a)) (l++a):=by
 refine⟨by rw[h.ln,List.length_append],λ i hi=>?_⟩;have e:=els_app (c:=Ev.cs) (l:=l) (l':=a) h.ln i;refine Eq.trans ?_ e;unfold kJ;cases hb:Nat.ble n i with
 |true=>rfl
 |false=>exact h.f i (by
   rcases Nat.lt_or_ge i n with h1|h1
   ·exact h1
   ·rw[Nat.ble_eq_true_of_le h1]at hb;cases hb)
theorem RE.oeq(h:RE n F l)(e:l=a):fP (.row 84 12 n true F) (bU a):=by
 subst e;exact fP.row h.ln λ i hi=>h.f i hi
theorem wQ{s:AQ}(h:FV s)(n:Int):(Rl s n).length<=1048576:=by
 have:=List.length_filter_le (gW n) (s.l.drop s.cuts.toNat);rw[List.length_drop]at this;have:=h.ln;show((s.l.drop s.cuts.toNat).filter (gW n)).length<=_;omega
theorem PU(c:jv)(y:gX)(n r:Nat)(hr:r<n)(hn:c.n=(n:Int))(hB:Dw n y)(k:dD):au Tryz.prog 54 (oP c y) [.box 0 0,.v (.int .i64 (r:Int)),.agg (jM k)] (.bJ [.own 1,.v (.int .i64 0)]) (oP c y++[(1,bU (pW r k 0 (y.ps.take n)))]):=by
 have h5:=hB.n5;refine gX.five (C:=λ y=>(∀s∈y.ps,FV s)->au Tryz.prog 54 (oP c y) [.box 0 0,.v (.int .i64 (r:Int)),.agg (jM k)] (.bJ [.own 1,.v (.int .i64 0)]) (oP c y++[(1,bU (pW r k 0 (y.ps.take n)))])) y hB.p5 hB.a5 ?_ hB.s;clear hB;intro s0 s1 s2 s3 s4 a0 a1 a2 a3 a4 hB;have b0:=hB s0 (by simp);have b1:=hB s1 (by simp);have b2:=hB s2 (by simp);have b3:=hB s3 (by simp);have b4:=hB s4 (by simp);clear hB;obtain⟨k0,k1,k2,k3,k4⟩:=k;have f0:=wQ b0 k0;have f1:=wQ b1 k1;have f2:=wQ b2 k2;have f3:=wQ b3 k3;have f4:=wQ b4 k4;obtain⟨cn,w,q,h,l,p⟩:=c;dsimp only at hn;subst hn;have c0:=tV w s0 k0 b0;have c1:=tV w s1 k1 b1;have c2:=tV w s2 k2 b2;have c3:=tV w s3 k3 b3;have c4:=tV w s4 k4 b4;clear b0 b1 b2 b3 b4;rcases(show n=1\/n=2\/n=3\/n=4\/n=5 by omega)with rfl|rfl|rfl|rfl|rfl;all_goals
  rcases zn (show r<5 by omega)with rfl|rfl|rfl|rfl|rfl<;>try omega
 all_goals
  dsimp only[oP,AU,FY,qQ,rH,bU,jM,gX.s,List.cons_append,List.nil_append]at c0 c1 c2 c3 c4⊢;refine K1.M 0x42023e7 Tryz.func54 50 ?_;repeat' ((conv=>whnf);first|refine K1.u ?_|refine K1.C 1 [(0,_),(9,_)] (c0) rfl ?_|refine K1.C 1 [(0,_),(9,_)] (c1) rfl ?_|refine K1.C 1 [(0,_),(9,_)] (c2) rfl ?_|refine K1.C 1 [(0,_),(9,_)] (c3) rfl ?_|refine K1.C 1 [(0,_),(9,_)] (c4) rfl ?_|refine K1.I 0x13 Tryz.func90 ?_|refine aK.rounds 6 ?_|refine qM.mk (by decide) ?_|refine lD.yes (by decide) ?_|refine lD.no (by decide) ?_|refine K1.o (id:=8) (nN [0,1,2,3,4,5,6,7,8,9] [(10,some [9,6,3]),(11,some [9,6,3]),(12,none)]) ?_|refine K1.z ?_|refine K1.y (λ _=>?_) (λ _=>?_)|fail)
  all_goals(conv=>whnf)
  first
   |refine⟨[(51,1)],rfl,rfl, ?_,rfl,rfl,aP⟩
   |refine⟨[(53,1)],rfl,rfl, ?_,rfl,rfl,aP⟩
   |refine⟨[(55,1)],rfl,rfl, ?_,rfl,rfl,aP⟩
   |refine⟨[(57,1)],rfl,rfl, ?_,rfl,rfl,aP⟩
   |refine⟨[(59,1)],rfl,rfl, ?_,rfl,rfl,aP⟩
  repeat' first
   |exact trivial
   |refine⟨aY rfl, ?_⟩
   |refine⟨⟨_,rfl,RE.oeq (by first|exact RE.nil|exact RE.app RE.nil|exact RE.app (RE.app RE.nil)|exact RE.app (RE.app (RE.app RE.nil))|exact RE.app (RE.app (RE.app (RE.app RE.nil)))) (by simp[pW,dD.get])⟩, ?_⟩
theorem Nu(k:Int)(h:k=1\/k=4):aC Tryz.prog 70 [.v (.int .i64 k)] (.bJ [.agg [.v (.bool true),.v (.bool false),.v (.bool false)],.v (.bool true)]) []:=by
 have:=kM k;rcases h with rfl|rfl<;>exact this
theorem Nv(k:Int)(h:k=2):aC Tryz.prog 70 [.v (.int .i64 k)] (.bJ [.agg [.v (.bool false),.v (.bool true),.v (.bool false)],.v (.bool true)]) []:=by
 have:=kM k;rcases h with rfl;exact this
theorem ql(k:Int)(h:k=3\/k=5):aC Tryz.prog 70 [.v (.int .i64 k)] (.bJ [.agg [.v (.bool false),.v (.bool false),.v (.bool true)],.v (.bool true)]) []:=by
 have:=kM k;rcases h with rfl|rfl<;>exact this
theorem Zw(b:List UInt8)(hl:b.length<=1000000000)(h:(dH b).2.2≠0\/b.length<(dH b).2.1+2):aC Tryz.prog 38 [.sl 1 b.length true (aG b)] (.bJ [(jl b).1.av,.v (.bool (jl b).2)]) []:=by
 have hs:=iW b (aS.bytes b) rfl;have hle:=wB b;rw[show jl b=(Gs,false) by unfold jl;rw[if_pos h]];obtain⟨⟨v,u,e⟩,hv⟩:∃p,dH b=p:=⟨_,rfl⟩;rw[hv]at hs h hle;dsimp only at hs h hle;refine K1.E 0x830100200000020007ed Tryz.func38 ?_;repeat' ((conv=>whnf);first|refine K1.u ?_|refine K1.P1 hs ?_|refine aO.dW ?_|refine K1.o (id:=4) (nN [0,1,2,3,4,5,6,7,8,9,10,11] [(12,some []),(13,some [10,9,7,4,3])]) ?_|refine K1.z ?_|refine K1.y (λ _=>?_) (λ _=>?_)|fail)
 all_goals(conv=>whnf)
 all_goals first
  |exact aW.mk (bI.fO _)
  |(exfalso;omega)
theorem Zx(b:List UInt8)(hl:b.length<=1000000000)(hv:dH b=(v,u,0))(hu:u+2<=b.length)(hk:((b.getD u default).toNat:Int)=1\/((b.getD u default).toNat:Int)=4):
  aC Tryz.prog 38 [.sl 1 b.length true (aG b)] (.bJ [(jl b).1.av,.v (.bool (jl b).2)]) []:=by
 have hs:=iW b (aS.bytes b) rfl;rw[hv]at hs;dsimp only at hs;have hr:jl b=Zc ((b.getD u default).toNat:Int) ((b.getD (u+1) default).toNat:Int) (b.drop (u+2)):=by
  unfold jl;rw[hv,if_neg (by dsimp only;omega)]
 rw[hr];unfold Zc;rw[if_pos hk];have he:=MK (n:=b.length-(u+2)) (b.drop (u+2)) (aS.drop (aS.bytes b) (u+2)) (by simp) (by simp;omega);cases hE:GH (b.drop (u+2))with
 |none=>
  rw[hE]at he;dsimp only[GI]at he;dsimp only[Rc.av,Rc.cs];refine K1.E 0x830100200000020007ed Tryz.func38 ?_;repeat' ((conv=>whnf);first|refine K1.u ?_|refine K1.P1 hs ?_|refine K1.P1 (Nu _ hk) ?_|refine K1.P1 he ?_|refine aK.jA 72 6 rfl ?_|refine aO.dW ?_|refine K1.o (id:=4) (nN [0,1,2,3,4,5,6,7,8,9,10,11] [(12,some []),(13,some [10,9,7,4,3])]) ?_|refine K1.z ?_|refine K1.y (λ _=>?_) (λ _=>?_)|fail)
  all_goals(conv=>whnf)
  exact aW.mk (bI.fO _)
 |some l=>
  rw[hE]at he;dsimp only[GI]at he;dsimp only[Rc.av,Rc.cs];refine K1.E 0x830100200000020007ed Tryz.func38 ?_;repeat' ((conv=>whnf);first|refine K1.u ?_|refine K1.P1 hs ?_|refine K1.P1 (Nu _ hk) ?_|refine K1.P1 he ?_|refine aK.jA 72 6 rfl ?_|refine aO.dW ?_|refine K1.o (id:=4) (nN [0,1,2,3,4,5,6,7,8,9,10,11] [(12,some []),(13,some [10,9,7,4,3])]) ?_|refine K1.z ?_|refine K1.y (λ _=>?_) (λ _=>?_)|fail)
  all_goals(conv=>whnf)
  exact aW.mk (aP)
theorem FZ(hv:dH b=(v,u,0))(hu:u+2<=b.length):jl b=Zc ((b.getD u default).toNat:Int) ((b.getD (u+1) default).toNat:Int) (b.drop (u+2)):=by
 unfold jl;rw[hv,if_neg (by dsimp only;omega)]
theorem Zy(b:List UInt8)(hl:b.length<=1000000000)(hv:dH b=(v,u,0))(hu:u+2<=b.length)(hk:((b.getD u default).toNat:Int)=2):
  aC Tryz.prog 38 [.sl 1 b.length true (aG b)] (.bJ [(jl b).1.av,.v (.bool (jl b).2)]) []:=by
 have hs:=iW b (aS.bytes b) rfl;rw[hv]at hs;dsimp only at hs;rw[FZ hv hu];unfold Zc;rw[if_neg (by omega),if_pos hk];cases hE:kN (b.drop (u+2))with
 |none=>
  have he:=qj (n:=b.length-(u+2)) (b.drop (u+2)) hE (aS.drop (aS.bytes b) (u+2)) (by simp);dsimp only[Rc.av,Rc.cs];refine K1.E 0x830100200000020007ed Tryz.func38 ?_;repeat' ((conv=>whnf);first|refine K1.u ?_|refine K1.P1 hs ?_|refine K1.P1 (Nv _ hk) ?_|refine K1.P1 he ?_|refine aK.jA 72 6 rfl ?_|refine aO.dW ?_|refine K1.o (id:=4) (nN [0,1,2,3,4,5,6,7,8,9,10,11] [(12,some []),(13,some [10,9,7,4,3])]) ?_|refine K1.z ?_|refine K1.y (λ _=>?_) (λ _=>?_)|fail)
  all_goals(conv=>whnf)
  exact aW.mk (bI.fO _)
 |some p=>
  obtain⟨m,k⟩:=p;have he:=qh (n:=b.length-(u+2)) (b.drop (u+2)) hE (aS.drop (aS.bytes b) (u+2)) (by simp);dsimp only[Rc.av,Rc.cs];refine K1.E 0x830100200000020007ed Tryz.func38 ?_;repeat' ((conv=>whnf);first|refine K1.u ?_|refine K1.P1 hs ?_|refine K1.P1 (Nv _ hk) ?_|refine K1.P1 he ?_|refine aK.jA 72 6 rfl ?_|refine aO.dW ?_|refine K1.o (id:=4) (nN [0,1,2,3,4,5,6,7,8,9,10,11] [(12,some []),(13,some [10,9,7,4,3])]) ?_|refine K1.z ?_|refine K1.y (λ _=>?_) (λ _=>?_)|fail)
  all_goals(conv=>whnf)
  exact aW.mk (bI.fO _)
theorem aa'{k:Int}(h:¬ (k=1\/k=4)/\ ¬k=2/\ ¬ (k=3\/k=5)):¬ (1<=k/\k<=5):=by omega
theorem Ue(b:List UInt8)(hl:b.length<=1000000000)(hv:dH b=(v,u,0))(hu:u+2<=b.length)(hk:¬ (((b.getD u default).toNat:Int)=1\/((b.getD u default).toNat:Int)=4)/\ ¬ ((b.getD u default).toNat:Int)=2/\ ¬ (((b.getD u default).toNat:Int)=3\/((b.getD u default).toNat:Int)=5)):
  aC Tryz.prog 38 [.sl 1 b.length true (aG b)] (.bJ [(jl b).1.av,.v (.bool (jl b).2)]) []:=by
 have hs:=iW b (aS.bytes b) rfl;rw[hv]at hs;dsimp only at hs;rw[FZ hv hu];unfold Zc;rw[if_neg hk.1,if_neg hk.2.1,if_neg hk.2.2];have hk5:=aa' hk;dsimp only[Rc.av,Rc.cs];refine K1.E 0x830100200000020007ed Tryz.func38 ?_;repeat' ((conv=>whnf);first|refine K1.u ?_|refine K1.P1 hs ?_|refine K1.P1 (L9 _ hk5) ?_|refine aK.jA 72 6 rfl ?_|refine aO.dW ?_|refine K1.o (id:=4) (nN [0,1,2,3,4,5,6,7,8,9,10,11] [(12,some []),(13,some [10,9,7,4,3])]) ?_|refine K1.z ?_|refine K1.y (λ _=>?_) (λ _=>?_)|fail)
 all_goals(conv=>whnf)
 exact aW.mk (bI.fO _)
theorem XG(b:List UInt8)(hl:b.length<=1000000000)(hv:dH b=(v,u,0))(hu:u+2<=b.length)(hk:((b.getD u default).toNat:Int)=3\/((b.getD u default).toNat:Int)=5):
  aC Tryz.prog 38 [.sl 1 b.length true (aG b)] (.bJ [(jl b).1.av,.v (.bool (jl b).2)]) []:=by
 have hs:=iW b (aS.bytes b) rfl;rw[hv]at hs;dsimp only at hs;rw[FZ hv hu];unfold Zc;rw[if_neg (by omega),if_neg (by omega),if_pos hk];have hF:=aS.drop (aS.bytes b) (u+2);have hn:b.length-(u+2)=(b.drop (u+2)).length:=by simp
 cases g0:kN (b.drop (u+2))with
 |none=>
  have e0:=qj (n:=b.length-(u+2)) (b.drop (u+2)) g0 hF hn;have hr:zB (b.drop (u+2))=(⟨0,0,0,0,0⟩,false):=by unfold zB;simp only[g0]
  rw[hr];dsimp only[Rc.av,Rc.cs];refine K1.E 0x830100200000020007ed Tryz.func38 ?_;repeat' ((conv=>whnf);first|refine K1.u ?_|refine K1.P1 hs ?_|refine K1.P1 (ql _ hk) ?_|refine K1.P1 e0 ?_|refine aK.jA 72 6 rfl ?_|refine aO.dW ?_|refine K1.o (id:=4) (nN [0,1,2,3,4,5,6,7,8,9,10,11] [(12,some []),(13,some [10,9,7,4,3])]) ?_|refine K1.z ?_|refine K1.y (λ _=>?_) (λ _=>?_)|fail)
  all_goals(conv=>whnf)
  exact aW.mk (bI.fO _)
 |some p0=>
  obtain⟨m0,k0⟩:=p0;have l0:=uO g0;rw[<-hn]at l0;have e0:=qh (n:=b.length-(u+2)) (b.drop (u+2)) g0 hF hn;have n1:(b.length-(u+2)-k0)=((b.drop (u+2)).drop k0).length:=by simp;omega
  cases g1:kN ((b.drop (u+2)).drop k0)with
  |none=>
   have e1:=qj (n:=(b.length-(u+2)-k0)) ((b.drop (u+2)).drop k0) g1 (aS.drop hF k0) (by simp;omega);have hr:zB (b.drop (u+2))=(⟨m0,0,0,0,0⟩,false):=by unfold zB;simp only[g0,g1]
   rw[hr];dsimp only[Rc.av,Rc.cs];refine K1.E 0x830100200000020007ed Tryz.func38 ?_;repeat' ((conv=>whnf);first|refine K1.u ?_|refine K1.P1 hs ?_|refine K1.P1 (ql _ hk) ?_|refine K1.P1 e0 ?_|refine K1.P1 e1 ?_|refine aK.jA 72 6 rfl ?_|refine aO.dW ?_|refine K1.o (id:=4) (nN [0,1,2,3,4,5,6,7,8,9,10,11] [(12,some []),(13,some [10,9,7,4,3])]) ?_|refine K1.z ?_|refine K1.y (λ _=>?_) (λ _=>?_)|fail)
   all_goals(conv=>whnf)
   exact aW.mk (bI.fO _)
  |some p1=>
   obtain⟨m1,k1⟩:=p1;have l1:=uO g1;rw[<-n1]at l1;have e1:=qh (n:=(b.length-(u+2)-k0)) ((b.drop (u+2)).drop k0) g1 (aS.drop hF k0) (by simp;omega);have n2:((b.length-(u+2)-k0)-k1)=(((b.drop (u+2)).drop k0).drop k1).length:=by simp;omega
   cases g2:kN (((b.drop (u+2)).drop k0).drop k1)with
   |none=>
    have e2:=qj (n:=((b.length-(u+2)-k0)-k1)) (((b.drop (u+2)).drop k0).drop k1) g2 (aS.drop (aS.drop hF k0) k1) (by simp;omega);have hr:zB (b.drop (u+2))=(⟨m0,m1,0,0,0⟩,false):=by unfold zB;simp only[g0,g1,g2]
    rw[hr];dsimp only[Rc.av,Rc.cs];refine K1.E 0x830100200000020007ed Tryz.func38 ?_;repeat' ((conv=>whnf);first|refine K1.u ?_|refine K1.P1 hs ?_|refine K1.P1 (ql _ hk) ?_|refine K1.P1 e0 ?_|refine K1.P1 e1 ?_|refine K1.P1 e2 ?_|refine aK.jA 72 6 rfl ?_|refine aO.dW ?_|refine K1.o (id:=4) (nN [0,1,2,3,4,5,6,7,8,9,10,11] [(12,some []),(13,some [10,9,7,4,3])]) ?_|refine K1.z ?_|refine K1.y (λ _=>?_) (λ _=>?_)|fail)
    all_goals(conv=>whnf)
    exact aW.mk (bI.fO _)
   |some p2=>
    obtain⟨m2,k2⟩:=p2;have l2:=uO g2;rw[<-n2]at l2;have e2:=qh (n:=((b.length-(u+2)-k0)-k1)) (((b.drop (u+2)).drop k0).drop k1) g2 (aS.drop (aS.drop hF k0) k1) (by simp;omega);have n3:(((b.length-(u+2)-k0)-k1)-k2)=((((b.drop (u+2)).drop k0).drop k1).drop k2).length:=by simp;omega
    cases g3:kN ((((b.drop (u+2)).drop k0).drop k1).drop k2)with
    |none=>
     have e3:=qj (n:=(((b.length-(u+2)-k0)-k1)-k2)) ((((b.drop (u+2)).drop k0).drop k1).drop k2) g3 (aS.drop (aS.drop (aS.drop hF k0) k1) k2) (by simp;omega);have hr:zB (b.drop (u+2))=(⟨m0,m1,m2,0,0⟩,false):=by unfold zB;simp only[g0,g1,g2,g3]
     rw[hr];dsimp only[Rc.av,Rc.cs];refine K1.E 0x830100200000020007ed Tryz.func38 ?_;repeat' ((conv=>whnf);first|refine K1.u ?_|refine K1.P1 hs ?_|refine K1.P1 (ql _ hk) ?_|refine K1.P1 e0 ?_|refine K1.P1 e1 ?_|refine K1.P1 e2 ?_|refine K1.P1 e3 ?_|refine aK.jA 72 6 rfl ?_|refine aO.dW ?_|refine K1.o (id:=4) (nN [0,1,2,3,4,5,6,7,8,9,10,11] [(12,some []),(13,some [10,9,7,4,3])]) ?_|refine K1.z ?_|refine K1.y (λ _=>?_) (λ _=>?_)|fail)
     all_goals(conv=>whnf)
     exact aW.mk (bI.fO _)
    |some p3=>
     obtain⟨m3,k3⟩:=p3;have l3:=uO g3;rw[<-n3]at l3;have e3:=qh (n:=(((b.length-(u+2)-k0)-k1)-k2)) ((((b.drop (u+2)).drop k0).drop k1).drop k2) g3 (aS.drop (aS.drop (aS.drop hF k0) k1) k2) (by simp;omega);have n4:((((b.length-(u+2)-k0)-k1)-k2)-k3)=(((((b.drop (u+2)).drop k0).drop k1).drop k2).drop k3).length:=by simp;omega
     cases g4:kN (((((b.drop (u+2)).drop k0).drop k1).drop k2).drop k3)with
     |none=>
      have e4:=qj (n:=((((b.length-(u+2)-k0)-k1)-k2)-k3)) (((((b.drop (u+2)).drop k0).drop k1).drop k2).drop k3) g4 (aS.drop (aS.drop (aS.drop (aS.drop hF k0) k1) k2) k3) (by simp;omega);have hr:zB (b.drop (u+2))=(⟨m0,m1,m2,m3,0⟩,false):=by unfold zB;simp only[g0,g1,g2,g3,g4]
      rw[hr];dsimp only[Rc.av,Rc.cs];refine K1.E 0x830100200000020007ed Tryz.func38 ?_;repeat' ((conv=>whnf);first|refine K1.u ?_|refine K1.P1 hs ?_|refine K1.P1 (ql _ hk) ?_|refine K1.P1 e0 ?_|refine K1.P1 e1 ?_|refine K1.P1 e2 ?_|refine K1.P1 e3 ?_|refine K1.P1 e4 ?_|refine aK.jA 72 6 rfl ?_|refine aO.dW ?_|refine K1.o (id:=4) (nN [0,1,2,3,4,5,6,7,8,9,10,11] [(12,some []),(13,some [10,9,7,4,3])]) ?_|refine K1.z ?_|refine K1.y (λ _=>?_) (λ _=>?_)|fail)
      all_goals(conv=>whnf)
      exact aW.mk (bI.fO _)
     |some p4=>
      obtain⟨m4,k4⟩:=p4;have l4:=uO g4;rw[<-n4]at l4;have e4:=qh (n:=((((b.length-(u+2)-k0)-k1)-k2)-k3)) (((((b.drop (u+2)).drop k0).drop k1).drop k2).drop k3) g4 (aS.drop (aS.drop (aS.drop (aS.drop hF k0) k1) k2) k3) (by simp;omega);have hr:zB (b.drop (u+2))=(⟨m0,m1,m2,m3,m4⟩,true):=by unfold zB;simp only[g0,g1,g2,g3,g4]
      rw[hr];dsimp only[Rc.av,Rc.cs];refine K1.E 0x830100200000020007ed Tryz.func38 ?_;repeat' ((conv=>whnf);first|refine K1.u ?_|refine K1.P1 hs ?_|refine K1.P1 (ql _ hk) ?_|refine K1.P1 e0 ?_|refine K1.P1 e1 ?_|refine K1.P1 e2 ?_|refine K1.P1 e3 ?_|refine K1.P1 e4 ?_|refine aK.jA 72 6 rfl ?_|refine aO.dW ?_|refine K1.o (id:=4) (nN [0,1,2,3,4,5,6,7,8,9,10,11] [(12,some []),(13,some [10,9,7,4,3])]) ?_|refine K1.z ?_|refine K1.y (λ _=>?_) (λ _=>?_)|fail)
      all_goals(conv=>whnf)
      exact aW.mk (bI.fO _)
theorem abb(b:List UInt8)(hl:b.length<=1000000000):aC Tryz.prog 38 [.sl 1 b.length true (aG b)] (.bJ [(jl b).1.av,.v (.bool (jl b).2)]) []:=by
 by_cases h:(dH b).2.2≠0\/b.length<(dH b).2.1+2
 ·exact Zw b hl h
 ·obtain⟨⟨v,u,e⟩,hv⟩:∃p,dH b=p:=⟨_,rfl⟩;rw[hv]at h;dsimp only at h;obtain rfl:e=0:=by omega
  have hu:u+2<=b.length:=by omega
  by_cases h1:((b.getD u default).toNat:Int)=1\/((b.getD u default).toNat:Int)=4
  ·exact Zx b hl hv hu h1
  ·by_cases h2:((b.getD u default).toNat:Int)=2
   ·exact Zy b hl hv hu h2
   ·by_cases h3:((b.getD u default).toNat:Int)=3\/((b.getD u default).toNat:Int)=5
    ·exact XG b hl hv hu h3
    ·exact Ue b hl hv hu ⟨h1,h2,h3⟩
theorem Uf(b:List UInt8)(hF:aS F b)(hn:n=b.length)(hl:b.length<=1000000000):aC Tryz.prog 38 [.sl 1 n true F] (.bJ [(jl b).1.av,.v (.bool (jl b).2)]) []:=
 (abb b hl).args (Ch.lH hF hn .nil)
theorem JW(h:2048<n):aC Tryz.prog 14 [.sl 1 n true F] (.bJ [.agg (Pg 0 0 0 0 0 0 0 0 (.v (.slice none 0 0))),.v (.int .i64 5)]) []:=by
 refine K1.E 0x200080809fd Tryz.func14 ?_;repeat' ((conv=>whnf);first|refine K1.u ?_|refine aO.dW ?_|refine K1.z ?_|refine K1.y (λ _=>?_) (λ _=>?_)|fail)
 conv=>whnf
 exact aW.mk (aP)
theorem XH(h:GH b=some l):l.length<=255:=by
 rcases b with _|⟨c,t⟩
 ·cases h
 ·have h:(je t c.toNat).map (·.1)=some l:=h;cases h0:je t c.toNat with
  |none=>rw[h0]at h;cases h
  |some p=>
   obtain⟨l0,r0⟩:=p;rw[h0]at h;simp only[Option.map_some,Option.some.injEq]at h;subst h;have:=(nZ h0).1;have:=UInt8.toNat_lt c;omega
theorem Ug(b:List UInt8):(jl b).1.ev.length<=255:=by
 unfold jl;split
 ·simp[Gs]
 ·unfold Zc;split
  ·split
   ·simp
   ·rename_i l h;exact XH h
  ·split
   ·split<;>simp
   ·split<;>simp
theorem XI(l:List UInt8)(hl:l.length<=2048):aC Tryz.prog 14 [.sl 1 l.length true (aG l)] (.bJ [(gV l).1.av,.v (.int .i64 (gV l).2)]) []:=by
 unfold gV;rw[if_neg (by omega)];by_cases ho:nV l
 ·rw[if_pos ho];have hF:aS (aG l) (dF (inner l)):=by rw[<-qE ho];exact aS.bytes l
  have hil:(inner l).length<=l.length:=by unfold inner;rw[List.length_take];omega
  have hop:=(Ic 0 (inner l) hF (by rw[<-qE ho]) (by omega)).thaw;have hrd:=Uf (inner l) (aS.bytes _) rfl (by omega);have hrl:=Ug (inner l);generalize inner l=m at hop hrd hrl;obtain⟨⟨z,ok⟩,hz⟩:∃p,jl m=p:=⟨_,rfl⟩;rw[hz]at hrd hrl⊢;dsimp only at hrd hrl⊢;cases ok with
  |false=>
   rw[if_neg (by simp)];refine K1.E 0x200080809fd Tryz.func14 ?_;repeat' ((conv=>whnf);first|refine K1.u ?_|refine K1.P1 hop ?_|refine K1.P1 hrd ?_|refine aO.dW ?_|refine K1.z ?_|refine K1.y (λ _=>?_) (λ _=>?_)|fail)
   all_goals(conv=>whnf)
   all_goals exact aW.mk (bI.fO _)
  |true=>
   cases hm:iC z with
   |false=>
    rw[if_neg (by simp)];have hp:=WR z (by omega) hm;refine K1.E 0x200080809fd Tryz.func14 ?_;repeat' ((conv=>whnf);first|refine K1.u ?_|refine K1.P1 hop ?_|refine K1.P1 hrd ?_|refine K1.P1 hp ?_|refine aO.dW ?_|refine K1.z ?_|refine K1.y (λ _=>?_) (λ _=>?_)|fail)
    all_goals(conv=>whnf)
    all_goals exact aW.mk (bI.fO _)
   |true=>
    have hp:=(Ii 0 z hm).thaw;have he:=Fz (bg z) l (aS.bytes _) rfl (aS.bytes _) rfl;by_cases hb:bg z=l
    ·rw[if_pos ⟨rfl,rfl,hb⟩];rw[decide_eq_true hb]at he;generalize bg z=w at hp he;refine K1.E 0x200080809fd Tryz.func14 ?_;repeat' ((conv=>whnf);first|refine K1.u ?_|refine K1.P1 hop ?_|refine K1.P1 hrd ?_|refine K1.P1 hp ?_|refine K1.P1 he ?_|refine aO.dW ?_|refine K1.z ?_|refine K1.y (λ _=>?_) (λ _=>?_)|fail)
     all_goals(conv=>whnf)
     all_goals exact aW.mk (aP)
    ·rw[if_neg (λ h=>hb h.2.2)];rw[decide_eq_false hb]at he;generalize bg z=w at hp he;refine K1.E 0x200080809fd Tryz.func14 ?_;repeat' ((conv=>whnf);first|refine K1.u ?_|refine K1.P1 hop ?_|refine K1.P1 hrd ?_|refine K1.P1 hp ?_|refine K1.P1 he ?_|refine aO.dW ?_|refine K1.z ?_|refine K1.y (λ _=>?_) (λ _=>?_)|fail)
     all_goals(conv=>whnf)
     all_goals exact aW.mk (bI.fO _)
 ·rw[if_neg ho];have hop:=QT l ho (aS.bytes _) rfl (by omega);refine K1.E 0x200080809fd Tryz.func14 ?_;repeat' ((conv=>whnf);first|refine K1.u ?_|refine K1.P1 hop ?_|refine aO.dW ?_|refine K1.z ?_|refine K1.y (λ _=>?_) (λ _=>?_)|fail)
  all_goals(conv=>whnf)
  all_goals exact aW.mk (bI.fO _)
theorem F5(l:List UInt8){z:Rc}{x:Int}(ht:gV l=(z,x))(hF:aS F l)(hn:n=l.length):
  aC Tryz.prog 14 [.sl 1 n true F] (.bJ [z.av,.v (.int .i64 x)]) []:=by
 rcases Nat.lt_or_ge 2048 l.length with h|h
 ·unfold gV at ht;rw[if_pos h]at ht;simp only[Prod.mk.injEq]at ht;obtain⟨rfl,rfl⟩:=ht;exact(JW (n:=n) (F:=F) (by omega)).res (bI.fO _)
 ·have:=XI l h;rw[ht]at this;exact this.args (Ch.lH hF hn .nil)
section
variable{P:Program}{L:Lay}{N:Nat}{st:AS}
structure gU(P:Program)(L:Lay)(W:Walk)(N:Nat)(n:Nat)(ops:List Oper)(Q:AS->Prop)(f:Nat)(done:List Nat)(st:AS):Prop where
 mk::
 h:vZ P L W N n ops Q f done st
section
variable{W:Walk}{n:Nat}{ops:List Oper}{Q:AS->Prop}{f:Nat}{done:List Nat}
theorem gU.eq:gU P L W N n ops Q f done=vZ P L W N n ops Q f done:=funext λ _=>propext ⟨λ k=>k.h,.mk⟩
theorem gU.fin(h1:gK n done 0 ops=[])(h:Q st):gU P L W N n ops Q f done st:= .mk (by
 cases f with
 |zero=>simp only[vZ,h1];exact h
 |succ f=>simp only[vZ,h1];exact h)
theorem gU.pick(j:Nat)(o:Oper)(h2:yt L N st ops done (gK n done 0 ops)=some j)(h3:ops[j]? =some o)(h:sU P L W N ops o st (gU P L W N n ops Q f (j::done))):gU P L W N n ops Q (f+1) done st:= .mk (by
 rw[gU.eq]at h;cases h1:gK n done 0 ops with
 |nil=>rw[h1]at h2;cases h2
 |cons i r=>
  rw[h1]at h2;simp only[vZ,h1,h2,h3];exact h)
theorem gU.one(i:Nat)(o:Oper)(h1:gK n done 0 ops=[i])(h2:yt L N st ops done [i]=none)(h3:ops[i]? =some o)(h:sU P L W N ops o st (gU P L W N n ops Q f (i::done))):gU P L W N n ops Q (f+1) done st:= .mk (by
 rw[gU.eq]at h;simp only[vZ,h1,h2,SH,h3];exact h)
theorem gU.fork(i j:Nat)(o p:Oper)(h1:gK n done 0 ops=[i,j])(h2:yt L N st ops done [i,j]=none)(h3:ops[i]? =some o)(h4:ops[j]? =some p)
  (h:sU P L W N ops o st (gU P L W N n ops Q f (i::done)))(k:sU P L W N ops p st (gU P L W N n ops Q f (j::done))):gU P L W N n ops Q (f+1) done st:= .mk (by
 rw[gU.eq]at h k;simp only[vZ,h1,h2,SH,h3,h4];exact⟨h,k⟩)
theorem gU.XJ(i j q:Nat)(o p r:Oper)(h1:gK n done 0 ops=[i,j,q])(h2:yt L N st ops done [i,j,q]=none)(h3:ops[i]? =some o)(h4:ops[j]? =some p)(h5:ops[q]? =some r)
  (h:sU P L W N ops o st (gU P L W N n ops Q f (i::done)))(k:sU P L W N ops p st (gU P L W N n ops Q f (j::done)))(m:sU P L W N ops r st (gU P L W N n ops Q f (q::done))):gU P L W N n ops Q (f+1) done st:= .mk (by
 rw[gU.eq]at h k m;simp only[vZ,h1,h2,SH,h3,h4,h5];exact⟨h,k,m⟩)
end
end
end Go.Proofs.YtopfgjgdadnjeaaGreat
