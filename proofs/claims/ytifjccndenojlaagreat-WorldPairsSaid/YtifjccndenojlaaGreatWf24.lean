/-
  Contracts of the walk:RecP,RecF,Frm,FrmP,HbH.
-/
import Derived.Test.YtifjccndenojlaaGreatWf21
import Derived.Test.YtifjccndenojlaaGreatWf12
import Derived.Test.YtifjccndenojlaaGreatWf13
import Derived.Test.YtifjccndenojlaaGreatWf23
import Derived.Test.YtifjccndenojlaaGreatWf11
set_option maxHeartbeats 16000000
set_option maxRecDepth 100000
set_option linter.unusedVariables false
set_option linter.unusedSimpArgs false
namespace Go.Proofs.YtifjccndenojlaaGreat
open Go.RowKit
open Go.Proofs.Tryz
variable{e:Ev}{p:Ev->Bool}{k r:Int}{l:List Ev}{j:Nat}{F:Nat->List AV}{x:Rc}
theorem zW(h:∀e∈l,eH e=0):(gZ l).length<=44*l.length:=by
 induction l with
 |nil=>simp[gZ]
 |cons e l ih=>
  have h1:=uz (h e s_);have h2:=ih λ x hx=>h x (by simp[hx]);simp only[gZ,apa,aop,aoE]at*;omega
theorem Gx(h:j<l.length):gZ (l.take (j+1))=gZ (l.take j)++fC (l.getD j default):=by
 rw[apB,aom h,List.getD,aom h,gZ,aqv];simp[gZ]
theorem YU(h:l.all (λ e=>decide (eH e=0))=true)(hj:j<l.length):eH (l.getD j default)=0:=by
 rw[List.getD,aom hj];simpa using aoD.1 h l[j] (ao1 hj)
theorem uH(h:l.all (λ e=>decide (eH e=0))=true):∀e∈l,eH e=0:=λ e he=>by simpa using aoD.1 h e he
theorem iw{n:Int}(h:qE n=true):∃m:Nat,n=m/\m<=1048576:=by
 have:=fP h;exact⟨n.toNat,o_,o_⟩
structure anJ(x:Rc):Prop where
 k:1<=x.k/\x.k<=6
 r:0<=x.r/\x.r<5
 u:qE x.u=true
 l:x.ev.length<=4096
 c:qE x.c.c0=true/\qE x.c.c1=true/\qE x.c.c2=true/\qE x.c.c3=true/\qE x.c.c4=true
 u0:FD x.k=true\/x.u=0
 c0:FI x.k=true\/x.c=aW
 e0:FH x.k=true\/x.ev.length=0
 ev:x.ev.all (λ e=>decide (eH e=0))=true
 one:x.k≠1\/x.ev.length=1
theorem xQ(h:iH x=true):anJ x:=by
 simp only[iH,aon,apf,decide_eq_true_eq,vZ,Pv,rcK]at h;obtain⟨⟨⟨⟨⟨⟨⟨⟨⟨⟨h1,h2⟩,h3⟩,h4⟩,h5⟩,⟨⟨⟨h6,h7⟩,h8⟩,h9⟩,h10⟩,h11⟩,h12⟩,h13⟩,h14⟩,h15⟩:=h;exact⟨h1,⟨h2,h3⟩,h4,h5,⟨h6,h7,h8,h9,h10⟩,h11,h12,h13,h14,h15⟩
theorem SS(d:Nat)(x:Rc)(h:iH x=true)(hk:x.k=1\/x.k=2\/x.k=5):
  aH prog 86 [x.av] (.bI [.own d,.v (.int .i64 0)]) [(d,.row 5 1 (aB x).length true (aO (aB x)))]:=by
 have m:=xQ h;have hm:=tC x (by have:=m.l;omega);rw[h]at hm;obtain⟨k,r,u,c,ev⟩:=x;obtain⟨mk,mr,mu,ml,mc,E5,BO,me0,P6,m1⟩:=m;dsimp only at mk mr mu ml mc E5 BO me0 P6 m1 hk;have hat:∀j,j<ev.length->eH (ev.getD j default)=0:=λ j hj=>YU P6 hj;have h44:∀j,j<ev.length->(fC (ev.getD j default)).length<=44:=λ j hj=>uz (hat j hj);have hlen:∀j,(gZ (ev.take j)).length<=44*j:=λ j=>ao7 (zW λ e he=>uH P6 e (apn he)) (Nat.mul_le_mul_left _ (by rw[aou];omega));have hv:(aN ev.length).length<=10:=dF 9 _;obtain⟨kk,hkk⟩:∃kk,kk=k:=⟨_,rfl⟩;have hmore:∀j,([byteOf' kk,byteOf' r]++aN ev.length++gZ (ev.take j)).length=2+(aN ev.length).length+(gZ (ev.take j)).length:=λ j=>by simp;omega
 rcases hk with rfl|rfl|rfl;all_goals
  dsimp only[Rc.av,Rc.cs]at hm⊢;refine K1.E 0x403c0203a040004f57f func86 ?_;repeat' ((conv=>whnf);first|refine K1.u ?_|refine K1.P1 hm ?_|refine K1.P1 (gy _) ?_|refine K1.F1 (dN _ ev.length o_) ?_ rfl rfl|fail)
  conv=>whnf
  refine aI.mk {j:Nat//j<=ev.length} (λ j=>⟨[(1,.box 0 0),(8,.own 90),(62,.sl 12 ev.length true (dI ev)),(63,.v (.int .i64 (ev.length:Int))),(64,.v (.int .i64 (j.1:Int)))],
   [(90,.row 5 1 ([byteOf' kk,byteOf' r]++aN ev.length++gZ (ev.take j.1)).length true (aO ([byteOf' kk,byteOf' r]++aN ev.length++gZ (ev.take j.1))))],[],91⟩) (λ j=>ev.length-j.1) ⟨0,aoB _⟩ _
   (dO.mk' [(3,90)] _ _ _ rfl ⟨au,au,au,au,aY.int rfl,trivial⟩ ⟨⟨_,rfl,dK.wS (bG.app (bG.two o_ o_ o_ o_) (bG.bytes _) rfl) (by simp<;>omega) (by simp[gZ,hkk])⟩,trivial⟩ rfl) ?_
  rintro⟨j,hj⟩;dsimp only;have amI:=h44 (j:Int).toNat;have hmj:=hmore j;have hlj:=hlen j;have hsl:=eU ([byteOf' kk,byteOf' r]++aN ev.length++gZ (ev.take j));have hvs:(aN (dZ ([byteOf' kk,byteOf' r]++aN ev.length++gZ (ev.take j))).length).length<=10:=dF 9 _;repeat' ((conv=>whnf);first|refine K1.u ?_|refine K1.F1 (xM _ (ev.getD (j:Int).toNat default) (hat _ o_)) ?_ rfl rfl|refine K1.F1 (ql _ ([byteOf' kk,byteOf' r]++aN ev.length++gZ (ev.take j)) (bG.bytes _) rfl o_) ?_ rfl rfl|refine K1.F1 (dN _ (dZ ([byteOf' kk,byteOf' r]++aN ev.length++gZ (ev.take j))).length (by rw[eU];omega)) ?_ rfl rfl|refine K1.y (λ _=>?_) (λ _=>?_)|fail)
  ·conv=>whnf
   refine⟨⟨j+1,o_⟩,_,dO.mk' [(93,90)] _ _ _ rfl ⟨au,au,au,au,aY.int rfl,trivial⟩ ⟨⟨_,rfl,dK.wS (bG.app (bG.bytes _) (bG.bytes _) rfl) aop.symm ?_⟩,trivial⟩ rfl,by show ev.length-(j+1)<ev.length-j;omega⟩;rw[Gx o_,aoL];rfl
  ·conv=>whnf
   refine aU.uV d rfl rfl ?_ (au);refine dK.wS (bG.app (bG.bytes _) (bG.bytes _) rfl) aop.symm ?_;rw[aoF o_];unfold aB fE;simp[hkk,FD,FH,FI,byteOf,byteOf']
theorem agk(d:Nat)(x:Rc)(h:iH x=true)(hk:x.k=4):
  aH prog 86 [x.av] (.bI [.own d,.v (.int .i64 0)]) [(d,.row 5 1 (aB x).length true (aO (aB x)))]:=by
 have m:=xQ h;have hm:=tC x (by have:=m.l;omega);rw[h]at hm;obtain⟨k,r,u,c,ev⟩:=x;obtain⟨mk,mr,mu,ml,mc,E5,BO,me0,P6,m1⟩:=m;dsimp only at mk mr mu ml mc E5 BO me0 P6 m1 hk;have hat:∀j,j<ev.length->eH (ev.getD j default)=0:=λ j hj=>YU P6 hj;have h44:∀j,j<ev.length->(fC (ev.getD j default)).length<=44:=λ j hj=>uz (hat j hj);have hlen:∀j,(gZ (ev.take j)).length<=44*j:=λ j=>ao7 (zW λ e he=>uH P6 e (apn he)) (Nat.mul_le_mul_left _ (by rw[aou];omega));have hv:(aN ev.length).length<=10:=dF 9 _;obtain⟨kk,hkk⟩:∃kk,kk=k:=⟨_,rfl⟩;obtain⟨un,rfl,hun⟩:=iw mu;have hvu:(aN un).length<=10:=dF 9 _;have hmore:∀j,([byteOf' kk,byteOf' r]++aN un++aN ev.length++gZ (ev.take j)).length=2+(aN un).length+(aN ev.length).length+(gZ (ev.take j)).length:=λ j=>by simp;omega
 subst hk;all_goals
  dsimp only[Rc.av,Rc.cs]at hm⊢;refine K1.E 0x403c0203a040004f57f func86 ?_;repeat' ((conv=>whnf);first|refine K1.u ?_|refine K1.P1 hm ?_|refine K1.P1 (gy _) ?_|refine K1.F1 (dN _ un o_) ?_ rfl rfl|refine K1.F1 (dN _ ev.length o_) ?_ rfl rfl|fail)
  conv=>whnf
  refine aI.mk {j:Nat//j<=ev.length} (λ j=>⟨[(1,.box 0 0),(8,.own 90),(62,.sl 12 ev.length true (dI ev)),(63,.v (.int .i64 (ev.length:Int))),(64,.v (.int .i64 (j.1:Int)))],
   [(90,.row 5 1 ([byteOf' kk,byteOf' r]++aN un++aN ev.length++gZ (ev.take j.1)).length true (aO ([byteOf' kk,byteOf' r]++aN un++aN ev.length++gZ (ev.take j.1))))],[],91⟩) (λ j=>ev.length-j.1) ⟨0,aoB _⟩ _
   (dO.mk' [(5,90)] _ _ _ rfl ⟨au,au,au,au,aY.int rfl,trivial⟩ ⟨⟨_,rfl,dK.wS (bG.app (bG.app (bG.two o_ o_ o_ o_) (bG.bytes _) rfl) (bG.bytes _) (by simp<;>omega)) (by simp<;>omega) (by simp[gZ,hkk])⟩,trivial⟩ rfl) ?_
  rintro⟨j,hj⟩;dsimp only;have amI:=h44 (j:Int).toNat;have hmj:=hmore j;have hlj:=hlen j;have hsl:=eU ([byteOf' kk,byteOf' r]++aN un++aN ev.length++gZ (ev.take j));have hvs:(aN (dZ ([byteOf' kk,byteOf' r]++aN un++aN ev.length++gZ (ev.take j))).length).length<=10:=dF 9 _;repeat' ((conv=>whnf);first|refine K1.u ?_|refine K1.F1 (xM _ (ev.getD (j:Int).toNat default) (hat _ o_)) ?_ rfl rfl|refine K1.F1 (ql _ ([byteOf' kk,byteOf' r]++aN un++aN ev.length++gZ (ev.take j)) (bG.bytes _) rfl o_) ?_ rfl rfl|refine K1.F1 (dN _ (dZ ([byteOf' kk,byteOf' r]++aN un++aN ev.length++gZ (ev.take j))).length (by rw[eU];omega)) ?_ rfl rfl|refine K1.y (λ _=>?_) (λ _=>?_)|fail)
  ·conv=>whnf
   refine⟨⟨j+1,o_⟩,_,dO.mk' [(93,90)] _ _ _ rfl ⟨au,au,au,au,aY.int rfl,trivial⟩ ⟨⟨_,rfl,dK.wS (bG.app (bG.bytes _) (bG.bytes _) rfl) aop.symm ?_⟩,trivial⟩ rfl,by show ev.length-(j+1)<ev.length-j;omega⟩;rw[Gx o_,aoL];rfl
  ·conv=>whnf
   refine aU.uV d rfl rfl ?_ (au);refine dK.wS (bG.app (bG.bytes _) (bG.bytes _) rfl) aop.symm ?_;rw[aoF o_];unfold aB fE;simp[hkk,FD,FH,FI,byteOf,byteOf',ig]
theorem ai2(d:Nat)(x:Rc)(h:iH x=true)(hk:x.k=3):
  aH prog 86 [x.av] (.bI [.own d,.v (.int .i64 0)]) [(d,.row 5 1 (aB x).length true (aO (aB x)))]:=by
 have m:=xQ h;have hm:=tC x (by have:=m.l;omega);rw[h]at hm;obtain⟨k,r,u,c,ev⟩:=x;obtain⟨mk,mr,mu,ml,mc,E5,BO,me0,P6,m1⟩:=m;dsimp only at mk mr mu ml mc E5 BO me0 P6 m1 hk;obtain⟨kk,hkk⟩:∃kk,kk=k:=⟨_,rfl⟩;obtain⟨un,rfl,hun⟩:=iw mu;have hvu:(aN un).length<=10:=dF 9 _;have hmore:([byteOf' kk,byteOf' r]++aN un).length=2+(aN un).length:=by simp;omega
 have hsl:=eU ([byteOf' kk,byteOf' r]++aN un);have hvs:(aN (dZ ([byteOf' kk,byteOf' r]++aN un)).length).length<=10:=dF 9 _;subst hk;dsimp only[Rc.av,Rc.cs]at hm⊢;refine K1.E 0x403c0203a040004f57f func86 ?_;repeat' ((conv=>whnf);first|refine K1.u ?_|refine K1.P1 hm ?_|refine K1.P1 (gy _) ?_|refine K1.F1 (dN _ un o_) ?_ rfl rfl|refine K1.F1 (ql _ ([byteOf' kk,byteOf' r]++aN un) (hkk▸bG.app (bG.two o_ o_ o_ o_) (bG.bytes _) rfl) (by simp<;>omega) o_) ?_ rfl rfl|refine K1.F1 (dN _ (dZ ([byteOf' kk,byteOf' r]++aN un)).length (by rw[eU];omega)) ?_ rfl rfl|fail)
 conv=>whnf
 refine aU.uV d rfl rfl ?_ (au);refine dK.wS (bG.app (bG.bytes _) (bG.bytes _) rfl) aop.symm ?_;unfold aB fE;simp[hkk,FD,FH,FI,byteOf,byteOf',ig]
theorem ai3(d:Nat)(x:Rc)(h:iH x=true)(hk:x.k=6):
  aH prog 86 [x.av] (.bI [.own d,.v (.int .i64 0)]) [(d,.row 5 1 (aB x).length true (aO (aB x)))]:=by
 have m:=xQ h;have hm:=tC x (by have:=m.l;omega);rw[h]at hm;obtain⟨k,r,u,⟨c0,c1,c2,c3,c4⟩,ev⟩:=x;obtain⟨mk,mr,mu,ml,⟨m0,m1,m2,m3,m4⟩,E5,BO,me0,P6,YV⟩:=m;dsimp only at mk mr mu ml m0 m1 m2 m3 m4 E5 BO me0 P6 YV hk;obtain⟨kk,hkk⟩:∃kk,kk=k:=⟨_,rfl⟩;obtain⟨c0,rfl,hc0⟩:=iw m0;obtain⟨c1,rfl,hc1⟩:=iw m1;obtain⟨c2,rfl,hc2⟩:=iw m2;obtain⟨c3,rfl,hc3⟩:=iw m3;obtain⟨c4,rfl,hc4⟩:=iw m4;have q0:(aN c0).length<=10:=dF 9 _;have q1:(aN c1).length<=10:=dF 9 _;have q2:(aN c2).length<=10:=dF 9 _;have q3:(aN c3).length<=10:=dF 9 _;have q4:(aN c4).length<=10:=dF 9 _;have hmore:([byteOf' kk,byteOf' r]++aN c0++aN c1++aN c2++aN c3++aN c4).length=2+(aN c0).length+(aN c1).length+(aN c2).length+(aN c3).length+(aN c4).length:=by simp;omega
 have hsl:=eU ([byteOf' kk,byteOf' r]++aN c0++aN c1++aN c2++aN c3++aN c4);have hvs:(aN (dZ ([byteOf' kk,byteOf' r]++aN c0++aN c1++aN c2++aN c3++aN c4)).length).length<=10:=dF 9 _;subst hk;dsimp only[Rc.av,Rc.cs]at hm⊢;refine K1.E 0x403c0203a040004f57f func86 ?_;repeat' ((conv=>whnf);first|refine K1.u ?_|refine K1.P1 hm ?_|refine K1.P1 (gy _) ?_|refine K1.F1 (dN _ c0 o_) ?_ rfl rfl|refine K1.F1 (dN _ c1 o_) ?_ rfl rfl|refine K1.F1 (dN _ c2 o_) ?_ rfl rfl|refine K1.F1 (dN _ c3 o_) ?_ rfl rfl|refine K1.F1 (dN _ c4 o_) ?_ rfl rfl|refine K1.F1 (ql _ ([byteOf' kk,byteOf' r]++aN c0++aN c1++aN c2++aN c3++aN c4) (hkk▸bG.app (bG.app (bG.app (bG.app (bG.app (bG.two o_ o_ o_ o_) (bG.bytes _) rfl) (bG.bytes _) (by simp<;>omega)) (bG.bytes _) (by simp<;>omega)) (bG.bytes _) (by simp<;>omega)) (bG.bytes _) (by simp<;>omega)) (by simp<;>omega) o_) ?_ rfl rfl|refine K1.F1 (dN _ (dZ ([byteOf' kk,byteOf' r]++aN c0++aN c1++aN c2++aN c3++aN c4)).length (by rw[eU];omega)) ?_ rfl rfl|refine aI.yP 44 6 rfl ?_|refine K1.z ?_|fail)
 conv=>whnf
 refine aU.uV d rfl rfl ?_ (au);refine dK.wS (bG.app (bG.bytes _) (bG.bytes _) rfl) aop.symm ?_;unfold aB fE;simp[hkk,FD,FH,FI,byteOf,byteOf',ig,ER]
theorem wI(d:Nat)(x:Rc)(h:iH x=true):
  aH prog 86 [x.av] (.bI [.own d,.v (.int .i64 0)]) [(d,.row 5 1 (aB x).length true (aO (aB x)))]:=by
 have m:=(xQ h).k;rcases(show x.k=1\/x.k=2\/x.k=3\/x.k=4\/x.k=5\/x.k=6 by omega)with hk|hk|hk|hk|hk|hk
 ·exact SS d x h (.inl hk)
 ·exact SS d x h (.inr (.inl hk))
 ·exact ai2 d x h hk
 ·exact agk d x h hk
 ·exact SS d x h (.inr (.inr hk))
 ·exact ai3 d x h hk
theorem C1.P7{X:CX}{a1 a2 a3 a4 a5 a6 a7 a8:AV}{f:Nat->List AV}{u:Value}(h:C1 X (.agg [a1,a2,a3,a4,a5,a6,a7,a8,.v (.slice none 0 0)]) u):C1 X (.agg [a1,a2,a3,a4,a5,a6,a7,a8,.sl 12 0 true f]) u:=by
 obtain⟨us,e,ha⟩:=h;obtain⟨v,hv,hc⟩:=ha.get (i:=8) rfl;have hc:v= .slice none 0 0:=hc;subst hc;refine⟨us,e, ?_⟩;have:=ha.set 8 (x:= .sl 12 0 true f) (u:= .slice none 0 0) (show C0 X (.sl 12 0 true f) (.slice none 0 0)from .sl 12 0 true f none 0 [] o_ (aoH _) (by simp[maxLen]) s_ (λ i hi=>absurd hi (aoM i)) (λ _ x hx=>by simp[flat]at hx) (λ i x u hx=>by simp[flat]at hx) (.inl rfl));have e2:us.set 8 (.slice none 0 0)=us:=by
  apply apV;intro i;rw[aqa];by_cases h8:8=i
  ·subst h8;rw[if_pos rfl,hv];have:8<us.length:=by
    rcases aoP 8 us.length with h|h
    ·exact h
    ·rw[aoW h]at hv;cases hv
   rw[if_pos this]
  ·rw[if_neg h8]
 rw[e2]at this;exact this
theorem aY.P7{a1 a2 a3 a4 a5 a6 a7 a8:AV}(f:Nat->List AV):aY (.agg [a1,a2,a3,a4,a5,a6,a7,a8,.v (.slice none 0 0)]) (.agg [a1,a2,a3,a4,a5,a6,a7,a8,.sl 12 0 true f]):=λ _ _ h=>C1.P7 h
def YW(k r u c0 c1 c2 c3 c4:Int)(e:AV):List AV:=[.v (.int .i64 k),.v (.int .i64 r),.v (.int .i64 u),.v (.int .i64 c0),.v (.int .i64 c1),.v (.int .i64 c2),.v (.int .i64 c3),.v (.int .i64 c4),e]
theorem uI(x:Rc):5<(aB x).length:=by
 have hv:=vH 9 (dZ (fE x)).length;have hb:2<=(fE x).length:=by simp[fE]<;>omega
 have hs:=eU (fE x);unfold aB;rw[aop];show 5<(fZ 9 (dZ (fE x)).length).length+_;omega
def IsE(F:Nat->List AV)(l:List Ev):Prop:= ∀i,i<l.length->F i=dI l i
theorem IsE.nil(F:Nat->List AV):IsE F []:=λ i h=>absurd h s_
theorem IsE.app{G:Nat->List AV}{l':List Ev}{n:Nat}(h:IsE F l)(h':IsE G l')(hn:n=l.length):IsE (kV n F G) (l++l'):=by
 intro i hi;rw[aop]at hi;show _=og Ev.cs (l++l') i;rw[<-els_app hn];unfold kV;cases hb:Nat.ble n i with
 |true=>
  have:=aox hb;exact h' (i-n) o_
 |false=>
  have:i<n:=Nat.lt_of_not_le λ h=>by rw[apm h]at hb;cases hb
  exact h i o_
theorem IsE.one(h:F 0=e.cs):IsE F [e]:=λ i hi=>by
 have:i=0:=by simpa using hi
 subst this;exact h
theorem Wu(k:Int)(h:¬ (1<=k/\k<=5)):aH prog 91 [.v (.int .i64 k)] (.bI [.agg [.v (.bool false),.v (.bool false),.v (.bool false)],.v (.bool false)]) []:=by
 have:=lX k;rw[show Hw k=false by simp[Hw];omega,show Hy k=false by simp[Hy];omega,show Hz k=false by simp[Hz];omega,show shK k=false by simp[shK];omega]at this;exact this
theorem SV(n:Int):aH prog 136 [.v (.int .i64 n)] (.v (.bool (qE n))) []:=by
 refine K1.E 0x5 func136 ?_;repeat' ((conv=>whnf);first|refine aU.fF ?_|refine K1.y (λ _=>?_) (λ _=>?_)|fail)
 all_goals(conv=>whnf)
 all_goals(refine bn.mk (aY.of ?_))
 all_goals simp[qE,jf, *]
def vw(k r:Int)(e:Ev):Bool:=decide (eH e=0)&&(decide (k≠1)||decide (e.r=r))
theorem agl(h:¬eH e=0):vw k r e=false:=by simp[vw,h]
theorem agm(hk:k=1)(h:¬e.r=r):vw k r e=false:=by simp[vw,h,hk]
theorem Gy(h:eH e=0)(hk:k≠1):vw k r e=true:=by simp[vw,h,hk]
theorem P8(h:eH e=0)(hr:e.r=r):vw k r e=true:=by simp[vw,h,hr]
def ku(x:Rc):Bool:=
 shK x.k&&decide (0<=x.r)&&decide (x.r<5)&&qE x.u&&(Hy x.k||decide (x.u=0))&&(Hz x.k||NK x.c)&&(Hw x.k||decide (x.ev.length=0))&&Pv x.c&&decide (x.ev.length<=20)&&(decide (x.k≠1)||decide (x.ev.length≠0))&&
  x.ev.all (vw x.k x.r)
theorem aaH(hj:j<l.length)(h:p (l.getD j default)=false):l.all p=false:=by
 rw[List.all_eq_false];refine⟨l[j],ao1 hj, ?_⟩;rw[List.getD,aom hj]at h;simpa using h
theorem agn(h:∀i,i<l.length->p (l.getD i default)=true):l.all p=true:=by
 rw[aoD];intro e he;obtain⟨i,hi,rfl⟩:=List.mem_iff_getElem.1 he;have:=h i hi;rw[List.getD,aom hi]at this;exact this
theorem xR(x:Rc)(hl:x.ev.length<=140737488355328):aH prog 90 [x.av] (.v (.bool (ku x))) []:=by
 obtain⟨k,r,u,⟨c0,c1,c2,c3,c4⟩,ev⟩:=x;dsimp only at hl;obtain⟨kk,hkk⟩:∃kk,kk=k:=⟨_,rfl⟩;rcases(show k=1\/k=2\/k=3\/k=4\/k=5\/ ¬ (1<=k/\k<=5) by omega)with rfl|rfl|rfl|rfl|rfl|hk;all_goals dsimp only[Rc.av,Rc.cs]
 all_goals
  refine K1.E 0x10000f400047400000010000015f func90 ?_;repeat' ((conv=>whnf);first|refine K1.u ?_|refine K1.P1 (Wu _ hk) ?_|refine K1.P1 (lX _) ?_|refine K1.P1 (SV _) ?_|refine aI.yP 65 6 rfl ?_|refine Ub.mk (aV.vs ⟨c0,c1,c2,c3,c4⟩) (aV.vs aW) (aV.mk c0 c1 c2 c3 c4=aW) rfl rfl (Gl _ _) ?_|refine aU.fF ?_|refine K1.z ?_|refine K1.y (λ _=>?_) (λ _=>?_)|fail)
  all_goals(conv=>whnf)
  all_goals first
   |refine bn.mk (aY.of ?_)
   |refine aI.mk {j:Nat//j<=ev.length/\ ∀i,i<j->vw kk r (ev.getD i default)=true} (λ j=>⟨[(1,.box 0 0),(88,.sl 12 ev.length true (dI ev)),(89,.v (.int .i64 (ev.length:Int))),(90,.v (.int .i64 (j.1:Int)))],
     [(0,.box 134 [.v (.int .i64 _),.v (.int .i64 r),.v (.int .i64 u),.v (.int .i64 c0),.v (.int .i64 c1),.v (.int .i64 c2),.v (.int .i64 c3),.v (.int .i64 c4),.sl 12 ev.length true (dI ev)])],[],4⟩) (λ j=>ev.length-j.1) ⟨0,aoB _,λ i h=>absurd h (aoM i)⟩ _
     (dO.mk' [] _ _ _ rfl ⟨au,au,au,aY.int rfl,trivial⟩ ⟨ay rfl,trivial⟩ rfl) ?_
  all_goals try(simp[ku,shK,Hy,Hw,Hz,Pv,vZ,-List.length_eq_zero_iff, *]<;>omega;done)
  all_goals(rintro⟨j,hj,hall⟩;dsimp only)
  all_goals repeat' ((conv=>whnf);first|refine K1.u ?_|refine K1.P1 (oN (ev.getD (j:Int).toNat default)) ?_|refine aU.fF ?_|refine K1.y (λ _=>?_) (λ _=>?_)|fail)
  all_goals first
   |(conv=>whnf
     refine⟨⟨j+1,o_,λ i hi=>?_⟩,_,dO.mk' [] _ _ _ rfl ⟨au,au,au,aY.int rfl,trivial⟩ ⟨ay rfl,trivial⟩ rfl,by show ev.length-(j+1)<ev.length-j;omega⟩;rcases aoP i j with h|h
     ·exact hall i h
     ·obtain rfl:i=j:=o_
      have h0:eH (ev.getD i default)=0:= ‹eH (ev.getD (i:Int).toNat default)=0›;first
       |exact Gy h0 o_
       |exact P8 h0 ‹(ev.getD (i:Int).toNat default).r=r›)
   |(conv=>whnf
     refine bn.mk (aY.of ?_);have hno:=aaH (p:=vw kk r) (l:=ev) (j:=j) o_ (agl ‹¬eH (ev.getD (j:Int).toNat default)=0›);rw[hkk]at hno;simp[ku,hno])
   |(conv=>whnf
     refine bn.mk (aY.of ?_);have hno:=aaH (p:=vw kk r) (l:=ev) (j:=j) o_ (agm hkk ‹¬ (ev.getD (j:Int).toNat default).r=r›);rw[hkk]at hno;simp[ku,hno])
   |(conv=>whnf
     refine bn.mk (aY.of ?_);have hyes:=agn (p:=vw kk r) (l:=ev) (λ i hi=>hall i o_);rw[hkk]at hyes;simp[ku,show qE 0=true from rfl,shK,Hy,Hw,Hz,Pv,vZ,-List.length_eq_zero_iff, *]<;>omega)
def lH(x:Rc):List UInt8:=
 [byteOf x.k,byteOf x.r]++(if Hw x.k then UInt8.ofNat x.ev.length::gZ x.ev else [])++(if Hy x.k then ig x.u else [])++(if Hz x.k then ER x.c else [])
def bF(x:Rc):List UInt8:=dZ (aN (lH x).length++lH x)
structure alu(x:Rc):Prop where
 k:1<=x.k/\x.k<=5
 r:0<=x.r/\x.r<5
 u:qE x.u=true
 u0:Hy x.k=true\/x.u=0
 c0:Hz x.k=true\/x.c=aW
 e0:Hw x.k=true\/x.ev.length=0
 c:qE x.c.c0=true/\qE x.c.c1=true/\qE x.c.c2=true/\qE x.c.c3=true/\qE x.c.c4=true
 l:x.ev.length<=20
 one:x.k≠1\/x.ev.length≠0
 ev:x.ev.all (vw x.k x.r)=true
theorem qC(h:ku x=true):alu x:=by
 simp only[ku,aon,apf,decide_eq_true_eq,vZ,Pv,shK]at h;obtain⟨⟨⟨⟨⟨⟨⟨⟨⟨⟨h1,h2⟩,h3⟩,h4⟩,h5⟩,h6⟩,h7⟩,⟨⟨⟨h8,h9⟩,h10⟩,h11⟩,h12⟩,h13⟩,h14⟩,h15⟩:=h;exact⟨h1,⟨h2,h3⟩,h4,h5,h6,h7,⟨h8,h9,h10,h11,h12⟩,h13,h14,h15⟩
theorem LV(h:l.all (vw k r)=true):l.all (λ e=>decide (eH e=0))=true:=by
 rw[aoD]at h⊢;intro e he;have:=h e he;simp only[vw,aon]at this;exact this.1
theorem agp(x:Rc)(hl:x.ev.length<=140737488355328)(h:ku x=false):aH prog 56 [x.av] (.bI [.v (.slice none 0 0),.v (.int .i64 1)]) []:=by
 have hm:=xR x hl;rw[h]at hm;refine K1.E 0x3a020807804000975f func56 ?_;repeat' ((conv=>whnf);first|refine K1.P1 hm ?_|refine aU.fF ?_|fail)
 conv=>whnf
 exact bn.mk (au)
theorem aaI(d:Nat)(x:Rc)(h:ku x=true)(hk:x.k=1\/x.k=4):
  aH prog 56 [x.av] (.bI [.own d,.v (.int .i64 0)]) [(d,.row 5 1 (bF x).length true (aO (bF x)))]:=by
 have m:=qC h;have hm:=xR x (by have:=m.l;omega);rw[h]at hm;obtain⟨k,r,u,c,ev⟩:=x;obtain⟨mk,mr,mu,E5,BO,me0,mc,ml,m1,SX⟩:=m;dsimp only at mk mr mu ml mc E5 BO me0 SX m1 hk;have P6:=LV SX;have hat:∀j,j<ev.length->eH (ev.getD j default)=0:=λ j hj=>YU P6 hj;have h44:∀j,j<ev.length->(fC (ev.getD j default)).length<=44:=λ j hj=>uz (hat j hj);have hlen:∀j,(gZ (ev.take j)).length<=44*j:=λ j=>ao7 (zW λ e he=>uH P6 e (apn he)) (Nat.mul_le_mul_left _ (by rw[aou];omega));obtain⟨kk,hkk⟩:∃kk,kk=k:=⟨_,rfl⟩;have hmore:∀j,(([byteOf' kk,byteOf' r]++[byteOf' (ev.length:Int)])++gZ (ev.take j)).length=3+(gZ (ev.take j)).length:=λ j=>by simp;omega
 rcases hk with rfl|rfl;all_goals
  dsimp only[Rc.av,Rc.cs]at hm⊢;refine K1.E 0x3a020807804000975f func56 ?_;repeat' ((conv=>whnf);first|refine K1.u ?_|refine K1.P1 hm ?_|refine K1.P1 (lX _) ?_|fail)
  conv=>whnf
  refine aI.mk {j:Nat//j<=ev.length} (λ j=>⟨[(1,.box 0 0),(4,.box 1 0),(6,.own 90),(39,.sl 12 ev.length true (dI ev)),(40,.v (.int .i64 (ev.length:Int))),(41,.v (.int .i64 (j.1:Int)))],
   [(1,.box 191 [.v (.bool true),.v (.bool false),.v (.bool false)]),(90,.row 5 1 (([byteOf' kk,byteOf' r]++[byteOf' (ev.length:Int)])++gZ (ev.take j.1)).length true (aO (([byteOf' kk,byteOf' r]++[byteOf' (ev.length:Int)])++gZ (ev.take j.1))))],[],91⟩) (λ j=>ev.length-j.1) ⟨0,aoB _⟩ _
   (dO.mk' [(4,90)] _ _ _ rfl ⟨au,au,au,au,au,aY.int rfl,trivial⟩ ⟨ay rfl,⟨_,rfl,dK.wS (bG.app (bG.two o_ o_ o_ o_) (bG.one o_ o_) rfl) (by simp<;>omega) (by simp[gZ,hkk])⟩,trivial⟩ rfl) ?_
  rintro⟨j,hj⟩;dsimp only;have amI:=h44 (j:Int).toNat;have hmj:=hmore j;have hlj:=hlen j;have hsl:=eU (aN (([byteOf' kk,byteOf' r]++[byteOf' (ev.length:Int)])++gZ (ev.take j)).length++(([byteOf' kk,byteOf' r]++[byteOf' (ev.length:Int)])++gZ (ev.take j)));have hvs:(aN (([byteOf' kk,byteOf' r]++[byteOf' (ev.length:Int)])++gZ (ev.take j)).length).length<=10:=dF 9 _;repeat' ((conv=>whnf);first|refine K1.u ?_|refine K1.F1 (xM _ (ev.getD (j:Int).toNat default) (hat _ o_)) ?_ rfl rfl|refine K1.F1 (dN _ (([byteOf' kk,byteOf' r]++[byteOf' (ev.length:Int)])++gZ (ev.take j)).length o_) ?_ rfl rfl|refine K1.F1 (ql _ (aN (([byteOf' kk,byteOf' r]++[byteOf' (ev.length:Int)])++gZ (ev.take j)).length++(([byteOf' kk,byteOf' r]++[byteOf' (ev.length:Int)])++gZ (ev.take j))) (bG.app (bG.bytes _) (bG.bytes _) rfl) aop.symm (by rw[aop];omega)) ?_ rfl rfl|refine K1.y (λ _=>?_) (λ _=>?_)|fail)
  ·conv=>whnf
   refine⟨⟨j+1,o_⟩,_,dO.mk' [(93,90)] _ _ _ rfl ⟨au,au,au,au,au,aY.int rfl,trivial⟩ ⟨ay rfl,⟨_,rfl,dK.wS (bG.app (bG.bytes _) (bG.bytes _) rfl) aop.symm ?_⟩,trivial⟩ rfl,by show ev.length-(j+1)<ev.length-j;omega⟩;rw[Gx o_,aoL];rfl
  ·conv=>whnf
   refine aU.uV d rfl rfl ?_ (au);refine dK.wS (bG.bytes _) rfl ?_;rw[aoF o_];unfold bF lH;simp[hkk,Hw,Hy,Hz,byteOf,byteOf']
theorem ai4(d:Nat)(x:Rc)(h:ku x=true)(hk:x.k=2):
  aH prog 56 [x.av] (.bI [.own d,.v (.int .i64 0)]) [(d,.row 5 1 (bF x).length true (aO (bF x)))]:=by
 have m:=qC h;have hm:=xR x (by have:=m.l;omega);rw[h]at hm;obtain⟨k,r,u,c,ev⟩:=x;obtain⟨mk,mr,mu,E5,BO,me0,mc,ml,m1,SX⟩:=m;dsimp only at mk mr mu ml mc E5 BO me0 SX m1 hk;obtain⟨kk,hkk⟩:∃kk,kk=k:=⟨_,rfl⟩;obtain⟨un,rfl,hun⟩:=iw mu;have hvu:(aN un).length<=10:=dF 9 _;have hmore:([byteOf' kk,byteOf' r]++aN un).length=2+(aN un).length:=by simp;omega
 have hsl:=eU (aN (2+(aN un).length)++([byteOf' kk,byteOf' r]++aN un));have hvs:(aN (2+(aN un).length)).length<=10:=dF 9 _;subst hk;have hP:bG (kV 2 (chunk 1 [.v (.int .u8 2),.v (.int .u8 r)]) (aO (aN un))) ([byteOf' kk,byteOf' r]++aN un):=hkk▸bG.app (bG.two o_ o_ o_ o_) (bG.bytes _) rfl;have hn:2+(aN un).length=([byteOf' kk,byteOf' r]++aN un).length:=o_
 dsimp only[Rc.av,Rc.cs]at hm⊢;refine K1.E 0x3a020807804000975f func56 ?_;repeat' ((conv=>whnf);first|refine K1.u ?_|refine K1.P1 hm ?_|refine K1.P1 (lX _) ?_|refine K1.F1 (dN _ un o_) ?_ rfl rfl|refine K1.F1 (dN _ (2+(aN un).length) o_) ?_ rfl rfl|refine K1.F1 (ql _ (aN (2+(aN un).length)++([byteOf' kk,byteOf' r]++aN un)) (bG.app (bG.bytes _) hP rfl) (by rw[aop,<-hn]) (by rw[aop,<-hn];omega)) ?_ rfl rfl|fail)
 conv=>whnf
 refine aU.uV d rfl rfl ?_ (au);refine dK.wS (bG.bytes _) rfl ?_;rw[hn];unfold bF lH;simp[hkk,Hw,Hy,Hz,byteOf,byteOf',ig]
theorem aaJ(d:Nat)(x:Rc)(h:ku x=true)(hk:x.k=3\/x.k=5):
  aH prog 56 [x.av] (.bI [.own d,.v (.int .i64 0)]) [(d,.row 5 1 (bF x).length true (aO (bF x)))]:=by
 have m:=qC h;have hm:=xR x (by have:=m.l;omega);rw[h]at hm;obtain⟨k,r,u,⟨c0,c1,c2,c3,c4⟩,ev⟩:=x;obtain⟨mk,mr,mu,E5,BO,me0,⟨m0,m1,m2,m3,m4⟩,ml,YV,SX⟩:=m;dsimp only at mk mr mu ml m0 m1 m2 m3 m4 E5 BO me0 SX YV hk;obtain⟨kk,hkk⟩:∃kk,kk=k:=⟨_,rfl⟩;obtain⟨c0,rfl,hc0⟩:=iw m0;obtain⟨c1,rfl,hc1⟩:=iw m1;obtain⟨c2,rfl,hc2⟩:=iw m2;obtain⟨c3,rfl,hc3⟩:=iw m3;obtain⟨c4,rfl,hc4⟩:=iw m4;have q0:(aN c0).length<=10:=dF 9 _;have q1:(aN c1).length<=10:=dF 9 _;have q2:(aN c2).length<=10:=dF 9 _;have q3:(aN c3).length<=10:=dF 9 _;have q4:(aN c4).length<=10:=dF 9 _;obtain⟨n,hn0⟩:∃n,n=2+(aN c0).length+(aN c1).length+(aN c2).length+(aN c3).length+(aN c4).length:=⟨_,rfl⟩;have hn:n=([byteOf' kk,byteOf' r]++aN c0++aN c1++aN c2++aN c3++aN c4).length:=by rw[hn0];simp;omega
 have hvs:(aN (2+(aN c0).length+(aN c1).length+(aN c2).length+(aN c3).length+(aN c4).length)).length<=10:=dF 9 _;have hsl:=eU (aN (2+(aN c0).length+(aN c1).length+(aN c2).length+(aN c3).length+(aN c4).length)++([byteOf' kk,byteOf' r]++aN c0++aN c1++aN c2++aN c3++aN c4));rcases hk with rfl|rfl;all_goals
  have hP:=bG.app (bG.app (bG.app (bG.app (bG.app (bG.two (x:=kk) (y:=r) o_ o_ o_ o_) (bG.bytes (aN c0)) rfl) (bG.bytes (aN c1)) (n:=2+(aN c0).length) (by simp<;>omega)) (bG.bytes (aN c2)) (n:=2+(aN c0).length+(aN c1).length) (by simp<;>omega)) (bG.bytes (aN c3)) (n:=2+(aN c0).length+(aN c1).length+(aN c2).length) (by simp<;>omega)) (bG.bytes (aN c4)) (n:=2+(aN c0).length+(aN c1).length+(aN c2).length+(aN c3).length) (by simp<;>omega);rw[hkk]at hP hn;dsimp only[Rc.av,Rc.cs]at hm⊢;refine K1.E 0x3a020807804000975f func56 ?_;repeat' ((conv=>whnf);first|refine K1.u ?_|refine K1.P1 hm ?_|refine K1.P1 (lX _) ?_|refine K1.F1 (dN _ c0 o_) ?_ rfl rfl|refine K1.F1 (dN _ c1 o_) ?_ rfl rfl|refine K1.F1 (dN _ c2 o_) ?_ rfl rfl|refine K1.F1 (dN _ c3 o_) ?_ rfl rfl|refine K1.F1 (dN _ c4 o_) ?_ rfl rfl|refine K1.F1 (dN _ (2+(aN c0).length+(aN c1).length+(aN c2).length+(aN c3).length+(aN c4).length) o_) ?_ rfl rfl|refine K1.F1 (ql _ (aN (2+(aN c0).length+(aN c1).length+(aN c2).length+(aN c3).length+(aN c4).length)++([byteOf' _,byteOf' r]++aN c0++aN c1++aN c2++aN c3++aN c4)) (bG.app (bG.bytes _) hP rfl) (by rw[aop,<-hn,hn0]) (by rw[aop,<-hn,hn0];omega)) ?_ rfl rfl|refine aI.yP 68 6 rfl ?_|refine K1.z ?_|fail)
  conv=>whnf
  refine aU.uV d rfl rfl ?_ (au);refine dK.wS (bG.bytes _) rfl ?_;rw[<-hn0,hn];unfold bF lH;simp[Hw,Hy,Hz,byteOf,byteOf',ig,ER]
theorem Bl(d:Nat)(x:Rc)(h:ku x=true):
  aH prog 56 [x.av] (.bI [.own d,.v (.int .i64 0)]) [(d,.row 5 1 (bF x).length true (aO (bF x)))]:=by
 have m:=(qC h).k;rcases(show x.k=1\/x.k=2\/x.k=3\/x.k=4\/x.k=5 by omega)with hk|hk|hk|hk|hk
 ·exact aaI d x h (.inl hk)
 ·exact ai4 d x h hk
 ·exact aaJ d x h (.inl hk)
 ·exact aaI d x h (.inr hk)
 ·exact aaJ d x h (.inr hk)
end Go.Proofs.YtifjccndenojlaaGreat
