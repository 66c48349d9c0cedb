/-
  Contracts of the walk:RecP,RecF,Frm,FrmP,HbH.
-/
import Derived.Test.YtkimgljckickcaaGreatRa21
import Derived.Test.YtkimgljckickcaaGreatRa12
import Derived.Test.YtkimgljckickcaaGreatRa13
import Derived.Test.YtkimgljckickcaaGreatRa23
import Derived.Test.YtkimgljckickcaaGreatRa11
set_option maxHeartbeats 16000000
set_option maxRecDepth 100000
set_option linter.unusedVariables false
set_option linter.unusedSimpArgs false
namespace Go.Proofs.YtkimgljckickcaaGreat
open Go.RowKit
open Go.Proofs.Tryz
variable{e:Ev}{p:Ev->Bool}{k r:Int}{l:List Ev}{j:Nat}{F:Nat->List AV}{x:Rc}
theorem zi(h:∀e∈l,dU e=0):(gJ l).length<=44*l.length:=by
 induction l with
 |nil=>simp[gJ]
 |cons e l ih=>
  have h1:=tX (h e s_);have h2:=ih λ x hx=>h x (by simp[hx]);simp only[gJ,anN,am0,anb]at*;omega
theorem FM(h:j<l.length):gJ (l.take (j+1))=gJ (l.take j)++eH (l.getD j default):=by
 rw[aoa,amX h,List.getD,amX h,gJ,ao0];simp[gJ]
theorem Xz(h:l.all (λ e=>decide (dU e=0))=true)(hj:j<l.length):dU (l.getD j default)=0:=by
 rw[List.getD,amX hj];simpa using anh.1 h l[j] (anH hj)
theorem ug(h:l.all (λ e=>decide (dU e=0))=true):∀e∈l,dU e=0:=λ e he=>by simpa using anh.1 h e he
theorem gW{n:Int}(h:pR n=true):∃m:Nat,n=m/\m<=1048576:=by
 have:=fD h;exact⟨n.toNat,o_,o_⟩
structure amc(x:Rc):Prop where
 k:1<=x.k/\x.k<=6
 r:0<=x.r/\x.r<5
 u:pR x.u=true
 l:x.ev.length<=4096
 c:pR x.c.c0=true/\pR x.c.c1=true/\pR x.c.c2=true/\pR x.c.c3=true/\pR x.c.c4=true
 u0:EH x.k=true\/x.u=0
 c0:EJ x.k=true\/x.c=aV
 e0:EI x.k=true\/x.ev.length=0
 ev:x.ev.all (λ e=>decide (dU e=0))=true
 one:x.k≠1\/x.ev.length=1
theorem wY(h:iE x=true):amc x:=by
 simp only[iE,amY,anT,decide_eq_true_eq,vG,NW,rcK]at h;obtain⟨⟨⟨⟨⟨⟨⟨⟨⟨⟨h1,h2⟩,h3⟩,h4⟩,h5⟩,⟨⟨⟨h6,h7⟩,h8⟩,h9⟩,h10⟩,h11⟩,h12⟩,h13⟩,h14⟩,h15⟩:=h;exact⟨h1,⟨h2,h3⟩,h4,h5,⟨h6,h7,h8,h9,h10⟩,h11,h12,h13,h14,h15⟩
theorem QS(d:Nat)(x:Rc)(h:iE x=true)(hk:x.k=1\/x.k=2\/x.k=5):
  aF prog 130 [x.av] (.aZ [.own d,.v (.int .i64 0)]) [(d,.row 5 1 (ay x).length true (aO (ay x)))]:=by
 have m:=wY h;have hm:=sH x (by have:=m.l;omega);rw[h]at hm;obtain⟨k,r,u,c,ev⟩:=x;obtain⟨mk,mr,mu,ml,mc,Es,AU,me0,Ou,m1⟩:=m;dsimp only at mk mr mu ml mc Es AU me0 Ou m1 hk;have hat:∀j,j<ev.length->dU (ev.getD j default)=0:=λ j hj=>Xz Ou hj;have h44:∀j,j<ev.length->(eH (ev.getD j default)).length<=44:=λ j hj=>tX (hat j hj);have hlen:∀j,(gJ (ev.take j)).length<=44*j:=λ j=>anK (zi λ e he=>ug Ou e (an7 he)) (Nat.mul_le_mul_left _ (by rw[am5];omega));have hv:(aK ev.length).length<=10:=dF 9 _;obtain⟨kk,hkk⟩:∃kk,kk=k:=⟨_,rfl⟩;have hmore:∀j,([byteOf' kk,byteOf' r]++aK ev.length++gJ (ev.take j)).length=2+(aK ev.length).length+(gJ (ev.take j)).length:=λ j=>by simp;omega
 rcases hk with rfl|rfl|rfl;all_goals
  dsimp only[Rc.av,Rc.cs]at hm⊢;refine K1.E 0x403c0203a040004f57f func130 ?_;repeat' ((conv=>whnf);first|refine K1.u ?_|refine K1.P1 hm ?_|refine K1.P1 (fO _) ?_|refine K1.F1 (dI _ ev.length o_) ?_ rfl rfl|fail)
  conv=>whnf
  refine aI.mk {j:Nat//j<=ev.length} (λ j=>⟨[(1,.box 0 0),(8,.own 90),(62,.sl 12 ev.length true (dA ev)),(63,.v (.int .i64 (ev.length:Int))),(64,.v (.int .i64 (j.1:Int)))],
   [(90,.row 5 1 ([byteOf' kk,byteOf' r]++aK ev.length++gJ (ev.take j.1)).length true (aO ([byteOf' kk,byteOf' r]++aK ev.length++gJ (ev.take j.1))))],[],91⟩) (λ j=>ev.length-j.1) ⟨0,ane _⟩ _
   (dZ.mk' [(3,90)] _ _ _ rfl gQ ⟨⟨_,rfl,dK.vX (bg.app (bg.two o_ o_ o_ o_) (bg.bytes _) rfl) (by simp<;>omega) (by simp[gJ,hkk])⟩,trivial⟩ rfl) ?_
  rintro⟨j,hj⟩;dsimp only;have ak8:=h44 (j:Int).toNat;have hmj:=hmore j;have hlj:=hlen j;have hsl:=dW ([byteOf' kk,byteOf' r]++aK ev.length++gJ (ev.take j));have hvs:(aK (dP ([byteOf' kk,byteOf' r]++aK ev.length++gJ (ev.take j))).length).length<=10:=dF 9 _;repeat' ((conv=>whnf);first|refine K1.u ?_|refine K1.F1 (wV _ (ev.getD (j:Int).toNat default) (hat _ o_)) ?_ rfl rfl|refine K1.F1 (pz _ ([byteOf' kk,byteOf' r]++aK ev.length++gJ (ev.take j)) (bg.bytes _) rfl o_) ?_ rfl rfl|refine K1.F1 (dI _ (dP ([byteOf' kk,byteOf' r]++aK ev.length++gJ (ev.take j))).length (by rw[dW];omega)) ?_ rfl rfl|refine K1.y (λ _=>?_) (λ _=>?_)|fail)
  ·conv=>whnf
   refine⟨⟨j+1,o_⟩,_,dZ.mk' [(93,90)] _ _ _ rfl gQ ⟨⟨_,rfl,dK.vX (bg.app (bg.bytes _) (bg.bytes _) rfl) am0.symm ?_⟩,trivial⟩ rfl,by show ev.length-(j+1)<ev.length-j;omega⟩;rw[FM o_,anm];rfl
  ·conv=>whnf
   refine aT.uX d rfl rfl ?_ (bY);refine dK.vX (bg.app (bg.bytes _) (bg.bytes _) rfl) am0.symm ?_;rw[anf o_];unfold ay eY;simp[hkk,EH,EI,EJ,byteOf,byteOf']
theorem aeZ(d:Nat)(x:Rc)(h:iE x=true)(hk:x.k=4):
  aF prog 130 [x.av] (.aZ [.own d,.v (.int .i64 0)]) [(d,.row 5 1 (ay x).length true (aO (ay x)))]:=by
 have m:=wY h;have hm:=sH x (by have:=m.l;omega);rw[h]at hm;obtain⟨k,r,u,c,ev⟩:=x;obtain⟨mk,mr,mu,ml,mc,Es,AU,me0,Ou,m1⟩:=m;dsimp only at mk mr mu ml mc Es AU me0 Ou m1 hk;have hat:∀j,j<ev.length->dU (ev.getD j default)=0:=λ j hj=>Xz Ou hj;have h44:∀j,j<ev.length->(eH (ev.getD j default)).length<=44:=λ j hj=>tX (hat j hj);have hlen:∀j,(gJ (ev.take j)).length<=44*j:=λ j=>anK (zi λ e he=>ug Ou e (an7 he)) (Nat.mul_le_mul_left _ (by rw[am5];omega));have hv:(aK ev.length).length<=10:=dF 9 _;obtain⟨kk,hkk⟩:∃kk,kk=k:=⟨_,rfl⟩;obtain⟨un,rfl,hun⟩:=gW mu;have hvu:(aK un).length<=10:=dF 9 _;have hmore:∀j,([byteOf' kk,byteOf' r]++aK un++aK ev.length++gJ (ev.take j)).length=2+(aK un).length+(aK ev.length).length+(gJ (ev.take j)).length:=λ j=>by simp;omega
 subst hk;all_goals
  dsimp only[Rc.av,Rc.cs]at hm⊢;refine K1.E 0x403c0203a040004f57f func130 ?_;repeat' ((conv=>whnf);first|refine K1.u ?_|refine K1.P1 hm ?_|refine K1.P1 (fO _) ?_|refine K1.F1 (dI _ un o_) ?_ rfl rfl|refine K1.F1 (dI _ ev.length o_) ?_ rfl rfl|fail)
  conv=>whnf
  refine aI.mk {j:Nat//j<=ev.length} (λ j=>⟨[(1,.box 0 0),(8,.own 90),(62,.sl 12 ev.length true (dA ev)),(63,.v (.int .i64 (ev.length:Int))),(64,.v (.int .i64 (j.1:Int)))],
   [(90,.row 5 1 ([byteOf' kk,byteOf' r]++aK un++aK ev.length++gJ (ev.take j.1)).length true (aO ([byteOf' kk,byteOf' r]++aK un++aK ev.length++gJ (ev.take j.1))))],[],91⟩) (λ j=>ev.length-j.1) ⟨0,ane _⟩ _
   (dZ.mk' [(5,90)] _ _ _ rfl gQ ⟨⟨_,rfl,dK.vX (bg.app (bg.app (bg.two o_ o_ o_ o_) (bg.bytes _) rfl) (bg.bytes _) (by simp<;>omega)) (by simp<;>omega) (by simp[gJ,hkk])⟩,trivial⟩ rfl) ?_
  rintro⟨j,hj⟩;dsimp only;have ak8:=h44 (j:Int).toNat;have hmj:=hmore j;have hlj:=hlen j;have hsl:=dW ([byteOf' kk,byteOf' r]++aK un++aK ev.length++gJ (ev.take j));have hvs:(aK (dP ([byteOf' kk,byteOf' r]++aK un++aK ev.length++gJ (ev.take j))).length).length<=10:=dF 9 _;repeat' ((conv=>whnf);first|refine K1.u ?_|refine K1.F1 (wV _ (ev.getD (j:Int).toNat default) (hat _ o_)) ?_ rfl rfl|refine K1.F1 (pz _ ([byteOf' kk,byteOf' r]++aK un++aK ev.length++gJ (ev.take j)) (bg.bytes _) rfl o_) ?_ rfl rfl|refine K1.F1 (dI _ (dP ([byteOf' kk,byteOf' r]++aK un++aK ev.length++gJ (ev.take j))).length (by rw[dW];omega)) ?_ rfl rfl|refine K1.y (λ _=>?_) (λ _=>?_)|fail)
  ·conv=>whnf
   refine⟨⟨j+1,o_⟩,_,dZ.mk' [(93,90)] _ _ _ rfl gQ ⟨⟨_,rfl,dK.vX (bg.app (bg.bytes _) (bg.bytes _) rfl) am0.symm ?_⟩,trivial⟩ rfl,by show ev.length-(j+1)<ev.length-j;omega⟩;rw[FM o_,anm];rfl
  ·conv=>whnf
   refine aT.uX d rfl rfl ?_ (bY);refine dK.vX (bg.app (bg.bytes _) (bg.bytes _) rfl) am0.symm ?_;rw[anf o_];unfold ay eY;simp[hkk,EH,EI,EJ,byteOf,byteOf',gU]
theorem aht(d:Nat)(x:Rc)(h:iE x=true)(hk:x.k=3):
  aF prog 130 [x.av] (.aZ [.own d,.v (.int .i64 0)]) [(d,.row 5 1 (ay x).length true (aO (ay x)))]:=by
 have m:=wY h;have hm:=sH x (by have:=m.l;omega);rw[h]at hm;obtain⟨k,r,u,c,ev⟩:=x;obtain⟨mk,mr,mu,ml,mc,Es,AU,me0,Ou,m1⟩:=m;dsimp only at mk mr mu ml mc Es AU me0 Ou m1 hk;obtain⟨kk,hkk⟩:∃kk,kk=k:=⟨_,rfl⟩;obtain⟨un,rfl,hun⟩:=gW mu;have hvu:(aK un).length<=10:=dF 9 _;have hmore:([byteOf' kk,byteOf' r]++aK un).length=2+(aK un).length:=by simp;omega
 have hsl:=dW ([byteOf' kk,byteOf' r]++aK un);have hvs:(aK (dP ([byteOf' kk,byteOf' r]++aK un)).length).length<=10:=dF 9 _;subst hk;dsimp only[Rc.av,Rc.cs]at hm⊢;refine K1.E 0x403c0203a040004f57f func130 ?_;repeat' ((conv=>whnf);first|refine K1.u ?_|refine K1.P1 hm ?_|refine K1.P1 (fO _) ?_|refine K1.F1 (dI _ un o_) ?_ rfl rfl|refine K1.F1 (pz _ ([byteOf' kk,byteOf' r]++aK un) (hkk▸bg.app (bg.two o_ o_ o_ o_) (bg.bytes _) rfl) (by simp<;>omega) o_) ?_ rfl rfl|refine K1.F1 (dI _ (dP ([byteOf' kk,byteOf' r]++aK un)).length (by rw[dW];omega)) ?_ rfl rfl|fail)
 conv=>whnf
 refine aT.uX d rfl rfl ?_ (bY);refine dK.vX (bg.app (bg.bytes _) (bg.bytes _) rfl) am0.symm ?_;unfold ay eY;simp[hkk,EH,EI,EJ,byteOf,byteOf',gU]
theorem ahu(d:Nat)(x:Rc)(h:iE x=true)(hk:x.k=6):
  aF prog 130 [x.av] (.aZ [.own d,.v (.int .i64 0)]) [(d,.row 5 1 (ay x).length true (aO (ay x)))]:=by
 have m:=wY h;have hm:=sH x (by have:=m.l;omega);rw[h]at hm;obtain⟨k,r,u,⟨c0,c1,c2,c3,c4⟩,ev⟩:=x;obtain⟨mk,mr,mu,ml,⟨m0,m1,m2,m3,m4⟩,Es,AU,me0,Ou,XA⟩:=m;dsimp only at mk mr mu ml m0 m1 m2 m3 m4 Es AU me0 Ou XA hk;obtain⟨kk,hkk⟩:∃kk,kk=k:=⟨_,rfl⟩;obtain⟨c0,rfl,hc0⟩:=gW m0;obtain⟨c1,rfl,hc1⟩:=gW m1;obtain⟨c2,rfl,hc2⟩:=gW m2;obtain⟨c3,rfl,hc3⟩:=gW m3;obtain⟨c4,rfl,hc4⟩:=gW m4;have q0:(aK c0).length<=10:=dF 9 _;have q1:(aK c1).length<=10:=dF 9 _;have q2:(aK c2).length<=10:=dF 9 _;have q3:(aK c3).length<=10:=dF 9 _;have q4:(aK c4).length<=10:=dF 9 _;have hmore:([byteOf' kk,byteOf' r]++aK c0++aK c1++aK c2++aK c3++aK c4).length=2+(aK c0).length+(aK c1).length+(aK c2).length+(aK c3).length+(aK c4).length:=by simp;omega
 have hsl:=dW ([byteOf' kk,byteOf' r]++aK c0++aK c1++aK c2++aK c3++aK c4);have hvs:(aK (dP ([byteOf' kk,byteOf' r]++aK c0++aK c1++aK c2++aK c3++aK c4)).length).length<=10:=dF 9 _;subst hk;dsimp only[Rc.av,Rc.cs]at hm⊢;refine K1.E 0x403c0203a040004f57f func130 ?_;repeat' ((conv=>whnf);first|refine K1.u ?_|refine K1.P1 hm ?_|refine K1.P1 (fO _) ?_|refine K1.F1 (dI _ c0 o_) ?_ rfl rfl|refine K1.F1 (dI _ c1 o_) ?_ rfl rfl|refine K1.F1 (dI _ c2 o_) ?_ rfl rfl|refine K1.F1 (dI _ c3 o_) ?_ rfl rfl|refine K1.F1 (dI _ c4 o_) ?_ rfl rfl|refine K1.F1 (pz _ ([byteOf' kk,byteOf' r]++aK c0++aK c1++aK c2++aK c3++aK c4) (hkk▸bg.app (bg.app (bg.app (bg.app (bg.app (bg.two o_ o_ o_ o_) (bg.bytes _) rfl) (bg.bytes _) (by simp<;>omega)) (bg.bytes _) (by simp<;>omega)) (bg.bytes _) (by simp<;>omega)) (bg.bytes _) (by simp<;>omega)) (by simp<;>omega) o_) ?_ rfl rfl|refine K1.F1 (dI _ (dP ([byteOf' kk,byteOf' r]++aK c0++aK c1++aK c2++aK c3++aK c4)).length (by rw[dW];omega)) ?_ rfl rfl|refine aI.Au 44 6 rfl ?_|refine K1.z ?_|fail)
 conv=>whnf
 refine aT.uX d rfl rfl ?_ (bY);refine dK.vX (bg.app (bg.bytes _) (bg.bytes _) rfl) am0.symm ?_;unfold ay eY;simp[hkk,EH,EI,EJ,byteOf,byteOf',gU,Ee]
theorem vP(d:Nat)(x:Rc)(h:iE x=true):
  aF prog 130 [x.av] (.aZ [.own d,.v (.int .i64 0)]) [(d,.row 5 1 (ay x).length true (aO (ay x)))]:=by
 have m:=(wY h).k;rcases(show x.k=1\/x.k=2\/x.k=3\/x.k=4\/x.k=5\/x.k=6 by omega)with hk|hk|hk|hk|hk|hk
 ·exact QS d x h (.inl hk)
 ·exact QS d x h (.inr (.inl hk))
 ·exact aht d x h hk
 ·exact aeZ d x h hk
 ·exact QS d x h (.inr (.inr hk))
 ·exact ahu d x h hk
theorem C1.Ov{X:CX}{a1 a2 a3 a4 a5 a6 a7 a8:AV}{f:Nat->List AV}{u:Value}(h:C1 X (.agg [a1,a2,a3,a4,a5,a6,a7,a8,.v (.slice none 0 0)]) u):C1 X (.agg [a1,a2,a3,a4,a5,a6,a7,a8,.sl 12 0 true f]) u:=by
 obtain⟨us,e,ha⟩:=h;obtain⟨v,hv,hc⟩:=ha.get (i:=8) rfl;have hc:v= .slice none 0 0:=hc;subst hc;refine⟨us,e, ?_⟩;have:=ha.set 8 (x:= .sl 12 0 true f) (u:= .slice none 0 0) (show C0 X (.sl 12 0 true f) (.slice none 0 0)from .sl 12 0 true f none 0 [] o_ (ani _) (by simp[maxLen]) s_ (λ i hi=>absurd hi (anA i)) (λ _ x hx=>by simp[flat]at hx) (λ i x u hx=>by simp[flat]at hx) (.inl rfl));have e2:us.set 8 (.slice none 0 0)=us:=by
  apply aos;intro i;rw[aoJ];by_cases h8:8=i
  ·subst h8;rw[if_pos rfl,hv];have:8<us.length:=by
    rcases anr 8 us.length with h|h
    ·exact h
    ·rw[anz h]at hv;cases hv
   rw[if_pos this]
  ·rw[if_neg h8]
 rw[e2]at this;exact this
theorem dJ.Ov{a1 a2 a3 a4 a5 a6 a7 a8:AV}(f:Nat->List AV):dJ (.agg [a1,a2,a3,a4,a5,a6,a7,a8,.v (.slice none 0 0)]) (.agg [a1,a2,a3,a4,a5,a6,a7,a8,.sl 12 0 true f]):=λ _ _ h=>C1.Ov h
def XB(k r u c0 c1 c2 c3 c4:Int)(e:AV):List AV:=[.v (.int .i64 k),.v (.int .i64 r),.v (.int .i64 u),.v (.int .i64 c0),.v (.int .i64 c1),.v (.int .i64 c2),.v (.int .i64 c3),.v (.int .i64 c4),e]
theorem uh(x:Rc):5<(ay x).length:=by
 have hv:=zy 9 (dP (eY x)).length;have hb:2<=(eY x).length:=by simp[eY]<;>omega
 have hs:=dW (eY x);unfold ay;rw[am0];show 5<(fP 9 (dP (eY x)).length).length+_;omega
def IsE(F:Nat->List AV)(l:List Ev):Prop:= ∀i,i<l.length->F i=dA l i
theorem IsE.nil(F:Nat->List AV):IsE F []:=λ i h=>absurd h s_
theorem IsE.app{G:Nat->List AV}{l':List Ev}{n:Nat}(h:IsE F l)(h':IsE G l')(hn:n=l.length):IsE (lV n F G) (l++l'):=by
 intro i hi;rw[am0]at hi;show _=qh Ev.cs (l++l') i;rw[<-els_app hn];unfold lV;cases hb:Nat.ble n i with
 |true=>
  have:=am7 hb;exact h' (i-n) o_
 |false=>
  have:i<n:=Nat.lt_of_not_le λ h=>by rw[an0 h]at hb;cases hb
  exact h i o_
theorem IsE.one(h:F 0=e.cs):IsE F [e]:=λ i hi=>by
 have:i=0:=by simpa using hi
 subst this;exact h
theorem Vb(k:Int)(h:¬ (1<=k/\k<=5)):aF prog 135 [.v (.int .i64 k)] (.aZ [.agg [.v (.bool false),.v (.bool false),.v (.bool false)],.v (.bool false)]) []:=by
 have:=lI k;rw[show Gs k=false by simp[Gs];omega,show Gt k=false by simp[Gt];omega,show Gu k=false by simp[Gu];omega,show shK k=false by simp[shK];omega]at this;exact this
theorem QT(n:Int):aF prog 190 [.v (.int .i64 n)] (.v (.bool (pR n))) []:=by
 refine K1.E 0x5 func190 ?_;repeat' ((conv=>whnf);first|refine aT.fH ?_|refine K1.y (λ _=>?_) (λ _=>?_)|fail)
 all_goals(conv=>whnf)
 all_goals(refine bF.mk (dJ.of ?_))
 all_goals simp[pR,iY, *]
def uM(k r:Int)(e:Ev):Bool:=decide (dU e=0)&&(decide (k≠1)||decide (e.r=r))
theorem ae0(h:¬dU e=0):uM k r e=false:=by simp[uM,h]
theorem ae1(hk:k=1)(h:¬e.r=r):uM k r e=false:=by simp[uM,h,hk]
theorem FN(h:dU e=0)(hk:k≠1):uM k r e=true:=by simp[uM,h,hk]
theorem Ox(h:dU e=0)(hr:e.r=r):uM k r e=true:=by simp[uM,h,hr]
def jW(x:Rc):Bool:=
 shK x.k&&decide (0<=x.r)&&decide (x.r<5)&&pR x.u&&(Gt x.k||decide (x.u=0))&&(Gu x.k||LU x.c)&&(Gs x.k||decide (x.ev.length=0))&&NW x.c&&decide (x.ev.length<=20)&&(decide (x.k≠1)||decide (x.ev.length≠0))&&
  x.ev.all (uM x.k x.r)
theorem Ze(hj:j<l.length)(h:p (l.getD j default)=false):l.all p=false:=by
 rw[List.all_eq_false];refine⟨l[j],anH hj, ?_⟩;rw[List.getD,amX hj]at h;simpa using h
theorem ae2(h:∀i,i<l.length->p (l.getD i default)=true):l.all p=true:=by
 rw[anh];intro e he;obtain⟨i,hi,rfl⟩:=List.mem_iff_getElem.1 he;have:=h i hi;rw[List.getD,amX hi]at this;exact this
theorem wZ(x:Rc)(hl:x.ev.length<=140737488355328):aF prog 134 [x.av] (.v (.bool (jW x))) []:=by
 obtain⟨k,r,u,⟨c0,c1,c2,c3,c4⟩,ev⟩:=x;dsimp only at hl;obtain⟨kk,hkk⟩:∃kk,kk=k:=⟨_,rfl⟩;rcases(show k=1\/k=2\/k=3\/k=4\/k=5\/ ¬ (1<=k/\k<=5) by omega)with rfl|rfl|rfl|rfl|rfl|hk;all_goals dsimp only[Rc.av,Rc.cs]
 all_goals
  refine K1.E 0x10000f400047400000010000015f func134 ?_;repeat' ((conv=>whnf);first|refine K1.u ?_|refine K1.P1 (Vb _ hk) ?_|refine K1.P1 (lI _) ?_|refine K1.P1 (QT _) ?_|refine aI.Au 65 6 rfl ?_|refine ZI.mk (aS.vs ⟨c0,c1,c2,c3,c4⟩) (aS.vs aV) (aS.mk c0 c1 c2 c3 c4=aV) rfl rfl (Fq _ _) ?_|refine aT.fH ?_|refine K1.z ?_|refine K1.y (λ _=>?_) (λ _=>?_)|fail)
  all_goals(conv=>whnf)
  all_goals first
   |refine bF.mk (dJ.of ?_)
   |refine aI.mk {j:Nat//j<=ev.length/\ ∀i,i<j->uM kk r (ev.getD i default)=true} (λ j=>⟨[(1,.box 0 0),(88,.sl 12 ev.length true (dA ev)),(89,.v (.int .i64 (ev.length:Int))),(90,.v (.int .i64 (j.1:Int)))],
     [(0,.box 174 [.v (.int .i64 _),.v (.int .i64 r),.v (.int .i64 u),.v (.int .i64 c0),.v (.int .i64 c1),.v (.int .i64 c2),.v (.int .i64 c3),.v (.int .i64 c4),.sl 12 ev.length true (dA ev)])],[],4⟩) (λ j=>ev.length-j.1) ⟨0,ane _,λ i h=>absurd h (anA i)⟩ _
     (dZ.mk' [] _ _ _ rfl gQ nM rfl) ?_
  all_goals try(simp[jW,shK,Gt,Gs,Gu,NW,vG,-List.length_eq_zero_iff, *]<;>omega;done)
  all_goals(rintro⟨j,hj,hall⟩;dsimp only)
  all_goals repeat' ((conv=>whnf);first|refine K1.u ?_|refine K1.P1 (oh (ev.getD (j:Int).toNat default)) ?_|refine aT.fH ?_|refine K1.y (λ _=>?_) (λ _=>?_)|fail)
  all_goals first
   |(conv=>whnf
     refine⟨⟨j+1,o_,λ i hi=>?_⟩,_,dZ.mk' [] _ _ _ rfl gQ nM rfl,by show ev.length-(j+1)<ev.length-j;omega⟩;rcases anr i j with h|h
     ·exact hall i h
     ·obtain rfl:i=j:=o_
      have h0:dU (ev.getD i default)=0:= ‹dU (ev.getD (i:Int).toNat default)=0›;first
       |exact FN h0 o_
       |exact Ox h0 ‹(ev.getD (i:Int).toNat default).r=r›)
   |(conv=>whnf
     refine bF.mk (dJ.of ?_);have hno:=Ze (p:=uM kk r) (l:=ev) (j:=j) o_ (ae0 ‹¬dU (ev.getD (j:Int).toNat default)=0›);rw[hkk]at hno;simp[jW,hno])
   |(conv=>whnf
     refine bF.mk (dJ.of ?_);have hno:=Ze (p:=uM kk r) (l:=ev) (j:=j) o_ (ae1 hkk ‹¬ (ev.getD (j:Int).toNat default).r=r›);rw[hkk]at hno;simp[jW,hno])
   |(conv=>whnf
     refine bF.mk (dJ.of ?_);have hyes:=ae2 (p:=uM kk r) (l:=ev) (λ i hi=>hall i o_);rw[hkk]at hyes;simp[jW,show pR 0=true from rfl,shK,Gt,Gs,Gu,NW,vG,-List.length_eq_zero_iff, *]<;>omega)
def kY(x:Rc):List UInt8:=
 [byteOf x.k,byteOf x.r]++(if Gs x.k then UInt8.ofNat x.ev.length::gJ x.ev else [])++(if Gt x.k then gU x.u else [])++(if Gu x.k then Ee x.c else [])
def aY(x:Rc):List UInt8:=dP (aK (kY x).length++kY x)
structure ajO(x:Rc):Prop where
 k:1<=x.k/\x.k<=5
 r:0<=x.r/\x.r<5
 u:pR x.u=true
 u0:Gt x.k=true\/x.u=0
 c0:Gu x.k=true\/x.c=aV
 e0:Gs x.k=true\/x.ev.length=0
 c:pR x.c.c0=true/\pR x.c.c1=true/\pR x.c.c2=true/\pR x.c.c3=true/\pR x.c.c4=true
 l:x.ev.length<=20
 one:x.k≠1\/x.ev.length≠0
 ev:x.ev.all (uM x.k x.r)=true
theorem pK(h:jW x=true):ajO x:=by
 simp only[jW,amY,anT,decide_eq_true_eq,vG,NW,shK]at h;obtain⟨⟨⟨⟨⟨⟨⟨⟨⟨⟨h1,h2⟩,h3⟩,h4⟩,h5⟩,h6⟩,h7⟩,⟨⟨⟨h8,h9⟩,h10⟩,h11⟩,h12⟩,h13⟩,h14⟩,h15⟩:=h;exact⟨h1,⟨h2,h3⟩,h4,h5,h6,h7,⟨h8,h9,h10,h11,h12⟩,h13,h14,h15⟩
theorem Ky(h:l.all (uM k r)=true):l.all (λ e=>decide (dU e=0))=true:=by
 rw[anh]at h⊢;intro e he;have:=h e he;simp only[uM,amY]at this;exact this.1
theorem ae3(x:Rc)(hl:x.ev.length<=140737488355328)(h:jW x=false):aF prog 89 [x.av] (.aZ [.v (.slice none 0 0),.v (.int .i64 1)]) []:=by
 have hm:=wZ x hl;rw[h]at hm;refine K1.E 0x3a020807804000975f func89 ?_;repeat' ((conv=>whnf);first|refine K1.P1 hm ?_|refine aT.fH ?_|fail)
 conv=>whnf
 exact bF.mk (bY)
theorem Zf(d:Nat)(x:Rc)(h:jW x=true)(hk:x.k=1\/x.k=4):
  aF prog 89 [x.av] (.aZ [.own d,.v (.int .i64 0)]) [(d,.row 5 1 (aY x).length true (aO (aY x)))]:=by
 have m:=pK h;have hm:=wZ x (by have:=m.l;omega);rw[h]at hm;obtain⟨k,r,u,c,ev⟩:=x;obtain⟨mk,mr,mu,Es,AU,me0,mc,ml,m1,QU⟩:=m;dsimp only at mk mr mu ml mc Es AU me0 QU m1 hk;have Ou:=Ky QU;have hat:∀j,j<ev.length->dU (ev.getD j default)=0:=λ j hj=>Xz Ou hj;have h44:∀j,j<ev.length->(eH (ev.getD j default)).length<=44:=λ j hj=>tX (hat j hj);have hlen:∀j,(gJ (ev.take j)).length<=44*j:=λ j=>anK (zi λ e he=>ug Ou e (an7 he)) (Nat.mul_le_mul_left _ (by rw[am5];omega));obtain⟨kk,hkk⟩:∃kk,kk=k:=⟨_,rfl⟩;have hmore:∀j,(([byteOf' kk,byteOf' r]++[byteOf' (ev.length:Int)])++gJ (ev.take j)).length=3+(gJ (ev.take j)).length:=λ j=>by simp;omega
 rcases hk with rfl|rfl;all_goals
  dsimp only[Rc.av,Rc.cs]at hm⊢;refine K1.E 0x3a020807804000975f func89 ?_;repeat' ((conv=>whnf);first|refine K1.u ?_|refine K1.P1 hm ?_|refine K1.P1 (lI _) ?_|fail)
  conv=>whnf
  refine aI.mk {j:Nat//j<=ev.length} (λ j=>⟨[(1,.box 0 0),(4,.box 1 0),(6,.own 90),(39,.sl 12 ev.length true (dA ev)),(40,.v (.int .i64 (ev.length:Int))),(41,.v (.int .i64 (j.1:Int)))],
   [(1,.box 247 [.v (.bool true),.v (.bool false),.v (.bool false)]),(90,.row 5 1 (([byteOf' kk,byteOf' r]++[byteOf' (ev.length:Int)])++gJ (ev.take j.1)).length true (aO (([byteOf' kk,byteOf' r]++[byteOf' (ev.length:Int)])++gJ (ev.take j.1))))],[],91⟩) (λ j=>ev.length-j.1) ⟨0,ane _⟩ _
   (dZ.mk' [(4,90)] _ _ _ rfl gQ ⟨dB rfl,⟨_,rfl,dK.vX (bg.app (bg.two o_ o_ o_ o_) (bg.one o_ o_) rfl) (by simp<;>omega) (by simp[gJ,hkk])⟩,trivial⟩ rfl) ?_
  rintro⟨j,hj⟩;dsimp only;have ak8:=h44 (j:Int).toNat;have hmj:=hmore j;have hlj:=hlen j;have hsl:=dW (aK (([byteOf' kk,byteOf' r]++[byteOf' (ev.length:Int)])++gJ (ev.take j)).length++(([byteOf' kk,byteOf' r]++[byteOf' (ev.length:Int)])++gJ (ev.take j)));have hvs:(aK (([byteOf' kk,byteOf' r]++[byteOf' (ev.length:Int)])++gJ (ev.take j)).length).length<=10:=dF 9 _;repeat' ((conv=>whnf);first|refine K1.u ?_|refine K1.F1 (wV _ (ev.getD (j:Int).toNat default) (hat _ o_)) ?_ rfl rfl|refine K1.F1 (dI _ (([byteOf' kk,byteOf' r]++[byteOf' (ev.length:Int)])++gJ (ev.take j)).length o_) ?_ rfl rfl|refine K1.F1 (pz _ (aK (([byteOf' kk,byteOf' r]++[byteOf' (ev.length:Int)])++gJ (ev.take j)).length++(([byteOf' kk,byteOf' r]++[byteOf' (ev.length:Int)])++gJ (ev.take j))) (bg.app (bg.bytes _) (bg.bytes _) rfl) am0.symm (by rw[am0];omega)) ?_ rfl rfl|refine K1.y (λ _=>?_) (λ _=>?_)|fail)
  ·conv=>whnf
   refine⟨⟨j+1,o_⟩,_,dZ.mk' [(93,90)] _ _ _ rfl gQ ⟨dB rfl,⟨_,rfl,dK.vX (bg.app (bg.bytes _) (bg.bytes _) rfl) am0.symm ?_⟩,trivial⟩ rfl,by show ev.length-(j+1)<ev.length-j;omega⟩;rw[FM o_,anm];rfl
  ·conv=>whnf
   refine aT.uX d rfl rfl ?_ (bY);refine dK.vX (bg.bytes _) rfl ?_;rw[anf o_];unfold aY kY;simp[hkk,Gs,Gt,Gu,byteOf,byteOf']
theorem ahv(d:Nat)(x:Rc)(h:jW x=true)(hk:x.k=2):
  aF prog 89 [x.av] (.aZ [.own d,.v (.int .i64 0)]) [(d,.row 5 1 (aY x).length true (aO (aY x)))]:=by
 have m:=pK h;have hm:=wZ x (by have:=m.l;omega);rw[h]at hm;obtain⟨k,r,u,c,ev⟩:=x;obtain⟨mk,mr,mu,Es,AU,me0,mc,ml,m1,QU⟩:=m;dsimp only at mk mr mu ml mc Es AU me0 QU m1 hk;obtain⟨kk,hkk⟩:∃kk,kk=k:=⟨_,rfl⟩;obtain⟨un,rfl,hun⟩:=gW mu;have hvu:(aK un).length<=10:=dF 9 _;have hmore:([byteOf' kk,byteOf' r]++aK un).length=2+(aK un).length:=by simp;omega
 have hsl:=dW (aK (2+(aK un).length)++([byteOf' kk,byteOf' r]++aK un));have hvs:(aK (2+(aK un).length)).length<=10:=dF 9 _;subst hk;have hP:bg (lV 2 (chunk 1 [.v (.int .u8 2),.v (.int .u8 r)]) (aO (aK un))) ([byteOf' kk,byteOf' r]++aK un):=hkk▸bg.app (bg.two o_ o_ o_ o_) (bg.bytes _) rfl;have hn:2+(aK un).length=([byteOf' kk,byteOf' r]++aK un).length:=o_
 dsimp only[Rc.av,Rc.cs]at hm⊢;refine K1.E 0x3a020807804000975f func89 ?_;repeat' ((conv=>whnf);first|refine K1.u ?_|refine K1.P1 hm ?_|refine K1.P1 (lI _) ?_|refine K1.F1 (dI _ un o_) ?_ rfl rfl|refine K1.F1 (dI _ (2+(aK un).length) o_) ?_ rfl rfl|refine K1.F1 (pz _ (aK (2+(aK un).length)++([byteOf' kk,byteOf' r]++aK un)) (bg.app (bg.bytes _) hP rfl) (by rw[am0,<-hn]) (by rw[am0,<-hn];omega)) ?_ rfl rfl|fail)
 conv=>whnf
 refine aT.uX d rfl rfl ?_ (bY);refine dK.vX (bg.bytes _) rfl ?_;rw[hn];unfold aY kY;simp[hkk,Gs,Gt,Gu,byteOf,byteOf',gU]
theorem Zg(d:Nat)(x:Rc)(h:jW x=true)(hk:x.k=3\/x.k=5):
  aF prog 89 [x.av] (.aZ [.own d,.v (.int .i64 0)]) [(d,.row 5 1 (aY x).length true (aO (aY x)))]:=by
 have m:=pK h;have hm:=wZ x (by have:=m.l;omega);rw[h]at hm;obtain⟨k,r,u,⟨c0,c1,c2,c3,c4⟩,ev⟩:=x;obtain⟨mk,mr,mu,Es,AU,me0,⟨m0,m1,m2,m3,m4⟩,ml,XA,QU⟩:=m;dsimp only at mk mr mu ml m0 m1 m2 m3 m4 Es AU me0 QU XA hk;obtain⟨kk,hkk⟩:∃kk,kk=k:=⟨_,rfl⟩;obtain⟨c0,rfl,hc0⟩:=gW m0;obtain⟨c1,rfl,hc1⟩:=gW m1;obtain⟨c2,rfl,hc2⟩:=gW m2;obtain⟨c3,rfl,hc3⟩:=gW m3;obtain⟨c4,rfl,hc4⟩:=gW m4;have q0:(aK c0).length<=10:=dF 9 _;have q1:(aK c1).length<=10:=dF 9 _;have q2:(aK c2).length<=10:=dF 9 _;have q3:(aK c3).length<=10:=dF 9 _;have q4:(aK c4).length<=10:=dF 9 _;obtain⟨n,hn0⟩:∃n,n=2+(aK c0).length+(aK c1).length+(aK c2).length+(aK c3).length+(aK c4).length:=⟨_,rfl⟩;have hn:n=([byteOf' kk,byteOf' r]++aK c0++aK c1++aK c2++aK c3++aK c4).length:=by rw[hn0];simp;omega
 have hvs:(aK (2+(aK c0).length+(aK c1).length+(aK c2).length+(aK c3).length+(aK c4).length)).length<=10:=dF 9 _;have hsl:=dW (aK (2+(aK c0).length+(aK c1).length+(aK c2).length+(aK c3).length+(aK c4).length)++([byteOf' kk,byteOf' r]++aK c0++aK c1++aK c2++aK c3++aK c4));rcases hk with rfl|rfl;all_goals
  have hP:=bg.app (bg.app (bg.app (bg.app (bg.app (bg.two (x:=kk) (y:=r) o_ o_ o_ o_) (bg.bytes (aK c0)) rfl) (bg.bytes (aK c1)) (n:=2+(aK c0).length) (by simp<;>omega)) (bg.bytes (aK c2)) (n:=2+(aK c0).length+(aK c1).length) (by simp<;>omega)) (bg.bytes (aK c3)) (n:=2+(aK c0).length+(aK c1).length+(aK c2).length) (by simp<;>omega)) (bg.bytes (aK c4)) (n:=2+(aK c0).length+(aK c1).length+(aK c2).length+(aK c3).length) (by simp<;>omega);rw[hkk]at hP hn;dsimp only[Rc.av,Rc.cs]at hm⊢;refine K1.E 0x3a020807804000975f func89 ?_;repeat' ((conv=>whnf);first|refine K1.u ?_|refine K1.P1 hm ?_|refine K1.P1 (lI _) ?_|refine K1.F1 (dI _ c0 o_) ?_ rfl rfl|refine K1.F1 (dI _ c1 o_) ?_ rfl rfl|refine K1.F1 (dI _ c2 o_) ?_ rfl rfl|refine K1.F1 (dI _ c3 o_) ?_ rfl rfl|refine K1.F1 (dI _ c4 o_) ?_ rfl rfl|refine K1.F1 (dI _ (2+(aK c0).length+(aK c1).length+(aK c2).length+(aK c3).length+(aK c4).length) o_) ?_ rfl rfl|refine K1.F1 (pz _ (aK (2+(aK c0).length+(aK c1).length+(aK c2).length+(aK c3).length+(aK c4).length)++([byteOf' _,byteOf' r]++aK c0++aK c1++aK c2++aK c3++aK c4)) (bg.app (bg.bytes _) hP rfl) (by rw[am0,<-hn,hn0]) (by rw[am0,<-hn,hn0];omega)) ?_ rfl rfl|refine aI.Au 68 6 rfl ?_|refine K1.z ?_|fail)
  conv=>whnf
  refine aT.uX d rfl rfl ?_ (bY);refine dK.vX (bg.bytes _) rfl ?_;rw[<-hn0,hn];unfold aY kY;simp[Gs,Gt,Gu,byteOf,byteOf',gU,Ee]
theorem Ai(d:Nat)(x:Rc)(h:jW x=true):
  aF prog 89 [x.av] (.aZ [.own d,.v (.int .i64 0)]) [(d,.row 5 1 (aY x).length true (aO (aY x)))]:=by
 have m:=(pK h).k;rcases(show x.k=1\/x.k=2\/x.k=3\/x.k=4\/x.k=5 by omega)with hk|hk|hk|hk|hk
 ·exact Zf d x h (.inl hk)
 ·exact ahv d x h hk
 ·exact Zg d x h (.inl hk)
 ·exact Zf d x h (.inr hk)
 ·exact Zg d x h (.inr hk)
end Go.Proofs.YtkimgljckickcaaGreat
