/-
  Contracts of the walk:NdZ,NdW,WcO.
-/
import Derived.Test.YtkimgljckickcaaGreatRa32
import Derived.Test.YtkimgljckickcaaGreatRa29
import Derived.Test.YtkimgljckickcaaGreatRa22
import Derived.Test.YtkimgljckickcaaGreatRa33
import Derived.Test.YtkimgljckickcaaGreatRa34
import Derived.Test.YtkimgljckickcaaGreatRa31
set_option maxHeartbeats 16000000
set_option maxRecDepth 100000
set_option linter.unusedVariables false
set_option linter.unusedSimpArgs false
namespace Go.Proofs.YtkimgljckickcaaGreat
open Go.RowKit
open Go.Proofs.Tryz
variable{s y:Int}{n:Nat}{F:Nat->List AV}{x:Rc}
def VG(h:Nd)(l:List Ev):Rc:=⟨2,h.r,0,aV,l⟩
inductive O5(h:Nd)(l:List Ev):Nd->Int->Prop where
 |hold {d w:List Ev} {c':aS} (hd:gI h.ic (h.held++l)=(d,w,c')) (hw:h.c.h<(w.length:Int)):O5 h l h 22
 |none {w:List Ev} {c':aS} (hd:gI h.ic (h.held++l)=([],w,c')) (hw:(w.length:Int)<=h.c.h):O5 h l ⟨h.c,h.r,true,h.d,h.log,h.sent,c',w,h.wait⟩ 0
 |down {d w:List Ev} {c':aS} (hd:gI h.ic (h.held++l)=(d,w,c')) (hw:(w.length:Int)<=h.c.h) (hd0:0<d.length) (hm:iE (VG h d)=true) (hb:h.d.bs.length<=100000000) (dk:Dk) {y:Int} (hy:y≠0) (hwr:iV h.d (ay (VG h d))=(dk,y)):
   O5 h l ⟨h.c,h.r,false,dk,h.log,h.sent,c',w,h.wait⟩ 18
 |ok {d w:List Ev} {c':aS} (hd:gI h.ic (h.held++l)=(d,w,c')) (hw:(w.length:Int)<=h.c.h) (hd0:0<d.length) (hm:iE (VG h d)=true) (hb:h.d.bs.length<=100000000) (dk:Dk) (hwr:iV h.d (ay (VG h d))=(dk,0)) (hlg:h.log.length<=900000)
   (hap:∀j,j<d.length->Fe (nO (eqK (d.getD j default).key) (h.log++d.take j)) (d.getD j default)/\dU (d.getD j default)=0):
   O5 h l ⟨h.c,h.r,true,dk,h.log++d,h.sent,c',w,h.wait⟩ 0
theorem X8(h h':Nd)(hu:h.up=true)(l:List UInt8)(ht:eP l=(x,0))(hx:x.r=(h.r:Int))(hk:x.k=4)(hno:∀j,j<x.ev.length-> ¬Md h.r h.c.n (x.ev.getD j default))(hl:x.ev.length<=255)(hic:∀q,0<=h.ic.at q/\h.ic.at q<=1000000)(hh:h.held.length<=400000)
  (hev:O5 h x.ev h' y)(hF:bg F l)(hn:n=l.length):
  aj prog 100 [(0,.obs (jQ h))] [.box 0 0,.sl 1 n true F] (.v (.int .i64 y)) [(0,.obs (jQ h'))]:=by
 refine xE (ho:=[]) 15 16 11 12 13 14 ⟨_,_,func100,rfl,rfl⟩ rfl ?_ rfl;rw[am2];have hf:=nH l ht hF hn;clear ht hF;obtain⟨c,r,up,dk,log,sent,ic,held,wait⟩:=h;obtain⟨xk,xr,xu,⟨xc0,xc1,xc2,xc3,xc4⟩,ev⟩:=x;dsimp only at hu hx hk hno hl hic hh hev;subst hu hx hk;dsimp only[uQ,sN,xU,Rc.av,Rc.cs,XB]at hf⊢;refine K1.M 0x41900003d0102173 func100 40 ?_;repeat' ((conv=>whnf);first|refine K1.u ?_|refine K1.P1 hf ?_|fail)
 conv=>whnf
 refine aI.mk {j:Nat//j<=ev.length} (λ j=>⟨[(0,.box 0 0),(5,.box 40 0),(30,.sl 12 ev.length true (dA ev)),(31,.v (.int .i64 (ev.length:Int))),(32,.v (.int .i64 (j.1:Int)))],
   [(40,.box 174 [.v (.int .i64 4),.v (.int .i64 (r:Int)),.v (.int .i64 xu),.v (.int .i64 xc0),.v (.int .i64 xc1),.v (.int .i64 xc2),.v (.int .i64 xc3),.v (.int .i64 xc4),.sl 12 ev.length true (dA ev)]),
    (0,sN ⟨c,r,true,dk,log,sent,ic,held,wait⟩ (.box 8 0) (.own 10) (.box 11 0) (.box 12 0) (.box 13 0)),(8,pO (.own 9) dk),(11,.obs (vM log log.length)),(12,Ae c.h ic (.sl 12 held.length true (dA held))),(13,zh c.q c.w sent (.own 14)),(9,gX dk.bs),(10,bn log),(14,bn wait)],[[(0,.box 0 0),(1,.box 8 0),(2,.own 11),(3,.box 12 0),(4,.box 13 0),(5,.own 9),(6,.own 10),(7,.own 14)]],41⟩) (λ j=>ev.length-j.1) ⟨0,ane _⟩ _
  (dZ.mk' [] _ _ _ rfl gQ nM rfl) ?_
 rintro⟨j,hj⟩;dsimp only[sN];by_cases hjl:j<ev.length
 ·have ho:=hno j hjl;clear hno hev hic;have h1:¬ (ev.getD (j:Int).toNat default).r=(r:Int):=λ h=>ho (.inl h);have h2:¬c.n<=(ev.getD (j:Int).toNat default).r:=λ h=>ho (.inr h);repeat' ((conv=>whnf);first|refine K1.u ?_|fail)
  all_goals(conv=>whnf)
  exact⟨⟨j+1,hjl⟩,_,dZ.mk' [] _ _ _ rfl gQ nM rfl,by show ev.length-(j+1)<ev.length-j;omega⟩
 ·clear hno;rcases hev with⟨hd,hw⟩|⟨hd,hw⟩|⟨hd,hw,hd0,hm,hb,d',hy,hwr⟩|⟨hd,hw,hd0,hm,hb,d',hwr,hlg,hap⟩
  ·have hin:=abv c.h ic held ev hic hh o_ hd hw;clear hd hic;obtain⟨c0,c1,c2,c3,c4⟩:=ic;dsimp only[ndN,sN,Ae,xU,iC]at hin⊢;repeat' ((conv=>whnf);first|refine K1.u ?_|refine K1.C 1 [(0,_)] (hin) rfl ?_|refine K1.I 0x4008000f3 func150 ?_|fail)
   all_goals(conv=>whnf)
   exact iF [(9,15),(10,16)]
  ·have hin:=FT c.h ic held ev hic hh o_ hd hw;clear hd hic;obtain⟨c0,c1,c2,c3,c4⟩:=ic;dsimp only[ndN,sN,Ae,xU,iC,List.length_nil]at hin⊢;repeat' ((conv=>whnf);first|refine K1.u ?_|refine K1.C 1 [(0,_)] (hin) rfl ?_|refine K1.I 0x4008000f3 func150 ?_|fail)
   all_goals(conv=>whnf)
   exact iF [(9,15),(10,16)]
  ·rename_i d w c' y;have hin:=FT c.h ic held ev hic hh o_ hd hw;have hpu:=Ak (VG ⟨c,r,true,dk,log,sent,ic,held,wait⟩ d) hm (n:=d.length) (F:=dA d) rfl λ i hi=>rfl;have hmx:=iJ (VG ⟨c,r,true,dk,log,sent,ic,held,wait⟩ d) hm;have hdk:=lT dk d' (ay (VG ⟨c,r,true,dk,log,sent,ic,held,wait⟩ d)) y (bg.bytes _) rfl (by dsimp only at hb;omega) o_ hwr;generalize ay (VG ⟨c,r,true,dk,log,sent,ic,held,wait⟩ d)=wb at hpu hdk hmx hwr;clear hd hic hm hwr;obtain⟨c0,c1,c2,c3,c4⟩:=ic;dsimp only[ndN,sN,pO,Ae,xU,iC,VG,rcA,aV]at hin hpu hdk⊢;repeat' ((conv=>whnf);first|refine K1.u ?_|refine K1.C 1 [(0,_)] (hin) rfl ?_|refine K1.P1 hpu ?_|refine K1.C 2 [(0,_),(1,_)] (hdk) rfl ?_|refine K1.I 0x4008000f3 func150 ?_|refine K1.I 0x8207b func83 ?_|refine K1.I 0x85 func116 ?_|fail)
   all_goals(conv=>whnf)
   exact iF [(43,15),(10,16)]
  ·rename_i d w c';have hin:=FT c.h ic held ev hic hh o_ hd hw;have hpu:=Ak (VG ⟨c,r,true,dk,log,sent,ic,held,wait⟩ d) hm (n:=d.length) (F:=dA d) rfl λ i hi=>rfl;have hmx:=iJ (VG ⟨c,r,true,dk,log,sent,ic,held,wait⟩ d) hm;have hdk:=lT dk d' (ay (VG ⟨c,r,true,dk,log,sent,ic,held,wait⟩ d)) 0 (bg.bytes _) rfl (by dsimp only at hb;omega) o_ hwr;generalize ay (VG ⟨c,r,true,dk,log,sent,ic,held,wait⟩ d)=wb at hpu hdk hmx hwr;have hdl:d.length<=4096:=by
    simp only[iE,VG,amY]at hm;exact of_decide_eq_true hm.1.1.1.1.1.1.2
   clear hd hic hm hwr;obtain⟨c0,c1,c2,c3,c4⟩:=ic;dsimp only[ndN,sN,pO,Ae,xU,iC,VG,rcA,aV]at hin hpu hdk hap hlg⊢;repeat' ((conv=>whnf);first|refine K1.u ?_|refine K1.C 1 [(0,_)] (hin) rfl ?_|refine K1.P1 hpu ?_|refine K1.C 2 [(0,_),(1,_)] (hdk) rfl ?_|refine K1.I 0x4008000f3 func150 ?_|refine K1.I 0x8207b func83 ?_|refine K1.I 0x85 func116 ?_|refine K1.I 0x78023 func86 ?_|fail)
   all_goals(conv=>whnf)
   refine aI.mk {i:Nat//i<=d.length} (λ i=>⟨[(0,.box 0 0),(15,.sl 12 d.length true (dA d)),(16,.v (.int .i64 (d.length:Int))),(17,.v (.int .i64 (i.1:Int)))],
     [(11,.obs (vM (log++d.take i.1) (log.length+i.1))),(44,bn (log++d)),(8,pO (.own 43) d'),(43,gX d'.bs),(0,sN ⟨c,r,true,dk,log,sent,⟨c0,c1,c2,c3,c4⟩,held,wait⟩ (.box 8 0) (.own 44) (.box 11 0) (.box 12 0) (.box 13 0)),(12,Ae c.h c' (xU w)),(13,zh c.q c.w sent (.own 14)),(14,bn wait)],[[(37,.sl 12 d.length true (dA d)),(36,.box 0 0),(34,.v (.bool false)),(7,.v (.int .i64 0)),(23,.v (.bool false)),(6,.v (.int .i64 0)),(5,.sl 12 d.length true (dA d)),(4,.v (.int .i64 0)),(0,.box 0 0),(1,.sl 12 ev.length true (dA ev))],[(66,.sl 12 ev.length true (dA ev)),(65,.box 40 8),(64,.box 0 0),(62,.v (.bool true)),(56,.v (.bool false)),(55,.v (.int .i64 4)),(33,.v (.bool false)),(0,.box 0 0),(5,.box 40 0),(30,.sl 12 ev.length true (dA ev)),(31,.v (.int .i64 (ev.length:Int))),(32,.v (.int .i64 (j:Int)))],[(0,.box 0 0),(1,.box 8 0),(2,.own 11),(3,.box 12 0),(4,.box 13 0),(5,.own 9),(6,.own 10),(7,.own 14)]],46⟩) (λ i=>d.length-i.1) ⟨0,ane _⟩ _
    (dZ.mk' [] _ _ _ rfl gQ ⟨⟨_,rfl,by rw[List.take_zero,am2];exact dK.refl _⟩,⟨_,rfl,dK.row s_ λ m _=>els_app (c:=Ev.cs) (l:=log) rfl m⟩,dB rfl,dB rfl,dB rfl,dB rfl,dB rfl,dB rfl,trivial⟩ rfl) ?_
   rintro⟨i,hi⟩;dsimp only[sN,xU];by_cases hil:i<d.length
   ·obtain⟨hnx,hmy⟩:=hap i hil;have ha:=QI hnx hmy (by rw[am0,am5];omega) (log.length+i);rw[anm,show d.take i++[d.getD i default]=d.take (i+1) by rw[aoa,amX hil];simp[List.getD,hil]]at ha;rw[show d.getD i default=d.getD (i:Int).toNat default from rfl]at ha;clear hap hnx hmy;dsimp only[Ev.av,Ev.cs]at ha;repeat' ((conv=>whnf);first|refine K1.u ?_|refine K1.C 1 [(0,_)] (ha) rfl ?_|refine K1.o (id:=4) (nN [0,1,2,3,4] [(5,some [4,3,1])]) ?_|fail)
    all_goals(conv=>whnf)
    exact⟨⟨i+1,hil⟩,_,dZ.mk' [] _ _ _ rfl gQ nM rfl,by show d.length-(i+1)<d.length-i;omega⟩
   ·obtain rfl:i=d.length:=o_
    rw[aof];repeat' ((conv=>whnf);first|refine K1.u ?_|fail)
    all_goals(conv=>whnf)
    exact⟨[(43,15),(44,16)],rfl,rfl,⟨dB rfl,dB rfl,⟨_,rfl,by simp only[am0];exact dK.refl _⟩,dB rfl,dB rfl,dB rfl,dB rfl,dB rfl,trivial⟩,rfl,rfl,bY⟩
def GR(h:Nd)(u:Int):Int:=if(if h.ic.at h.r<u then h.ic.at h.r else u)>h.sent then(if h.ic.at h.r<u then h.ic.at h.r else u)else h.sent
theorem Lh(h:Nd)(hu:h.up=true)(l:List UInt8)(ht:eP l=(x,0))(qB:h.r<5)(hx:x.r=(h.r:Int))(hk:x.k=2)(he:x.ev=[])(hs:GR h x.u=h.sent)(hF:bg F l)(hn:n=l.length):
  aj prog 100 [(0,.obs (jQ h))] [.box 0 0,.sl 1 n true F] (.v (.int .i64 0)) [(0,.obs (jQ h))]:=by
 refine gK (ho:=[]) ⟨_,_,func100,rfl,rfl⟩ ?_ rfl;have hf:=nH l ht hF hn;have hcl:=lM h.c.h h.ic (xU h.held) (.inr ⟨_,_,rfl⟩);obtain⟨c,r,up,d,log,sent,⟨c0,c1,c2,c3,c4⟩,held,wait⟩:=h;obtain⟨xk,xr,xu,⟨xc0,xc1,xc2,xc3,xc4⟩,ev⟩:=x;dsimp only at hu hx hk he qB;subst hu hx hk he;dsimp only[uQ,sN,Ae,Rc.av,Rc.cs,XB,aS.av,aS.cs,GR,List.append_nil,List.length_nil]at hf hcl hs⊢;clear ht hF;refine K1.M 0x41900003d0102173 func100 40 ?_;repeat' ((conv=>whnf);first|refine K1.u ?_|refine K1.P1 hf ?_|refine K1.C 1 [(0,_)] (hcl) rfl ?_|refine K1.I 0x8020000073 func149 ?_|(refine mJ.five qB (λ e=>?_) (λ e=>?_) (λ e=>?_) (λ e=>?_) (λ e=>?_)<;>subst e)|refine aI.rounds 1 ?_|refine K1.o (id:=1) (nN [0,1,2,3,4,5,6,7,8,10,11,12,13] ((9,some [8,6])::nN [14,15,16,17] [])) ?_|fail)
 all_goals(conv=>whnf)
 all_goals exact iF []
theorem O6(x:Rc)(h:iE x=true)(he:x.ev.length=0):aF prog 130 [.agg [.v (.int .i64 x.k),.v (.int .i64 x.r),.v (.int .i64 x.u),.v (.int .i64 x.c.c0),.v (.int .i64 x.c.c1),.v (.int .i64 x.c.c2),.v (.int .i64 x.c.c3),.v (.int .i64 x.c.c4),iC]] (.aZ [.sl 1 (ay x).length true (aO (ay x)),.v (.int .i64 0)]) []:=
 (vP 0 x h).thaw.args (.of (λ X u hu=>by
  obtain⟨us,e,ha⟩:=hu;exact⟨us,e,aC.lH (k:=8) rfl (x:=iC) (y:= .sl 12 x.ev.length true (dA x.ev)) (λ X u hu=>by
   rw[he];exact C1.iC (s:=12) d_ (show C1 X (.v (.slice none 0 0)) u from hu)) ha⟩) .nil)
def VX(h:Nd)(s:Int):Rc:=⟨3,h.r,s,aV,[]⟩
theorem Ri(h:Nd)(hu:h.up=true)(l:List UInt8)(ht:eP l=(x,0))(qB:h.r<5)(hx:x.r=(h.r:Int))(hk:x.k=2)(he:x.ev=[])(hs:GR h x.u=s)(hne:s≠h.sent)(hs0:0<=h.sent/\h.sent<=1000000)(hs1:0<=s/\s<=1000000)(hwl:h.wait.length<=1000000)(hb:h.d.bs.length<=100000000)
  (hm:iE (VX h s)=true)(d':Dk)(hw:iV h.d (ay (VX h s))=(d',0))(hF:bg F l)(hn:n=l.length):
  aj prog 100 [(0,.obs (jQ h))] [.box 0 0,.sl 1 n true F] (.v (.int .i64 0)) [(0,.obs (jQ ⟨h.c,h.r,true,d',h.log,h.sent+(vN h.sent s h.wait.length:Int),h.ic,h.held,h.wait.drop (vN h.sent s h.wait.length)⟩))]:=by
 refine xE (ho:=[]) 15 10 11 12 13 17 ⟨_,_,func100,rfl,rfl⟩ rfl ?_ rfl;have hf:=nH l ht hF hn;have hcl:=lM h.c.h h.ic (xU h.held) (.inr ⟨_,_,rfl⟩);have hp:=O6 (VX h s) hm rfl;have hmx:=iJ (VX h s) hm;have hdk:=lT h.d d' (ay (VX h s)) 0 (bg.bytes _) rfl o_ o_ hw;have hst:=aa0 h.c.q h.c.w h.sent s h.wait hwl o_ o_;generalize ay (VX h s)=wb at hp hdk hmx hw;generalize vN h.sent s h.wait.length=K at*;obtain⟨c,r,up,d,log,sent,⟨c0,c1,c2,c3,c4⟩,held,wait⟩:=h;obtain⟨xk,xr,xu,⟨xc0,xc1,xc2,xc3,xc4⟩,ev⟩:=x;dsimp only at hu hx hk he qB;subst hu hx hk he;dsimp only[uQ,ndN,sN,Ae,zh,pO,VX,iC,aV,Rc.av,Rc.cs,XB,aS.av,aS.cs,GR,List.append_nil,List.length_nil]at hf hcl hs hne hp hdk hst⊢;clear ht hF hm hw;refine K1.M 0x41900003d0102173 func100 40 ?_;repeat' ((conv=>whnf);first|refine K1.u ?_|refine K1.P1 hf ?_|refine K1.C 1 [(0,_)] (hcl) rfl ?_|refine K1.P1 hp ?_|refine K1.C 2 [(0,_),(1,_)] (hdk) rfl ?_|refine K1.C 2 [(0,_),(1,_)] (hst) rfl ?_|refine K1.I 0x8020000073 func149 ?_|refine K1.I 0x8207b func83 ?_|refine K1.I 0x85 func116 ?_|(refine mJ.five qB (λ e=>?_) (λ e=>?_) (λ e=>?_) (λ e=>?_) (λ e=>?_)<;>subst e<;>simp only[aS.at]at hs<;>subst hs)|refine aI.rounds 1 ?_|refine K1.o (id:=1) (nN [0,1,2,3,4,5,6,7,8,10,11,12,13] ((9,some [8,6])::nN [14,15,16,17] [])) ?_|fail)
 all_goals(conv=>whnf)
 all_goals exact iF [(43,15),(44,17)]
theorem Lj(h:Nd)(hu:h.up=true)(l:List UInt8)(ht:eP l=(x,0))(qB:h.r<5)(hx:x.r=(h.r:Int))(hk:x.k=2)(he:x.ev=[])(hs:GR h x.u=s)(hne:s≠h.sent)(hb:h.d.bs.length<=100000000)
  (hm:iE (VX h s)=true)(d':Dk)(hy:y≠0)(hw:iV h.d (ay (VX h s))=(d',y))(hF:bg F l)(hn:n=l.length):
  aj prog 100 [(0,.obs (jQ h))] [.box 0 0,.sl 1 n true F] (.v (.int .i64 18)) [(0,.obs (jQ ⟨h.c,h.r,false,d',h.log,h.sent,h.ic,h.held,h.wait⟩))]:=by
 refine xE (ho:=[]) 15 10 11 12 13 14 ⟨_,_,func100,rfl,rfl⟩ rfl ?_ rfl;have hf:=nH l ht hF hn;have hcl:=lM h.c.h h.ic (xU h.held) (.inr ⟨_,_,rfl⟩);have hp:=O6 (VX h s) hm rfl;have hmx:=iJ (VX h s) hm;have hdk:=lT h.d d' (ay (VX h s)) y (bg.bytes _) rfl o_ o_ hw;generalize ay (VX h s)=wb at hp hdk hmx hw;obtain⟨c,r,up,d,log,sent,⟨c0,c1,c2,c3,c4⟩,held,wait⟩:=h;obtain⟨xk,xr,xu,⟨xc0,xc1,xc2,xc3,xc4⟩,ev⟩:=x;dsimp only at hu hx hk he qB;subst hu hx hk he;dsimp only[uQ,ndN,sN,Ae,zh,pO,VX,iC,aV,Rc.av,Rc.cs,XB,aS.av,aS.cs,GR,List.append_nil,List.length_nil]at hf hcl hs hne hp hdk⊢;clear ht hF hm hw;refine K1.M 0x41900003d0102173 func100 40 ?_;repeat' ((conv=>whnf);first|refine K1.u ?_|refine K1.P1 hf ?_|refine K1.C 1 [(0,_)] (hcl) rfl ?_|refine K1.P1 hp ?_|refine K1.C 2 [(0,_),(1,_)] (hdk) rfl ?_|refine K1.I 0x8020000073 func149 ?_|refine K1.I 0x8207b func83 ?_|refine K1.I 0x85 func116 ?_|(refine mJ.five qB (λ e=>?_) (λ e=>?_) (λ e=>?_) (λ e=>?_) (λ e=>?_)<;>subst e<;>simp only[aS.at]at hs<;>subst hs)|refine aI.rounds 1 ?_|refine K1.o (id:=1) (nN [0,1,2,3,4,5,6,7,8,10,11,12,13] ((9,some [8,6])::nN [14,15,16,17] [])) ?_|fail)
 all_goals(conv=>whnf)
 all_goals exact iF [(43,15)]
section
theorem X9(os:List OB)(h1:1<=os.length)(h5:os.length<=5):(wP os).length=os.length:=
 jS (C:=λ os=>(wP os).length=os.length) os h1 h5 (λ _=>rfl) (λ _ _=>rfl) (λ _ _ _=>rfl) (λ _ _ _ _=>rfl) (λ _ _ _ _ _=>rfl)
set_option maxHeartbeats 8000000
set_option maxRecDepth 100000
theorem afR(os:List OB)(hb ln:OB)(r:Nat)(h5:os.length<=5)(hr:r<os.length)(hm:aj prog 53 [(0,.obs (os.getD r hb))] [.box 0 0] (.aZ [.own 3,.v (.int .i64 0)]) [(0,.obs (os.getD r hb)),(3,.row 86 7 n false F)]):
  aj prog 22 [(0,.obs (wO os hb ln))] [.box 0 0,.v (.int .i64 (r:Int))] (.aZ [.own 20,.v (.int .i64 0)]) [(0,.obs (wO os hb ln)),(20,.row 86 7 n false F)]:=by
 refine oU (ho:=[_]) ⟨_,_,func22,rfl,rfl⟩ ?_ rfl;revert hm;refine sO (C:=λ os r=>aj prog 53 [(0,.obs (os.getD r hb))] [.box 0 0] (.aZ [.own 3,.v (.int .i64 0)]) [(0,.obs (os.getD r hb)),(3,.row 86 7 n false F)]->
  aj prog 22 (wH os hb ln ()) [.box 0 0,.v (.int .i64 (r:Int))] (.aZ [.own 20,.v (.int .i64 0)]) (wH os hb ln ()++[(20,.row 86 7 n false F)])) os r h5 hr ?_ ?_ ?_ ?_ ?_ ?_ ?_ ?_ ?_ ?_ ?_ ?_ ?_ ?_ ?_
 all_goals
  intros;rename_i hm;simp only[aoe,an']at hm;dsimp only[wH,wP,wN,List.cons_append,List.nil_append];refine K1.M 0x233 func22 40 ?_;repeat' ((conv=>whnf);first|refine K1.u ?_|refine K1.C 3 [(0,_)] (hm) rfl ?_|refine K1.I 0x13 func39 ?_|refine nR.yes (of_decide_eq_true rfl) ?_|refine mJ.lit _ rfl rfl ?_|fail)
  all_goals(conv=>whnf)
  refine⟨[(40,20)],rfl,rfl, ?_,rfl,rfl,bY⟩;repeat' (first|exact trivial|refine⟨dB rfl, ?_⟩)
theorem Ya(os:List OB)(hb ln:OB)(r:Nat)(h5:os.length<=5)(hr:r<os.length)(hm:aj prog 53 [(0,.obs (os.getD r hb))] [.box 0 0] (.aZ [.v (.slice none 0 0),.v (.int .i64 18)]) [(0,.obs (os.getD r hb))]):
  aj prog 22 [(0,.obs (wO os hb ln))] [.box 0 0,.v (.int .i64 (r:Int))] (.aZ [.v (.slice none 0 0),.v (.int .i64 18)]) [(0,.obs (wO os hb ln))]:=by
 refine oU (ho:=[]) ⟨_,_,func22,rfl,rfl⟩ ?_ rfl;revert hm;refine sO (C:=λ os r=>aj prog 53 [(0,.obs (os.getD r hb))] [.box 0 0] (.aZ [.v (.slice none 0 0),.v (.int .i64 18)]) [(0,.obs (os.getD r hb))]->
  aj prog 22 (wH os hb ln ()) [.box 0 0,.v (.int .i64 (r:Int))] (.aZ [.v (.slice none 0 0),.v (.int .i64 18)]) (wH os hb ln ()++[])) os r h5 hr ?_ ?_ ?_ ?_ ?_ ?_ ?_ ?_ ?_ ?_ ?_ ?_ ?_ ?_ ?_
 all_goals
  intros;rename_i hm;simp only[aoe,an']at hm;dsimp only[wH,wP,wN,List.append_nil];refine K1.M 0x233 func22 40 ?_;repeat' ((conv=>whnf);first|refine K1.u ?_|refine K1.C 1 [(0,_)] (hm) rfl ?_|refine K1.I 0x13 func39 ?_|refine nR.yes (of_decide_eq_true rfl) ?_|refine mJ.lit _ rfl rfl ?_|fail)
  all_goals(conv=>whnf)
  refine⟨[],rfl,rfl, ?_,rfl,rfl,bY⟩;repeat' (first|exact trivial|refine⟨dB rfl, ?_⟩)
theorem VH(os:List OB)(hb ln:OB)(h1:1<=os.length)(h5:os.length<=5)(r:Int)(h:r<0\/(os.length:Int)<=r):
  aj prog 22 [(0,.obs (wO os hb ln))] [.box 0 0,.v (.int .i64 r)] (.aZ [.v (.slice none 0 0),.v (.int .i64 1)]) [(0,.obs (wO os hb ln))]:=by
 refine oU (ho:=[]) ⟨_,_,func22,rfl,rfl⟩ ?_ rfl;rw[<-X9 os h1 h5]at h;revert h;refine jS (C:=λ os=>r<0\/((wP os).length:Int)<=r->aj prog 22 (wH os hb ln ()) [.box 0 0,.v (.int .i64 r)] (.aZ [.v (.slice none 0 0),.v (.int .i64 1)]) (wH os hb ln ()++[])) os h1 h5 ?_ ?_ ?_ ?_ ?_;all_goals
  intros;rename_i h;dsimp only[wP]at h;rcases h with h|h
 all_goals
  dsimp only[wH,wP,wN,List.append_nil];refine K1.M 0x233 func22 40 ?_;repeat' ((conv=>whnf);first|refine K1.u ?_|refine K1.I 0x13 func39 ?_|fail)
  all_goals(conv=>whnf)
  refine⟨[],rfl,rfl, ?_,rfl,rfl,bY⟩;repeat' (first|exact trivial|refine⟨dB rfl, ?_⟩)
theorem VI(os:List OB)(hb ln:OB)(h1:1<=os.length)(h5:os.length<=5)(r:Int)(h:r<0\/(os.length:Int)<=r):
  aj prog 16 [(0,.obs (wO os hb ln))] [.box 0 0,.v (.int .i64 r)] (Aw false aV 0 [] []) [(0,.obs (wO os hb ln))]:=by
 refine oU (ho:=[]) ⟨_,_,func16,rfl,rfl⟩ ?_ rfl;rw[<-X9 os h1 h5]at h;revert h;refine jS (C:=λ os=>r<0\/((wP os).length:Int)<=r->aj prog 16 (wH os hb ln ()) [.box 0 0,.v (.int .i64 r)] (Aw false aV 0 [] []) (wH os hb ln ()++[])) os h1 h5 ?_ ?_ ?_ ?_ ?_;all_goals
  intros;rename_i h;dsimp only[wP]at h;rcases h with h|h
 all_goals
  unfold Aw;dsimp only[wH,wP,wN,List.append_nil,cond_true,cond_false];refine K1.M 0x113 func16 40 ?_;repeat' ((conv=>whnf);first|refine K1.u ?_|refine K1.I 0x13 func39 ?_|fail)
  all_goals(conv=>whnf)
  refine⟨[],rfl,rfl, ?_,rfl,rfl,bY⟩;repeat' (first|exact trivial|refine⟨dB rfl, ?_⟩)
theorem ahW(os:List OB)(hb ln:OB)(h1:1<=os.length)(h5:os.length<=5)(s:Sit)(hm:aj prog 47 [(0,.obs hb)] [.box 0 0] (.agg (s.vs.map .v)) [(0,.obs hb)]):
  aj prog 17 [(0,.obs (wO os hb ln))] [.box 0 0] (.agg (s.vs.map .v)) [(0,.obs (wO os hb ln))]:=by
 refine oU (ho:=[]) ⟨_,_,func17,rfl,rfl⟩ ?_ rfl;refine jS (C:=λ os=>aj prog 17 (wH os hb ln ()) [.box 0 0] (.agg (s.vs.map .v)) (wH os hb ln ()++[])) os h1 h5 ?_ ?_ ?_ ?_ ?_;all_goals
  intros;dsimp only[wH,wP,wN,List.append_nil,Sit.vs,List.map]at hm⊢;refine K1.M 0x85 func17 40 ?_;repeat' ((conv=>whnf);first|refine K1.C 1 [(0,_)] (hm) rfl ?_|fail)
  all_goals(conv=>whnf)
  refine⟨[],rfl,rfl, ?_,rfl,rfl,bY⟩;repeat' (first|exact trivial|refine⟨dB rfl, ?_⟩)
theorem Yb(os:List OB)(hb ln:OB)(h1:1<=os.length)(h5:os.length<=5){n:Int}(hm:aj prog 48 [(0,.obs ln)] [.box 0 0] (.v (.int .i64 n)) [(0,.obs ln)]):
  aj prog 18 [(0,.obs (wO os hb ln))] [.box 0 0] (.v (.int .i64 n)) [(0,.obs (wO os hb ln))]:=by
 refine oU (ho:=[]) ⟨_,_,func18,rfl,rfl⟩ ?_ rfl;refine jS (C:=λ os=>aj prog 18 (wH os hb ln ()) [.box 0 0] (.v (.int .i64 n)) (wH os hb ln ()++[])) os h1 h5 ?_ ?_ ?_ ?_ ?_;all_goals
  intros;dsimp only[wH,wP,wN,List.append_nil]at hm⊢;refine K1.M 0x85 func18 40 ?_;repeat' ((conv=>whnf);first|refine K1.C 1 [(0,_)] (hm) rfl ?_|fail)
  all_goals(conv=>whnf)
  refine⟨[],rfl,rfl, ?_,rfl,rfl,bY⟩;repeat' (first|exact trivial|refine⟨dB rfl, ?_⟩)
end
end Go.Proofs.YtkimgljckickcaaGreat
