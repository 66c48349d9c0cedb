/-
  Contracts of the walk:Ref9,HyI,OpG,BkO,Open,OpenH,HnA,HnB.
-/
import Derived.Test.YtopfgjgdadnjeaaGreatHp21
import Derived.Test.YtopfgjgdadnjeaaGreatHp15
import Derived.Test.YtopfgjgdadnjeaaGreatHp16
import Derived.Test.YtopfgjgdadnjeaaGreatHp17
import Derived.Test.YtopfgjgdadnjeaaGreatRows
import Derived.Test.YtopfgjgdadnjeaaGreatHp7
import Derived.ProofKit
import Derived.OpenShut
import Derived.SizedLaws
import Derived.ChangeOld
import Derived.Test.YtopfgjgdadnjeaaGreatHp12
import Derived.Test.YtopfgjgdadnjeaaGreatHp13
import Derived.Test.YtopfgjgdadnjeaaGreatHp18
set_option maxHeartbeats 16000000
set_option maxRecDepth 100000
set_option linter.unusedVariables false
set_option linter.unusedSimpArgs false
namespace Go.Proofs.YtopfgjgdadnjeaaGreat
open Go.RowKit
variable{r:AV}{f:FuncId}{h:Hb}{ho hs':List (Nat×AO)}{bD:List AV}{l:List UInt8}{n:Nat}{z:Rc}
theorem NR(hl:l.length<=2048)(ho:nV l):(∃z,gV l=(z,0)/\iC z=true/\bg z=l)\/gV l=(Gs,3):=by
 unfold gV;rw[if_neg (by omega),if_pos ho];split
 ·rename_i h1;exact .inl ⟨_,rfl,h1.2.1,h1.2.2⟩
 ·exact .inr rfl
theorem NS(h:bg z=l):inner l=ak (fK z).length++fK z:=by rw[<-h];exact uN _
theorem abr(l:List UInt8)(hl:l.length<=1000000000):aC Tryz.prog 50 [.sl 1 l.length true (aG l)] (.bJ [(gV l).1.av,.v (.int .i64 (gV l).2)]) []:=by
 by_cases hbig:2048<l.length
 ·rw[show gV l=(Gs,5) by unfold gV;rw[if_pos hbig]];refine K1.E 0x4000080404fbd Tryz.func50 ?_;repeat' ((conv=>whnf);first|refine K1.u ?_|refine aO.dW ?_|refine K1.z ?_|refine K1.y (λ _=>?_) (λ _=>?_)|fail)
  all_goals(conv=>whnf)
  all_goals exact aW.mk (bI.fO _)
 ·have hl2:l.length<=2048:=by omega
  by_cases ho:nV l
  ·have hF:aS (aG l) (dF (inner l)):=by rw[<-qE ho];exact aS.bytes l
   have hil:(inner l).length<=l.length:=by unfold inner;rw[List.length_take];omega
   have hop:=X0 (inner l) hF (by rw[<-qE ho]) (by omega);have hin:∀z,bg z=l->inner l=ak (fK z).length++fK z:=λ z=>NS;have hcs:=NR hl2 ho;have IV:∀z,iC z=true->bg z=l->gV l=(z,0):=λ z hz hb=>by rw[<-hb];exact BO z hz
   generalize gV l=T at hcs IV;generalize inner l=m at hop hil hin;have hrt:=uS m (aS.bytes m) rfl (by omega);have hrl:=AZ m;have hrp:∀z,iC z=true->bg z=l->jf m=((fK z).length,(ak (fK z).length).length,0):=λ z hz hb=>by rw[hin z hb];exact lZ _ _ (by have:=yU z hz;omega)
   obtain⟨⟨n,k,e⟩,ht⟩:∃p,jf m=p:=⟨_,rfl⟩;rw[ht]at hrt hrl hrp;dsimp only at hrt hrl;have hno:(∀z,iC z=true->bg z=l->False)->T=(Gs,3):=λ h=>hcs.elim (λ⟨z,_,h2,h3⟩=>(h z h2 h3).elim) id;by_cases he:e=0
   ·subst he;obtain⟨f,hf1,hf2,hf3⟩:=X5 (m.drop k) (by rw[List.length_drop];omega);have hrd:=hf1.args (Ch.lH (n:=m.length-k) ((aS.bytes m).drop k) (by simp) .nil);have hfz:∀z,iC z=true->bg z=l->f=z:=λ z hz hb=>hf3 z hz (by
     have h1:=hrp z hz hb;simp only[Prod.mk.injEq]at h1;rw[h1.2.1,hin z hb,List.drop_left])
    cases hm:iC f with
    |false=>
     have hp:=IU f (by omega) hm;rw[hno λ z hz hb=>by rw[hfz z hz hb]at hm;rw[hz]at hm;cases hm];clear hno hfz hf3 hrp hin IV hcs;refine K1.E 0x4000080404fbd Tryz.func50 ?_;repeat' ((conv=>whnf);first|refine K1.u ?_|refine K1.P1 hop ?_|refine K1.P1 hrt ?_|refine K1.P1 hrd ?_|refine K1.P1 hp ?_|refine aO.dW ?_|refine K1.z ?_|refine K1.y (λ _=>?_) (λ _=>?_)|fail)
     all_goals(conv=>whnf)
     all_goals exact aW.mk (bI.fO _)
    |true=>
     have hp:=λ d=>qJ d f hm;by_cases hb:bg f=l
     ·rw[IV f hm hb];rw[hb]at hp;clear hno hfz hf3 hrp hin IV hcs;refine K1.E 0x4000080404fbd Tryz.func50 ?_;repeat' ((conv=>whnf);first|refine K1.u ?_|refine K1.P1 hop ?_|refine K1.P1 hrt ?_|refine K1.P1 hrd ?_|refine K1.F1 (hp _) ?_|refine Bs.of l (aS.bytes _) rfl ?_|refine lD.yes rfl ?_|refine aO.dW ?_|refine K1.z ?_|refine K1.y (λ _=>?_) (λ _=>?_)|fail)
      all_goals(conv=>whnf)
      all_goals exact aW.mk (aP)
     ·rw[hno λ z hz hbz=>hb (by rw[hfz z hz hbz];exact hbz)];have hne:=J5 hb;generalize bg f=w at hp hne;clear hno hfz hf3 hrp hin IV hcs hb;refine K1.E 0x4000080404fbd Tryz.func50 ?_;repeat' ((conv=>whnf);first|refine K1.u ?_|refine K1.P1 hop ?_|refine K1.P1 hrt ?_|refine K1.P1 hrd ?_|refine K1.F1 (hp _) ?_|refine Bs.of w (aS.bytes _) rfl ?_|refine Bs.of l (aS.bytes _) rfl ?_|refine lD.no hne ?_|refine aO.dW ?_|refine K1.z ?_|refine K1.y (λ _=>?_) (λ _=>?_)|fail)
      all_goals(conv=>whnf)
      all_goals exact aW.mk (bI.fO _)
   ·rw[hno λ z hz hb=>he (by have h1:=hrp z hz hb;simp only[Prod.mk.injEq]at h1;exact h1.2.2)];clear hno hrp hin IV hcs;refine K1.E 0x4000080404fbd Tryz.func50 ?_;repeat' ((conv=>whnf);first|refine K1.u ?_|refine K1.P1 hop ?_|refine K1.P1 hrt ?_|refine aO.dW ?_|refine K1.z ?_|refine K1.y (λ _=>?_) (λ _=>?_)|fail)
    all_goals(conv=>whnf)
    all_goals exact aW.mk (bI.fO _)
  ·have hop:=X3 l ho (aS.bytes _) rfl (by omega);rw[show gV l=(Gs,4) by unfold gV;rw[if_neg hbig,if_neg ho]];refine K1.E 0x4000080404fbd Tryz.func50 ?_;repeat' ((conv=>whnf);first|refine K1.u ?_|refine K1.P1 hop ?_|refine aO.dW ?_|refine K1.z ?_|refine K1.y (λ _=>?_) (λ _=>?_)|fail)
   all_goals(conv=>whnf)
   all_goals exact aW.mk (bI.fO _)
theorem X6{F:Nat->List AV}(l:List UInt8){x:Int}(ht:gV l=(z,x))(hl:l.length<=1000000000)(hF:aS F l)(hn:n=l.length):
  aC Tryz.prog 50 [.sl 1 n true F] (.bJ [z.av,.v (.int .i64 x)]) []:=by
 have:=abr l hl;rw[ht]at this;exact this.args (Ch.lH hF hn .nil)
theorem C1.Vu{X:CX}{f:Nat->List AV}{u:Value}(h:C1 X (.v (.slice none 0 0)) u):C1 X (.sl 1 0 true f) u:=by
 have h:u= .slice none 0 0:=h;subst h;exact(show C0 X (.sl 1 0 true f) (.slice none 0 0)from .sl 1 0 true f none 0 [] (by omega) (Nat.le_refl _) (by simp[maxLen]) (by simp) (λ i hi=>absurd hi (Nat.not_lt_zero i)) (λ _ x hx=>by simp[flat]at hx) (λ i x u hx=>by simp[flat]at hx) (.inl rfl))
def Ce(c:jv)(y:gX):OB:=OB.pack λ _:Unit=>oP c y
theorem jZ(c:jv)(y:gX):Closes (oP c y) 0 (Ce c y):=Closes.pack (λ _:Unit=>oP c y) () rfl λ _ hok=>wK (hok _ List.mem_cons_self)
theorem Uy(r:Nat)(c:jv)(y:gX):Closes (rpR r c y) 0 (Ce c y):=match r with
 |0=>(jZ c y).ren [(0,0),(20,20),(21,21),(22,22),(23,23),(24,24),(30,40),(31,31),(32,32),(33,33),(34,34)] rfl rfl
 |1=>(jZ c y).ren [(0,0),(20,20),(21,21),(22,22),(23,23),(24,24),(30,30),(31,40),(32,32),(33,33),(34,34)] rfl rfl
 |2=>(jZ c y).ren [(0,0),(20,20),(21,21),(22,22),(23,23),(24,24),(30,30),(31,31),(32,40),(33,33),(34,34)] rfl rfl
 |3=>(jZ c y).ren [(0,0),(20,20),(21,21),(22,22),(23,23),(24,24),(30,30),(31,31),(32,32),(33,40),(34,34)] rfl rfl
 |_+4=>(jZ c y).ren [(0,0),(20,20),(21,21),(22,22),(23,23),(24,24),(30,30),(31,31),(32,32),(33,33),(34,40)] rfl rfl
theorem acr(r:Nat)(c:jv)(y:gX):bW 0 (rpR r c y)=true:=by unfold rpR;split<;>rfl
theorem J8{c:jv}{y y':gX}(hE:Enters Tryz.prog f)(hC:Closes hs' 0 (Ce c y'))(hn:bW 0 hs'=true)(hm:au Tryz.prog f (oP c y) bD r (hs'++ho))
  (hb:(bD.all (rD (λ _=>false) 0)&&nJ (λ i=>bW i ho) 0 r&&iF ho ho&& !(bW 0 ho))=true):au Tryz.prog f [(0,.obs (Ce c y))] bD r ((0,.obs (Ce c y'))::ho):=
 au.opn hE (Opens.pack λ _:Unit=>oP c y) (λ _=>⟨_,hC,rfl,hn,hm⟩) hb
theorem Uz(c:jv)(y:gX)(n r:Nat)(hr:r<n)(h5:n<=5)(hn:c.n=(n:Int))(hB:Dw n y)(l:List Ev)(hl:EvB l)(hall:∀j,j<l.length->(l.getD j default).r=(r:Int))(y':gX)(u x:Int)(hp:iQ c.w n r l y=(y',u,x)):
  au Tryz.prog 52 [(0,.obs (Ce c y))] [.box 0 0,.v (.int .i64 (r:Int)),.sl 12 l.length true (jH l)] (.bJ [.v (.int .i64 u),.v (.int .i64 x)]) [(0,.obs (Ce c y'))]:=
 J8 (ho:=[]) ⟨_,_,Tryz.func52,rfl,rfl⟩ (Uy r c y') (acr r c y') (by rw[List.append_nil];exact Uc c y n r hr h5 hn hB l hl hall y' u x hp) rfl
theorem Qa(c:jv)(y:gX)(n r:Nat)(hr:r<n)(hn:c.n=(n:Int))(hB:Dw n y)(k:dD):
  au Tryz.prog 54 [(0,.obs (Ce c y))] [.box 0 0,.v (.int .i64 (r:Int)),.agg (jM k)] (.bJ [.own 1,.v (.int .i64 0)]) [(0,.obs (Ce c y)),(1,bU (pW r k 0 (y.ps.take n)))]:=
 J8 ⟨_,_,Tryz.func54,rfl,rfl⟩ (jZ c y) rfl (PU c y n r hr hn hB k) rfl
theorem X7(c:jv)(y:gX)(n r:Nat)(hr:r<n)(h5:n<=5)(hn:c.n=(n:Int))(p5:y.ps.length=5)(a5:y.dS.length=5)(k:dD):
  au Tryz.prog 55 [(0,.obs (Ce c y))] [.box 0 0,.v (.int .i64 (r:Int)),.agg (jM k)] (.v (.int .i64 0)) [(0,.obs (Ce c (rG n y r k)))]:=
 J8 (ho:=[]) ⟨_,_,Tryz.func55,rfl,rfl⟩ (jZ c _) rfl (by rw[List.append_nil];exact XF c y n r hr h5 hn p5 a5 k) rfl
theorem UA(c:jv)(y:gX)(n:Nat)(h1:1<=n)(h5:n<=5)(hn:c.n=(n:Int))(p5:y.ps.length=5)(a5:y.dS.length=5):
  au Tryz.prog 29 [(0,.obs (Ce c y))] [.box 0 0] (.agg ((pq n y).vs.map .v)) [(0,.obs (Ce c y))]:=
 J8 (ho:=[]) ⟨_,_,Tryz.func29,rfl,rfl⟩ (jZ c _) rfl (by rw[List.append_nil];exact Ud c y n h1 h5 hn p5 a5) rfl
theorem NT(c:jv)(y:gX)(p5:y.ps.length=5)(a5:y.dS.length=5)(hB:∀s∈y.ps,FV s):au Tryz.prog 51 (oP c y) [.box 0 0] (.box 1 0) (oP c y++AU 1 50 51 52 53 54 60 61 62 63 64 c y):=by
 refine gX.five (C:=λ y=>(∀s∈y.ps,FV s)->au Tryz.prog 51 (oP c y) [.box 0 0] (.box 1 0) (oP c y++AU 1 50 51 52 53 54 60 61 62 63 64 c y)) y p5 a5 ?_ hB;intro s0 s1 s2 s3 s4 a0 a1 a2 a3 a4 hB;have h0:=(hB s0 (by simp)).ln;have h1:=(hB s1 (by simp)).ln;have h2:=(hB s2 (by simp)).ln;have h3:=(hB s3 (by simp)).ln;have h4:=(hB s4 (by simp)).ln;clear hB;dsimp only[oP,AU,FY,qQ,rH,bU,jM,gX.s,List.cons_append,List.nil_append];simp only[List.getD_cons_zero,List.getD_cons_succ];refine K1.M 0x1001d Tryz.func51 70 ?_;repeat' ((conv=>whnf);first|refine K1.u ?_|refine aK.rounds 6 ?_|refine qM.mk (by decide) ?_|refine K1.o (id:=1) (nN [0,1,2,3,4,5,6,7,8] [(9,some [7,5,3,1]),(10,none)]) ?_|refine K1.o (id:=5) (nN [0,1,2,3,4,5,6,7,8,9,10,11,12,13,14,15,16,17,18,19,21,22,23,24,25,26,27,28,29,33,34] [(20,some []),(30,some [29,27,26,23]),(31,none),(32,some [29,27,26,23,19,17,16,13,10,8,7,4]),(35,none),(36,some [29,27,26,23,19,17,16,13,10,8,7,4,33])]) ?_|refine K1.z ?_|refine K1.y (λ _=>?_) (λ _=>?_)|fail)
 all_goals(conv=>whnf)
 refine⟨[(70,1),(73,50),(72,60),(76,51),(75,61),(79,52),(78,62),(82,53),(81,63),(85,54),(84,64)],rfl,rfl, ?_,rfl,rfl,aP⟩;repeat' first|exact trivial|refine⟨aY rfl, ?_⟩|refine⟨⟨_,rfl,RE.oeq (RE.app RE.nil) rfl⟩, ?_⟩
theorem NU(c:jv)(y:gX)(p5:y.ps.length=5)(a5:y.dS.length=5)(hB:∀s∈y.ps,FV s):au Tryz.prog 51 (oP c y) [.box 0 0] (.box 1 0) ((1,.obs (Ce c y))::oP c y):=
 ((NT c y p5 a5 hB).perm List.perm_append_comm).clo (i:=1) (q:=Ce c y) ((jZ c y).ren [(0,1),(20,50),(21,51),(22,52),(23,53),(24,54),(30,60),(31,61),(32,62),(33,63),(34,64)] rfl rfl) rfl
def Dx(c:jv)(p:Nat)(up cuts:Bool)(keep:Int):AO:= .box 66 [.v (.int .i64 c.n),.v (.int .i64 c.w),.v (.int .i64 c.q),.v (.int .i64 c.h),.v (.int .i64 c.l),.v (.int .i64 c.p),.box p 0,.v (.bool up),.v (.bool cuts),.v (.int .i64 keep)]
def Ci(p:Nat)(y:Ry):List (Nat×AO):=[(p,.obs (Ce y.c y.p)),(0,Dx y.c p y.up y.cuts y.keep)]
def qN(y:Ry)(_:Unit):List (Nat×AO):=Ci 9 y
def qm(y:Ry):OB:=OB.pack (qN y)
theorem lJ(y:Ry):Closes (qN y ()) 0 (qm y):=Closes.pack (qN y) () rfl λ _ hok=>wK (hok _ (List.mem_cons_of_mem _ List.mem_cons_self))
theorem IW(y:Ry):Closes (Ci 2 y) 0 (qm y):=(lJ y).ren [(0,0),(9,2)] rfl rfl
def KF(i:Nat):jv->gX->List (Nat×AO):=AU i 20 21 22 23 24 30 31 32 33 34
def IX(y:Ry):List (Nat×AO):=KF 3 y.c y.p++[(0,Dx y.c 3 y.up y.cuts y.keep)]
theorem UC(c:jv)(y:gX):Closes (KF 3 c y) 3 (Ce c y):=(jZ c y).ren [(0,3),(20,20),(21,21),(22,22),(23,23),(24,24),(30,30),(31,31),(32,32),(33,33),(34,34)] rfl rfl
theorem ku(c:jv)(y:gX):Opens (Ce c y) 9 λ _:Unit=>KF 9 c y:=(Opens.pack λ _:Unit=>oP c y).ren [(0,9),(20,20),(21,21),(22,22),(23,23),(24,24),(30,30),(31,31),(32,32),(33,33),(34,34)] rfl rfl λ _=>rfl
theorem IY(y:Ry):Closes (IX y) 0 (qm y):=Closes.sub (UC y.c y.p) ((lJ y).ren [(0,0),(9,3)] rfl rfl) rfl
theorem sD{y y':Ry}(hE:Enters Tryz.prog f)(hC:Closes hs' 0 (qm y'))(hm:au Tryz.prog f (qN y ()) bD r (hs'++ho))(hn:bW 0 hs'=true)
  (hb:(bD.all (rD (λ _=>false) 0)&&nJ (λ i=>bW i ho) 0 r&&iF ho ho&& !(bW 0 ho))=true):au Tryz.prog f [(0,.obs (qm y))] bD r ((0,.obs (qm y'))::ho):=
 au.opn hE (Opens.pack (qN y)) (λ _=>⟨_,hC,rfl,hn,hm⟩) hb
theorem Qb(y:Ry):au Tryz.prog 22 [(0,.obs (qm y))] [.box 0 0] (.bJ []) [(0,.obs (qm ⟨y.c,y.p,false,false,y.keep⟩))]:=by
 refine sD (ho:=[]) ⟨_,_,Tryz.func22,rfl,rfl⟩ (lJ _) ?_ rfl rfl;dsimp only[qN,Ci,Dx,List.append_nil];refine K1.M 0x1 Tryz.func22 70 ?_;repeat' ((conv=>whnf);first|refine K1.u ?_|refine K1.z ?_|refine K1.y (λ _=>?_) (λ _=>?_)|fail)
 all_goals(conv=>whnf)
 refine⟨[],rfl,rfl, ?_,rfl,rfl,aP⟩;repeat' first|exact trivial|refine⟨aY rfl, ?_⟩
theorem X8(y:Ry)(k:Int):au Tryz.prog 25 [(0,.obs (qm y))] [.box 0 0,.v (.int .i64 k)] (.bJ []) [(0,.obs (qm ⟨y.c,y.p,y.up,true,k⟩))]:=by
 refine sD (ho:=[]) ⟨_,_,Tryz.func25,rfl,rfl⟩ (lJ _) ?_ rfl rfl;dsimp only[qN,Ci,Dx,List.append_nil];refine K1.M 0x3 Tryz.func25 70 ?_;repeat' ((conv=>whnf);first|refine K1.u ?_|refine K1.z ?_|refine K1.y (λ _=>?_) (λ _=>?_)|fail)
 all_goals(conv=>whnf)
 refine⟨[],rfl,rfl, ?_,rfl,rfl,aP⟩;repeat' first|exact trivial|refine⟨aY rfl, ?_⟩
def rstart(y:Ry):Ry×Int:=if y.up then(y,19)else(⟨y.c,y.p,true,false,y.keep⟩,0)
theorem Qc(y:Ry):au Tryz.prog 23 [(0,.obs (qm y))] [.box 0 0] (.v (.int .i64 (rstart y).2)) [(0,.obs (qm (rstart y).1))]:=by
 refine sD (ho:=[]) ⟨_,_,Tryz.func23,rfl,rfl⟩ (lJ _) ?_ rfl rfl;obtain⟨c,p,up,cuts,keep⟩:=y;cases up<;>unfold rstart;all_goals
  dsimp only[qN,Ci,Dx,List.append_nil,if_true,Bool.false_eq_true,if_false];refine K1.M 0x45 Tryz.func23 70 ?_;repeat' ((conv=>whnf);first|refine K1.u ?_|refine K1.z ?_|refine K1.y (λ _=>?_) (λ _=>?_)|fail)
  all_goals(conv=>whnf)
  refine⟨[],rfl,rfl, ?_,rfl,rfl,aP⟩;repeat' first|exact trivial|refine⟨aY rfl, ?_⟩
theorem UD(y:Ry)(hB:Dw y.n y.p)(hn:y.c.n=(y.n:Int)):au Tryz.prog 11 [(0,.obs (qm y))] [.box 0 0] (.agg ((if y.up then pq y.n y.p else aa7).vs.map .v)) [(0,.obs (qm y))]:=by
 have hs:=UA y.c y.p y.n hB.n1 hB.n5 hn hB.p5 hB.a5;refine sD (ho:=[]) ⟨_,_,Tryz.func11,rfl,rfl⟩ (lJ _) ?_ rfl rfl;generalize pq y.n y.p=S at hs⊢;clear hB hn;obtain⟨c,p,up,cuts,keep⟩:=y;cases up;all_goals
  dsimp only[qN,Ci,Dx,List.append_nil,if_true,Bool.false_eq_true,if_false]at hs⊢;refine K1.M 0x85 Tryz.func11 70 ?_;repeat' ((conv=>whnf);first|refine K1.u ?_|refine K1.C 1 [(0,_)] (hs) rfl ?_|refine K1.z ?_|refine K1.y (λ _=>?_) (λ _=>?_)|fail)
  all_goals(conv=>whnf)
  exact⟨[],rfl,rfl,⟨aY rfl,aY rfl,trivial⟩,rfl,rfl,aP⟩
section
open Go.ChangeShapes Go.WideShapes Go.ChangeAt Go.RowKit
theorem own:ownKnob Tryz.prog.godebug=none:=by kernel_rfl
theorem laidOut:laidOutB Tryz.prog=true:=by kernel_rfl
section
variable{H:Type}{enc:TypeId×Value->H}
theorem yx{W W':World}(hb:Below W.heap.size W W'):∀(ts:List TypeId)(vs:List Value)(ds:List (DataW H))(ps:List MemPlace),
 (∀t∈ts,Tryz.prog.readableRec t=true/\t<Tryz.prog.types.size)->DataW.TrodAll enc Tryz.prog W 0 (λ _=>true) true ts vs ds ps->(∀x∈ps,x.block<W.heap.size)->
 DataW.TrodAll enc Tryz.prog W' 0 (λ b=>decide (b<W.heap.size)) true ts vs ds ps
 |[],vs,ds,ps,_,h,_=>by
  obtain⟨rfl,rfl,rfl⟩:=trodAll_nil h;exact trodAll_mk0
 |t::ts,vs,ds,ps,ht,h,hlt=>by
  obtain⟨v,vs',d,ds',p,q,rfl,rfl,rfl,h0,h1⟩:=trodAll_cons h;have hp:=ht t (by simp);exact trodAll_cons_mk (Below.trod laidOut hp.1 hp.2 h0 hb (λ x hx=>hlt x (by simp[hx]))) (yx hb ts vs' ds' q (λ u hu=>ht u (by simp[hu])) h1 (λ x hx=>hlt x (by simp[hx])))
theorem law_lifted(os:Os)(started:os.Started)(f:FuncId)(fn:Func)(s:ChangeSpec)(hvars:s.vars=[])(noInit:Tryz.prog.inits.idxOf? f=none)(hfn:Tryz.prog.funcs[f]? =some fn)
  (hres:fn.resultTypes= #[4])(ZQ:∀t∈fn.params.toList,Tryz.prog.readableRec t=true/\t<Tryz.prog.types.size)
  (hspec:∀ds:List (DataW H),ds.length=fn.params.toList.length->s.fn H ds={results:=[.lit (.bool true)],args:=ds})
  (witness:∃(w:World) (tape:Tape) (i:Input),w.os=os/\(w.forCall tape i).Shaped Tryz.checked.prog/\i.vars=[]/\Input.okWide Tryz.checked.prog (w.forCall tape i) .any w.heap.size f i/\
   s.pre6 enc Tryz.checked.prog fn [] false (w.forCall tape i).memory i.args/\({}:Assume).holds Tryz.checked.prog (lone (Frame.enter Tryz.checked.prog f i.args .normal) [] (w.forCall tape i)))
  (walk:∀(W:World)(base:Nat)(args:Array Value)(ds:List (DataW H))(p:List MemPlace),
   (∀(j:Nat) t v,fn.params[j]? =some t->args[j]? =some v->Value.okWide Tryz.prog W .any base t v)->
   DataW.TrodAll enc Tryz.prog W 0 (λ _=>true) true fn.params.toList args.toList ds p->
   (DataW.weightsEach Tryz.prog fn.params.toList ds).all (·<=reachBytes)=true->
   Calls Tryz.prog f args W λ e W'=>e= .returned (.bool true)/\Below W.heap.size W W'):
  ReturnsInHanded {} Tryz.checked os f .any (s.pre6 enc Tryz.prog fn [] false) (s.post enc Tryz.prog fn false true false false):=by
 refine returnsInHanded_of_change_sized (C:=Tryz.checked) own started noInit hfn witness ?_;intro W base args ds gs before hval0 hW _ hsz0 _;have hval:∀(j:Nat) t v,fn.params[j]? =some t->args[j]? =some v->Value.okWide Tryz.prog W .any base t v:=hval0;have hW':=hW;have hlt:∀x∈before,x.block<W.heap.size:=λ x hx=>by simpa using hW'.lt x hx
 obtain⟨p,q,hA0,hV,rfl,hfz,hnd⟩:=hW;have hA:DataW.TrodAll enc Tryz.prog W 0 (λ _=>true) true fn.params.toList args.toList ds p:=hA0;rw[hvars]at hV;obtain⟨rfl,rfl⟩:=trodVars_none hV;simp only[List.append_nil]at hW' hlt;have hsz:(DataW.weightsEach Tryz.prog fn.params.toList ds).all (·<=reachBytes)=true:=by
  have h:(DataW.weightsEach Tryz.prog (fn.params.toList++s.plain.varTypes Tryz.prog) (ds++[])).all (·<=reachBytes)=true:=hsz0;have hv:s.plain.varTypes Tryz.prog=[]:=by
   show s.vars.filterMap _=[];rw[hvars];rfl
  simpa[hv]using h
 refine(walk W base args ds p hval hA hsz).mono λ e W' ⟨he,bel⟩=>?_;subst he;have hlen:ds.length=fn.params.toList.length:=Dh fn.params.toList args.toList ds p hA;have hsp:=hspec ds hlen;refine⟨_,rfl,ds,[],p,[],p,[],hW', ?_, ?_, ?_,bel.frame _,λ h=>by cases h⟩
 ·rw[List.append_nil,hsp,hres];exact trodAll_mk1 (shut_bool Tryz.underlying4 _)
 ·rw[List.append_nil,hsp];exact yx bel _ _ _ _ ZQ hA hlt
 ·rw[hvars];rw[List.append_nil,hsp];rfl
where
 Dh {W:World}:∀(ts:List TypeId)(vs:List Value)(ds:List (DataW H))(ps:List MemPlace),DataW.TrodAll enc Tryz.prog W 0 (λ _=>true) true ts vs ds ps->ds.length=ts.length
  |[],vs,ds,ps,h=>by
   obtain⟨rfl,rfl,rfl⟩:=trodAll_nil h;rfl
  |t::ts,vs,ds,ps,h=>by
   obtain⟨v,vs',d,ds',p,q,rfl,rfl,rfl,h0,h1⟩:=trodAll_cons h;simp[Dh ts vs' ds' q h1]
end
abbrev allOf(w:World):Nat->Prop:=λ b=>b<w.heap.size
structure Sh(t:TypeId)(S:List AV->Prop):Prop where
 mk::
 h:∀(H:Type)(enc:TypeId×Value->H)(w:World)(spare:Nat->Bool)(held:Bool)(fuel:Nat)(cs:List Value)(x:DataW H×List MemPlace),
  DataW.trod enc Tryz.prog w 0 spare held fuel t cs=some x->(∀n∈x.1.weights Tryz.prog t,n<=reachBytes)-> ∃bD,aN (PC w (allOf w)) bD cs/\S bD
theorem Sh.imp{t:TypeId}{S T:List AV->Prop}(h:Sh t S)(hi:∀bD,S bD->T bD):Sh t T:=⟨λ _ _ _ _ _ _ _ _ h1 h2=>by
 obtain⟨bD,h3,h4⟩:=h.h _ _ _ _ _ _ _ _ h1 h2;exact⟨bD,h3,hi bD h4⟩⟩
theorem nC{t:TypeId}{k:IntKind}(ht:Tryz.prog.underlying t=some (.int k)):Sh t (λ bD=> ∃n:Int,bD=[.v (.int k n)]/\(Lit.int k n).wf=true):=⟨λ _ _ _ _ _ _ _ _ h _=>by
 obtain⟨n,rfl,rfl,hw⟩:=DataW.trod_int ht h;exact⟨_,aN.cons (PC.v _ rfl) aN.nil,n,rfl,hw⟩⟩
def Cat:List (List AV->Prop)->List AV->Prop
 |[],bD=>bD=[]
 |S::Ss,bD=> ∃a b,bD=a++b/\S a/\Cat Ss b
def J9:Nat->List Field->Nat->Prop
 |o,[],m=>o=m
 |o,f::fs,m=>f.offset=o/\J9 (o+Tryz.prog.cellsOf f.type) fs m
def DY(c:TypeId->Nat):Nat->List Field->Nat->Bool
 |o,[],m=>Nat.beq o m
 |o,f::fs,m=>Nat.beq f.offset o&&DY c (o+c f.type) fs m
theorem IZ:∀{o:Nat}{fs:List Field}{m:Nat},DY Tryz.prog.cellsOf o fs m=true->J9 o fs m
 |_,[],_,h=>Nat.eq_of_beq_eq_true h
 |_,_::_,_,h=>by
  simp only[DY,Bool.and_eq_true]at h;exact⟨Nat.eq_of_beq_eq_true h.1,IZ h.2⟩
inductive ShL:List TypeId->List (List AV->Prop)->Prop where
 |nil:ShL [] []
 |cons {t:TypeId} {S:List AV->Prop} {ts:List TypeId} {Ss:List (List AV->Prop)} (h:Sh t S) (hs:ShL ts Ss):ShL (t::ts) (S::Ss)
theorem I4{H:Type}{enc:TypeId×Value->H}{w:World}{spare:Nat->Bool}{held:Bool}{fuel:Nat}{cs:List Value}:∀(fs:List Field)(xs:List (DataW H×List MemPlace))(Ss:List (List AV->Prop))(o:Nat),J9 o fs cs.length->xs.length=fs.length->
 (∀(i:Nat)(f:Field),fs[i]? =some f->DataW.trod enc Tryz.prog w 0 spare held fuel f.type ((cs.drop f.offset).take (Tryz.prog.cellsOf f.type))=xs[i]?)->ShL (fs.map (·.type)) Ss->(∀n∈DataW.weightsEach Tryz.prog (fs.map (·.type)) (xs.map (·.1)),n<=reachBytes)->
 ∃bD,aN (PC w (allOf w)) bD (cs.drop o)/\Cat Ss bD
 |[],xs,Ss,o,hc,hl,_,hs,_=>by
  cases hs;refine⟨[], ?_,rfl⟩;rw[List.drop_eq_nil_of_le (by simp only[J9]at hc;omega)];exact aN.nil
 |f::fs,xs,_,o,hc,hl,hg,hs,hw=>by
  cases hs with
  |cons hS hs'=>
   cases xs with
   |nil=>simp at hl
   |cons x xs=>
    obtain⟨ho,hc'⟩:=hc;have g0:=hg 0 f rfl;rw[ho]at g0;simp only[List.map_cons,DataW.weightsEach,List.mem_append]at hw;obtain⟨a,ha,hSa⟩:=hS.h _ _ _ _ _ _ _ _ g0 (λ n hn=>hw n (.inl hn));obtain⟨b,hb,hSb⟩:=I4 fs xs _ (o+Tryz.prog.cellsOf f.type) hc' (by simpa using hl) (λ i g hi=>hg (i+1) g (by simpa using hi)) hs' (λ n hn=>hw n (.inr hn));refine⟨a++b, ?_,a,b,rfl,hSa,hSb⟩;have e:cs.drop o=(cs.drop o).take (Tryz.prog.cellsOf f.type)++cs.drop (o+Tryz.prog.cellsOf f.type):=by
     rw[<-List.drop_drop,List.take_append_drop]
    rw[e];exact aN.app ha hb
theorem I5{t:TypeId}{fs:Array Field}{Ss:List (List AV->Prop)}(ht:Tryz.prog.underlying t=some (.struct fs))(hc0:DY Tryz.prog.cellsOf 0 fs.toList (Tryz.prog.cellsOf t)=true){ts:List TypeId}(hts:fs.toList.map (·.type)=ts)(hs:ShL ts Ss):Sh t (Cat Ss):=⟨λ _ _ _ _ _ _ _ _ h hw=>by
 subst hts;have hc:=IZ hc0;obtain⟨xs,m,_,rfl,hlen,hxl,hg⟩:=DataW.trod_struct ht h;rw[<-hlen]at hc;obtain⟨bD,h1,h2⟩:=I4 fs.toList xs Ss 0 hc (by simpa using hxl) (λ i f hf=>hg i f (by simpa using hf)) hs (by simpa[DataW.weights,ht]using hw);exact⟨bD,by simpa using h1,h2⟩⟩
theorem X9{t e:TypeId}{n s:Nat}{S:List AV->Prop}(ht:Tryz.prog.underlying t=some (.array n e))(hc:Tryz.prog.cellsOf t=n*s)(he:Tryz.prog.cellsOf e=s)(hs:Sh e S):Sh t (Cat (List.replicate n S)):=by
 refine⟨λ H enc w spare held fuel cs x h hw=>?_⟩;obtain⟨xs,m,_,rfl,hlen,hxl,hg⟩:=DataW.trod_array ht h;rw[he]at hg;simp only[DataW.weights,ht]at hw;have main:∀(k o:Nat)(xs:List (DataW H×List MemPlace)),xs.length=k->cs.length=(o+k)*s->(∀i,i<k->DataW.trod enc Tryz.prog w 0 spare held m e ((cs.drop ((o+i)*s)).take s)=xs[i]?)->(∀n∈DataW.weightsAll Tryz.prog e (xs.map (·.1)),n<=reachBytes)->
   ∃bD,aN (PC w (allOf w)) bD (cs.drop (o*s))/\Cat (List.replicate k S) bD:=by
  intro k;induction k with
  |zero=>
   intro o xs _ hl _ _;refine⟨[], ?_,rfl⟩;rw[List.drop_eq_nil_of_le (by rw[hl];simp)];exact aN.nil
  |succ k ih=>
   intro o xs hx hl hg hw;cases xs with
   |nil=>simp at hx
   |cons x xs=>
    simp only[List.map_cons,DataW.weightsAll,List.mem_append]at hw;obtain⟨a,ha,hSa⟩:=hs.h _ _ _ _ _ _ _ _ (hg 0 (by omega)) (λ n hn=>hw n (.inl hn));obtain⟨b,hb,hSb⟩:=ih (o+1) xs (by simpa using hx) (by rw[hl,show o+(k+1)=o+1+k by omega]) (λ i hi=>by have:=hg (i+1) (by omega);rw[show o+1+i=o+(i+1) by omega];simpa using this) (λ n hn=>hw n (.inr hn));refine⟨a++b, ?_,a,b,rfl,hSa,hSb⟩;have e1:cs.drop (o*s)=(cs.drop (o*s)).take s++cs.drop ((o+1)*s):=by
     rw[show(o+1)*s=o*s+s by rw[Nat.add_mul,Nat.one_mul],<-List.drop_drop,List.take_append_drop]
    rw[e1];exact aN.app (by simpa using ha) hb
 obtain⟨bD,h1,h2⟩:=main n 0 xs hxl (by rw[hlen,hc,Nat.zero_add]) (λ i hi=>by simpa using hg i hi) hw;exact⟨bD,by simpa using h1,h2⟩
theorem Ya{w:World}{a:Addr}{s:Nat}{cs:List Value}(h:w.cells? 0 a s=some cs):cs.length=s/\ ∀i,i<s->w.cell? (a.add i)=cs[i]? :=by
 unfold World.cells? at h;rw[if_pos (Nat.zero_le _)]at h;refine⟨by simpa using mapM_some_length h,λ i hi=>mapM_some_get h i i (by simp[hi])⟩
theorem add_add(a:Addr)(i j:Nat):(a.add i).add j=a.add (i+j):=by
 unfold Addr.add;by_cases hi:i=0
 ·subst hi;simp
 ·by_cases hj:j=0
  ·subst hj;simp[hi]
  ·simp[hi,hj,Nat.add_assoc]
theorem add_lit{b o j:Nat}:(⟨b,o,none⟩:Addr).add j=⟨b,o+j,none⟩:=by
 unfold Addr.add;split
 ·rename_i h;subst h;rfl
 ·rfl
theorem NV{α:Type}[Inhabited α](c:α->List AV):∀l:List α,flat l.length (qP c l)=l.flatMap c
 |[]=>rfl
 |a::l=>by
  show qP c (a::l) 0++flat l.length (λ i=>qP c (a::l) (i+1))=_;rw[List.flatMap_cons,<-NV c l];rfl
theorem Yb{t e:TypeId}{s:Nat}{α:Type}[Inhabited α]{c:α->List AV}{good:α->Prop}(sc:Bool)(ht:Tryz.prog.underlying t=some (.slice e))(he:Tryz.prog.cellsOf e=s)(hs0:0<s)(hb:0<Tryz.prog.bytesOf e)(hlen:∀a,(c a).length=s)(hsc:sc=true-> ∀a,∀x∈c a,∃y,x= .v y)
  (hs:Sh e (λ bD=> ∃a,bD=c a/\good a)):Sh t (λ bD=> ∃l:List α,bD=[.sl s l.length sc (qP c l)]/\(∀a∈l,good a)/\l.length<=140737488355328):=by
 refine⟨λ H enc w spare held fuel cs x h hw=>?_⟩;rcases DataW.trod_slice ht h with⟨rfl,rfl⟩|⟨a,len,cap,elems,rest,n,_,rfl,rfl,_,hlc,hcm,hel,hg,_,_⟩
 ·refine⟨[.sl s 0 sc (qP c [])],aN.cons (.sl s 0 sc _ none 0 [] hs0 (Nat.le_refl _) (Nat.zero_le _) (by simp) (λ i hi=>absurd hi (Nat.not_lt_zero _)) (λ _ x hx=>by simp[flat]at hx) (λ i x u hx=>by simp[flat]at hx) (.inl rfl)) aN.nil,[],rfl,(λ a ha=>by cases ha),Nat.zero_le _⟩
 ·rw[he]at hg;simp only[DataW.weights,ht]at hw;have hwb:=hw ((elems.length+rest.length)*Tryz.prog.bytesOf e) (by simp);have hr:reachBytes<=140737488355328:=by decide
  have hlm:elems.length<=140737488355328:=by
   have:elems.length*1<=(elems.length+rest.length)*Tryz.prog.bytesOf e:=Nat.mul_le_mul (Nat.le_add_right _ _) hb;omega
  have hwe:∀n∈DataW.weightsAll Tryz.prog e (elems.map (·.1)),n<=reachBytes:=λ n hn=>hw n (by simp only[List.mem_cons,List.mem_append]at hn⊢;simp[hn]);have main:∀(k o:Nat)(elems:List (DataW H×List MemPlace)),elems.length=k->(∀i,i<k->(w.cells? 0 (a.add ((o+i)*s)) s).bind (DataW.trod enc Tryz.prog w 0 spare held n e)=elems[i]?)->(∀n∈DataW.weightsAll Tryz.prog e (elems.map (·.1)),n<=reachBytes)->
    ∃(l:List α) (us:List Value),l.length=k/\us.length=k*s/\(∀a∈l,good a)/\aN (PC w (allOf w)) (l.flatMap c) us/\ ∀(j:Nat)(u:Value),us[j]? =some u->w.cell? (a.add (o*s+j))=some u:=by
   intro k;induction k with
   |zero=>intro o elems _ _ _;exact⟨[],[],rfl,by simp,(λ a ha=>by cases ha),aN.nil,λ j u hj=>by simp at hj⟩
   |succ k ih=>
    intro o elems hl hg hw;cases elems with
    |nil=>simp at hl
    |cons x xs=>
     simp only[List.map_cons,DataW.weightsAll,List.mem_append]at hw;obtain⟨l,us,h1,h2,h3,h4,h5⟩:=ih (o+1) xs (by simpa using hl) (λ i hi=>by have:=hg (i+1) (by omega);rw[show o+1+i=o+(i+1) by omega];simpa using this) (λ n hn=>hw n (.inr hn));have g0:=hg 0 (by omega);simp only[Nat.add_zero,List.getElem?_cons_zero,Option.bind_eq_some_iff]at g0;obtain⟨ds,hd1,hd2⟩:=g0;obtain⟨bD,ha,a0,rfl,hg0⟩:=hs.h _ _ _ _ _ _ _ _ hd2 (λ n hn=>hw n (.inl hn));obtain⟨hdl,hdc⟩:=Ya hd1;refine⟨a0::l,ds++us,by simp[h1],by simp[hdl,h2,Nat.add_mul,Nat.add_comm], ?_,by simpa using aN.app ha h4,λ j u hj=>?_⟩
     ·intro a ha;rcases List.mem_cons.1 ha with rfl|ha
      ·exact hg0
      ·exact h3 a ha
     ·by_cases hjs:j<s
      ·rw[List.getElem?_append_left (by omega)]at hj;have:=hdc j hjs;rw[hj]at this;rw[<-this,<-add_add a]
      ·rw[List.getElem?_append_right (by omega),hdl]at hj;have:=h5 _ _ hj;rw[<-this,show(o+1)*s+(j-s)=o*s+j by rw[Nat.add_mul];omega]
  obtain⟨l,us,h1,h2,h3,h4,h5⟩:=main elems.length 0 elems rfl (λ i hi=>by simpa using hg i (by omega)) hwe;have hfl:flat len (qP c l)=l.flatMap c:=by
   rw[<-hel,<-h1];exact NV c l
  refine⟨[.sl s len sc (qP c l)],aN.cons (.sl s len sc _ (some a) cap us hs0 hlc hcm (by rw[h2,hel]) (λ i _=>hlen _) (λ ac2 x hx=>?_) (λ i x u hx hu=>?_) ?_) aN.nil,l,by rw[h1,hel],h3,by omega⟩
  ·rw[hfl]at hx;obtain⟨a0,_,hx⟩:=List.mem_flatMap.1 hx;exact hsc ac2 a0 x hx
  ·rw[hfl]at hx;exact h4.2 i x u hx hu
  ·by_cases h0:len=0
   ·exact .inl h0
   ·obtain⟨b,o,sp⟩:=a;have hpos:0<us.length:=by rw[h2,hel];exact Nat.mul_pos (by omega) hs0
    have c0:=h5 0 _ (List.getElem?_eq_getElem hpos);have hsp:sp=none:=by simpa[Addr.add]using World.cell?_spot c0
    subst hsp;refine .inr ⟨b,o,rfl, ?_,λ j u hj=>?_⟩
    ·rcases Nat.lt_or_ge b w.heap.size with h|h
     ·exact h
     ·exfalso;unfold World.cell? at c0;rw[Array.getElem?_eq_none (by simpa[Addr.add]using h)]at c0;cases c0
    ·have:=h5 j u hj;rw[Nat.zero_mul,Nat.zero_add]at this;rw[<-this,add_lit]
section
variable{H:Type}{enc:TypeId×Value->H}{w:World}{spare:Nat->Bool}{held:Bool}{v:Value}{d:DataW H}{p:List MemPlace}{r:Reach}{b0:Nat}
theorem ZR{t:TypeId}{S:List AV->Prop}(hs:Sh t S)(h1:∀bD,S bD->bD.length=1)(h:DataW.Trod enc Tryz.prog w 0 spare held t v d p)(hw:∀n∈d.weights Tryz.prog t,n<=reachBytes)(hv:v.cells.toList=[v]):∃x,S [x]/\C1 ⟨w,allOf w,λ _=>undef⟩ x v:=by
 obtain⟨fuel,hf⟩:=h;obtain⟨bD,ha,hS⟩:=hs.h _ _ _ _ _ _ _ _ hf hw;match bD,h1 bD hS with
 |[x],_=>
  rw[hv]at ha;exact⟨x,hS,C1.sH (C0.KG (X:=⟨w,allOf w,λ _=>undef⟩) (ha.2 0 x v rfl rfl))⟩
theorem ZT{t:TypeId}{S:List AV->Prop}(hs:Sh t S)(h:DataW.Trod enc Tryz.prog w 0 spare held t v d p)(hw:∀n∈d.weights Tryz.prog t,n<=reachBytes)(hv:∃cs,v= .agg cs):∃xs,S xs/\C1 ⟨w,allOf w,λ _=>undef⟩ (.agg xs) v:=by
 obtain⟨cs,rfl⟩:=hv;obtain⟨fuel,hf⟩:=h;obtain⟨bD,ha,hS⟩:=hs.h _ _ _ _ _ _ _ _ hf hw;exact⟨bD,hS,cs.toList,rfl,(show aN (PC w (allOf w)) bD cs.toList from ha).imp λ _ _ h=>C0.KG (X:=⟨w,allOf w,λ _=>undef⟩) h⟩
end
theorem uT{H:Type}{ts:List TypeId}{ds:List (DataW H)}(h:(DataW.weightsEach Tryz.prog ts ds).all (·<=reachBytes)=true){j:Nat}{t:TypeId}{d:DataW H}(ht:ts[j]? =some t)(hd:ds[j]? =some d):
  ∀n∈d.weights Tryz.prog t,n<=reachBytes:=λ n hn=>by
 simpa using List.all_eq_true.1 h _ (DataW.weights_mem_each ht hd n hn)
theorem Rw{f:FuncId}{bD:List AV}(h:aC Tryz.prog f bD (.v (.bool true)) []){W:World}{args:List Value}(ha:aN (C1 ⟨W,allOf W,λ _=>undef⟩) bD args):
  Calls Tryz.prog f args.toArray W λ e W'=>e= .returned (.bool true)/\Below W.heap.size W W':=
 (h.2 W (allOf W) args (λ _ hb=>hb) ha).mono λ e W' ⟨u,ρ,h1,h2,h3,_⟩=>⟨by rw[h1,show u= .bool true from h3],h2⟩
end
section
open Go.ChangeShapes Go.WideShapes Go.ChangeAt Go.RowKit
def Ev.rng(e:Ev):Prop:=e.key.size<=140737488355328/\e.v.size<=140737488355328
theorem abt:Sh 36 (λ bD=> ∃c:dD,bD=c.cs):=
 (X9 (s:=1) Tryz.underlying36 (by kernel_rfl) (by kernel_rfl) (nC Tryz.underlying3)).imp λ bD h=>by
  obtain⟨_,_,rfl,⟨a,rfl,_⟩,_,_,rfl,⟨b,rfl,_⟩,_,_,rfl,⟨c,rfl,_⟩,_,_,rfl,⟨d,rfl,_⟩,_,_,rfl,⟨e,rfl,_⟩,rfl⟩:=h;exact⟨⟨a,b,c,d,e⟩,rfl⟩
section
variable{H:Type}{enc:TypeId×Value->H}{w:World}{spare:Nat->Bool}{held:Bool}{v:Value}{d:DataW H}{p:List MemPlace}{r:Reach}{b0:Nat}
end
end
section
open Go.ChangeShapes Go.WideShapes Go.ChangeAt Go.RowKit
def NW(n:Int):Prop:= -9223372036854775808<=n/\n<=9223372036854775807
theorem qK{n:Int}(h:(Lit.int .i64 n).wf=true):NW n:=by
 simpa[NW,Lit.wf,IntKind.min,IntKind.max,IntKind.signed,IntKind.bits]using h
structure jv.rng(c:jv):Prop where
 n:NW c.n
 w:NW c.w
 q:NW c.q
 h:NW c.h
 l:NW c.l
 p:NW c.p
theorem abu:Sh 23 (λ bD=> ∃c:jv,bD=c.cs/\c.rng):=
 (I5 Tryz.underlying23 (by kernel_rfl) rfl (.cons (nC Tryz.underlying3) (.cons (nC Tryz.underlying3) (.cons (nC Tryz.underlying3) (.cons (nC Tryz.underlying3) (.cons (nC Tryz.underlying3) (.cons (nC Tryz.underlying3) .nil))))))).imp λ bD h=>by
  obtain⟨_,_,rfl,⟨a,rfl,ha⟩,_,_,rfl,⟨b,rfl,hb⟩,_,_,rfl,⟨c,rfl,hc⟩,_,_,rfl,⟨d,rfl,hd⟩,_,_,rfl,⟨e,rfl,he⟩,_,_,rfl,⟨f,rfl,hf⟩,rfl⟩:=h;exact⟨⟨a,b,c,d,e,f⟩,rfl,qK ha,qK hb,qK hc,qK hd,qK he,qK hf⟩
section
variable{H:Type}{enc:TypeId×Value->H}{w:World}{spare:Nat->Bool}{held:Bool}{v:Value}{d:DataW H}{p:List MemPlace}{r:Reach}{b0:Nat}
theorem Rz(hv:Value.okWide Tryz.prog w r b0 23 v)(h:DataW.Trod enc Tryz.prog w 0 spare held 23 v d p)(hw:∀n∈d.weights Tryz.prog 23,n<=reachBytes):∃c:jv,c.rng/\C1 ⟨w,allOf w,λ _=>undef⟩ c.av v:=by
 obtain⟨cs,rfl,_⟩:=okWide_struct Tryz.underlying23 hv;obtain⟨xs,⟨e,rfl,he⟩,hc⟩:=ZT abu h hw ⟨_,rfl⟩;exact⟨e,he,hc⟩
end
end
theorem UE:gV []=(Gs,4):=by
 unfold gV;rw[if_neg (by decide),if_neg];intro h;have:=congrArg List.length (qE h);rw[bP]at this;simp at this
theorem Yc{c:jv}(h:xY c=true):1<=c.w/\c.w<=4:=by
 simp only[xY,Bool.and_eq_true]at h;exact JM.1 h.1.1.1.1.2
theorem aap{c:jv}(hc:xY c=true)(hn:c.n=(n:Int))(h1:1<=n)(h5:n<=5):HbG (hb0 c n):=by
 have hw:=Yc hc;refine⟨ach (by show 0<=c.w;omega) h1 h5, ?_,hw.2,by show([]:List UInt8).length<=_;decide⟩;show c.n=((List.replicate n (⟨0,[]⟩:jI)).length:Int);rw[List.length_replicate,hn]
theorem RD{h':Hb}{b:List UInt8}{res:JZ}(hg:HbG h)(ht:qI h b=(h',res)):au Tryz.prog 12 [(0,.obs (oh h))] [.box 0 0,.sl 1 b.length true (aG b)] (F8 res) ((0,.obs (oh h'))::l7 res):=
 II h h' b res hg ht (aS.bytes b) rfl
theorem Qd(hup:h.up=true)(hz:iC z=true):qI h (bg z)=Ro h z:=by
 unfold qI;rw[if_neg (by rw[hup];simp),BO z hz,if_neg (by simp)]
def NY:jv:=⟨2,1,1,2,1,1⟩
theorem A8:aC Tryz.prog 5 [] (.v (.bool true)) []:=by
 have hnew:=FQ NY 2 rfl (by decide) (by decide) (by decide);have hg:=aap (c:=NY) (n:=2) (by decide) rfl (by decide) (by decide);have ht1:qI (hb0 NY 2) []=(hb0 NY 2,.inl 4):=by
  unfold qI;rw[UE];rfl
 have hk1:=au.args (RD hg ht1) (bD:=[.box 0 0,.v (.slice none 0 0)]) (.same (.of (λ _ _ h=>C1.aa3 h) .nil));have hz:iC ⟨3,1,0,aJ,[]⟩=true:=by decide
 have hq:iC ⟨4,1,0,aJ,[]⟩=true:=by decide
 have hput:=(qJ 0 ⟨3,1,0,aJ,[]⟩ hz).thaw.args (bD:=[Rc.nilA ⟨3,1,0,aJ,[]⟩]) (.of (λ X u hu=>C1.pF hu) .nil);have ht2:qI (hb0 NY 2) (bg ⟨3,1,0,aJ,[]⟩)=(hb0 NY 2,.inr (1,bg ⟨4,1,0,aJ,[]⟩)):=by
  rw[Qd rfl hz];rfl
 have hk2:=RD hg ht2;have hft:=F5 (bg ⟨4,1,0,aJ,[]⟩) (BO _ hq) (aS.bytes _) rfl;generalize bg ⟨3,1,0,aJ,[]⟩=w1 at hput hk2;generalize bg ⟨4,1,0,aJ,[]⟩=w2 at hft hk2;generalize oh (hb0 NY 2)=B at hnew hk1 hk2;dsimp only[F8,l7,oW,lU,fJ,jv.av,jv.cs,NY,Rc.av,Rc.cs,Rc.nilA,aJ]at hnew hk1 hk2 hput hft;refine K1.E 0x801f6f Tryz.func5 ?_;repeat' ((conv=>whnf);first|refine K1.u ?_|refine K1.C 0 [] (hnew) rfl ?_|refine K1.C 1 [(0,_)] (hk1) rfl ?_|refine K1.P1 hput ?_|refine K1.C 1 [(0,_)] (hk2) rfl ?_|refine K1.P1 hft ?_|refine aO.dW ?_|refine K1.z ?_|refine K1.y (λ _=>?_) (λ _=>?_)|fail)
 all_goals(conv=>whnf)
 all_goals first
  |exact aW.mk (aP)
  |exact absurd rfl ‹¬_›
structure Opn where
 (kind r many back:Int)(clock:dD)(keep bit mask:Int)
def Opn.cs(o:Opn):List AV:=[.v (.int .u8 o.kind),.v (.int .u8 o.r),.v (.int .u8 o.many),.v (.int .u8 o.back),.v (.int .i64 o.clock.c0),.v (.int .i64 o.clock.c1),.v (.int .i64 o.clock.c2),.v (.int .i64 o.clock.c3),.v (.int .i64 o.clock.c4),.v (.int .i64 o.keep),.v (.int .i64 o.bit),.v (.int .u32 o.mask)]
def Opn.av(o:Opn):AV:= .agg o.cs
def abv(r:Nat)(x:Int):dD:=⟨if r=0 then x else 0,if r=1 then x else 0,if r=2 then x else 0,if r=3 then x else 0,if r=4 then x else 0⟩
def evP(r:Nat)(n:Int):Ev:=⟨r,n,abv r (n-1),n,1,⟨#[99,121]⟩,0,⟨#[]⟩⟩
def wX(r:Nat)(f:Int)(m:Nat):List Ev:=(List.range m).map λ i:Nat=>evP r (f+(i:Int))
theorem qo(r:Nat)(f:Int)(m:Nat):(wX r f m).length=m:=by simp[wX]
theorem Qe(r:Nat)(f:Int)(m:Nat):wX r f (m+1)=wX r f m++[evP r (f+(m:Int))]:=by
 unfold wX;rw[List.range_succ,List.map_append];rfl
def Ba(len back:Int):Int:=if 1>len+1-back%3 then 1 else len+1-back%3
def Yd{r:Nat}(_:r<5)(oc:List AV)(f:Int)(j:Nat):AS:=
 ⟨[(0,.v (.int .i64 (r:Int))),(5,.box 0 0),(6,.box 1 0),(7,.box 2 0),(8,.v (.int .i64 f)),(9,.v (.int .i64 (f+(j:Int))))],
  [(90,.row 84 12 (wX r f j).length true (jH (wX r f j))),(0,.box 39 oc),(1,.box 52 [.v (.int .i64 0),.v (.int .i64 0),.v (.int .i64 0),.v (.int .i64 0),.v (.int .i64 0),.v (.int .i64 0),.v (.int .i64 0),.v (.int .i64 0),.v (.slice none 0 0)]),
   (2,.box 52 [.v (.int .i64 1),.v (.int .i64 (r:Int)),.v (.int .i64 0),.v (.int .i64 0),.v (.int .i64 0),.v (.int .i64 0),.v (.int .i64 0),.v (.int .i64 0),.own 90])],[],91⟩
theorem NZ(r:Nat)(hr:r<5)(len:Int)(o:Opn)(hl:0<=len/\len<=1000000000)(hm:0<=o.many/\o.many<=255)(hb:0<=o.back/\o.back<=255):
  aC Tryz.prog 19 [.v (.int .i64 (r:Int)),.v (.int .i64 len),o.av] (AX 1 r 0 aJ (wX r (Ba len o.back) (1+(o.many%5).toNat))) []:=by
 obtain⟨k,ro,m,b,⟨c0,c1,c2,c3,c4⟩,kp,bt,mk⟩:=o;dsimp only[Opn.av,Opn.cs]at hm hb⊢;have hf:1<=Ba len b/\Ba len b<=1000000001:=by unfold Ba;split<;>omega
 refine XK (C:=λ r=>r<5->aC Tryz.prog 19 [.v (.int .i64 (r:Int)),.v (.int .i64 len),.agg [.v (.int .u8 k),.v (.int .u8 ro),.v (.int .u8 m),.v (.int .u8 b),.v (.int .i64 c0),.v (.int .i64 c1),.v (.int .i64 c2),.v (.int .i64 c3),.v (.int .i64 c4),.v (.int .i64 kp),.v (.int .i64 bt),.v (.int .u32 mk)]] (AX 1 r 0 aJ (wX r (Ba len b) (1+(m%5).toNat))) []) hr ?_ ?_ ?_ ?_ ?_ hr;all_goals
  intro hr;refine K1.E 0x400007e7 Tryz.func19 ?_;repeat' ((conv=>whnf);first|refine K1.u ?_|refine K1.z ?_|refine K1.y (λ _=>?_) (λ _=>?_)|fail)
  all_goals(conv=>whnf)
  generalize hq:Ba len b=f at hf⊢;unfold Ba at hq;rw[hq];clear hq;refine aK.Vu 2 8 90 84 12 (jH []) (by decide) rfl rfl ?_;refine aK.mk {j:Nat//j<=1+(m%5).toNat} (λ j=>Yd hr [.v (.int .u8 k),.v (.int .u8 ro),.v (.int .u8 m),.v (.int .u8 b),.v (.int .i64 c0),.v (.int .i64 c1),.v (.int .i64 c2),.v (.int .i64 c3),.v (.int .i64 c4),.v (.int .i64 kp),.v (.int .i64 bt),.v (.int .u32 mk)] f j.1) (λ j=>1+(m%5).toNat-j.1) ⟨0,Nat.zero_le _⟩ [] (by
   dsimp only[Yd];exact iw.mk' [] _ _ _ rfl ⟨aP,aP,aP,aP,aP,bI.int (by omega),trivial⟩ ⟨⟨_,rfl,fP.row rfl (λ i hi=>absurd hi (Nat.not_lt_zero i))⟩,aY rfl,aY rfl,aY rfl,trivial⟩ rfl) ?_
  rintro⟨j,hj⟩;dsimp only[Yd];have a0:=qo 0 f j;have a1:=qo 1 f j;have a2:=qo 2 f j;have a3:=qo 3 f j;have a4:=qo 4 f j;by_cases hjl:j<1+(m%5).toNat
  ·have hs:=λ r=>Qe r f j;repeat' ((conv=>whnf);first|refine K1.u ?_|refine Rm.pos (by omega) (by omega) ?_|refine qM.mk (by decide) ?_|refine K1.z ?_|refine K1.y (λ _=>?_) (λ _=>?_)|fail)
   all_goals(conv=>whnf)
   refine⟨⟨j+1,hjl⟩,[(93,90)],iw.mk' _ _ _ _ rfl ⟨aP,aP,aP,aP,aP,bI.int (by show f+(j:Int)+1=f+((j+1:Nat):Int);omega),trivial⟩ ⟨⟨_,rfl,fP.row (by rw[hs,List.length_append];rfl) (λ i hi=>?_)⟩,aY rfl,aY rfl,aY rfl,trivial⟩ rfl,by show 1+(m%5).toNat-(j+1)<1+(m%5).toNat-j;omega⟩;rw[hs];exact jX (c:=Ev.cs) rfl rfl i hi
  ·obtain rfl:j=1+(m%5).toNat:=by omega
   repeat' ((conv=>whnf);first|refine K1.u ?_|refine Rm.pos (by omega) (by omega) ?_|refine qM.mk (by decide) ?_|refine aO.dW ?_|refine K1.z ?_|refine K1.y (λ _=>?_) (λ _=>?_)|fail)
   all_goals(conv=>whnf)
   exact aW.mk (aP)
end Go.Proofs.YtopfgjgdadnjeaaGreat
