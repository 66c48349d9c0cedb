/-
  Contracts of the walk:AmQ,RefA,RefB,RefC.
-/
import Derived.Test.YtopfgjgdadnjeaaGreatHp14
import Derived.Test.YtopfgjgdadnjeaaGreatHp12
import Derived.Test.YtopfgjgdadnjeaaGreatHp8
import Derived.Test.YtopfgjgdadnjeaaGreatHp9
set_option maxHeartbeats 16000000
set_option maxRecDepth 100000
set_option linter.unusedVariables false
set_option linter.unusedSimpArgs false
namespace Go.Proofs.YtopfgjgdadnjeaaGreat
open Go.RowKit
variable{r:AV}{f:FuncId}{H hin:List (Nat×AO)}{bD:List AV}{j n:Nat}{F:Nat->List AV}{P:Program}
theorem Opens.ren{o:OB}{j':Nat}{Y:Type}{hs:Y->List (Nat×AO)}(hO:Opens o j hs)(σ:List (Nat×Nat))(hj:jV σ j=some j')(hn:nodupB (σ.map (·.2))=true)(hb:∀y,yJ σ (hs y)=true):Opens o j' λ y=>iU σ (hs y):=by
 intro w k v hR;obtain⟨y,ρ,h1,h2,h3⟩:=hO w k v hR;have e0:∀k i,jV σ k=some i->mV σ ρ i=ρ k:=λ k i e=>by simp only[mV,xA (oI hn) (qc e)]
 refine⟨y,mV σ ρ,by rw[e0 j j' hj];exact h1,by rw[oL e0 (hb y)];exact h2,λ p hp=>?_⟩;obtain⟨a,q,m1,m2,m3⟩:=Ac hp;obtain⟨i,l1,l2,l3⟩:=Af (hb y) (a,q) m1;have hi:p.1=i:=by
  simp only[kK,l1,Option.some.injEq]at m2;exact m2.symm
 obtain⟨b,c⟩:=p;dsimp only at hi m3;subst hi m3;exact(bn.jE (X:=⟨w,k,ρ⟩) (Y:=⟨w,k,mV σ ρ⟩) rfl rfl e0 l1 l3).2 (h3 _ m1)
theorem au.clo{B:List (Nat×AO)}{i:Nat}{q:OB}(hM:au P f hin bD r (B++H))(hC:Closes B i q)
  (hb:(nJ (λ k=>bW k H) i r&&(H.all λ p=>PS (λ k=>bW k H) i p.2)&& !(bW i H)&& !(bW i hin))=true):au P f hin bD r ((i,.obs q)::H):=by
 simp only[Bool.and_eq_true,Bool.not_eq_true',List.all_eq_true]at hb;obtain⟨⟨⟨hrr,hcl⟩,hne⟩,hni⟩:=hb;refine⟨hM.1,λ w keep ρ args hkeep oH hnd hbl hargs=>(hM.2 w keep ρ args hkeep oH hnd hbl hargs).mono ?_⟩;rintro e w' ⟨u,rZ,rfl,hbel,hfix,hc,hout,hnd',hnew⟩;rw[dQ,List.nodup_append]at hnd';obtain⟨hn1,hn2,hn3⟩:=hnd';obtain⟨vs,hR',TF,hbs⟩:=hC w' (aI (ig w keep (λ b=>b∈ah ρ hin)) w' rZ (B++H)) rZ hn1 (λ p hp=>hout p (List.mem_append_left _ hp));let nG:Nat->Value:=λ k=>if k=i then .tuple vs else rZ k
 have Oi:nG i= .tuple vs:=by simp[nG]
 have e4:∀k,bW k H=true->nG k=rZ k:=λ k hk=>by
  have:k≠i:=by rintro rfl;rw[hne]at hk;cases hk
  simp[nG,this]
 have hb4:ah nG ((i,.obs q)::H)=blks (.tuple vs)++ah rZ H:=by
  rw[aT,gq λ p hp=>e4 p.1 (cO.2 ⟨p,hp,rfl⟩)];show blks (nG i)++_=_;rw[Oi]
 have Dc:∀b,b∈ah nG ((i,.obs q)::H)->b∈ah rZ (B++H):=λ b hb=>by
  rw[hb4]at hb;rw[dQ];exact(List.mem_append.1 hb).elim (λ h=>List.mem_append_left _ (hbs b h)) (λ h=>List.mem_append_right _ h)
 have hk4:∀b,aI (ig w keep (λ b=>b∈ah ρ hin)) w' rZ (B++H) b->aI (ig w keep (λ b=>b∈ah ρ hin)) w' nG ((i,.obs q)::H) b:=
  λ b ⟨h1,h2,h3⟩=>⟨h1,h2,λ h=>h3 (Dc b h)⟩
 have hj:fM (nG i)=fM (rZ i):=by rw[Oi,TF]
 refine⟨u,nG,rfl,hbel,λ p hp x hx eq=>?_, ?_,λ p hp=>?_, ?_,λ b hb=>hnew b (Dc b hb)⟩
 ·have hpi:p.1≠i:=λ h=>by
   rw[<-h,cO.2 ⟨p,hp,rfl⟩]at hni;cases hni
  rcases List.mem_cons.1 hx with rfl|hx
  ·exact absurd eq.symm hpi
  ·have:=hfix p hp x (List.mem_append_right _ hx) eq;rw[show nG p.1=rZ p.1 by simp[nG,hpi]];exact this
 ·exact C2.kP (X:=aB (ig w keep (λ b=>b∈ah ρ hin)) w' rZ (B++H)) (Y:=aB (ig w keep (λ b=>b∈ah ρ hin)) w' nG ((i,.obs q)::H)) hk4 rfl e4 hj hrr hc
 ·rcases List.mem_cons.1 hp with rfl|hp
  ·refine⟨vs,Oi, ?_⟩;show q.R w' _ (nG i);rw[Oi];exact q.mono hk4 (λ _ _=>rfl) (λ _ _=>rfl) hR'
  ·exact bn.kP (X:=aB (ig w keep (λ b=>b∈ah ρ hin)) w' rZ (B++H)) (Y:=aB (ig w keep (λ b=>b∈ah ρ hin)) w' nG ((i,.obs q)::H)) (q:=λ k=>bW k H) (j:=i) hk4 rfl e4 hj (cO.2 ⟨p,hp,rfl⟩) (hcl p hp) (hout p (List.mem_append_right _ hp))
 ·rw[hb4,List.nodup_append];exact⟨(q.lt hR').2.2,hn2,λ a ha b hb=>hn3 a (hbs a ha) b hb⟩
theorem fV.G5{L:Lay}(hL:bQ P L){W:Walk}(hW:KD P W){d:Nat}{st:AS}{K:AV->AS->Prop}(hE:Enters P f)(id:Nat){e:TypeId}{s:Nat}{sc:Bool}(hf:aQ id st.heap=some (.row e s n sc F))
  (h:fV P L W d f (bD.map (D8 id (.sl s n sc F))) (st.freeze id s n sc F) K):fV P L W d f bD st K:=by
 refine .sem hE λ g N bs ρ a w args R hargs=>?_;obtain⟨R',hrow⟩:=R.freeze hf;have hk:∀b,aI g w ρ st.heap b->aI g w ρ (st.freeze id s n sc F).heap b:=λ b hb=>⟨hb.1,hb.2.1,λ h=>hb.2.2 (by
  have e:ah ρ (st.freeze id s n sc F).heap=ah ρ (st.heap.filter λ p=> !Nat.beq p.1 id):=by simp[AS.freeze,ah,List.flatMap_map]
  rw[e]at h;exact fQ h)⟩
 have hargs':aN (C2 (aB g w ρ (st.freeze id s n sc F).heap)) (bD.map (D8 id (.sl s n sc F))) args:=hargs.mD λ _ _=>C2.thaw (X:=aB g w ρ st.heap) (Y:=aB g w ρ (st.freeze id s n sc F).heap) hk (λ _ _=>rfl) rfl (by show PC _ _ _ (fM (ρ id));rw[hrow.hd];exact hrow);exact(xw R' hargs' h (λ lv fn c hf' hnm hb hsz h'=>DK hL hW R' hargs' lv fn c hf' hb hsz h')).2
theorem ND{g:Base}{w:World}{ρ:Nat->Value}{h h':List (Nat×AO)}(hp:h.Perm h'):aI g w ρ h=aI g w ρ h':=by
 funext b
 have e:(b∈ah ρ h)=(b∈ah ρ h'):=propext (kT hp).mem_iff;unfold aI;rw[e]
theorem au.perm{H':List (Nat×AO)}(hM:au P f hin bD r H)(hp:H.Perm H'):au P f hin bD r H':=by
 refine⟨hM.1,λ w keep ρ args hkeep oH hnd hbl hargs=>(hM.2 w keep ρ args hkeep oH hnd hbl hargs).mono ?_⟩;rintro e w' ⟨u,rZ,rfl,hbel,hfix,hc,hout,hnd',hnew⟩;have hk:=ND (g:=ig w keep (λ b=>b∈ah ρ hin)) (w:=w') (ρ:=rZ) hp;unfold aB at hc hout;rw[hk]at hc hout;exact⟨u,rZ,rfl,hbel,λ p hp' q hq=>hfix p hp' q (hp.mem_iff.2 hq),hc,λ p hp'=>hout p (hp.mem_iff.2 hp'),(kT hp).nodup_iff.1 hnd',λ b hb=>hnew b ((kT hp).mem_iff.2 hb)⟩
theorem NG(n:Nat)(h:n<=18446744073709551615):([]:List UInt8)++fE 9 n=ak n/\n<128^(9+1):=⟨rfl,by
 have:128^(9+1)=1180591620717411303424:=by decide
 omega⟩
theorem dM(d n:Nat)(h1:n<=18446744073709551615):aC Tryz.prog 34 [.v (.int .u64 (n:Int))] (.own d) [(d,.row 5 1 (ak n).length true (aG (ak n)))]:=by
 have hst:=NG n h1;refine K1.E 0x4d Tryz.func34 ?_;repeat' ((conv=>whnf);first|refine K1.u ?_|refine K1.z ?_|refine K1.y (λ _=>?_) (λ _=>?_)|fail)
 refine aK.mk {x:List UInt8×Nat×Nat//x.1++fE x.2.2 x.2.1=ak n/\x.2.1<128^(x.2.2+1)/\x.1.length<=10/\x.2.1<=18446744073709551615}
  (λ x=>⟨[(0,.v (.int .u64 (x.1.2.1:Int))),(3,.own 90)],[(90,.row 5 1 x.1.1.length true (aG x.1.1))],[],91⟩) (λ x=>x.1.2.1)
  ⟨([],n,9),hst.1,hst.2,by simp,h1⟩ _ (iw.auto _ _ _ rfl ⟨aP,aP,trivial⟩ ⟨⟨_,rfl,fP.row rfl (λ i hi=>absurd hi (Nat.not_lt_zero i))⟩,trivial⟩ rfl) ?_
 rintro⟨⟨acc,m,f⟩,i1,i2,i3,i4⟩;dsimp only at i1 i2 i3 i4⊢;have hl:acc.length+(fE f m).length<=10:=by
  have:=congrArg List.length i1;have:=aX 9 n;simp only[List.length_append,ak]at*;omega
 have hp:=sG f m;repeat' ((conv=>whnf);first|refine K1.u ?_|refine K1.z ?_|refine K1.y (λ _=>?_) (λ _=>?_)|fail)
 ·obtain⟨f',k1,k2⟩:=DZ i1 i2 (by omega);refine⟨⟨(acc++[UInt8.ofNat (m%128+128)],m/128,f'),k1,k2,by simp;omega,by dsimp only;omega⟩,_,iw.auto _ _ _ rfl ⟨bI.int (by dsimp only;omega),aP,trivial⟩ ⟨⟨_,rfl,fP.row (by simp) (jX rfl ?_)⟩,trivial⟩ rfl,by show m/128<m;omega⟩;simp only[chunk,bC,Ap (show m%128+128<256 by omega)];rfl
 ·have e:=GY i1 (by omega);refine aO.o8 d rfl rfl (fP.row ?_ ?_) (aP)
  ·rw[<-e];simp
  ·rw[<-e];refine jX rfl ?_;simp only[chunk,bC,Ap (show m<256 by omega)];rfl
theorem P5(r:Nat)(hr:r<4294967296)(c:UInt8):aC Tryz.prog 101 [.v (.int .u32 (r:Int)),.v (.int .u8 (c.toNat:Int))] (.v (.int .u32 (xJ r c:Int))) []:=by
 have hc:=UInt8.toNat_lt c;have h0:r^^^c.toNat<4294967296:=Nat.xor_lt_two_pow (n:=32) (by omega) (by omega);refine K1.E 0x101073 Tryz.func101 ?_;repeat' ((conv=>whnf);first|refine K1.u ?_|refine K1.z ?_|refine K1.y (λ _=>?_) (λ _=>?_)|fail)
 conv=>whnf
 refine aK.mk {j:Nat//j<=8} (λ j=>⟨[(0,.v (.int .u32 (Aj (r^^^c.toNat) j.1:Int))),(5,.v (.int .i64 (j.1:Int)))],[],[],0⟩) (λ j=>8-j.1) ⟨0,Nat.zero_le _⟩ _
  (iw.mk' [] _ _ _ rfl ⟨bI.int (L6 hr (by omega)),bI.int rfl,trivial⟩ trivial rfl) ?_
 rintro⟨j,hj⟩;dsimp only;have hj2:=Ak h0 j;repeat' ((conv=>whnf);first|refine K1.u ?_|refine aO.dW ?_|refine K1.z ?_|refine K1.y (λ _=>?_) (λ _=>?_)|fail)
 ·refine⟨⟨j+1,by omega⟩,_,iw.mk' [] _ _ _ rfl ⟨bI.int ?_,bI.int rfl,trivial⟩ trivial rfl,by show 8-(j+1)<8-j;omega⟩;show _=((mX (Aj (r^^^c.toNat) j):Nat):Int);unfold mX;rw[if_pos (by omega),<-L6 (by omega) (by omega)];rfl
 ·refine⟨⟨j+1,by omega⟩,_,iw.mk' [] _ _ _ rfl ⟨bI.int ?_,bI.int rfl,trivial⟩ trivial rfl,by show 8-(j+1)<8-j;omega⟩;show _=((mX (Aj (r^^^c.toNat) j):Nat):Int);unfold mX;rw[if_neg (by omega)];rfl
 ·conv=>whnf
  have:j=8:=by omega
  subst this;exact aW.mk (aP)
theorem XR{r:Nat}(h:r<4294967296):(4294967295:Int)-(r:Int)=((4294967295^^^r:Nat):Int):=by
 have e:(~~~ (BitVec.ofNat 32 r)).toNat=4294967295^^^r:=by
  rw[<-BitVec.allOnes_xor];simp[BitVec.toNat_xor,Nat.mod_eq_of_lt h]
 rw[BitVec.toNat_not]at e;simp only[BitVec.toNat_ofNat,Nat.reducePow,Nat.mod_eq_of_lt h]at e;omega
theorem Us(l:List UInt8)(hF:aS F l)(hn:n=l.length)(hl:l.length<=140737488355328):aC Tryz.prog 67 [.sl 1 n true F] (.v (.int .u32 (jS l:Int))) []:=by
 refine aC.args (bvs:=[.sl 1 l.length true (aG l)]) ?_ (.of (λ X u hu=>bI.lH (sc:=true) hF hn X u hu) .nil);have WE (j:Nat):mY (l.take j)<4294967296:=BI _;have hs (j:Nat) (c:UInt8):=P5 (mY (l.take j)) (WE j) c;refine K1.E 0x11d Tryz.func67 ?_;repeat' ((conv=>whnf);first|refine K1.u ?_|refine K1.z ?_|refine K1.y (λ _=>?_) (λ _=>?_)|fail)
 conv=>whnf
 refine aK.mk {j:Nat//j<=l.length} (λ j=>⟨[(0,.sl 1 l.length true (aG l)),(3,.v (.int .u32 (mY (l.take j.1):Int))),(4,.v (.int .i64 (j.1:Int)))],[],[],0⟩) (λ j=>l.length-j.1) ⟨0,Nat.zero_le _⟩ _
  (iw.mk' [] _ _ _ rfl ⟨aP,bI.int rfl,bI.int rfl,trivial⟩ trivial rfl) ?_
 rintro⟨j,hj⟩;dsimp only;have hjr:=WE j;repeat' ((conv=>whnf);first|refine K1.u ?_|refine K1.P1 (hs j _) ?_|refine aO.dW ?_|refine K1.z ?_|refine K1.y (λ _=>?_) (λ _=>?_)|fail)
 ·refine⟨⟨j+1,by omega⟩,_,iw.mk' [] _ _ _ rfl ⟨aP,bI.int ?_,bI.int rfl,trivial⟩ trivial rfl,by show l.length-(j+1)<l.length-j;omega⟩;show _=((mY (l.take (j+1)):Nat):Int);rw[CV (by omega)];rfl
 ·conv=>whnf
  refine aW.mk (bI.int ?_);rw[XR hjr,List.take_of_length_le (by omega)];rfl
theorem rJ(s:Nat)(x:Int)(h:x=(s:Int)):byteOf' (x%256)=UInt8.ofNat s:=by
 subst h;apply UInt8.toNat_inj.1;unfold byteOf';rw[UInt8.toNat_ofNat',UInt8.toNat_ofNat'];omega
theorem jU(d:Nat)(l:List UInt8)(hF:aS F l)(hn:n=l.length)(hl:l.length<=1000000000):
  aC Tryz.prog 36 [.sl 1 n true F] (.own d) [(d,.row 5 1 (dF l).length true (aG (dF l)))]:=by
 refine aC.args (bvs:=[.sl 1 l.length true (aG l)]) ?_ (.of (λ X u hu=>bI.lH (sc:=true) hF hn X u hu) .nil);have ht:=Us l (aS.bytes l) rfl (by omega);have hlt:=Ib l;have hsb:dF l=[]++l++[UInt8.ofNat (jS l)]++[UInt8.ofNat (jS l/256)]++[UInt8.ofNat (jS l/65536)]++[UInt8.ofNat (jS l/16777216)]:=by simp[dF,pR]
 rw[hsb];generalize jS l=s at ht hlt;have hb0:=rJ s (s:Int) rfl;have hb1:=rJ (s/256) ((s:Int)/256) (by omega);have hb2:=rJ (s/65536) ((s:Int)/256/256) (by omega);have hb3:=rJ (s/16777216) ((s:Int)/256/256/256) (by omega);refine K1.E 0x103d Tryz.func36 ?_;repeat' ((conv=>whnf);first|refine K1.u ?_|refine K1.P1 ht ?_|refine aK.jA 5 5 rfl ?_|refine K1.z ?_|refine K1.y (λ _=>?_) (λ _=>?_)|fail)
 conv=>whnf
 refine aO.o8 d rfl rfl ?_ (aP);rw[<-hb0,<-hb1,<-hb2,<-hb3];refine fP.lH (aS.app (aS.app (aS.app (aS.app (aS.app (aS.nil _) (aS.bytes _) rfl) (aS.one (by omega) (by omega)) ?_) (aS.one (by omega) (by omega)) ?_) (aS.one (by omega) (by omega)) ?_) (aS.one (by omega) (by omega)) ?_) ?_ rfl;all_goals simp
theorem Ut(n:Int):mg n=0\/mg n=11:=by unfold mg;split<;>simp
theorem ZF(s:ByteArray):keyE s=0\/keyE s=10:=by unfold keyE;split<;>simp
theorem NH(n:Int):aC Tryz.prog 118 [.v (.int .i64 n)] (.v (.int .i64 (mg n))) []:=by
 refine K1.E 0x105 Tryz.func118 ?_;repeat' ((conv=>whnf);first|refine K1.u ?_|refine K1.z ?_|refine K1.y (λ _=>?_) (λ _=>?_)|fail)
 all_goals(refine aO.int rfl ?_;unfold mg;(first|rw[if_pos (by omega)]|rw[if_neg (by omega)]))
theorem NI(s:ByteArray):aC Tryz.prog 119 [.v (.string s)] (.v (.int .i64 (gI s))) []:=by
 refine K1.E 0x405 Tryz.func119 ?_;repeat' ((conv=>whnf);first|refine K1.u ?_|refine K1.z ?_|refine K1.y (λ _=>?_) (λ _=>?_)|fail)
 all_goals(refine aO.int rfl ?_;unfold gI;(first|rw[if_pos (by omega)]|rw[if_neg (by omega)]))
theorem abe{s:ByteArray}(h:j<s.size):(s.data.toList.getD j 0)=s[j]'h:=by
 rw[List.getD,List.getElem?_eq_getElem (by rw[JE];exact h)];rfl
theorem bF(s:ByteArray):aC Tryz.prog 117 [.v (.string s)] (.v (.int .i64 (keyE s))) []:=by
 refine K1.E 0x800880d Tryz.func117 ?_;repeat' ((conv=>whnf);first|refine K1.u ?_|refine aO.dW ?_|refine K1.z ?_|refine K1.y (λ _=>?_) (λ _=>?_)|fail)
 all_goals(conv=>whnf)
 ·exact aW.mk (bI.int (xI (by omega)).symm)
 ·exact aW.mk (bI.int (xI (by omega)).symm)
 ·refine aK.mk {j:Nat//j<=s.size/\ ∀i(h:i<s.size),i<j->97<=(s[i]'h).toNat/\(s[i]'h).toNat<=122} (λ j=>⟨[(0,.v (.string s)),(3,.v (.int .i64 (j.1:Int)))],[],[],0⟩) (λ j=>s.size-j.1) ⟨0,Nat.zero_le _,λ i _ h=>absurd h (Nat.not_lt_zero i)⟩ _
   (iw.mk' [] _ _ _ rfl ⟨aP,bI.int rfl,trivial⟩ trivial rfl) ?_
  rintro⟨j,hj,hall⟩;dsimp only;repeat' ((conv=>whnf);first|refine K1.u ?_|refine aO.dW ?_|refine K1.z ?_|refine K1.y (λ _=>?_) (λ _=>?_)|fail)
  all_goals(conv=>whnf)
  all_goals first
   |(have hjs:j<s.size:=by omega
     have hsj:(s.data.toList.getD ((j:Int)).toNat 0).toNat=(s[j]'hjs).toNat:=congrArg UInt8.toNat (abe hjs);first
      |(refine⟨⟨j+1,by omega,λ i h hi=>?_⟩,_,iw.mk' [] _ _ _ rfl ⟨aP,bI.int rfl,trivial⟩ trivial rfl,by show s.size-(j+1)<s.size-j;omega⟩
        by_cases e:i=j
        ·subst e;omega
        ·exact hall i h (by omega))
      |(exact aW.mk (bI.int (DU hjs (by omega)).symm)))
   |exact aW.mk (bI.int (QO (by omega) (by omega) (λ i h=>hall i h (by omega))).symm)
theorem Gg(e:Ed):aC Tryz.prog 99 [e.av] (.v (.int .i64 (uV e))) []:=by
 refine K1.E 0x112404407 Tryz.func99 ?_;repeat' ((conv=>whnf);first|refine K1.u ?_|refine K1.P1 (bF _) ?_|refine K1.P1 (NH _) ?_|refine K1.P1 (NI _) ?_|refine K1.z ?_|refine K1.y (λ _=>?_) (λ _=>?_)|fail)
 all_goals(refine aO.int rfl ?_;unfold uV;try have h0:=size_pos ‹_›)
 all_goals grind [H7,ZF,Ut]
theorem Gh(n a b:Int):aC Tryz.prog 98 [.v (.int .i64 n),.v (.int .i64 a),.v (.int .i64 b)] (.v (.bool (decide (a<=n/\n<=b)))) []:=by
 refine K1.E 0x47 Tryz.func98 ?_;repeat' ((conv=>whnf);first|refine K1.u ?_|refine K1.z ?_|refine K1.y (λ _=>?_) (λ _=>?_)|fail)
 all_goals(refine aO.bool rfl ?_;simp[*])
theorem IQ(e:Ev):aC Tryz.prog 100 [e.av] e.ed.av []:=by
 refine K1.E 0x7 Tryz.func100 ?_;repeat' ((conv=>whnf);first|refine K1.u ?_|refine aO.dW ?_|refine K1.z ?_|refine K1.y (λ _=>?_) (λ _=>?_)|fail)
 conv=>whnf
 exact aW.mk (aP)
theorem Cb(e:Ev):aC Tryz.prog 66 [e.av] (.v (.int .i64 (fH e))) []:=by
 obtain⟨r,n,⟨c0,c1,c2,c3,c4⟩,h,k,key,l,v⟩:=e;dsimp only[Ev.av,Ev.cs];by_cases hr:0<=r/\r<=4
 ·rcases(show r=0\/r=1\/r=2\/r=3\/r=4 by omega)with rfl|rfl|rfl|rfl|rfl;all_goals
   refine K1.E 0x1014000000f Tryz.func66 ?_;repeat' ((conv=>whnf);first|refine K1.u ?_|refine K1.P1 (Gh _ _ _) ?_|refine K1.P1 (IQ ⟨_,n,⟨c0,c1,c2,c3,c4⟩,h,k,key,l,v⟩) ?_|refine K1.P1 (Gg ⟨k,key,l,v⟩) ?_|refine aK.jA 3 6 rfl ?_|refine K1.o (id:=1) (nN [0,1] ((2,some [1])::nN [3,4,5,6] ((7,some [1,6])::nN [8,9,10,11,12] ((13,some [1,6,12])::nN [14,15,16,17,18,19,20,21,22,23,24,25,26] [])))) ?_|refine K1.z ?_|refine K1.y (λ _=>?_) (λ _=>?_)|fail)
   all_goals refine aO.int rfl ?_
   all_goals first|(simp[fH,qp,iJ,dD.get,Ev.ed, *];done)|(simp[fH,qp,iJ,dD.get,Ev.ed, *];omega)
 ·refine K1.E 0x1014000000f Tryz.func66 ?_;repeat' ((conv=>whnf);first|refine K1.u ?_|refine K1.P1 (Gh _ _ _) ?_|refine K1.P1 (IQ ⟨r,n,⟨c0,c1,c2,c3,c4⟩,h,k,key,l,v⟩) ?_|refine K1.P1 (Gg ⟨k,key,l,v⟩) ?_|refine aK.jA 3 6 rfl ?_|refine K1.o (id:=1) (nN [0,1] ((2,some [1])::nN [3,4,5,6] ((7,some [1,6])::nN [8,9,10,11,12] ((13,some [1,6,12])::nN [14,15,16,17,18,19,20,21,22,23,24,25,26] [])))) ?_|refine K1.z ?_|refine K1.y (λ _=>?_) (λ _=>?_)|fail)
  all_goals refine aO.int rfl ?_
  all_goals(simp[fH,iJ];omega)
theorem Gi(d:Nat)(e:Ev)(h:fH e=0):aC Tryz.prog 35 [e.av] (.bJ [.own d,.v (.int .i64 0)]) [(d,.row 5 1 (dK e).length true (aG (dK e)))]:=by
 have m:=lV h;have g:=um m.ed;have hm:=Cb e;rw[h]at hm;obtain⟨r,n,⟨c0,c1,c2,c3,c4⟩,hh,k,key,l,v⟩:=e;obtain⟨r0,r4,n1,n2,h1,h2,a0,a1,a2,a3,a4,own,ed⟩:=m;dsimp only[Ev.ed]at r0 r4 n1 n2 h1 h2 a0 a1 a2 a3 a4 g;obtain⟨g1,g2,g3,g4,g5,g6,g7⟩:=g;have g8:v.size<=12/\0<=l/\l<=1:=by
  cases hl:cu k with
  |true=>have:=g6 hl;omega
  |false=>have:=g7 hl;omega
 have hk:(cu k=true/\2<k)\/(cu k=false/\k<=2):=by
  unfold cu;rcases(show k=1\/k=2\/k=3\/k=4\/k=5 by omega)with rfl|rfl|rfl|rfl|rfl<;>decide
 clear own ed g6 g7;obtain⟨n,rfl⟩:=Int.eq_ofNat_of_zero_le (show 0<=n by omega);obtain⟨hh,rfl⟩:=Int.eq_ofNat_of_zero_le (show 0<=hh by omega);obtain⟨c0,rfl⟩:=Int.eq_ofNat_of_zero_le a0.1;obtain⟨c1,rfl⟩:=Int.eq_ofNat_of_zero_le a1.1;obtain⟨c2,rfl⟩:=Int.eq_ofNat_of_zero_le a2.1;obtain⟨c3,rfl⟩:=Int.eq_ofNat_of_zero_le a3.1;obtain⟨c4,rfl⟩:=Int.eq_ofNat_of_zero_le a4.1;have q (x:Nat):(ak x).length<=10:=aX 9 x;have q0:=q n;have q1:=q hh;have q2:=q c0;have q3:=q c1;have q4:=q c2;have q5:=q c3;have q6:=q c4;clear q;dsimp only[Ev.av,Ev.cs]at hm⊢;rcases hk with⟨hl,hk⟩|⟨hl,hk⟩;all_goals
  rcases(show r=0\/r=1\/r=2\/r=3\/r=4 by omega)with rfl|rfl|rfl|rfl|rfl
 all_goals
  refine K1.E 0x80000010400047f Tryz.func35 ?_;repeat' ((conv=>whnf);first|refine K1.u ?_|refine K1.P1 hm ?_|refine K1.F1 (dM _ _ (by omega)) ?_ rfl rfl|refine aK.jA 6 6 rfl ?_|refine K1.o (id:=12) (nN [0,1,2,3,4,7,8] [(5,some [4,2]),(6,some [4,2]),(9,some [4,2,8]),(10,none)]) ?_|refine K1.o (id:=14) (nN [0,1,2,3,4,5,6,7,10,11] [(8,some [7,5,3,2]),(9,some [7,5,3,2]),(12,some [7,5,3,2,11]),(13,none)]) ?_|refine K1.z ?_|refine K1.y (λ _=>?_) (λ _=>?_)|fail)
  all_goals(refine aO.o8 d rfl rfl ?_ (aP);apply fP.lH)
  all_goals(try(repeat' (first|exact aS.bytes _|exact aS.str _|exact aS.one (by omega) (by omega)|exact aS.two (by omega) (by omega) (by omega) (by omega)|apply aS.app)))
  all_goals first
   |(simp only[List.length_append,List.length_cons,List.length_nil,JE];try omega;done)
   |(simp[dK,others,words,gu,byteOf,byteOf', *];done)
theorem ZG{c:dD}(h:¬c=aJ):Ah c=false:=by
 cases hc:Ah c with
 |false=>rfl
 |true=>exact absurd ((iH c).1 hc) h
theorem P6(n:Int):aC Tryz.prog 131 [.v (.int .i64 n)] (.v (.bool (qp n))) []:=by
 refine K1.E 0x5 Tryz.func131 ?_;repeat' ((conv=>whnf);first|refine K1.u ?_|refine aO.dW ?_|refine K1.z ?_|refine K1.y (λ _=>?_) (λ _=>?_)|fail)
 all_goals(conv=>whnf)
 all_goals(refine aW.mk (bI.of ?_))
 all_goals simp[qp,iJ, *]
theorem rM(x:Rc)(hl:x.ev.length<=140737488355328):aC Tryz.prog 114 [x.av] (.v (.bool (jR x))) []:=by
 obtain⟨k,r,u,⟨c0,c1,c2,c3,c4⟩,ev⟩:=x;dsimp only at hl;rcases(show k=1\/k=2\/k=3\/k=4\/k=5\/k=6\/ ¬ (1<=k/\k<=6) by omega)with rfl|rfl|rfl|rfl|rfl|rfl|hk;all_goals dsimp only[Rc.av,Rc.cs]
 all_goals
  refine K1.E 0x9008040018201080a00003f Tryz.func114 ?_;repeat' ((conv=>whnf);first|refine K1.u ?_|refine K1.P1 (P6 _) ?_|refine aK.jA 3 6 rfl ?_|refine aO.dW ?_|refine K1.z ?_|refine K1.y (λ _=>?_) (λ _=>?_)|fail)
  all_goals(conv=>whnf)
  all_goals first
   |refine aW.mk (bI.of ?_)
   |refine aK.mk {j:Nat//j<=ev.length/\ ∀i,i<j->fH (ev.getD i default)=0} (λ j=>⟨[(1,.box 0 0),(4,.v (.int .i64 (j.1:Int)))],
     [(0,.box 95 [.v (.int .i64 _),.v (.int .i64 r),.v (.int .i64 u),.v (.int .i64 c0),.v (.int .i64 c1),.v (.int .i64 c2),.v (.int .i64 c3),.v (.int .i64 c4),.sl 12 ev.length true (jH ev)])],[],4⟩) (λ j=>ev.length-j.1) ⟨0,Nat.zero_le _,λ i h=>absurd h (Nat.not_lt_zero i)⟩ _
     (iw.mk' [] _ _ _ rfl ⟨aP,bI.int rfl,trivial⟩ ⟨aY rfl,trivial⟩ rfl) ?_
  all_goals try(simp[jR,UW,yQ,yR,yS,BG,iH,-List.length_eq_zero_iff, *]<;>omega;done)
  all_goals(rintro⟨j,hj,hall⟩;dsimp only)
  all_goals repeat' ((conv=>whnf);first|refine K1.u ?_|refine K1.P1 (Cb (ev.getD (j:Int).toNat default)) ?_|refine GZ.mk (dD.vs ⟨c0,c1,c2,c3,c4⟩) (dD.vs aJ) (dD.mk c0 c1 c2 c3 c4=aJ) rfl rfl (mZ _ _) ?_|refine aO.dW ?_|refine K1.z ?_|refine K1.y (λ _=>?_) (λ _=>?_)|fail)
  all_goals first
   |(conv=>whnf
     refine⟨⟨j+1,by omega,λ i hi=>?_⟩,_,iw.mk' [] _ _ _ rfl ⟨aP,bI.int rfl,trivial⟩ ⟨aY rfl,trivial⟩ rfl,by show ev.length-(j+1)<ev.length-j;omega⟩;rcases Nat.lt_or_ge i j with h|h
     ·exact hall i h
     ·rw[show i=j by omega];exact ‹fH (ev.getD (j:Int).toNat default)=0›)
   |(conv=>whnf
     refine aW.mk (bI.of ?_);have hno:=O9 (l:=ev) (j:=j) (by omega) ‹¬fH (ev.getD (j:Int).toNat default)=0›;simp[jR,hno])
   |(conv=>whnf
     refine aW.mk (bI.of ?_);have hyes:=JI (l:=ev) (λ i hi=>hall i (by omega));simp[jR,show qp 0=true from rfl,UW,yQ,yR,yS,BG,iH,-List.length_eq_zero_iff, *]<;>first|omega|(intros;exact ZG ‹_›))
theorem Gj(d:Nat)(x:Rc)(h:jR x=true)(hk:x.k=1\/x.k=2\/x.k=5):
  aC Tryz.prog 93 [x.av] (.bJ [.own d,.v (.int .i64 0)]) [(d,.row 5 1 (aH x).length true (aG (aH x)))]:=by
 have m:=lN h;have hm:=rM x (by have:=m.l;omega);rw[h]at hm;obtain⟨k,r,u,c,ev⟩:=x;obtain⟨mk,mr,mu,ml,mc,nY,nH,me0,uj,m1⟩:=m;dsimp only at mk mr mu ml mc nY nH me0 uj m1 hk;have hat:∀j,j<ev.length->fH (ev.getD j default)=0:=λ j hj=>BM uj hj;have WI:∀j,j<ev.length->(dK (ev.getD j default)).length<=44:=λ j hj=>kL (hat j hj);have hlen:∀j,(dJ (ev.take j)).length<=44*j:=λ j=>Nat.le_trans (oM λ e he=>lM uj e (List.mem_of_mem_take he)) (Nat.mul_le_mul_left _ (by rw[List.length_take];omega));have hv:(ak ev.length).length<=10:=aX 9 _;obtain⟨kk,hkk⟩:∃kk,kk=k:=⟨_,rfl⟩;have hmore:∀j,([byteOf' kk,byteOf' r]++ak ev.length++dJ (ev.take j)).length=2+(ak ev.length).length+(dJ (ev.take j)).length:=λ j=>by simp;omega
 rcases hk with rfl|rfl|rfl;all_goals
  dsimp only[Rc.av,Rc.cs]at hm⊢;refine K1.E 0x80080050080012ff Tryz.func93 ?_;repeat' ((conv=>whnf);first|refine K1.u ?_|refine K1.P1 hm ?_|refine K1.F1 (dM _ ev.length (by omega)) ?_ rfl rfl|refine K1.z ?_|refine K1.y (λ _=>?_) (λ _=>?_)|fail)
  conv=>whnf
  refine aK.mk {j:Nat//j<=ev.length} (λ j=>⟨[(1,.box 0 0),(4,.own 90),(6,.v (.int .i64 (j.1:Int)))],
   [(0,.box 95 [.v (.int .i64 kk),.v (.int .i64 r),.v (.int .i64 u),.v (.int .i64 c.c0),.v (.int .i64 c.c1),.v (.int .i64 c.c2),.v (.int .i64 c.c3),.v (.int .i64 c.c4),.sl 12 ev.length true (jH ev)]),(90,.row 5 1 ([byteOf' kk,byteOf' r]++ak ev.length++dJ (ev.take j.1)).length true (aG ([byteOf' kk,byteOf' r]++ak ev.length++dJ (ev.take j.1))))],[],91⟩) (λ j=>ev.length-j.1) ⟨0,Nat.zero_le _⟩ _
   (iw.mk' [(3,90)] _ _ _ rfl ⟨aP,aP,bI.int rfl,trivial⟩ ⟨⟨_,rfl,by rw[hkk];exact fP.refl _⟩,⟨_,rfl,fP.lH (aS.app (aS.two (by omega) (by omega) (by omega) (by omega)) (aS.bytes _) rfl) (by simp<;>omega) (by simp[dJ,hkk])⟩,trivial⟩ rfl) ?_
  rintro⟨j,hj⟩;dsimp only;have WJ:=WI (j:Int).toNat;have hmj:=hmore j;have hlj:=hlen j;have hsl:=bP ([byteOf' kk,byteOf' r]++ak ev.length++dJ (ev.take j));have hvs:(ak (dF ([byteOf' kk,byteOf' r]++ak ev.length++dJ (ev.take j))).length).length<=10:=aX 9 _;repeat' ((conv=>whnf);first|refine K1.u ?_|refine K1.F1 (Gi _ (ev.getD (j:Int).toNat default) (hat _ (by omega))) ?_ rfl rfl|refine K1.F1 (jU _ ([byteOf' kk,byteOf' r]++ak ev.length++dJ (ev.take j)) (aS.bytes _) rfl (by omega)) ?_ rfl rfl|refine K1.F1 (dM _ (dF ([byteOf' kk,byteOf' r]++ak ev.length++dJ (ev.take j))).length (by rw[bP];omega)) ?_ rfl rfl|refine K1.z ?_|refine K1.y (λ _=>?_) (λ _=>?_)|fail)
  ·conv=>whnf
   refine⟨⟨j+1,by omega⟩,_,iw.mk' [(92,90)] _ _ _ rfl ⟨aP,aP,bI.int rfl,trivial⟩ ⟨⟨_,rfl,by rw[hkk];exact fP.refl _⟩,⟨_,rfl,fP.lH (aS.app (aS.bytes _) (aS.bytes _) rfl) List.length_append.symm ?_⟩,trivial⟩ rfl,by show ev.length-(j+1)<ev.length-j;omega⟩;rw[nX (by omega),List.append_assoc];rfl
  ·conv=>whnf
   refine aO.o8 d rfl rfl ?_ (aP);refine fP.lH (aS.app (aS.bytes _) (aS.bytes _) rfl) List.length_append.symm ?_;rw[List.take_of_length_le (by omega)];unfold aH eU;simp[hkk,yQ,yR,yS,byteOf,byteOf']
theorem Uu(d:Nat)(x:Rc)(h:jR x=true)(hk:x.k=4):
  aC Tryz.prog 93 [x.av] (.bJ [.own d,.v (.int .i64 0)]) [(d,.row 5 1 (aH x).length true (aG (aH x)))]:=by
 have m:=lN h;have hm:=rM x (by have:=m.l;omega);rw[h]at hm;obtain⟨k,r,u,c,ev⟩:=x;obtain⟨mk,mr,mu,ml,mc,nY,nH,me0,uj,m1⟩:=m;dsimp only at mk mr mu ml mc nY nH me0 uj m1 hk;have hat:∀j,j<ev.length->fH (ev.getD j default)=0:=λ j hj=>BM uj hj;have WI:∀j,j<ev.length->(dK (ev.getD j default)).length<=44:=λ j hj=>kL (hat j hj);have hlen:∀j,(dJ (ev.take j)).length<=44*j:=λ j=>Nat.le_trans (oM λ e he=>lM uj e (List.mem_of_mem_take he)) (Nat.mul_le_mul_left _ (by rw[List.length_take];omega));have hv:(ak ev.length).length<=10:=aX 9 _;obtain⟨kk,hkk⟩:∃kk,kk=k:=⟨_,rfl⟩;obtain⟨un,rfl,hun⟩:=dR mu;have hvu:(ak un).length<=10:=aX 9 _;have hmore:∀j,([byteOf' kk,byteOf' r]++ak un++ak ev.length++dJ (ev.take j)).length=2+(ak un).length+(ak ev.length).length+(dJ (ev.take j)).length:=λ j=>by simp;omega
 subst hk;all_goals
  dsimp only[Rc.av,Rc.cs]at hm⊢;refine K1.E 0x80080050080012ff Tryz.func93 ?_;repeat' ((conv=>whnf);first|refine K1.u ?_|refine K1.P1 hm ?_|refine K1.F1 (dM _ un (by omega)) ?_ rfl rfl|refine K1.F1 (dM _ ev.length (by omega)) ?_ rfl rfl|refine K1.z ?_|refine K1.y (λ _=>?_) (λ _=>?_)|fail)
  conv=>whnf
  refine aK.mk {j:Nat//j<=ev.length} (λ j=>⟨[(1,.box 0 0),(4,.own 90),(6,.v (.int .i64 (j.1:Int)))],
   [(0,.box 95 [.v (.int .i64 kk),.v (.int .i64 r),.v (.int .i64 (un:Int)),.v (.int .i64 c.c0),.v (.int .i64 c.c1),.v (.int .i64 c.c2),.v (.int .i64 c.c3),.v (.int .i64 c.c4),.sl 12 ev.length true (jH ev)]),(90,.row 5 1 ([byteOf' kk,byteOf' r]++ak un++ak ev.length++dJ (ev.take j.1)).length true (aG ([byteOf' kk,byteOf' r]++ak un++ak ev.length++dJ (ev.take j.1))))],[],91⟩) (λ j=>ev.length-j.1) ⟨0,Nat.zero_le _⟩ _
   (iw.mk' [(5,90)] _ _ _ rfl ⟨aP,aP,bI.int rfl,trivial⟩ ⟨⟨_,rfl,by rw[hkk];exact fP.refl _⟩,⟨_,rfl,fP.lH (aS.app (aS.app (aS.two (by omega) (by omega) (by omega) (by omega)) (aS.bytes _) rfl) (aS.bytes _) (by simp<;>omega)) (by simp<;>omega) (by simp[dJ,hkk])⟩,trivial⟩ rfl) ?_
  rintro⟨j,hj⟩;dsimp only;have WJ:=WI (j:Int).toNat;have hmj:=hmore j;have hlj:=hlen j;have hsl:=bP ([byteOf' kk,byteOf' r]++ak un++ak ev.length++dJ (ev.take j));have hvs:(ak (dF ([byteOf' kk,byteOf' r]++ak un++ak ev.length++dJ (ev.take j))).length).length<=10:=aX 9 _;repeat' ((conv=>whnf);first|refine K1.u ?_|refine K1.F1 (Gi _ (ev.getD (j:Int).toNat default) (hat _ (by omega))) ?_ rfl rfl|refine K1.F1 (jU _ ([byteOf' kk,byteOf' r]++ak un++ak ev.length++dJ (ev.take j)) (aS.bytes _) rfl (by omega)) ?_ rfl rfl|refine K1.F1 (dM _ (dF ([byteOf' kk,byteOf' r]++ak un++ak ev.length++dJ (ev.take j))).length (by rw[bP];omega)) ?_ rfl rfl|refine K1.z ?_|refine K1.y (λ _=>?_) (λ _=>?_)|fail)
  ·conv=>whnf
   refine⟨⟨j+1,by omega⟩,_,iw.mk' [(92,90)] _ _ _ rfl ⟨aP,aP,bI.int rfl,trivial⟩ ⟨⟨_,rfl,by rw[hkk];exact fP.refl _⟩,⟨_,rfl,fP.lH (aS.app (aS.bytes _) (aS.bytes _) rfl) List.length_append.symm ?_⟩,trivial⟩ rfl,by show ev.length-(j+1)<ev.length-j;omega⟩;rw[nX (by omega),List.append_assoc];rfl
  ·conv=>whnf
   refine aO.o8 d rfl rfl ?_ (aP);refine fP.lH (aS.app (aS.bytes _) (aS.bytes _) rfl) List.length_append.symm ?_;rw[List.take_of_length_le (by omega)];unfold aH eU;simp[hkk,yQ,yR,yS,byteOf,byteOf',gu]
theorem XT(d:Nat)(x:Rc)(h:jR x=true)(hk:x.k=3):
  aC Tryz.prog 93 [x.av] (.bJ [.own d,.v (.int .i64 0)]) [(d,.row 5 1 (aH x).length true (aG (aH x)))]:=by
 have m:=lN h;have hm:=rM x (by have:=m.l;omega);rw[h]at hm;obtain⟨k,r,u,c,ev⟩:=x;obtain⟨mk,mr,mu,ml,mc,nY,nH,me0,uj,m1⟩:=m;dsimp only at mk mr mu ml mc nY nH me0 uj m1 hk;obtain⟨kk,hkk⟩:∃kk,kk=k:=⟨_,rfl⟩;obtain⟨un,rfl,hun⟩:=dR mu;have hvu:(ak un).length<=10:=aX 9 _;have hmore:([byteOf' kk,byteOf' r]++ak un).length=2+(ak un).length:=by simp;omega
 have hsl:=bP ([byteOf' kk,byteOf' r]++ak un);have hvs:(ak (dF ([byteOf' kk,byteOf' r]++ak un)).length).length<=10:=aX 9 _;subst hk;dsimp only[Rc.av,Rc.cs]at hm⊢;refine K1.E 0x80080050080012ff Tryz.func93 ?_;repeat' ((conv=>whnf);first|refine K1.u ?_|refine K1.P1 hm ?_|refine K1.F1 (dM _ un (by omega)) ?_ rfl rfl|refine K1.F1 (jU _ ([byteOf' kk,byteOf' r]++ak un) (hkk▸aS.app (aS.two (by omega) (by omega) (by omega) (by omega)) (aS.bytes _) rfl) (by simp<;>omega) (by omega)) ?_ rfl rfl|refine K1.F1 (dM _ (dF ([byteOf' kk,byteOf' r]++ak un)).length (by rw[bP];omega)) ?_ rfl rfl|refine K1.z ?_|refine K1.y (λ _=>?_) (λ _=>?_)|fail)
 conv=>whnf
 refine aO.o8 d rfl rfl ?_ (aP);refine fP.lH (aS.app (aS.bytes _) (aS.bytes _) rfl) List.length_append.symm ?_;unfold aH eU;simp[hkk,yQ,yR,yS,byteOf,byteOf',gu]
theorem XU(d:Nat)(x:Rc)(h:jR x=true)(hk:x.k=6):
  aC Tryz.prog 93 [x.av] (.bJ [.own d,.v (.int .i64 0)]) [(d,.row 5 1 (aH x).length true (aG (aH x)))]:=by
 have m:=lN h;have hm:=rM x (by have:=m.l;omega);rw[h]at hm;obtain⟨k,r,u,⟨c0,c1,c2,c3,c4⟩,ev⟩:=x;obtain⟨mk,mr,mu,ml,⟨m0,m1,m2,m3,m4⟩,nY,nH,me0,uj,Aq⟩:=m;dsimp only at mk mr mu ml m0 m1 m2 m3 m4 nY nH me0 uj Aq hk;obtain⟨kk,hkk⟩:∃kk,kk=k:=⟨_,rfl⟩;obtain⟨c0,rfl,hc0⟩:=dR m0;obtain⟨c1,rfl,hc1⟩:=dR m1;obtain⟨c2,rfl,hc2⟩:=dR m2;obtain⟨c3,rfl,hc3⟩:=dR m3;obtain⟨c4,rfl,hc4⟩:=dR m4;have q0:(ak c0).length<=10:=aX 9 _;have q1:(ak c1).length<=10:=aX 9 _;have q2:(ak c2).length<=10:=aX 9 _;have q3:(ak c3).length<=10:=aX 9 _;have q4:(ak c4).length<=10:=aX 9 _;have hmore:([byteOf' kk,byteOf' r]++ak c0++ak c1++ak c2++ak c3++ak c4).length=2+(ak c0).length+(ak c1).length+(ak c2).length+(ak c3).length+(ak c4).length:=by simp;omega
 have hsl:=bP ([byteOf' kk,byteOf' r]++ak c0++ak c1++ak c2++ak c3++ak c4);have hvs:(ak (dF ([byteOf' kk,byteOf' r]++ak c0++ak c1++ak c2++ak c3++ak c4)).length).length<=10:=aX 9 _;subst hk;dsimp only[Rc.av,Rc.cs]at hm⊢;refine K1.E 0x80080050080012ff Tryz.func93 ?_;repeat' ((conv=>whnf);first|refine K1.u ?_|refine K1.P1 hm ?_|refine K1.F1 (dM _ c0 (by omega)) ?_ rfl rfl|refine K1.F1 (dM _ c1 (by omega)) ?_ rfl rfl|refine K1.F1 (dM _ c2 (by omega)) ?_ rfl rfl|refine K1.F1 (dM _ c3 (by omega)) ?_ rfl rfl|refine K1.F1 (dM _ c4 (by omega)) ?_ rfl rfl|refine K1.F1 (jU _ ([byteOf' kk,byteOf' r]++ak c0++ak c1++ak c2++ak c3++ak c4) (hkk▸aS.app (aS.app (aS.app (aS.app (aS.app (aS.two (by omega) (by omega) (by omega) (by omega)) (aS.bytes _) rfl) (aS.bytes _) (by simp<;>omega)) (aS.bytes _) (by simp<;>omega)) (aS.bytes _) (by simp<;>omega)) (aS.bytes _) (by simp<;>omega)) (by simp<;>omega) (by omega)) ?_ rfl rfl|refine K1.F1 (dM _ (dF ([byteOf' kk,byteOf' r]++ak c0++ak c1++ak c2++ak c3++ak c4)).length (by rw[bP];omega)) ?_ rfl rfl|refine aK.jA 5 6 rfl ?_|refine K1.z ?_|refine K1.y (λ _=>?_) (λ _=>?_)|fail)
 conv=>whnf
 refine aO.o8 d rfl rfl ?_ (aP);refine fP.lH (aS.app (aS.bytes _) (aS.bytes _) rfl) List.length_append.symm ?_;unfold aH eU;simp[hkk,yQ,yR,yS,byteOf,byteOf',gu,vw]
theorem Gl(d:Nat)(x:Rc)(h:jR x=true):
  aC Tryz.prog 93 [x.av] (.bJ [.own d,.v (.int .i64 0)]) [(d,.row 5 1 (aH x).length true (aG (aH x)))]:=by
 have m:=(lN h).k;rcases(show x.k=1\/x.k=2\/x.k=3\/x.k=4\/x.k=5\/x.k=6 by omega)with hk|hk|hk|hk|hk|hk
 ·exact Gj d x h (.inl hk)
 ·exact Gj d x h (.inr (.inl hk))
 ·exact XT d x h hk
 ·exact Uu d x h hk
 ·exact Gj d x h (.inr (.inr hk))
 ·exact XU d x h hk
end Go.Proofs.YtopfgjgdadnjeaaGreat
