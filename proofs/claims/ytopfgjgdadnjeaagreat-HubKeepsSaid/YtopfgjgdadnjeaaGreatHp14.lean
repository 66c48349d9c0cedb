/-
  Contracts of the walk:HbT,HbW,HyD,AmP.
-/
import Derived.Test.YtopfgjgdadnjeaaGreatHp13
import Derived.Test.YtopfgjgdadnjeaaGreatHp12
set_option maxHeartbeats 16000000
set_option maxRecDepth 100000
set_option linter.unusedVariables false
set_option linter.unusedSimpArgs false
namespace Go.Proofs.YtopfgjgdadnjeaaGreat
open Go.RowKit
variable{S st:AS}{ok:AV->Bool}{f:FuncId}{most w:Int}{B H:List (Nat×AO)}{bD:List AV}{l:List Ev}{i j n r:Nat}{o:OB}{p:Pt}{s:jI}
def hbG(i j:Nat)(h:Hb):List (Nat×AO):=[(0,hbB h.up h.c (.box 8 0) (.box j 0)),(8,uQ (.own i) h.d),(i,fJ h.d.bs),(j,.obs (wO h.c.w h.p))]
theorem TY(i j:Nat)(h:Hb):Closes (hbG i j h) 0 (oh h):=
 Closes.imp (AP h) λ X hnd hok=>by
  have h0:=hok _ List.mem_cons_self;have h8:=hok (8,uQ (.own i) h.d) (by simp[hbG]);have h9:=hok (j,.obs (wO h.c.w h.p)) (by simp[hbG]);have h11:=hok (i,fJ h.d.bs) (by simp[hbG]);have e:ah (TG (TG X.ρ 10 (X.ρ i)) 9 (X.ρ j)) (ji h ())=ah X.ρ (hbG i j h):=rfl;refine⟨TG (TG X.ρ 10 (X.ρ i)) 9 (X.ρ j),rfl,by rw[e];exact hnd,λ b hb=>by rw[e]at hb;exact hb,λ q hq=>?_⟩;simp only[ji,List.mem_cons,List.not_mem_nil,or_false]at hq;rcases hq with rfl|rfl|rfl|rfl
  ·obtain⟨b,us,g1,g2,g3,g4⟩:=h0;exact⟨b,us,g1,g2,g3,λ i x u hx hu=>by
    match i,hx with
    |0,hx=>cases hx;exact g4 0 _ u rfl hu
    |1,hx=>cases hx;exact g4 1 _ u rfl hu
    |2,hx=>cases hx;exact g4 2 _ u rfl hu
    |3,hx=>cases hx;exact g4 3 _ u rfl hu
    |4,hx=>cases hx;exact g4 4 _ u rfl hu
    |5,hx=>cases hx;exact g4 5 _ u rfl hu
    |6,hx=>cases hx;exact g4 6 _ u rfl hu
    |7,hx=>cases hx;exact g4 7 _ u rfl hu
    |8,hx=>cases hx;exact g4 8 _ u rfl hu⟩
  ·obtain⟨b,us,g1,g2,g3,g4⟩:=h8;exact⟨b,us,g1,g2,g3,λ i x u hx hu=>by
    match i,hx with
    |0,hx=>cases hx;exact g4 0 _ u rfl hu
    |1,hx=>cases hx;exact g4 1 _ u rfl hu
    |2,hx=>cases hx;exact g4 2 _ u rfl hu
    |3,hx=>cases hx;exact g4 3 _ u rfl hu⟩
  ·exact h11
  ·exact h9
theorem Zq(i j:Nat){h h':Hb}{r:AV}{ho:List (Nat×AO)}(hE:Enters Tryz.prog f)(hm:au Tryz.prog f (ji h ()) bD r (hbG i j h'++ho))
  (hb:(bD.all (rD (λ _=>false) 0)&&nJ (λ i=>bW i ho) 0 r&&iF ho ho&& !(bW 0 ho))=true):au Tryz.prog f [(0,.obs (oh h))] bD r ((0,.obs (oh h'))::ho):=
 au.opn hE (Opens.pack (ji h)) (λ _=>⟨_,TY i j h',rfl,rfl,hm⟩) hb
def jB(most:Int)(p:Pt)(x:Rc):Pt:=if x.k=5 then(pushP most x.r.toNat x.ev p).1 else if x.k=6 then oO p x.r.toNat x.c else p
def replay(most:Int)(n:Nat)(l:List Rc):Pt:=l.foldl (jB most) (vG n)
structure RcG(most:Int)(p:Pt)(x:Rc):Prop where
 k:x.k=5\/x.k=6
 r0:0<=x.r
 r:x.r.toNat<p.sh.length
 ev:EvB x.ev
 all:x.k=5-> ∀j,j<x.ev.length->(x.ev.getD j default).r=x.r
 put:x.k=5->iY (jJ most (p.sh.getD x.r.toNat default) x.ev).1
def Chain(most:Int):Pt->List Rc->Prop
 |_,[]=>True
 |p,x::l=>RcG most p x/\Chain most (jB most p x) l
theorem zh(told:List dD):∀(l:List jI)(i:Nat),(lC told i l).length=l.length
 |[],_=>rfl
 |s::l,i=>by show(lC told (i+1) l).length+1=_;rw[zh told l];rfl
theorem Nl(told:List dD):∀(l:List jI)(i:Nat),(∀s∈l,iY s)-> ∀s∈lC told i l,iY s
 |[],_,_,s,hs=>by cases hs
 |x::l,i,h,s,hs=>by
  rcases List.mem_cons.1 hs with rfl|hs
  ·exact JU (h x List.mem_cons_self) _
  ·exact Nl told l (i+1) (λ y hy=>h y (List.mem_cons_of_mem _ hy)) s hs
theorem Xv(hp:oV p)(r:Nat)(c:dD):oV (oO p r c)/\(oO p r c).sh.length=p.sh.length:=by
 have h1:(oO p r c).sh.length=p.sh.length:=zh _ _ _;exact⟨⟨by rw[h1];exact hp.h1,by rw[h1];exact hp.h5,by rw[h1];show(dL _ _ _).length=_;rw[dI];exact hp.t,Nl _ _ _ hp.s⟩,h1⟩
theorem Zr(hp:oV p)(hs:iY (jJ most (p.sh.getD r default) l).1):oV (pushP most r l p).1/\(pushP most r l p).1.sh.length=p.sh.length:=by
 unfold pushP;split
 ·exact⟨Xp (hp.set hs r) r,by show(dL _ _ (dL _ _ _)).length=_;rw[dI,dI]⟩
 ·exact⟨hp,rfl⟩
theorem Zt(hp:oV p){x:Rc}(hx:RcG most p x):oV (jB most p x)/\(jB most p x).sh.length=p.sh.length:=by
 unfold jB;split
 ·rename_i h;exact Zr hp (hx.put h)
 ·split
  ·exact Xv hp _ _
  ·exact⟨hp,rfl⟩
theorem aao(h1:1<=n)(h5:n<=5):oV (vG n)/\(vG n).sh.length=n:=by
 have e:(vG n).sh.length=n:=List.length_replicate;refine⟨⟨by rw[e];exact h1,by rw[e];exact h5,by rw[e];exact List.length_replicate,λ s hs=>?_⟩,e⟩;obtain rfl:=List.eq_of_mem_replicate hs;exact⟨by simp,by simp⟩
theorem Np{most:Int}:∀{l:List Rc}{p:Pt},oV p->Chain most p l-> ∀j,j<l.length->oV ((l.take j).foldl (jB most) p)/\((l.take j).foldl (jB most) p).sh.length=p.sh.length/\RcG most ((l.take j).foldl (jB most) p) (l.getD j default)
 |[],_,_,_,j,hj=>by simp at hj
 |x::l,p,hp,hc,0,_=>⟨hp,rfl,hc.1⟩
 |x::l,p,hp,hc,j+1,hj=>by
  have h1:=Zt hp hc.1;have:=Np h1.1 hc.2 j (by simpa using hj);rw[h1.2]at this;exact this
theorem Ua{l:List Rc}(hj:j<l.length):(l.take (j+1)).foldl (jB most) p=jB most ((l.take j).foldl (jB most) p) (l.getD j default):=by
 rw[List.take_succ_eq_append_getElem hj,List.foldl_append];simp[List.getD,hj]
theorem PN(h:Hb)(n:Nat)(hn:h.c.n=(n:Int))(h1:1<=n)(h5:n<=5)(hup:h.up=false)(l:List Rc)(t:List UInt8)(hr:yX h.d.bs l t)(hc:Chain h.c.w (vG n) l)(hl:h.d.bs.length<=1000000000):
  au Tryz.prog 16 [(0,.obs (oh h))] [.box 0 0] (.v (.int .i64 0)) [(0,.obs (oh ⟨true,h.c,replay h.c.w n l,⟨kE l,false,false,h.d.keep⟩⟩))]:=by
 refine Zq 11 12 (ho:=[]) ⟨_,_,Tryz.func16,rfl,rfl⟩ ?_ rfl;rw[List.append_nil];have hnew:=MZ h.c n hn h1 h5;have hcl:=λ d=>TJ d h.d.bs (aS.bytes _) rfl hl;have hall:=MQ h.d.bs (aS.bytes _) rfl hl hr;have hbl:(kE l).length<=h.d.bs.length:=by rw[hr.eq,List.length_append];omega
 have htk:h.d.bs.take (kE l).length=kE l:=by
  conv=>lhs;rw[hr.eq]
  rw[List.take_left]
 have htr:=TL ⟨h.d.bs,false,false,h.d.keep⟩ (kE l).length hbl hl;dsimp only at htr;rw[htk]at htr;have hll:=FD l;obtain⟨up,cf,p,d⟩:=h;obtain⟨bs,down,cut,keep⟩:=d;obtain⟨cn,cw,cq,ch,cl,cp⟩:=cf;dsimp only[ji,hbG,hbB,uQ,fJ,jv.av,jv.cs]at*;subst hup;generalize kE l=w at*;refine K1.M 0x10031e00215 Tryz.func16 40 ?_;repeat' ((conv=>whnf);first|refine K1.u ?_|refine K1.C 0 [] (hnew) rfl ?_|refine K1.F1 (hcl _) ?_|refine K1.P1 hall ?_|refine K1.C 2 [(0,_),(1,_)] (htr) rfl ?_|refine K1.I 0x85 Tryz.func47 ?_|refine K1.I 0x3d Tryz.func43 ?_|refine K1.I 0x1 Tryz.func78 ?_|refine K1.I 0x5 Tryz.func80 ?_|refine K1.o (id:=9) (nN [0,1,2,3,4,5,6,7] [(8,some [7,5,3,1])]) ?_|refine K1.o (id:=11) (nN [0,1,2,3,4,5,6,7] [(8,some [7,5,3,1])]) ?_|refine K1.z ?_|refine K1.y (λ _=>?_) (λ _=>?_)|fail)
 all_goals(conv=>whnf)
 refine aK.mk {j:Nat//j<=l.length} (λ j=>⟨[(23,.v (.int .i64 (j.1:Int))),(22,.v (.int .i64 (l.length:Int))),(21,.sl 9 l.length false (rcF l)),(0,.box 0 0),(2,.v (.int .i64 0))],
   [(8,.box 138 [.own 42,.v (.bool false),.v (.bool false),.v (.int .i64 keep)]),(42,.row 5 1 w.length true (aG w)),(40,.obs (wO cw ((l.take j.1).foldl (jB cw) (vG n)))),(0,.box 61 [.v (.bool false),.box 8 0,.v (.int .i64 cn),.v (.int .i64 cw),.v (.int .i64 cq),.v (.int .i64 ch),.v (.int .i64 cl),.v (.int .i64 cp),.box 40 0])],
   [[(0,.box 0 0),(1,.box 8 0),(2,.own 10),(3,.own 9)]],50⟩) (λ j=>l.length-j.1) ⟨0,Nat.zero_le _⟩ _
  (iw.mk' [] _ _ _ rfl ⟨bI.int rfl,aP,aP,aP,aP,trivial⟩ ⟨aY rfl,aY rfl,aY rfl,aY rfl,trivial⟩ rfl) ?_
 rintro⟨j,hj⟩;dsimp only;by_cases hjl:j<l.length
 ·obtain⟨hpb,hpl,hG⟩:=Np (aao h1 h5).1 hc j hjl;have hsn:=Ua (most:=cw) (p:=vG n) hjl;rw[show l.getD j default=l.getD (j:Int).toNat default from rfl]at hG hsn;generalize(l.take j).foldl (jB cw) (vG n)=q at hpb hpl hG hsn⊢;have hr0:=hG.r0;have hrr:(((l.getD (j:Int).toNat default).r.toNat:Nat):Int)=(l.getD (j:Int).toNat default).r:=by omega
  rcases hG.k with hk|hk
  ·obtain⟨⟨p',u,y⟩,hp⟩:∃z,pushP cw (l.getD (j:Int).toNat default).r.toNat (l.getD (j:Int).toNat default).ev q=z:=⟨_,rfl⟩;have hpush:=IB cw q p' _ hpb hG.r _ hG.ev (λ i hi=>by rw[hrr];exact hG.all hk i hi) (hG.put hk) u y hp;rw[hrr]at hpush;have hst:jB cw q (l.getD (j:Int).toNat default)=p':=by unfold jB;rw[if_pos hk,hp]
   rw[hst]at hsn;repeat' ((conv=>whnf);first|refine K1.u ?_|refine K1.C 1 [(0,_)] (hpush) rfl ?_|refine K1.o (id:=9) (nN [0,1,2,3,4,5,6,7] [(8,some [7,5,3,1])]) ?_|refine K1.o (id:=11) (nN [0,1,2,3,4,5,6,7] [(8,some [7,5,3,1])]) ?_|refine K1.z ?_|refine K1.y (λ _=>?_) (λ _=>?_)|fail)
   all_goals(conv=>whnf)
   refine⟨⟨j+1,hjl⟩,_,iw.mk' [] _ _ _ rfl ⟨bI.int rfl,aP,aP,aP,aP,trivial⟩ ⟨aY rfl,aY rfl,⟨_,rfl, ?_⟩,aY rfl,trivial⟩ rfl,by show l.length-(j+1)<l.length-j;omega⟩;show fP _ (.obs (wO cw ((l.take (j+1)).foldl (jB cw) (vG n))));rw[hsn];exact fP.refl _
  ·have hack:=Nj cw q hpb _ (l.getD (j:Int).toNat default).c hG.r;rw[hrr]at hack;have hst:jB cw q (l.getD (j:Int).toNat default)=oO q (l.getD (j:Int).toNat default).r.toNat (l.getD (j:Int).toNat default).c:=by unfold jB;rw[if_neg (by omega),if_pos hk]
   rw[hst]at hsn;dsimp only[jM]at hack;repeat' ((conv=>whnf);first|refine K1.u ?_|refine K1.C 1 [(0,_)] (hack) rfl ?_|refine K1.o (id:=9) (nN [0,1,2,3,4,5,6,7] [(8,some [7,5,3,1])]) ?_|refine K1.o (id:=11) (nN [0,1,2,3,4,5,6,7] [(8,some [7,5,3,1])]) ?_|refine K1.z ?_|refine K1.y (λ _=>?_) (λ _=>?_)|fail)
   all_goals(conv=>whnf)
   refine⟨⟨j+1,hjl⟩,_,iw.mk' [] _ _ _ rfl ⟨bI.int rfl,aP,aP,aP,aP,trivial⟩ ⟨aY rfl,aY rfl,⟨_,rfl, ?_⟩,aY rfl,trivial⟩ rfl,by show l.length-(j+1)<l.length-j;omega⟩;show fP _ (.obs (wO cw ((l.take (j+1)).foldl (jB cw) (vG n))));rw[hsn];exact fP.refl _
 ·obtain rfl:j=l.length:=by omega
  rw[List.take_length];repeat' ((conv=>whnf);first|refine K1.u ?_|refine K1.o (id:=9) (nN [0,1,2,3,4,5,6,7] [(8,some [7,5,3,1])]) ?_|refine K1.o (id:=11) (nN [0,1,2,3,4,5,6,7] [(8,some [7,5,3,1])]) ?_|refine K1.z ?_|refine K1.y (λ _=>?_) (λ _=>?_)|fail)
  all_goals(conv=>whnf)
  exact⟨[(42,11),(40,12)],rfl,rfl,⟨aY rfl,aY rfl,aY rfl,aY rfl,trivial⟩,rfl,rfl,aP⟩
theorem Nq(h:Hb)(hup:h.up=true):au Tryz.prog 16 [(0,.obs (oh h))] [.box 0 0] (.v (.int .i64 19)) [(0,.obs (oh h))]:=by
 refine BQ (ho:=[]) ⟨_,_,Tryz.func16,rfl,rfl⟩ ?_ rfl;rw[List.append_nil];obtain⟨up,c,p,d⟩:=h;dsimp only at hup;subst hup;dsimp only[ji,hbB,uQ,fJ];refine K1.M 0x10031e00215 Tryz.func16 40 ?_;repeat' ((conv=>whnf);first|refine K1.u ?_|refine K1.o (id:=9) (nN [0,1,2,3,4,5,6,7] [(8,some [7,5,3,1])]) ?_|refine K1.o (id:=11) (nN [0,1,2,3,4,5,6,7] [(8,some [7,5,3,1])]) ?_|refine K1.z ?_|refine K1.y (λ _=>?_) (λ _=>?_)|fail)
 all_goals(conv=>whnf)
 exact⟨[],rfl,rfl,⟨aY rfl,aY rfl,aY rfl,aY rfl,trivial⟩,rfl,rfl,aP⟩
structure Zu(w:Int)(r:Nat)(s:jI):Prop where
 b:iY s
 k:(s.kept.length:Int)<=w
 may:∀e∈s.kept,fH e=0
 own:∀e∈s.kept,e.r=(r:Int)
 seq:∀j,j<s.kept.length->(s.kept.getD j default).n=s.base+1+(j:Int)
structure Nr(w:Int)(p:Pt):Prop where
 h1:1<=p.sh.length
 h5:p.sh.length<=5
 t:p.told.length=p.sh.length
 s:∀r,r<p.sh.length->Zu w r (p.sh.getD r default)
theorem Nr.b{w:Int}{p:Pt}(h:Nr w p):oV p:=⟨h.h1,h.h5,h.t,λ s hs=>by
 obtain⟨i,hi,rfl⟩:=List.getElem_of_mem hs;have:=(h.s i hi).b;rwa [List.getD,List.getElem?_eq_getElem hi]at this⟩
theorem getD_mem{α:Type}{l:List α}{d:α}(h:i<l.length):l.getD i d∈l:=by
 rw[List.getD,List.getElem?_eq_getElem h];exact List.getElem_mem h
theorem JV(p:Ev->Bool):∀l:List Ev,∃k,k<=l.length/\l.dropWhile p=l.drop k/\(∀i,i<k->p (l.getD i default)=true)/\(k<l.length->p (l.getD k default)=false)
 |[]=>⟨0,Nat.le_refl _,rfl,λ i hi=>absurd hi (Nat.not_lt_zero i),λ h=>absurd h (Nat.not_lt_zero _)⟩
 |e::l=>by
  cases hp:p e with
  |true=>
   obtain⟨k,h1,h2,h3,h4⟩:=JV p l;refine⟨k+1,Nat.succ_le_succ h1,by rw[List.dropWhile_cons_of_pos hp,h2];rfl,λ i hi=>?_,λ h=>h4 (Nat.lt_of_succ_lt_succ h)⟩;cases i with
   |zero=>exact hp
   |succ i=>exact h3 i (Nat.lt_of_succ_lt_succ hi)
  |false=>exact⟨0,Nat.zero_le _,by rw[List.dropWhile_cons_of_neg (by rw[hp];simp)];rfl,λ i hi=>absurd hi (Nat.not_lt_zero i),λ _=>hp⟩
theorem Xw(hok:∀j,j<l.length->pV s l j):∃k,k<=l.length/\newS s l=l.drop k/\ ∀i,k+i<l.length->(l.getD (k+i) default).n=s.len+1+(i:Int):=by
 obtain⟨k,h1,h2,h3,h4⟩:=JV (λ e=>decide (e.n<=s.len)) l;refine⟨k,h1,h2,λ i=>?_⟩;induction i with
 |zero=>
  intro hk;have hn:s.len<(l.getD k default).n:=by have:=h4 hk;simpa using this
  have hok:=hok k hk;unfold pV at hok;show(l.getD k default).n=s.len+1+((0:Nat):Int);by_cases h0:k=0
  ·subst h0;rw[if_pos rfl]at hok;omega
  ·rw[if_neg h0]at hok;have:=h3 (k-1) (by omega);simp only[decide_eq_true_eq]at this;omega
 |succ i ih=>
  intro hk;have hok:=hok (k+(i+1)) hk;have ih:=ih (by omega);unfold pV at hok;rw[if_neg (by omega),show k+(i+1)-1=k+i by omega,ih]at hok;rw[hok];omega
theorem Rf(hs:Zu w r s)(hl:∀e∈l,fH e=0/\e.r=(r:Int)):Zu w r (jJ w s l).1:=by
 unfold jJ;split
 ·rename_i hall;split
  ·exact hs
  ·split
   ·exact hs
   ·rename_i hne hw;have hok:∀j,j<l.length->pV s l j:=λ j hj=>by
     have:=List.all_eq_true.1 hall j (List.mem_range.2 hj);simpa using this
    obtain⟨k,hk,he,hq⟩:=Xw hok;have hmem:∀e∈newS s l,e∈l:=λ e h=>by rw[he]at h;exact List.mem_of_mem_drop h
    have hlen:(newS s l).length=l.length-k:=by rw[he,List.length_drop]
    have hkl:k<l.length:=by
     rcases Nat.lt_or_ge k l.length with h|h
     ·exact h
     ·exact absurd (by rw[he,List.drop_of_length_le h]) hne
    have hlast:=hq (l.length-1-k) (by omega);rw[show k+(l.length-1-k)=l.length-1 by omega]at hlast;have hm:=(lV (hl _ (getD_mem (d:=default) (show l.length-1<l.length by omega))).1).n2;have hsl:s.len=s.base+(s.kept.length:Int):=rfl;refine⟨⟨hs.b.b0, ?_⟩, ?_, ?_, ?_, ?_⟩
    ·show s.base+((s.kept++newS s l).length:Int)<=1048576;rw[List.length_append,hlen];omega
    ·show((s.kept++newS s l).length:Int)<=w;rw[List.length_append];omega
    ·intro e h;rcases List.mem_append.1 h with h|h
     ·exact hs.may e h
     ·exact(hl e (hmem e h)).1
    ·intro e h;rcases List.mem_append.1 h with h|h
     ·exact hs.own e h
     ·exact(hl e (hmem e h)).2
    ·intro j hj;show((s.kept++newS s l).getD j default).n=s.base+1+(j:Int);have hj:j<(s.kept++newS s l).length:=hj;rw[List.length_append,hlen]at hj;by_cases hjk:j<s.kept.length
     ·rw[List.getD_eq_getElem?_getD,List.getElem?_append_left hjk,<-List.getD_eq_getElem?_getD];exact hs.seq j hjk
     ·rw[List.getD_eq_getElem?_getD,List.getElem?_append_right (by omega),he,List.getElem?_drop,<-List.getD_eq_getElem?_getD,hq (j-s.kept.length) (by omega)];omega
 ·exact hs
theorem FU(s:jI)(n:Int):(jw s n).len=s.len:=by
 have hc:=AB s.base s.kept.length n (by omega);show qF s.base s.kept.length n+((s.kept.drop _).length:Int)=s.base+(s.kept.length:Int);rw[List.length_drop];omega
theorem Xx(hs:Zu w r s)(n:Int):Zu w r (jw s n):=by
 have hc:=AB s.base s.kept.length n (by omega);have hk:=hs.k;refine⟨JU hs.b n, ?_,λ e h=>hs.may e (List.mem_of_mem_drop h),λ e h=>hs.own e (List.mem_of_mem_drop h),λ j hj=>?_⟩
 ·show((s.kept.drop _).length:Int)<=w;rw[List.length_drop];omega
 ·have hj:j<(s.kept.drop (qF s.base s.kept.length n-s.base).toNat).length:=hj;rw[List.length_drop]at hj;show((s.kept.drop (qF s.base s.kept.length n-s.base).toNat).getD j default).n=qF s.base s.kept.length n+1+(j:Int);rw[List.getD_eq_getElem?_getD,List.getElem?_drop,<-List.getD_eq_getElem?_getD,hs.seq _ (by omega)];omega
theorem kR{α:Type}{f:α->α}{d:α}:∀{r:Nat}{l:List α}{i:Nat},i<l.length->(dL f r l).getD i d=if i=r then f (l.getD i d)else l.getD i d
 |r,[],i,h=>by simp at h
 |0,x::l,0,_=>by simp[dL]
 |0,x::l,i+1,_=>by simp[dL]
 |r+1,x::l,0,_=>by simp[dL]
 |r+1,x::l,i+1,h=>by
  have:=kR (f:=f) (d:=d) (r:=r) (l:=l) (i:=i) (by simpa using h);simpa[dL]using this
theorem zi(told:List dD){d:jI}:∀{l:List jI}{i j:Nat},j<l.length->(lC told i l).getD j d=jw (l.getD j d) (iZ told (i+j))
 |[],i,j,h=>by simp at h
 |s::l,i,0,_=>by simp[lC]
 |s::l,i,j+1,h=>by
  have:=zi told (d:=d) (l:=l) (i:=i+1) (j:=j) (by simpa using h);rw[show i+1+j=i+(j+1) by omega]at this;simpa[lC]using this
theorem Nr.set(h:Nr w p)(hs:Zu w r s):Nr w ⟨dL (λ _=>s) r p.sh,p.told⟩:=by
 refine⟨by rw[dI];exact h.h1,by rw[dI];exact h.h5,by rw[dI];exact h.t,λ i hi=>?_⟩;dsimp only at hi⊢;rw[dI]at hi;rw[kR hi];split
 ·rename_i e;rw[e];exact hs
 ·exact h.s i hi
theorem aa8(h:Nr w p)(r:Nat):Nr w (oN p r):=by
 have hl:(oN p r).sh.length=p.sh.length:=dI _ _ _;refine⟨by rw[hl];exact h.h1,by rw[hl];exact h.h5,by rw[hl];exact h.t,λ i hi=>?_⟩;rw[hl]at hi;show Zu w i ((dL _ r p.sh).getD i default);rw[kR hi];split
 ·exact Xx (h.s i hi) _
 ·exact h.s i hi
theorem Xy(h:Nr w p)(r:Nat)(c:dD):Nr w (oO p r c):=by
 have hb:=Xv h.b r c;refine⟨hb.1.h1,hb.1.h5,hb.1.t,λ i hi=>?_⟩;rw[hb.2]at hi;show Zu w i ((lC _ 0 p.sh).getD i default);rw[zi _ hi];exact Xx (h.s i hi) _
theorem Rh(h:Nr w p)(hr:r<p.sh.length)(hl:∀e∈l,fH e=0/\e.r=(r:Int)):Nr w (pushP w r l p).1:=by
 unfold pushP;split
 ·exact aa8 (h.set (Rf (h.s r hr) hl)) r
 ·exact h
theorem IC(h:(pushP w r l p).2.2=0):(pushP w r l p).2.1=(jJ w (p.sh.getD r default) l).1.len:=by
 unfold pushP at h⊢;split
 ·exact FU _ _
 ·rename_i hne;rw[if_neg hne]at h;exact absurd h hne
theorem ach(hw:0<=w)(h1:1<=n)(h5:n<=5):Nr w (vG n):=by
 obtain⟨hb,e⟩:=aao h1 h5;refine⟨hb.h1,hb.h5,hb.t,λ r hr=>?_⟩;rw[e]at hr;have he:(vG n).sh.getD r default=⟨0,[]⟩:=by
  show(List.replicate n (⟨0,[]⟩:jI)).getD r default=_;rw[List.getD_eq_getElem?_getD,List.getElem?_replicate,if_pos hr];rfl
 rw[he];exact⟨⟨by simp,by simp⟩,by simpa using hw,(λ e h=>by simp at h),(λ e h=>by simp at h),λ j hj=>by simp at hj⟩
theorem zl{w:Int}{r:Nat}{c:dD}:∀{l:List jI}{i:Nat},(∀s∈l,(s.kept.length:Int)<=w/\ ∀e∈s.kept,fH e=0)->((jT r c i l).length:Int)<=w*l.length/\ ∀e∈jT r c i l,fH e=0
 |[],_,_=>⟨by simp[jT],λ e h=>by simp[jT]at h⟩
 |s::l,i,h=>by
  have ih:=zl (w:=w) (r:=r) (c:=c) (l:=l) (i:=i+1) λ x hx=>h x (List.mem_cons_of_mem _ hx);have h0:=h s List.mem_cons_self;have hf:=List.length_filter_le (gW (c.get i)) s.kept;have hw:0<=w:=by omega
  refine⟨?_,λ e he=>?_⟩
  ·show((_++jT r c (i+1) l).length:Int)<=w*((l.length+1:Nat):Int);rw[List.length_append,Int.natCast_add,Int.natCast_add,Int.mul_add];have h1:=ih.1;have:(((if(i:Nat)=r then []else s.kept.filter (gW (c.get i)):List Ev).length:Nat):Int)<=w:=by
    split
    ·simpa using hw
    ·omega
   simp only[Int.natCast_one,Int.mul_one];omega
  ·rcases List.mem_append.1 he with he|he
   ·split at he
    ·simp at he
    ·exact h0.2 e (List.mem_filter.1 he).1
   ·exact ih.2 e he
structure AQ where
 (cuts:Int)(l:List Ev)
instance:Inhabited AQ:=⟨⟨0,[]⟩⟩
structure FV(s:AQ):Prop where
 c0:0<=s.cuts
 c1:s.cuts<=(s.l.length:Int)
 ln:s.l.length<=1048576
def qG(s:AQ)(n:Int):Int:=if(if(s.l.length:Int)<n then(s.l.length:Int)else n)>s.cuts then(if(s.l.length:Int)<n then(s.l.length:Int)else n)else s.cuts
def IE(s:AQ)(n:Int):AQ:=⟨qG s n,s.l⟩
def toS(s:AQ):jI:=⟨s.cuts,s.l.drop s.cuts.toNat⟩
theorem oD{s:AQ}(h:FV s):(toS s).len=(s.l.length:Int):=by
 have h0:=h.c0;have h1:=h.c1;show s.cuts+((s.l.drop s.cuts.toNat).length:Int)=_;rw[List.length_drop];omega
def rF(s:AQ)(l:List Ev)(j:Nat):Prop:=if j=0 then(l.getD 0 default).n<=(s.l.length:Int)+1 else(l.getD j default).n=(l.getD (j-1) default).n+1
instance(s:AQ)(l:List Ev)(j:Nat):Decidable (rF s l j):=by unfold rF;infer_instance
def Ns(s:AQ)(l:List Ev):List Ev:=l.filter λ e=>decide ((s.l.length:Int)<e.n)
def gB(most:Int)(s:AQ)(l:List Ev):AQ×Int:=
 if(List.range l.length).all (λ j=>decide (rF s l j))then
  (if Ns s l≠[]/\most<(s.l.length:Int)-s.cuts+((Ns s l).length:Int)then(s,21)else(⟨s.cuts,s.l++Ns s l⟩,0))
 else(s,20)
theorem Xz(hok:∀j,j<l.length->pV s l j):l.filter (λ e=>decide (s.len<e.n))=newS s l:=by
 obtain⟨k,hk,he,hq⟩:=Xw hok;obtain⟨k',hk',he',hle,_⟩:=JV (λ e=>decide (e.n<=s.len)) l;have hkk:l.drop k=l.drop k':=he.symm.trans he';have hk2:k=k':=by
  have:=congrArg List.length hkk;rw[List.length_drop,List.length_drop]at this;omega
 subst hk2;rw[he];conv=>lhs;rw[<-List.take_append_drop k l]
 rw[List.filter_append];have e1:(l.take k).filter (λ e=>decide (s.len<e.n))=[]:=by
  rw[List.filter_eq_nil_iff];intro e h;obtain⟨i,hi,rfl⟩:=List.getElem_of_mem h;rw[List.length_take]at hi;have:=hle i (by omega);rw[List.getD,List.getElem?_eq_getElem (by omega)]at this;simp only[Option.getD_some,decide_eq_true_eq]at this;rw[List.getElem_take,decide_eq_true_eq];omega
 have e2:(l.drop k).filter (λ e=>decide (s.len<e.n))=l.drop k:=by
  rw[List.filter_eq_self];intro e h;obtain⟨i,hi,rfl⟩:=List.getElem_of_mem h;rw[List.length_drop]at hi;have:=hq i (by omega);rw[List.getD,List.getElem?_eq_getElem (by omega)]at this;simp only[Option.getD_some]at this;rw[List.getElem_drop,this,decide_eq_true_eq];omega
 rw[e1,e2,List.nil_append]
theorem PO{s:AQ}(h:FV s)(l:List Ev):jJ most (toS s) l=(toS (gB most s l).1,(gB most s l).2):=by
 have hl:=oD h;have h0:=h.c0;have h1:=h.c1;have hok:∀j,pV (toS s) l j↔rF s l j:=λ j=>by unfold pV rF;rw[hl]
 unfold jJ gB;by_cases ha:(List.range l.length).all (λ j=>decide (rF s l j))=true
 ·have ha':(List.range l.length).all (λ j=>decide (pV (toS s) l j))=true:=by simpa only[hok]using ha
  rw[if_pos ha,if_pos ha'];have hok':∀j,j<l.length->pV (toS s) l j:=λ j hj=>by
   have:=List.all_eq_true.1 ha' j (List.mem_range.2 hj);simpa using this
  have hn:Ns s l=newS (toS s) l:=by
   rw[<-Xz hok',hl];rfl
  rw[hn];by_cases he:newS (toS s) l=[]
  ·rw[if_pos he,if_neg (λ h=>h.1 he),he,List.append_nil]
  ·rw[if_neg he];have hk:((toS s).kept.length:Int)=(s.l.length:Int)-s.cuts:=by
    show((s.l.drop s.cuts.toNat).length:Int)=_;rw[List.length_drop];omega
   rw[hk];by_cases hm:most<(s.l.length:Int)-s.cuts+((newS (toS s) l).length:Int)
   ·rw[if_pos hm,if_pos ⟨he,hm⟩]
   ·rw[if_neg hm,if_neg (λ h=>hm h.2)];refine Prod.ext ?_ rfl;show(⟨s.cuts,s.l.drop s.cuts.toNat++newS (toS s) l⟩:jI)=⟨s.cuts,(s.l++newS (toS s) l).drop s.cuts.toNat⟩;rw[List.drop_append_of_le_length (by omega)]
 ·have ha':¬ (List.range l.length).all (λ j=>decide (pV (toS s) l j))=true:=by simpa only[hok]using ha
  rw[if_neg ha,if_neg ha']
theorem XA{s:AQ}(h:FV s)(n:Int):toS (IE s n)=jw (toS s) n/\FV (IE s n):=by
 have h0:=h.c0;have h1:=h.c1;have hk:((toS s).kept.length:Int)=(s.l.length:Int)-s.cuts:=by
  show((s.l.drop s.cuts.toNat).length:Int)=_;rw[List.length_drop];omega
 have e:qG s n=qF (toS s).base (toS s).kept.length n:=by
  unfold qG qF;rw[hk,show(toS s).base+((s.l.length:Int)-s.cuts)=(s.l.length:Int) by show s.cuts+_=_;omega];rfl
 have hc:=AB (toS s).base (toS s).kept.length n (by omega);rw[<-e,hk,show(toS s).base=s.cuts from rfl]at hc;refine⟨?_,by show 0<=qG s n;omega,by show qG s n<=(s.l.length:Int);omega,h.ln⟩;unfold jw;rw[<-e];show(⟨qG s n,s.l.drop (qG s n).toNat⟩:jI)=⟨qG s n,(s.l.drop s.cuts.toNat).drop (qG s n-s.cuts).toNat⟩;rw[List.drop_drop];congr 2;omega
structure gX where
 (ps:List AQ)(dS:List dD)
def toP(n:Nat)(y:gX):Pt:=⟨(y.ps.take n).map toS,y.dS.take n⟩
structure Dw(n:Nat)(y:gX):Prop where
 p5:y.ps.length=5
 a5:y.dS.length=5
 s:∀s∈y.ps,FV s
 n1:1<=n
 n5:n<=5
theorem xP{α:Type}(f:α->α):∀{s n:Nat}{l:List α},s<n->(dL f s l).take n=dL f s (l.take n)
 |s,n,[],_=>by cases s<;>simp[dL]
 |0,n+1,x::l,_=>rfl
 |s+1,n+1,x::l,h=>by
  show x::(dL f s l).take n=x::dL f s (l.take n);rw[xP f (by omega)]
theorem FW{α β:Type}{f:α->α}{g:β->β}{h:α->β}:∀{s:Nat}{l:List α},(∀x∈l,h (f x)=g (h x))->(dL f s l).map h=dL g s (l.map h)
 |s,[],_=>by cases s<;>rfl
 |0,x::l,hx=>by
  show h (f x)::l.map h=g (h x)::l.map h;rw[hx x List.mem_cons_self]
 |s+1,x::l,hx=>by
  show h x::(dL f s l).map h=h x::dL g s (l.map h);rw[FW λ y hy=>hx y (List.mem_cons_of_mem _ hy)]
def wP(n:Nat)(y:gX)(s:Nat):Int:=yZ s ((y.dS.headD aJ).at s) (y.dS.take n)
theorem XB{y:gX}(h:Dw n y)(s:Nat):wP n y s=iZ (toP n y).told s:=by
 have h1:=h.n1;obtain⟨m,rfl⟩:∃m,n=m+1:=⟨n-1,by omega⟩;unfold wP iZ toP;rcases y.dS with _|⟨a,l⟩<;>rfl
def lq(n:Nat)(y:gX)(s:Nat):gX:=⟨dL (λ x=>IE x (wP n y s)) s y.ps,y.dS⟩
theorem Ri{y:gX}(h:Dw n y)(s:Nat):Dw n (lq n y s):=
 ⟨by show(dL _ _ _).length=5;rw[dI];exact h.p5,h.a5,λ x hx=>by
  rcases tK hx with hx|⟨z,hz,rfl⟩
  ·exact h.s x hx
  ·exact(XA (h.s z hz) _).2,h.n1,h.n5⟩
theorem Rj{y:gX}(h:Dw n y){s:Nat}(hs:s<n):toP n (lq n y s)=oN (toP n y) s:=by
 unfold lq oN toP;dsimp only;rw[xP _ hs,FW (g:=λ x=>jw x (iZ (y.dS.take n) s)) λ x hx=>by
  rw[(XA (h.s x (List.mem_of_mem_take hx)) _).1,XB h];rfl]
def iQ(most:Int)(n r:Nat)(l:List Ev)(y:gX):gX×Int×Int:=
 if(gB most (y.ps.getD r default) l).2=0 then
  (lq n ⟨dL (λ _=>(gB most (y.ps.getD r default) l).1) r y.ps,y.dS⟩ r,(((gB most (y.ps.getD r default) l).1.l.length:Nat):Int),0)
 else(y,0,(gB most (y.ps.getD r default) l).2)
theorem tN{y:gX}(hr:r<n)(h:Dw n y):(toP n y).sh.getD r default=toS (y.ps.getD r default):=by
 have h5:=h.p5;have hn:=h.n5;show((y.ps.take n).map toS).getD r default=_;rw[List.getD_eq_getElem?_getD,List.getElem?_map,List.getElem?_take_of_lt hr,List.getD_eq_getElem?_getD,List.getElem?_eq_getElem (by omega)];rfl
theorem Zv{y:gX}(hr:r<n)(h:Dw n y)(hB:FV (gB most (y.ps.getD r default) l).1):
  pushP most r l (toP n y)=(toP n (iQ most n r l y).1,(iQ most n r l y).2.1,(iQ most n r l y).2.2):=by
 have h5:=h.p5;have hn:=h.n5;have hs:FV (y.ps.getD r default):=h.s _ (getD_mem (by omega));unfold pushP iQ;rw[tN hr h,PO hs];by_cases hx:(gB most (y.ps.getD r default) l).2=0
 ·rw[if_pos hx,if_pos hx];have hy:Dw n ⟨dL (λ _=>(gB most (y.ps.getD r default) l).1) r y.ps,y.dS⟩:=⟨by show(dL _ _ _).length=5;rw[dI];exact h.p5,h.a5,λ x hx=>by
   rcases tK hx with hx|⟨_,_,rfl⟩
   ·exact h.s x hx
   ·exact hB,h.n1,h.n5⟩
  have e:(⟨dL (λ _=>toS (gB most (y.ps.getD r default) l).1) r (toP n y).sh,(toP n y).told⟩:Pt)=toP n ⟨dL (λ _=>(gB most (y.ps.getD r default) l).1) r y.ps,y.dS⟩:=by
   unfold toP;dsimp only;rw[xP _ hr,FW (g:=λ _=>toS (gB most (y.ps.getD r default) l).1) λ _ _=>rfl]
  refine Prod.ext ?_ (Prod.ext ?_ rfl)
  ·show oN _ r=toP n (lq n _ r);rw[e,Rj hy hr]
  ·show(jw (toS _) _).len=(((gB most (y.ps.getD r default) l).1.l.length:Nat):Int);rw[FU,oD hB]
 ·rw[if_neg hx,if_neg hx]
theorem XC(p:Pt)(hp:oV p):(List.range p.sh.length).foldl oN p=⟨lC p.told 0 p.sh,p.told⟩:=
 Pt.cases (C:=λ p=>(List.range p.sh.length).foldl oN p=⟨lC p.told 0 p.sh,p.told⟩) p hp (λ _ _ _=>rfl) (λ _ _ _ _ _ _=>rfl) (λ _ _ _ _ _ _ _ _ _=>rfl) (λ _ _ _ _ _ _ _ _ _ _ _ _=>rfl) (λ _ _ _ _ _ _ _ _ _ _ _ _ _ _ _=>rfl)
def rG(n:Nat)(y:gX)(r:Nat)(c:dD):gX:=(List.range n).foldl (λ y s=>lq n y s) ⟨y.ps,dL (λ t=>t.jn c) r y.dS⟩
theorem Rk{n:Nat}:∀(L:List Nat)(y:gX),Dw n y->(∀s∈L,s<n)->toP n (L.foldl (λ y s=>lq n y s) y)=L.foldl oN (toP n y)/\Dw n (L.foldl (λ y s=>lq n y s) y)
 |[],y,h,_=>⟨rfl,h⟩
 |s::L,y,h,hs=>by
  have:=Rk L (lq n y s) (Ri h s) λ x hx=>hs x (List.mem_cons_of_mem _ hx);rw[Rj h (hs s List.mem_cons_self)]at this;exact this
theorem aci{y:gX}(h:Dw n y):oV (toP n y):=by
 have h5:=h.p5;have a5:=h.a5;have n5:=h.n5;have e:(toP n y).sh.length=n:=by
  show((y.ps.take n).map toS).length=n;rw[List.length_map,List.length_take];omega
 refine⟨by rw[e];exact h.n1,by rw[e];exact h.n5, ?_,λ s hs=>?_⟩
 ·rw[e];show(y.dS.take n).length=n;rw[List.length_take];omega
 ·obtain⟨x,hx,rfl⟩:=List.mem_map.1 hs;have hb:=h.s x (List.mem_of_mem_take hx);have hl:=oD hb;have:=hb.ln;have e2:(toS x).len=(toS x).base+((toS x).kept.length:Int):=rfl;exact⟨hb.c0,by omega⟩
theorem aa9{c:dD}{y:gX}(hr:r<n)(h:Dw n y):toP n (rG n y r c)=oO (toP n y) r c/\Dw n (rG n y r c):=by
 have hy:Dw n ⟨y.ps,dL (λ t=>t.jn c) r y.dS⟩:=⟨h.p5,by show(dL _ _ _).length=5;rw[dI];exact h.a5,h.s,h.n1,h.n5⟩;have hf:=Rk (List.range n) _ hy λ s hs=>List.mem_range.1 hs;have hl:(toP n ⟨y.ps,dL (λ t=>t.jn c) r y.dS⟩).sh.length=n:=by
  have h5:=h.p5;have n5:=h.n5;show((y.ps.take n).map toS).length=n;rw[List.length_map,List.length_take];omega
 have hc:=XC _ (aci hy);rw[hl]at hc;refine⟨?_,hf.2⟩;show toP n ((List.range n).foldl (λ y s=>lq n y s) _)=_;rw[hf.1,hc];unfold toP oO;dsimp only;rw[xP _ hr]
def Rl(s:AQ)(n:Int):List Ev:=(s.l.drop s.cuts.toNat).filter (gW n)
def pW(r:Nat)(c:dD):Nat->List AQ->List Ev
 |_,[]=>[]
 |i,s::l=>(if i=r then []else Rl s (c.get i))++pW r c (i+1) l
theorem FX(r:Nat)(c:dD):∀(l:List AQ)(i:Nat),jT r c i (l.map toS)=pW r c i l
 |[],_=>rfl
 |s::l,i=>by
  show(if i=r then []else(toS s).kept.filter (gW (c.get i)))++jT r c (i+1) (l.map toS)=_;rw[FX r c l];rfl
def safe(q:Nat->Bool)(j:Nat)(x:AV):AV:=bif nJ q j x then x else .junk
def PS(q:Nat->Bool)(j:Nat):AO->Bool
 | .box _ cs=>cs.all (Iu q j)
 | .rn _ cs=>cs.all (Iu q j)
 | .mp .. =>false
 |_=>true
def kS(ok:AV->Bool)(st S:AS):Prop:= ∀(g:Base)(N:Nat)(bs:List (Array Value))(ρ:Nat->Value)(a:Act)(w:World),Rel g N bs ρ a w st->
 ∃ρ',Rel g N bs ρ' a w S/\ ∀av u,ok av=true->C2 (aB g w ρ st.heap) av u->C2 (aB g w ρ' S.heap) av u
theorem kS.imp(h:kS ok st S):RZ st S:=λ g N bs ρ a w R=>by
 obtain⟨ρ',R',_⟩:=h g N bs ρ a w R;exact⟨ρ',R'⟩
theorem kS.trans{p q:AV->Bool}{a b c:AS}(h:kS p a b)(k:kS q b c):kS (λ x=>p x&&q x) a c:=λ g N bs ρ a w R=>by
 obtain⟨Vt,R1,h1⟩:=h g N bs ρ a w R;obtain⟨Sz,R2,h2⟩:=k g N bs Vt a w R1;refine⟨Sz,R2,λ av u hq hc=>?_⟩;simp only[Bool.and_eq_true]at hq;exact h2 av u hq.2 (h1 av u hq.1 hc)
theorem fV.imp{P:Program}{L:Lay}(hL:bQ P L){W:Walk}(hW:KD P W){d:Nat}{K:AV->AS->Prop}(hE:Enters P f)(hI:kS ok st S)(ha:bD.all ok=true)
  (h:fV P L W d f bD S K):fV P L W d f bD st K:=by
 refine .sem hE λ g N bs ρ a w args R hargs=>?_;obtain⟨ρ',R',hc⟩:=hI g N bs ρ a w R;have hargs':aN (C2 (aB g w ρ' S.heap)) bD args:=hargs.Bo ha λ _ _ q k=>hc _ _ q k;exact(xw R' hargs' h (λ lv fn c hf' hnm hb hsz h'=>DK hL hW R' hargs' lv fn c hf' hb hsz h')).2
section
variable{X Y:CX}{q:Nat->Bool}{j:Nat}(hk:∀b,X.keep b->Y.keep b)(hm:Y.w=X.w)(hρ:∀i,q i=true->Y.ρ i=X.ρ i)(hj:fM (Y.ρ j)=fM (X.ρ j))
include hk hm hρ hj
theorem C2.safe{av:AV}{u:Value}(hc:C2 X av u):C2 Y (safe q j av) u:=by
 unfold Go.Proofs.YtopfgjgdadnjeaaGreat.safe;cases hr:nJ q j av with
 |true=>exact C2.kP hk hm hρ hj hr hc
 |false=>exact C2.kF (C1.sH trivial)
theorem bn.kP{p:Nat×AO}(hp:q p.1=true)(hr:PS q j p.2=true)(h:bn X p.1 p.2):bn Y p.1 p.2:=by
 obtain⟨i,o⟩:=p;have hi:Y.ρ i=X.ρ i:=hρ i hp;have hs:bn ⟨Y.w,Y.keep,X.ρ⟩ i o:=bn.same (X:=X) (Y:=⟨Y.w,Y.keep,X.ρ⟩) hk (λ _ _=>by rw[hm]) rfl (λ _ _=>by rw[hm]) h;cases o with
 |box t cs=>
  obtain⟨b,us,e,hh,ha⟩:=h;exact⟨b,us,hi.trans e,by rw[hm];exact hh,ha.Bo hr λ _ _ q k=>C0.kP hk hm hρ hj q k⟩
 |row e s n sc f=>
  show xZ Y (Y.ρ i) e s n sc f;rw[hi];exact hs
 |mp=>cases hr
 |obs o=>
  show∃us,Y.ρ i= .tuple us/\o.R Y.w Y.keep (Y.ρ i);rw[hi];exact hs
 |rn e cs=>
  obtain⟨us,⟨e1,e2⟩,ha⟩:=h;exact⟨us,⟨by rw[hm,hi];exact e1,e2⟩,ha.Bo hr λ _ _ q k=>C0.kP hk hm hρ hj q k⟩
end
theorem kS.Oz(q:Nat->Bool)(j b':Nat){H':List (Nat×AO)}
  (h:∀X:CX,(ah X.ρ st.heap).Nodup->(∀p∈st.heap,bn X p.1 p.2)-> ∃ρ':Nat->Value,(∀i,q i=true->ρ' i=X.ρ i)/\fM (ρ' j)=fM (X.ρ j)/\(ah ρ' H').Nodup/\(∀b∈ah ρ' H',b∈ah X.ρ st.heap)/\ ∀p∈H',bn ⟨X.w,X.keep,ρ'⟩ p.1 p.2):
  kS (nJ q j) st ⟨qw (safe q j) st.sl,H',st.back.map (qw (safe q j)),b'⟩:=by
 intro g N bs ρ a w R;obtain⟨ρ',g1,g2,gn,g3,g4⟩:=h (aB g w ρ st.heap) R.apart R.objs;have hk:∀b,aI g w ρ st.heap b->aI g w ρ' H' b:=λ b hb=>⟨hb.1,hb.2.1,λ h=>hb.2.2 (g3 b h)⟩;have hs:∀x u,C2 (aB g w ρ st.heap) x u->C2 (aB g w ρ' H') (safe q j x) u:=λ x u hc=>C2.safe (X:=aB g w ρ st.heap) (Y:=aB g w ρ' H') hk rfl g1 g2 hc;refine⟨ρ',⟨R.size,R.defers,R.below,λ t=>?_,λ p hp=>?_,gn,λ b hb=>R.own b (g3 b hb), ?_⟩,λ av u hr hc=>C2.kP (X:=aB g w ρ st.heap) (Y:=aB g w ρ' H') hk rfl g1 g2 hr hc⟩
 ·show C2 _ (xU (qw _ st.sl) t) _;rw[oG rfl];exact hs _ _ (R.tmps t)
 ·exact bn.same (X:=⟨w,aI g w ρ st.heap,ρ'⟩) (Y:=aB g w ρ' H') hk (λ _ _=>rfl) rfl (λ _ _=>rfl) (g4 p hp)
 ·exact mF.map rfl hs R.back
theorem kT{ρ:Nat->Value}{a b:List (Nat×AO)}(h:a.Perm b):(ah ρ a).Perm (ah ρ b):=h.flatMap_right _
theorem kS.close(b':Nat)(hC:Closes B i o)(hp:st.heap.Perm (B++H))(hb:((H.all λ p=>PS (λ k=>bW k H) i p.2)&& !bW i H)=true):
  kS (nJ (λ k=>bW k H) i) st ⟨qw (safe (λ k=>bW k H) i) st.sl,(i,.obs o)::H,st.back.map (qw (safe (λ k=>bW k H) i)),b'⟩:=by
 simp only[Bool.and_eq_true,Bool.not_eq_true',List.all_eq_true]at hb;refine kS.Oz _ _ _ λ X hnd hok=>?_;have hnd:(ah X.ρ (B++H)).Nodup:=(kT hp).nodup_iff.1 hnd;rw[dQ,List.nodup_append]at hnd;obtain⟨us,a1,a2,a3⟩:=hC X.w X.keep X.ρ hnd.1 λ p hq=>hok p (hp.mem_iff.2 (List.mem_append_left _ hq));have hne:∀k,bW k H=true->(if k=i then Value.tuple us else X.ρ k)=X.ρ k:=λ k hk=>by
  have:k≠i:=by rintro rfl;rw[hb.2]at hk;cases hk
  rw[if_neg this]
 have e:ah (λ k=>if k=i then Value.tuple us else X.ρ k) ((i,.obs o)::H)=blks (.tuple us)++ah X.ρ H:=by
  rw[aT,gq λ p hq=>hne p.1 (cO.2 ⟨p,hq,rfl⟩)];simp
 have hi:fM (if i=i then Value.tuple us else X.ρ i)=fM (X.ρ i):=by rw[if_pos rfl];exact a2
 refine⟨λ k=>if k=i then .tuple us else X.ρ k,hne,hi, ?_,λ c hc=>?_,λ p hq=>?_⟩
 ·rw[e,List.nodup_append];exact⟨(o.lt a1).2.2,hnd.2.1,λ a ha c hc=>hnd.2.2 a (a3 a ha) c hc⟩
 ·rw[e]at hc;refine(kT hp).mem_iff.2 ?_;rw[dQ];exact(List.mem_append.1 hc).elim (λ h=>List.mem_append_left _ (a3 c h)) (λ h=>List.mem_append_right _ h)
 ·rcases List.mem_cons.1 hq with rfl|hq
  ·exact⟨us,by simp,by simpa using a1⟩
  ·exact bn.kP (X:=X) (Y:=⟨X.w,X.keep,λ k=>if k=i then .tuple us else X.ρ k⟩) (q:=λ k=>bW k H) (j:=i) (λ _ h=>h) rfl hne hi (cO.2 ⟨p,hq,rfl⟩) (hb.1 p hq) (hok p (hp.mem_iff.2 (List.mem_append_right _ hq)))
theorem kS.open(b':Nat)(hO:Opens o i λ _:Unit=>B)(hp:st.heap.Perm ((i,.obs o)::H))
  (hb:((H.all λ p=>PS (λ k=>bW k H) i p.2)&& !bW i H&&bW i B&&(B.all λ p=>PS (λ k=>bW k B) i p.2)&&B.all λ p=> !bW p.1 H)=true):
  kS (nJ (λ k=>bW k H) i) st ⟨qw (safe (λ k=>bW k H) i) st.sl,B++H,st.back.map (qw (safe (λ k=>bW k H) i)),b'⟩:=by
 simp only[Bool.and_eq_true,Bool.not_eq_true',List.all_eq_true]at hb;obtain⟨⟨⟨⟨b1,b2⟩,b3⟩,b4⟩,b5⟩:=hb;refine kS.Oz _ _ _ λ X hnd hok=>?_;have hnd:(ah X.ρ ((i,.obs o)::H)).Nodup:=(kT hp).nodup_iff.1 hnd;rw[aT,List.nodup_append]at hnd;obtain⟨us,eu,hR⟩:=hok _ (hp.mem_iff.2 List.mem_cons_self);obtain⟨_,ρ',h1,h2,h3⟩:=hO X.w X.keep (X.ρ i) hR;have hH:∀k,bW k H=true->(if bW k H=true then X.ρ k else ρ' k)=X.ρ k:=λ k hk=>if_pos hk;have hB:∀k,bW k B=true->(if bW k H=true then X.ρ k else ρ' k)=ρ' k:=λ k hk=>by
  obtain⟨p,hp',rfl⟩:=cO.1 hk;rw[if_neg (by rw[b5 p hp'];simp)]
 have hi:fM (if bW i H=true then X.ρ i else ρ' i)=fM (X.ρ i):=by rw[hB i b3];exact h1
 have e:ah (λ k=>if bW k H=true then X.ρ k else ρ' k) (B++H)=ah ρ' B++ah X.ρ H:=by
  rw[dQ,gq λ p hq=>hB p.1 (cO.2 ⟨p,hq,rfl⟩),gq λ p hq=>hH p.1 (cO.2 ⟨p,hq,rfl⟩)]
 refine⟨λ k=>if bW k H=true then X.ρ k else ρ' k,hH,hi, ?_,λ c hc=>?_,λ p hq=>?_⟩
 ·rw[e,List.nodup_append];exact⟨h2.nodup_iff.2 hnd.1,hnd.2.1,λ a ha c hc=>hnd.2.2 a (h2.mem_iff.1 ha) c hc⟩
 ·rw[e]at hc;refine(kT hp).mem_iff.2 ?_;rw[aT];exact(List.mem_append.1 hc).elim (λ h=>List.mem_append_left _ (h2.mem_iff.1 h)) (λ h=>List.mem_append_right _ h)
 ·rcases List.mem_append.1 hq with hq|hq
  ·exact bn.kP (X:=⟨X.w,X.keep,ρ'⟩) (Y:=⟨X.w,X.keep,λ k=>if bW k H=true then X.ρ k else ρ' k⟩) (q:=λ k=>bW k B) (j:=i) (λ _ h=>h) rfl hB (by show fM (if bW i H=true then X.ρ i else ρ' i)=fM (ρ' i);rw[hB i b3]) (cO.2 ⟨p,hq,rfl⟩) (b4 p hq) (h3 p hq)
  ·exact bn.kP (X:=X) (Y:=⟨X.w,X.keep,λ k=>if bW k H=true then X.ρ k else ρ' k⟩) (q:=λ k=>bW k H) (j:=i) (λ _ h=>h) rfl hH hi (cO.2 ⟨p,hq,rfl⟩) (b1 p hq) (hok p (hp.mem_iff.2 (List.mem_cons_of_mem _ hq)))
theorem Closes.sub{q:OB}(hB:Closes B i q)(hC:Closes ((i,.obs q)::H) j o)(hb:((H.all λ p=>PS (λ k=>bW k H) i p.2)&& !bW i H&& !Nat.beq i j)=true):Closes (B++H) j o:=by
 simp only[Bool.and_eq_true,Bool.not_eq_true',List.all_eq_true]at hb;obtain⟨⟨b1,b2⟩,b3⟩:=hb;refine Closes.imp hC λ X hnd hok=>?_;rw[dQ,List.nodup_append]at hnd;obtain⟨us,a1,a2,a3⟩:=hB X.w X.keep X.ρ hnd.1 λ p hq=>hok p (List.mem_append_left _ hq);have hij:j≠i:=by rintro rfl;simp at b3
 have hne:∀k,bW k H=true->(if k=i then Value.tuple us else X.ρ k)=X.ρ k:=λ k hk=>by
  have:k≠i:=by rintro rfl;rw[b2]at hk;cases hk
  rw[if_neg this]
 have e:ah (λ k=>if k=i then Value.tuple us else X.ρ k) ((i,.obs q)::H)=blks (.tuple us)++ah X.ρ H:=by
  rw[aT,gq λ p hq=>hne p.1 (cO.2 ⟨p,hq,rfl⟩)];simp
 have hi:fM (if i=i then Value.tuple us else X.ρ i)=fM (X.ρ i):=by rw[if_pos rfl];exact a2
 refine⟨λ k=>if k=i then .tuple us else X.ρ k,by dsimp only;rw[if_neg hij], ?_,λ c hc=>?_,λ p hq=>?_⟩
 ·rw[e,List.nodup_append];exact⟨(q.lt a1).2.2,hnd.2.1,λ a ha c hc=>hnd.2.2 a (a3 a ha) c hc⟩
 ·rw[e]at hc;rw[dQ];exact(List.mem_append.1 hc).elim (λ h=>List.mem_append_left _ (a3 c h)) (λ h=>List.mem_append_right _ h)
 ·rcases List.mem_cons.1 hq with rfl|hq
  ·exact⟨us,by simp,by simpa using a1⟩
  ·exact bn.kP (X:=X) (Y:=⟨X.w,X.keep,λ k=>if k=i then .tuple us else X.ρ k⟩) (q:=λ k=>bW k H) (j:=i) (λ _ h=>h) rfl hne hi (cO.2 ⟨p,hq,rfl⟩) (b1 p hq) (hok p (List.mem_append_right _ hq))
end Go.Proofs.YtopfgjgdadnjeaaGreat
