/-
  Contracts of the walk:WdJ,WdEf,WdI.
-/
import Derived.Test.YtifjccndenojlaaGreatWf43
import Derived.Test.YtifjccndenojlaaGreatWf12
import Derived.Test.YtifjccndenojlaaGreatWf16
import Derived.Test.YtifjccndenojlaaGreatWf42
import Derived.Test.YtifjccndenojlaaGreatWf10
set_option maxHeartbeats 16000000
set_option maxRecDepth 100000
set_option linter.unusedVariables false
set_option linter.unusedSimpArgs false
namespace Go.Proofs.YtifjccndenojlaaGreat
open Go.RowKit
open Go.Proofs.Tryz
variable{L M T:List Ev}{k:Nat}{H:Nat->aV}
def Fz(up:Bool)(c:aV)(s:Int)(h l:List Ev):List AV:=[.v (.bool up),.v (.int .i64 c.c0),.v (.int .i64 c.c1),.v (.int .i64 c.c2),.v (.int .i64 c.c3),.v (.int .i64 c.c4),.v (.int .i64 s),.sl 2 h.length true (NM h),.sl 2 l.length true (NM l)]
def wR(y:Ny):List AV:=Fz y.up (bif y.up then y.clk else aW) (bif y.up then y.sent else 0) (bif y.up then y.held else []) (bif y.up then y.log else [])
theorem adB(up:Bool)(c:aV)(s:Int)(h l:List Ev)(hh:h.length<=1000000)(hl:l.length<=1000000):aH prog 17 [.agg (Fz up c s h l),.agg (Fz up c s h l)] (.v (.bool true)) []:=by
 have h1:=yA h hh;have h2:=yA l hl;obtain⟨c0,c1,c2,c3,c4⟩:=c;unfold Fz;dsimp only;refine K1.E 0x7f func17 ?_;repeat' ((conv=>whnf);first|refine K1.u ?_|refine K1.P1 h1 ?_|refine K1.P1 h2 ?_|refine Ub.mk [.int .i64 _,.int .i64 _,.int .i64 _,.int .i64 _,.int .i64 _] [.int .i64 _,.int .i64 _,.int .i64 _,.int .i64 _,.int .i64 _] _ rfl rfl (Gl ⟨_,_,_,_,_⟩ ⟨_,_,_,_,_⟩) ?_|refine oC.yes rfl ?_|refine aU.fF ?_|refine K1.y (λ _=>?_) (λ _=>?_)|fail)
 all_goals(conv=>whnf)
 all_goals first
  |exact bn.mk (au)
  |fail
theorem PC.ahF{w:World}{keep:Nat->Prop}{u:Value}(h:PC w keep (.v (.slice none 0 0)) u):PC w keep (.sl 2 0 true (NM [])) u:=by
 cases h with
 |v _ _=>exact .sl 2 0 true _ none 0 [] o_ (aoH _) (by simp[maxLen]) rfl (λ i hi=>absurd hi (aoM i)) (λ _ x hx=>by simp[flat]at hx) (λ i x v hx hv=>by simp at hv) (.inl rfl)
def akn:List AV:=[.v (.bool false),.v (.int .i64 0),.v (.int .i64 0),.v (.int .i64 0),.v (.int .i64 0),.v (.int .i64 0),.v (.int .i64 0),.v (.slice none 0 0),.v (.slice none 0 0)]
theorem ahG:iY akn (Fz false aW 0 [] []):=
 iY.cons (λ _ _ _ h=>h) (iY.cons (λ _ _ _ h=>h) (iY.cons (λ _ _ _ h=>h) (iY.cons (λ _ _ _ h=>h) (iY.cons (λ _ _ _ h=>h) (iY.cons (λ _ _ _ h=>h) (iY.cons (λ _ _ _ h=>h) (iY.cons (λ _ _ _ h=>PC.ahF h) (iY.cons (λ _ _ _ h=>PC.ahF h) iY.nil))))))))
theorem adC(up:Bool)(c:aV)(s:Int)(h l:List Ev)(X:CX)(u:Value)(hu:C1 X (rW up c s h l) u):C1 X (.agg (Fz up (bif up then c else aW) (bif up then s else 0) (bif up then h else []) (bif up then l else []))) u:=by
 cases up with
 |true=>exact hu
 |false=>
  obtain⟨us,rfl,ha⟩:=hu;refine⟨us,rfl,ha.1,λ k z v hz hv=>?_⟩;match k with
  |0=>cases hz;exact ha.2 0 _ v rfl hv
  |1=>cases hz;exact ha.2 1 _ v rfl hv
  |2=>cases hz;exact ha.2 2 _ v rfl hv
  |3=>cases hz;exact ha.2 3 _ v rfl hv
  |4=>cases hz;exact ha.2 4 _ v rfl hv
  |5=>cases hz;exact ha.2 5 _ v rfl hv
  |6=>cases hz;exact ha.2 6 _ v rfl hv
  |7=>cases hz;exact C1.gW (X:=X) (s:=2) (sc:=true) (f:=NM []) d_ (ha.2 7 _ v rfl hv)
  |8=>cases hz;exact C1.gW (X:=X) (s:=2) (sc:=true) (f:=NM []) d_ (ha.2 8 _ v rfl hv)
  |k+9=>cases hz
theorem adD(y:Ny)(hh:y.held.length<=1000000)(hl:y.log.length<=1000000):aH prog 17 [yK y,.agg (wR y)] (.v (.bool true)) []:=
 (adB _ _ _ _ _ (by cases y.up<;>simp[hh]) (by cases y.up<;>simp[hl])).args (.of (adC _ _ _ _ _) (.same .nil))
section
variable{w:Wy}{s:Stp}{y:Ny}
theorem set_self(w:Wy)(r:Int):w.set r (w.nd r)=w:=by
 obtain⟨c,ns,hb,fl⟩:=w;show(⟨c,ns.set r.toNat (ns.getD r.toNat default),hb,fl⟩:Wy)=⟨c,ns,hb,fl⟩;congr 1;apply aqZ
 ·exact apZ ..
 ·intro i h1 h2;rw[List.getElem_set];split
  ·rename_i e;subst e;rw[aoG,aom h2];rfl
  ·rfl
theorem ajK(y y':Ny)(x:Rc):(wrY y y' x).2=0\/(wrY y y' x).2=18:=by
 unfold wrY;split
 ·exact .inr rfl
 ·exact .inl rfl
theorem Ik(b:List UInt8):(dS b).2=0\/(dS b).2=3\/(dS b).2=4\/(dS b).2=5:=by
 unfold dS;split
 ·exact .inr (.inr (.inr rfl))
 split
 ·split
  ·exact .inl rfl
  ·exact .inr (.inl rfl)
 ·exact .inr (.inr (.inl rfl))
def Fails{α:Type}(y:α)(p:α×Int):Prop:=p.2≠0->p.2≠18->p.1=y/\p.2≠24
theorem FB(z:Ny)(y':Ny)(x:Rc):Fails z (wrY y y' x):=λ h0 h18=>by rcases ajK y y' x with h|h<;>contradiction
theorem Zy(e:Ed)(h0:(pR y e).2≠0)(h18:(pR y e).2≠18):(pR y e).1=y:=by
 unfold pR at*;split
 ·rfl
 rename_i hu;rw[if_neg hu]at h0 h18;split
 ·rfl
 rename_i hc;rw[if_neg hc]at h0 h18;split
 ·rfl
 rename_i hq;rw[if_neg hq]at h0 h18;exact(FB y _ _ h0 h18).1
theorem XE(h0:(qx y).2≠0)(h18:(qx y).2≠18):(qx y).1=y:=by
 unfold qx at*;split
 ·rfl
 rename_i hu;rw[if_neg hu]at h0 h18;exact(FB y _ _ h0 h18).1
theorem XF(h0:(qy y).2≠0):(qy y).1=y:=by
 unfold qy at*;split
 ·rfl
 rename_i hu;rw[if_neg hu]at h0;exact absurd rfl h0
theorem Zz(b:List UInt8):Fails y (yJ y b):=by
 unfold yJ;split
 ·exact λ _ _=>⟨rfl,by dsimp only;omega⟩
 split
 ·have:=Ik b;exact λ _ _=>⟨rfl,by dsimp only;omega⟩
 unfold TF;split
 ·exact λ _ _=>⟨rfl,by dsimp only;omega⟩
 split
 ·unfold Fp;split
  ·exact λ h=>absurd rfl h
  ·exact FB _ _ _
 ·unfold evY;split
  ·exact λ _ _=>⟨rfl,by dsimp only;omega⟩
  split
  ·exact λ h=>absurd rfl h
  ·exact FB _ _ _
theorem ZA(m:Int)(s:MG)(l:List Ev):(je m s l).2=0\/(je m s l).2=20\/(je m s l).2=21:=by
 unfold je;split
 ·split
  ·exact .inr (.inr rfl)
  ·exact .inl rfl
 ·exact .inr (.inl rfl)
theorem adE{y y':Ry}{b:List UInt8}{x:Int}(h:GU y b=(y',.inl x))(h0:x≠0)(h18:x≠18):y'=y/\x≠24:=by
 unfold GU at h;split at h
 ·cases h;exact absurd rfl h18
 split at h
 ·have:=Ik b;cases h;exact⟨rfl,o_⟩
 unfold Tv at h;split at h
 ·cases h;exact⟨rfl,o_⟩
 split at h
 ·unfold MQ at h;split at h
  ·rename_i hp;have hc:(iI y.c.w y.n (dS b).1.r.toNat (dS b).1.ev y.p).2.2≠24:=by
    unfold iI;split
    ·show(0:Int)≠24;decide
    ·have:=ZA y.c.w (y.p.ps.getD (dS b).1.r.toNat default) (dS b).1.ev;dsimp only;omega
   cases h;exact⟨rfl,hc⟩
  split at h
  ·split at h
   ·cases h;exact absurd rfl h18
   ·cases h
  ·cases h
 split at h
 ·cases h
 split at h
 ·unfold Xd at h;split at h
  ·split at h
   ·cases h;exact absurd rfl h18
   ·cases h;exact absurd rfl h0
  ·cases h;exact absurd rfl h0
 ·cases h;exact⟨rfl,o_⟩
theorem yB(v:Wy)(to:Int)(b:List UInt8):Fails v (v.arrive to b):=by
 unfold Wy.arrive;split
 ·intro h0 h18;have h:=Zz (y:=v.nd to) b h0 h18;exact⟨by dsimp only;rw[h.1,set_self],h.2⟩
 ·split
  ·rename_i h' x e;intro h0 h18;have h:=adE e h0 h18;exact⟨by dsimp only;rw[h.1],h.2⟩
  ·exact λ h=>absurd rfl h
theorem adF(h0:(w.step s).2≠0)(h18:(w.step s).2≠18):
  ((w.step s).1=w/\((s.k=4\/s.k=7)->(w.step s).2=24))\/((s.k=4\/s.k=7)/\(w.step s).2≠24/\0<=s.at_/\s.at_<(w.fl.length:Int)/\(w.step s).1=⟨w.c,w.ns,w.hb,w.fl.eraseIdx s.at_.toNat⟩):=by
 unfold Wy.step at*;split
 ·rename_i hk;rw[if_pos hk]at h0 h18;unfold Wy.flight at*;split
  ·exact .inl ⟨rfl,λ _=>rfl⟩
  rename_i ha;rw[if_neg ha]at h0 h18;split
  ·rename_i h6;rw[if_pos h6]at h0;exact absurd rfl h0
  rename_i h6;rw[if_neg h6]at h0 h18;split
  ·rename_i h5;rw[if_pos h5]at h0 h18;exact .inl ⟨(yB _ _ _ h0 h18).1,λ h=>o_⟩
  rename_i h5;rw[if_neg h5]at h0 h18;split
  ·rename_i h4;rw[if_pos h4]at h0 h18;have h:=yB _ _ _ h0 h18;exact .inr ⟨o_,h.2,o_,o_,h.1⟩
  ·rename_i h4;rw[if_neg h4]at h0 h18;have h:=yB _ _ _ h0 h18;exact .inr ⟨o_,h.2,o_,o_,h.1⟩
 rename_i hk;rw[if_neg hk]at h0 h18;refine .inl ⟨?_,λ h=>o_⟩;split
 ·rename_i hp;rw[if_pos hp]at h0 h18;unfold Wy.power at*;split
  ·rename_i hr;rw[if_pos hr]at h0 h18;split
   ·rename_i h8;rw[if_pos h8]at h0;exact absurd rfl h0
   rename_i h8;rw[if_neg h8]at h0 h18;split
   ·rename_i h9;rw[if_pos h9]at h0 h18;dsimp only;rw[XF h0,set_self]
   ·rename_i h9;rw[if_neg h9]at h0;exact absurd rfl h0
  rename_i hr;rw[if_neg hr]at h0 h18;split
  ·rename_i h5;rw[if_pos h5]at h0 h18;split
   ·rename_i h8;rw[if_pos h8]at h0;exact absurd rfl h0
   rename_i h8;rw[if_neg h8]at h0 h18;split
   ·rename_i h9;rw[if_pos h9]at h0 h18;have e:(rstart w.hb).1=w.hb:=by
     unfold rstart at*;split
     ·rfl
     ·rename_i hu;rw[if_neg hu]at h0;exact absurd rfl h0
    dsimp only;rw[e]
   ·rename_i h9;rw[if_neg h9]at h0;exact absurd rfl h0
  ·rfl
 rename_i hp;rw[if_neg hp]at h0 h18;split
 ·rfl
 rename_i hr;rw[if_neg hr]at h0 h18;split
 ·rename_i h1;rw[if_pos h1]at h0 h18;dsimp only;rw[Zy _ h0 h18,set_self]
 rename_i h1;rw[if_neg h1]at h0 h18;have hs:∀b:List UInt8×Int,(w.send b).2≠0->(w.send b).1=w:=λ b hb=>by
  unfold Wy.send at*;split
  ·rename_i e;rw[if_pos e]at hb;exact absurd rfl hb
  ·rfl
 split
 ·rename_i h2;rw[if_pos h2]at h0;exact hs _ h0
 rename_i h2;rw[if_neg h2]at h0 h18;split
 ·rename_i h3;rw[if_pos h3]at h0;exact hs _ h0
 rename_i h3;rw[if_neg h3]at h0 h18;split
 ·rename_i h4;rw[if_pos h4]at h0;exact hs _ h0
 rename_i h4;rw[if_neg h4]at h0 h18;split
 ·rename_i h5;rw[if_pos h5]at h0 h18;dsimp only;rw[XE h0 h18,set_self]
 ·rfl
end
theorem Good.sub(hP:Pool k T H)(hL:Good T L)(hM:Good T M)(he:cZ L=cZ M){e:Ev}(h:e∈L):e∈M:=by
 obtain⟨a1,-,-,-⟩:=hL.seq.at_;obtain⟨-,b2,-,-⟩:=hM.seq.at_;obtain⟨p,h5,hr,h1,hn⟩:=a1 e h;rw[he]at hn;obtain⟨x,hx,xr,xn⟩:=b2 p h5 e.n h1 hn;rw[hP.inv.mark (hL.mem e h) (hM.mem x hx) (hr.trans xr.symm) xn.symm];exact hx
theorem Good.nodup(hL:Good T L):L.Nodup:=by
 obtain⟨-,-,h,-⟩:=hL.seq.at_;exact h.imp λ h e=>h (by rw[e];exact⟨rfl,rfl⟩)
theorem ajL{l:List Ev}:∀{m:List Ev},l.Nodup->m.Nodup->(∀e,e∈l↔e∈m)->l.Perm m:=by
 induction l with
 |nil=>intro m _ _ h;cases m with
  |nil=>exact .nil
  |cons x m=>exact absurd ((h x).2 aol) apy
 |cons a l ih=>
  intro m hl hm h;obtain⟨s,t,rfl⟩:=List.append_of_mem ((h a).1 aol);have hm':=apK.nodup_iff.1 hm;refine(List.Perm.cons a (ih (apj.1 hl).2 (apj.1 hm').2 λ e=>?_)).trans apK.symm;have h1:=h e;have ha:=(apj.1 hl).1;have hb:=(apj.1 hm').1;by_cases he:e=a
  ·subst he;exact⟨λ h=>absurd h ha,λ h=>absurd h hb⟩
  ·constructor
   ·intro h3;rcases aot.1 (apK.mem_iff.1 (h1.1 (aoq _ h3)))with h4|h4
    ·exact absurd h4 he
    ·exact h4
   ·intro h3;rcases aot.1 (h1.2 (apK.mem_iff.2 (aoq _ h3)))with h4|h4
    ·exact absurd h4 he
    ·exact h4
theorem Good.same(hP:Pool k T H)(hL:Good T L)(hM:Good T M)(he:cZ L=cZ M):pz L=pz M:=
 aik (ajL hL.nodup hM.nodup λ _=>⟨hL.sub hP hM he,hM.sub hP hL he.symm⟩) λ a ha b hb=>hP.inv.stamp a (hL.mem a ha) b (hL.mem b hb)
theorem ahH{A:List Ny}{y:Ny}(hs:wR y=Fz false aW 0 [] []){g:Nat->List AV}(hg:g 0=akn):∀i,i<A.length+1->iY (kV A.length (og wR A) g i) (og wR (A++[y]) i):=λ i hi=>by
 have h:=dP (c:=wR) (l:=A) (x:=y) (g:=λ _=>wR y) (n:=A.length) rfl rfl i hi;rw[<-h];unfold kV;cases hb:Nat.ble A.length i with
 |false=>exact iY.refl _
 |true=>
  have:=aox hb;have e:i-A.length=0:=o_
  show iY (g (i-A.length)) (wR y);rw[e,hg,hs];exact ahG
theorem IQ(c:kR)(l:List Stp)(_:c.rng)(hl:∀s∈l,s.rng)(hln:l.length<=140737488355328):aH prog 5 [c.av,.sl 10 l.length true (IE l)] (.v (.bool true)) []:=by
 have hsh:=rX;have hfc:=CP c;have hmc:=Gi c;generalize Ph c=d at hfc hmc;obtain⟨n,hn,hn1,hn5⟩:=xJ hmc;have hnew:=Np hmc;have hI:=uM.new hmc;have hdn:(wy0 d).ns.length=n:=by
  show((List.range d.n.toNat).map (ny0 d)).length=n;rw[aoO,aqC];omega
 have hst:=yx l;have hl':∀s∈l.take 60,s.rng:=λ s hs=>hl s (apn hs);have ahE:(l.take 60).length<=60:=by rw[aou];omega
 generalize l.take 60=L at hst hl' ahE;generalize wy0 d=w at hnew hI hdn;obtain⟨dn,dw,dq,dh,dl,dp⟩:=d;obtain⟨cn,cw,cq,ch,cl,cp⟩:=c;dsimp only[kR.av,kR.cs]at hfc hnew hn⊢;subst hn;refine K1.E 0x1001100140400008000820000ffff7 func5 ?_;repeat' ((conv=>whnf);first|refine K1.u ?_|refine K1.P1 hsh ?_|refine K1.P1 hfc ?_|refine K1.C 0 [] (hnew) rfl ?_|refine K1.P1 hst ?_|fail)
 all_goals(conv=>whnf)
 clear hsh hfc hnew hst;refine aI.mk {p:Nat×Wy//p.1<=L.length/\uM p.1 p.2/\p.2.ns.length=n} (λ p=>⟨[(10,.v (.int .i64 (p.1.1:Int))),(9,.sl 10 L.length true (IE L)),(7,.box 2 0),(6,.box 1 0)],[(2,.obs (ji p.1.1 p.1.2)),(1,.box 23 [.v (.int .i64 (n:Int)),.v (.int .i64 dw),.v (.int .i64 dq),.v (.int .i64 dh),.v (.int .i64 dl),.v (.int .i64 dp)])],[],3⟩) (λ p=>L.length-p.1.1) ⟨(0,w),aoB _,hI,hdn⟩ _
  (dO.mk' [] _ _ _ rfl ⟨aY.int rfl,au,au,au,trivial⟩ ⟨ay rfl,ay rfl,trivial⟩ rfl) ?_
 clear hI hdn w;rintro⟨⟨j,w⟩,hj,hI,hw⟩;dsimp only at hj hI hw⊢;by_cases hjl:j<L.length
 ·have hg:=Nq hl' hjl;have hft:=CY _ (n:Int) o_ hg;have hst:=yu hI o_ (CV (L.getD (j:Int).toNat default) n) hg.bit hg.mask;have hI':=hI.step o_ (CV (L.getD (j:Int).toNat default) n);have hw':=(Ag w (CV (L.getD (j:Int).toNat default) n)).1.trans hw;have hsf:=adF (w:=w) (s:=CV (L.getD (j:Int).toNat default) n);generalize CV (L.getD (j:Int).toNat default) n=s at*;generalize w.step s=r at*;obtain⟨w',x⟩:=r;dsimp only at hsf hst hI' hw';have c0:=G6 hI;obtain⟨sk,sr,⟨ek,KZ,el,ev⟩,sa,sb,sm,sp⟩:=s;dsimp only[Stp.av,Stp.cs]at hft hst hI' hw';obtain⟨S,hS⟩:∃S,Nj w.hb=S:=⟨_,rfl⟩;rw[hS]at c0;repeat' ((conv=>whnf);first|refine K1.u ?_|refine K1.P1 hft ?_|refine K1.C 1 [(0,_)] (c0) rfl ?_|refine fO.lex 70 bQ (dM bQ _) fG (by kernel_rfl) ?_|refine Both.mk ?_ ?_|exact LeC.mk rfl rfl rfl rfl rfl|fail)
  all_goals(conv=>whnf)
  refine aI.mk {r:Nat//r<=n} (λ r=>⟨[(14,.v (.int .i64 (r.1:Int))),(13,.own 6),(12,.box 5 0),(6,.box 1 0),(7,.box 2 0),(9,.sl 10 L.length true (IE L)),(10,.v (.int .i64 (j:Int))),(11,.box 3 0)],
   [(6,.row 48 9 (w.ns.take r.1).length false (og wR (w.ns.take r.1))),(5,.box 44 (S.vs.map .v)),(2,.obs (ji j w)),(3,.box 38 [.v (.int .i64 sk),.v (.int .i64 sr),.v (.int .i64 ek),.v (.string KZ),.v (.int .i64 el),.v (.string ev),.v (.int .i64 sa),.v (.int .i64 sb),.v (.int .u32 sm),.v (.int .i64 sp)]),(1,.box 23 [.v (.int .i64 (n:Int)),.v (.int .i64 dw),.v (.int .i64 dq),.v (.int .i64 dh),.v (.int .i64 dl),.v (.int .i64 dp)])],[],7⟩) (λ r=>n-r.1) ⟨0,aoB _⟩ _
   (dO.mk' [] _ _ _ rfl ⟨aY.int rfl,au,au,au,au,au,au,au,trivial⟩ ⟨⟨_,rfl,dK.aif rfl λ i hi=>absurd hi (aoM i)⟩,ay rfl,ay rfl,ay rfl,ay rfl,trivial⟩ rfl) ?_
  rintro⟨r,hr⟩;dsimp only;by_cases hrn:r<n
  ·have c1:=yw hI o_ (r:=r) o_;obtain⟨y,hy⟩:∃y,w.nd (r:Int)=y:=⟨_,rfl⟩;rw[hy]at c1;have htk:w.ns.take (r+1)=w.ns.take r++[y]:=by
    rw[apB,aom o_,<-hy];show _=w.ns.take r++[w.ns.getD r default];rw[aoG,aom o_];rfl
   have hlt:(w.ns.take r).length=r:=by rw[aou];omega
   have hsl:wR y=Fz y.up (bif y.up then y.clk else aW) (bif y.up then y.sent else 0) (bif y.up then y.held else []) (bif y.up then y.log else []):=rfl;unfold yK at c1;generalize w.ns.take r=A at*;generalize ji j w=B0 at*;generalize y.clk=ck at*;generalize y.sent=sn at*;generalize y.held=hd at*;generalize y.log=lg at*;obtain⟨ck0,ck1,ck2,ck3,ck4⟩:=ck;cases hup:y.up;all_goals
    rw[hup]at c1 hsl;dsimp only[rW,cond_true,cond_false]at c1;dsimp only[cond_true,cond_false]at hsl;repeat' ((conv=>whnf);first|refine K1.u ?_|refine K1.C 1 [(0,_)] (c1) rfl ?_|fail)
    all_goals(conv=>whnf)
    first
     |exact⟨⟨r+1,o_⟩,_,dO.mk' [(9,6)] _ _ _ rfl ⟨aY.int (by show(r:Int)+1=((r+1:Nat):Int);omega),au,au,au,au,au,au,au,trivial⟩ ⟨⟨_,rfl,by dsimp only;rw[htk];exact dK.row s_ (λ m hm=>dP (c:=wR) rfl hsl.symm m hm)⟩,ay rfl,ay rfl,ay rfl,ay rfl,trivial⟩ rfl,by show n-(r+1)<n-r;omega⟩
     |exact⟨⟨r+1,o_⟩,_,dO.mk' [(9,6)] _ _ _ rfl ⟨aY.int (by show(r:Int)+1=((r+1:Nat):Int);omega),au,au,au,au,au,au,au,trivial⟩ ⟨⟨_,rfl,by dsimp only;rw[htk];exact dK.aiH s_ (ahH hsl rfl)⟩,ay rfl,ay rfl,ay rfl,ay rfl,trivial⟩ rfl,by show n-(r+1)<n-r;omega⟩
  ·rw[aoF (show w.ns.length<=r by omega)];have c2:=nZ hI;have e1:=G6 hI';have e2:=nZ hI';have hF:0<=(w.fl.length:Int)/\(w.fl.length:Int)<=60:=by have:=hI.Zx;omega
   obtain⟨z,hz⟩:∃z:{p:Nat×Wy//p.1<=L.length/\uM p.1 p.2/\p.2.ns.length=n},z.1=(j+1,w'):=⟨⟨(j+1,w'),hjl,hI',hw'⟩,rfl⟩;obtain⟨B1,hB1⟩:∃B,ji (j+1) w'=B:=⟨_,rfl⟩;have hgo:x≠0->x≠18->w'.ns=w.ns/\w'.hb=w.hb/\(w'.fl.length:Int)=(w.fl.length:Int)-(if x=24 then 0 else if sk=4\/sk=7 then 1 else 0):=λ h0 h18=>by
    rcases hsf h0 h18 with⟨h1,h2⟩|⟨h1,h2,h3,h4,h5⟩
    ·dsimp only at h1 h2;rw[h1];refine⟨rfl,rfl, ?_⟩;split
     ·omega
     ·rw[if_neg (by rename_i hx;exact λ h=>hx (h2 h))];omega
    ·dsimp only at h1 h2 h3 h4 h5;rw[h5,if_neg h2,if_pos h1];refine⟨rfl,rfl, ?_⟩;show((w.fl.eraseIdx sa.toNat).length:Int)=_;rw[aqI,if_pos o_];omega
   rw[hB1]at hst e1 e2;by_cases h0:x=0\/x=18
   ·rcases h0 with rfl|rfl;all_goals
     repeat' ((conv=>whnf);first|refine K1.u ?_|refine K1.C 1 [(0,_)] (c2) rfl ?_|refine K1.C 1 [(0,_)] (hst) rfl ?_|fail)
     all_goals(conv=>whnf)
     all_goals exact⟨z,_,dO.mk' [] _ _ _ rfl ⟨aY.int (by rw[hz];rfl),au,au,au,trivial⟩ ⟨⟨_,rfl,by rw[hz,<-hB1];exact dK.refl _⟩,ay rfl,trivial⟩ rfl,by rw[hz];show L.length-(j+1)<L.length-j;omega⟩
   ·obtain⟨g1,g2,g3⟩:=hgo (λ h=>h0 (.inl h)) (λ h=>h0 (.inr h));rw[g2,hS]at e1;have x0:x≠0:=λ h=>h0 (.inl h);have x18:x≠18:=λ h=>h0 (.inr h);clear hgo hsf h0;have hg:(x=24/\(w'.fl.length:Int)=(w.fl.length:Int))\/(x≠24/\(sk=4\/sk=7)/\(w'.fl.length:Int)=(w.fl.length:Int)-1)\/(x≠24/\ ¬ (sk=4\/sk=7)/\(w'.fl.length:Int)=(w.fl.length:Int)):=by
     by_cases h1:x=24
     ·rw[if_pos h1]at g3;exact .inl ⟨h1,o_⟩
     ·rw[if_neg h1]at g3;by_cases h2:sk=4\/sk=7
      ·rw[if_pos h2]at g3;exact .inr (.inl ⟨h1,h2,g3⟩)
      ·rw[if_neg h2]at g3;exact .inr (.inr ⟨h1,h2,o_⟩)
    generalize(w.fl.length:Int)=F at*;generalize(w'.fl.length:Int)=G at*;repeat' ((conv=>whnf);first|refine K1.u ?_|refine K1.C 1 [(0,_)] (c2) rfl ?_|refine K1.C 1 [(0,_)] (hst) rfl ?_|refine K1.C 1 [(0,_)] (e1) rfl ?_|refine K1.C 1 [(0,_)] (e2) rfl ?_|refine Ub.mk S.vs S.vs (S=S) rfl rfl (YJ _ _) ?_|refine oC.yes rfl ?_|refine K1.o (id:=25) (nN [0,2] ((1,some [])::nN [3,4,5,7,8,9] ((6,some [3,2])::nN [10,11] []))) ?_|refine K1.y (λ _=>?_) (λ _=>?_)|fail)
    all_goals(conv=>whnf)
    all_goals
     refine aI.mk {r:Nat//r<=n} (λ r=>⟨[(18,.v (.int .i64 (r.1:Int))),(13,.own 6),(6,.box 1 0),(7,.box 2 0),(9,.sl 10 L.length true (IE L)),(10,.v (.int .i64 (j:Int)))],
      [(6,.row 48 9 w.ns.length false (og wR w.ns)),(2,.obs B1),(1,.box 23 [.v (.int .i64 (n:Int)),.v (.int .i64 dw),.v (.int .i64 dq),.v (.int .i64 dh),.v (.int .i64 dl),.v (.int .i64 dp)])],[],7⟩) (λ r=>n-r.1) ⟨0,aoB _⟩ _
      (dO.mk' [] _ _ _ rfl ⟨aY.int rfl,au,au,au,au,au,trivial⟩ ⟨ay rfl,ay rfl,ay rfl,trivial⟩ rfl) ?_
     rintro⟨r,hr⟩;dsimp only;by_cases hrn:r<n
     ·have c3:=yw hI' o_ (r:=r) o_;have hll:=hI'.lens o_ (r:=r) o_;have cS:=adD (w'.nd r) hll.1 hll.2;rw[show w'.nd (r:Int)=w.ns.getD (r:Int).toNat default by rw[<-g1];rfl]at c3 cS;rw[hB1]at c3;obtain⟨y,hy⟩:∃y,w.ns.getD (r:Int).toNat default=y:=⟨_,rfl⟩;have e:yK y=rW y.up y.clk y.sent y.held y.log:=rfl;rw[hy,e]at c3;have e3:∀b,y.up=b->aH prog 17 [rW b y.clk y.sent y.held y.log,.agg (wR (w.ns.getD (r:Int).toNat default))] (.v (.bool true)) []:=λ b hb=>by
       rw[hy]at cS⊢;rw[<-hb,<-e];exact cS
      clear cS e hll;have SE:Nat.ble ((r:Int).toNat+1) w.ns.length=true:=apm o_;cases hup:y.up;all_goals
       have cS:=e3 _ hup;rw[hup]at c3;clear e3;dsimp only[rW,wR,Fz]at c3 cS;repeat' ((conv=>whnf);first|refine K1.u ?_|refine K1.C 1 [(0,_)] (c3) rfl ?_|refine K1.P1 cS ?_|refine fO.lex 70 bQ (dM bQ _) fG (by kernel_rfl) ?_|refine Both.mk ?_ ?_|exact LeC.mk rfl rfl rfl rfl rfl|fail)
       all_goals(conv=>whnf)
       all_goals exact⟨⟨r+1,o_⟩,_,dO.mk' [] _ _ _ rfl ⟨aY.int (by show(r:Int)+1=((r+1:Nat):Int);omega),au,au,au,au,au,trivial⟩ ⟨ay rfl,ay rfl,ay rfl,trivial⟩ rfl,by show n-(r+1)<n-r;omega⟩
     ·repeat' ((conv=>whnf);first|refine K1.u ?_|fail)
      all_goals(conv=>whnf)
      all_goals exact⟨z,_,dO.mk' [] _ _ _ rfl ⟨aY.int (by rw[hz];rfl),au,au,au,trivial⟩ ⟨⟨_,rfl,by rw[hz,<-hB1];exact dK.refl _⟩,ay rfl,trivial⟩ rfl,by rw[hz];show L.length-(j+1)<L.length-j;omega⟩
 ·repeat' ((conv=>whnf);first|refine K1.u ?_|refine aU.fF ?_|fail)
  all_goals(conv=>whnf)
  all_goals exact bn.mk (au)
end Go.Proofs.YtifjccndenojlaaGreat
