/-
  Contracts of the walk:RcLaw,RcV,AmG.
-/
import Derived.Test.YtimhagicagdkfaaGreatNi15
import Derived.Test.YtimhagicagdkfaaGreatNi4
import Derived.ScopeJumps
set_option maxHeartbeats 16000000
set_option maxRecDepth 100000
set_option linter.unusedVariables false
set_option linter.unusedSimpArgs false
namespace Go.Proofs.YtimhagicagdkfaaGreat
instance:Inhabited Rc:=⟨YE⟩
def ng (b:List UInt8):Option (List Ev):=match kS b with
  |none=>none
  |some (m,k)=>if 4096<m then none else(je (b.drop k) m).map (·.1)
def aaM (k r:Int) (t:List UInt8):Rc×Bool:=match kS t with
  |none=>(⟨k,r,0,dS,[]⟩,false)
  |some (n,_)=>(⟨k,r,n,dS,[]⟩,true)
def OA (k r u:Int) (t:List UInt8):Rc×Bool:=match ng t with
  |none=>(⟨k,r,u,dS,[]⟩,false)
  |some l=>(⟨k,r,u,dS,l⟩,true)
def rdR (k r:Int) (t:List UInt8):Rc×Bool:=
 if k=1∨k=2∨k=5 then OA k r 0 t
 else if k=3 then aaM k r t
 else if k=4 then(match kS t with|none=>(⟨k,r,0,dS,[]⟩,false)|some (n,j)=>OA k r n (t.drop j))
 else if k=6 then(⟨k,r,0,(zH t).1,[]⟩,(zH t).2)
 else(⟨k,r,0,dS,[]⟩,false)
def jH (b:List UInt8):Rc×Bool:=
 if b.length<2 then(YE,false)else rdR ((b.getD 0 default).toNat:Int) ((b.getD 1 default).toNat:Int) (b.drop 2)
theorem Js (l:List Ev) (h: ∀e∈l,fB e=0) (hl:l.length≤4096) (t:List UInt8):ng (aA l.length++(fZ l++t))=some l:=by
 unfold ng
 rw[mZ (by omega)]
 dsimp only
 rw[if_neg (by omega),List.drop_left,Cc l h t _ (Nat.le_refl _),List.take_length]
 rfl
theorem Vg (x:Rc) (h:lC x=true) (t:List UInt8):jH (fO x++t)=(x,true):=by
 have m:=uD h
 obtain⟨k,r,u,⟨c0,c1,c2,c3,c4⟩,ev⟩:=x
 obtain⟨mk,mr,mu,ml,⟨m0,m1,m2,m3,m4⟩,wC,uO,me0,Gf,Lp⟩:=m
 dsimp only at mk mr mu ml m0 m1 m2 m3 m4 wC uO me0 Gf Lp
 obtain⟨rest,hrest⟩: ∃rest,rest=(if F6 k then iM u else [])++(if F8 k then zk ⟨c0,c1,c2,c3,c4⟩else [])++(if F7 k then aA ev.length++fZ ev else [])++t:=⟨_,rfl⟩
 have hb:fO ⟨k,r,u,⟨c0,c1,c2,c3,c4⟩,ev⟩++t=byteOf k::byteOf r::rest:=by
  rw[hrest];simp[fO]
 rw[hb]
 unfold jH
 rw[if_neg (by simp)]
 rw[show(byteOf k::byteOf r::rest).getD 0 default=byteOf k from rfl,show(byteOf k::byteOf r::rest).getD 1 default=byteOf r from rfl,show(byteOf k::byteOf r::rest).drop 2=rest from rfl,fP (by omega) (by omega),fP (by omega) (by omega)]
 clear hb
 unfold rdR
 rcases(show(k=1∨k=2∨k=5)∨k=3∨k=4∨k=6 by omega)with hk|hk|hk|hk
 · have hU:F6 k=false:=by simp[F6];omega
   have hC:F8 k=false:=by simp[F8];omega
   have hE:F7 k=true:=by simp[F7];omega
   rw[hU]at wC hrest;rw[hC]at uO hrest;rw[hE]at hrest
   simp only[Bool.false_eq_true,false_or]at wC uO
   rw[if_pos hk,hrest]
   simp only[if_true,Bool.false_eq_true,if_false,List.nil_append,List.append_assoc]
   unfold OA
   rw[Js ev (pK Gf) ml t]
   dsimp only
   rw[wC,uO]
 · have hU:F6 k=true:=by simp[F6];omega
   have hC:F8 k=false:=by simp[F8];omega
   have hE:F7 k=false:=by simp[F7];omega
   rw[hU]at hrest;rw[hC]at uO hrest;rw[hE]at me0 hrest
   simp only[Bool.false_eq_true,false_or]at me0 uO
   obtain⟨un,rfl,hun⟩:=gq mu
   rw[if_neg (by omega),if_pos hk,hrest]
   simp only[if_true,Bool.false_eq_true,if_false,List.append_nil]
   unfold aaM
   rw[dU,mZ hun]
   dsimp only
   rw[List.eq_nil_of_length_eq_zero me0,uO]
 · have hU:F6 k=true:=by simp[F6];omega
   have hC:F8 k=false:=by simp[F8];omega
   have hE:F7 k=true:=by simp[F7];omega
   rw[hU]at hrest;rw[hC]at uO hrest;rw[hE]at hrest
   simp only[Bool.false_eq_true,false_or]at uO
   obtain⟨un,rfl,hun⟩:=gq mu
   rw[if_neg (by omega),if_neg (by omega),if_pos hk,hrest]
   simp only[if_true,Bool.false_eq_true,if_false,List.append_nil,List.append_assoc]
   rw[dU,mZ hun]
   dsimp only
   rw[List.drop_left]
   unfold OA
   rw[Js ev (pK Gf) ml t]
   dsimp only
   rw[uO]
 · have hU:F6 k=false:=by simp[F6];omega
   have hC:F8 k=true:=by simp[F8];omega
   have hE:F7 k=false:=by simp[F7];omega
   rw[hU]at wC hrest;rw[hC]at hrest;rw[hE]at me0 hrest
   simp only[Bool.false_eq_true,false_or]at wC me0
   obtain⟨c0,rfl,hc0⟩:=gq m0
   obtain⟨c1,rfl,hc1⟩:=gq m1
   obtain⟨c2,rfl,hc2⟩:=gq m2
   obtain⟨c3,rfl,hc3⟩:=gq m3
   obtain⟨c4,rfl,hc4⟩:=gq m4
   rw[if_neg (by omega),if_neg (by omega),if_neg (by omega),if_pos hk,hrest]
   simp only[if_true,Bool.false_eq_true,if_false,List.nil_append,zk,dU,List.append_assoc]
   rw[Tz hc0 hc1 hc2 hc3 hc4]
   dsimp only
   rw[List.eq_nil_of_length_eq_zero me0,wC]
def nV (b:List UInt8):Option (Rc×Nat):=
 if(dG b).2.2≠0∨b.length-(dG b).2.1<(dG b).1 then none
 else if rW ((b.drop (dG b).2.1).take (dG b).1)then
  if(jH (inner ((b.drop (dG b).2.1).take (dG b).1))).2=true∧lC (jH (inner ((b.drop (dG b).2.1).take (dG b).1))).1=true∧aQ (jH (inner ((b.drop (dG b).2.1).take (dG b).1))).1=b.take ((dG b).2.1+(dG b).1)
  then some ((jH (inner ((b.drop (dG b).2.1).take (dG b).1))).1,(dG b).2.1+(dG b).1)else none
 else none
theorem zu (x:Rc) (h:lC x=true):2≤(fO x).length∧(fO x).length≤200000:=by
 have m:=uD h
 have hv (n:Nat):(aA n).length≤10:=bU 9 _
 have Vf (n:Int):(iM n).length≤10:=hv _
 have he:=sU (pK m.ev)
 have hl:=m.l
 have e1:(fO x).length=2+(if F6 x.k then(iM x.u).length else 0)+(if F8 x.k then(zk x.c).length else 0)+(if F7 x.k then(aA x.ev.length).length+(fZ x.ev).length else 0):=by
  unfold fO
  simp only[List.length_append]
  congr 1
  · congr 1
    · congr 1
      split<;>rfl
    · split<;>rfl
  · split
    · rw[List.length_append]
    · rfl
 have hc:(zk x.c).length≤50:=by
  have:=Vf x.c.c0;have:=Vf x.c.c1;have:=Vf x.c.c2;have:=Vf x.c.c3;have:=Vf x.c.c4
  unfold zk
  simp only[List.length_append]
  omega
 have:=Vf x.u
 have:=hv x.ev.length
 rw[e1]
 refine⟨by omega, ?_⟩
 split<;>split<;>split<;>omega
theorem oO (x:Rc) (h:lC x=true):(aQ x).length≤200100:=by
 have:=zu x h
 have hv:(aA (eX (fO x)).length).length≤10:=bU 9 _
 unfold aQ
 rw[List.length_append,eH]
 rw[eH]at hv
 omega
theorem QL (x:Rc) (h:lC x=true) (t:List UInt8):nV (aQ x++t)=some (x,(aQ x).length):=by
 have hb:=zu x h
 have hs:=eH (fO x)
 have hr:=Vg x h []
 rw[List.append_nil]at hr
 have e:aQ x++t=aA (eX (fO x)).length++(eX (fO x)++t):=by unfold aQ;rw[List.append_assoc]
 have hv:=sW (eX (fO x)).length (eX (fO x)++t) (by omega)
 have hl:(aQ x).length=(aA (eX (fO x)).length).length+(eX (fO x)).length:=by unfold aQ;rw[List.length_append]
 unfold nV
 rw[e,hv,List.drop_left,List.take_left,if_neg (by simp),if_pos (TA _),zq,hr,if_pos ⟨rfl,h,by rw[←e,←hl,List.take_left]⟩,hl]
def kY (l:List Rc):List UInt8:=l.flatMap aQ
structure Gs (b:List UInt8) (l:List Rc) (t:List UInt8):Prop where
 may: ∀r∈l,lC r=true
 eq:b=kY l++t
 no:nV t=none
theorem Jt (l:List Rc) (x:Rc):kY (l++[x])=kY l++aQ x:=by simp[kY]
theorem Vh {b:List UInt8} {l:List Rc} {t:List UInt8} (h:Gs b l t) (j:Nat) (hj:j<l.length):nV (b.drop (kY (l.take j)).length)=some (l.getD j default,(aQ (l.getD j default)).length):=by
 have e:l=l.take j++l.getD j default::l.drop (j+1):=by
  rw[List.getD,List.getElem?_eq_getElem hj]
  simp
 have e2:b=kY (l.take j)++(aQ (l.getD j default)++(kY (l.drop (j+1))++t)):=by
  rw[h.eq]
  conv=>lhs;rw[e]
  simp[kY]
 rw[e2,List.drop_left]
 refine QL _ (h.may _ ?_) _
 rw[List.getD,List.getElem?_eq_getElem hj]
 exact List.getElem_mem hj
theorem YG {b:List UInt8} {l:List Rc} {t:List UInt8} (h:Gs b l t):nV (b.drop (kY l).length)=none:=by
 rw[h.eq,List.drop_left]
 exact h.no
theorem Vj {l:List Rc} {j:Nat} (hj:j<l.length):kY (l.take (j+1))=kY (l.take j)++aQ (l.getD j default):=by
 have:l.take (j+1)=l.take j++[l.getD j default]:=by
  rw[List.getD,List.getElem?_eq_getElem hj]
  simp
 rw[this,Jt]
section
open Go.RowKit
theorem aT.dL {xs ys:List AV} (h:Ch xs ys):aT (.dL xs) (.dL ys):=fun _ _ ⟨us,e,ha⟩=>⟨us,e,h.all ha⟩
theorem qZ {n:Nat} {F:Nat→List AV} (l:List UInt8) {m k:Nat} (h:kS l=some (m,k)) (hF:bD F l) (hn:n=l.length):aG Tryz.prog 165 [.sl 1 n true F] (.dL [.v (.int .i64 (m:Int)),.sl 1 (l.drop k).length true (aV (l.drop k)),.v (.bool true)]) []:=by
 have hle:=uJ h
 obtain⟨⟨a,c,e⟩,hv⟩: ∃p,dG l=p:=⟨_,rfl⟩
 have hs:=iV l hF hn
 unfold kS at h
 rw[hv]at hs h
 dsimp only at hs h
 split at h
 · rename_i h0
   obtain⟨h0,h1⟩:=h0
   simp only[Option.some.injEq,Prod.mk.injEq]at h
   obtain⟨rfl,rfl⟩:=h
   subst h0
   refine K1.E 0x800fd Tryz.func165 ?_
   repeat' ((conv=>whnf);first|refine K1.w ?_|refine K1.u ?_|refine K1.P1 hs rfl ?_|refine aJ.dR ?_|refine K1.o (id:=4) [(0,none),(1,none),(2,none),(3,none),(4,none),(5,none),(6,none),(7,none)] [] ?_|refine K1.z ?_|refine K1.y (fun _=>?_) (fun _=>?_)|fail)
   conv=>whnf
   exact bG.mk (aT.dL (.same (.pF (bD.drop hF _) (by simp[hn]) (.same .nil))))
 · cases h
theorem ru {n:Nat} {F:Nat→List AV} (l:List UInt8) (h:kS l=none) (hF:bD F l) (hn:n=l.length):aG Tryz.prog 165 [.sl 1 n true F] (.dL [.v (.int .i64 0),.v (.slice none 0 0),.v (.bool false)]) []:=by
 obtain⟨⟨a,c,e⟩,hv⟩: ∃p,dG l=p:=⟨_,rfl⟩
 have hs:=iV l hF hn
 unfold kS at h
 rw[hv]at hs h
 dsimp only at hs h
 split at h
 · cases h
 · rename_i h0
   refine K1.E 0x800fd Tryz.func165 ?_
   repeat' ((conv=>whnf);first|refine K1.w ?_|refine K1.u ?_|refine K1.P1 hs rfl ?_|refine aJ.dR ?_|refine K1.o (id:=4) [(0,none),(1,none),(2,none),(3,none),(4,none),(5,none),(6,none),(7,none)] [] ?_|refine K1.z ?_|refine K1.y (fun _=>?_) (fun _=>?_)|fail)
   all_goals(conv=>whnf)
   all_goals first
     |exact bG.mk (aj)
     |(exfalso;apply h0;constructor<;>omega)
theorem aaN (b:List UInt8) (hl:b.length≤1000000000):aG Tryz.prog 166 [.sl 1 b.length true (aV b)] (Ig (ng b)) []:=by
 cases hN:kS b with
 | none=>
   have hnum:=ru b hN (bD.bytes b) rfl
   rw[show ng b=none by unfold ng;rw[hN]]
   refine K1.E 0x101e003fd Tryz.func166 ?_
   repeat' ((conv=>whnf);first|refine K1.w ?_|refine K1.u ?_|refine K1.P1 hnum rfl ?_|refine aJ.dR ?_|refine K1.o (id:=10) [(0,none),(1,none),(4,none),(5,none),(6,none),(2,some [1]),(3,some [1]),(7,none),(8,none)] [(2,[1]),(3,[1]),(7,[1]),(8,[1])] ?_|refine K1.z ?_|refine K1.y (fun _=>?_) (fun _=>?_)|fail)
   all_goals(conv=>whnf)
   all_goals exact bG.mk (aj)
 | some p =>
   obtain⟨c,k⟩:=p
   have hnum:=qZ b hN (bD.bytes b) rfl
   have hle:=uJ hN
   have hdl:(b.drop k).length≤b.length:=by rw[List.length_drop];omega
   by_cases hc:4096<c
   · rw[show ng b=none by unfold ng;rw[hN];dsimp only;rw[if_pos hc]]
     refine K1.E 0x101e003fd Tryz.func166 ?_
     repeat' ((conv=>whnf);first|refine K1.w ?_|refine K1.u ?_|refine K1.P1 hnum rfl ?_|refine aJ.dR ?_|refine K1.o (id:=10) [(0,none),(1,none),(4,none),(5,none),(6,none),(2,some [1]),(3,some [1]),(7,none),(8,none)] [(2,[1]),(3,[1]),(7,[1]),(8,[1])] ?_|refine K1.z ?_|refine K1.y (fun _=>?_) (fun _=>?_)|fail)
     all_goals(conv=>whnf)
     all_goals exact bG.mk (aj)
   · have hlf:ng b=(je (b.drop k) c).map (·.1):=by unfold ng;rw[hN];dsimp only;rw[if_neg hc]
     generalize b.drop k=t at hnum hdl hlf
     refine K1.E 0x101e003fd Tryz.func166 ?_
     repeat' ((conv=>whnf);first|refine K1.w ?_|refine K1.u ?_|refine K1.P1 hnum rfl ?_|refine aJ.dR ?_|refine K1.o (id:=10) [(0,none),(1,none),(4,none),(5,none),(6,none),(2,some [1]),(3,some [1]),(7,none),(8,none)] [(2,[1]),(3,[1]),(7,[1]),(8,[1])] ?_|refine K1.z ?_|refine K1.y (fun _=>?_) (fun _=>?_)|fail)
     conv=>whnf
     refine aN.mk {p:Nat×List Ev×List UInt8//je t p.1=some p.2∧p.1≤c} (fun p=>match p with
       |⟨(0,_,r),_⟩=>⟨[(0,.sl 1 r.length true (aV r)),(6,.v (.slice none 0 0)),(22,.v (.int .i64 (c:Int))),(23,.v (.int .i64 0))],[],[],0⟩
       |⟨(i+1,l,r),_⟩=>⟨[(0,.sl 1 r.length true (aV r)),(6,.own 90),(22,.v (.int .i64 (c:Int))),(23,.v (.int .i64 ((i:Int)+1)))],[(90,.row 42 12 l.length true (eG l))],[],91⟩)
       (fun p=>c-p.1.1) ⟨(0,[],t),rfl,Nat.zero_le _⟩ _
       (dO.mk' [] _ _ _ rfl ⟨aj,aj,aj,aT.int rfl,trivial⟩ trivial rfl) ?_
     rintro⟨⟨_|i,l,r⟩,hp,hj⟩
     · dsimp only at hp hj
       obtain⟨hl0,hr0⟩:=nU hp
       obtain rfl:l=[]:=List.eq_nil_of_length_eq_zero hl0
       have hz:c=0→ng b=some []:=fun h=>by rw[hlf,h,hp];rfl
       rcases uG r with⟨e,m,ht,-,hm,-⟩|ht|ht
       · dsimp only
         repeat' ((conv=>whnf);first|refine K1.w ?_|refine K1.u ?_|refine K1.P1 (take_any r ht (bD.bytes r) rfl (by omega)) rfl ?_|refine aJ.dR ?_|refine K1.o (id:=10) [(0,none),(1,none),(4,none),(5,none),(6,none),(2,some [1]),(3,some [1]),(7,none),(8,none)] [(2,[1]),(3,[1]),(7,[1]),(8,[1])] ?_|refine K1.z ?_|refine K1.y (fun _=>?_) (fun _=>?_)|fail)
         all_goals(conv=>whnf)
         · refine⟨⟨(0+1,[]++[e],r.drop m),qE hp ht,by omega⟩,_,dO.mk' [(2,90)] _ _ _ rfl ⟨aT.pF (bD.drop (bD.bytes r) m) (by simp),aj,aj,aT.int rfl,trivial⟩ ⟨⟨_,rfl,cO.row rfl (fun i hi=>?_)⟩,trivial⟩ rfl,by show c-(0+1)<c-0;omega⟩
           have hi:i<1:=hi
           obtain rfl:i=0:=by omega
           rfl
         · rw[hz (by omega)]
           exact bG.mk (aT.aaL _)
       all_goals
        have hno:0<c→ng b=none:=fun h=>by rw[hlf,uI (uH hp (by rw[ht];decide)) c (by omega)];rfl
        dsimp only
        repeat' ((conv=>whnf);first|refine K1.w ?_|refine K1.u ?_|refine K1.P1 (take_any r ht (bD.bytes r) rfl (by omega)) rfl ?_|refine aJ.dR ?_|refine K1.o (id:=10) [(0,none),(1,none),(4,none),(5,none),(6,none),(2,some [1]),(3,some [1]),(7,none),(8,none)] [(2,[1]),(3,[1]),(7,[1]),(8,[1])] ?_|refine K1.z ?_|refine K1.y (fun _=>?_) (fun _=>?_)|fail)
        all_goals(conv=>whnf)
        · rw[hno (by omega)]
          exact bG.mk (aj)
        · rw[hz (by omega)]
          exact bG.mk (aT.aaL _)
     · dsimp only at hp hj
       obtain⟨hl0,hr0⟩:=nU hp
       have hz:c=i+1→ng b=some l:=fun h=>by rw[hlf,h,hp];rfl
       rcases uG r with⟨e,m,ht,-,hm,-⟩|ht|ht
       · dsimp only
         repeat' ((conv=>whnf);first|refine K1.w ?_|refine K1.u ?_|refine K1.P1 (take_any r ht (bD.bytes r) rfl (by omega)) rfl ?_|refine aJ.dR ?_|refine K1.o (id:=10) [(0,none),(1,none),(4,none),(5,none),(6,none),(2,some [1]),(3,some [1]),(7,none),(8,none)] [(2,[1]),(3,[1]),(7,[1]),(8,[1])] ?_|refine K1.z ?_|refine K1.y (fun _=>?_) (fun _=>?_)|fail)
         all_goals(conv=>whnf)
         · refine⟨⟨(i+1+1,l++[e],r.drop m),qE hp ht,by omega⟩,_,dO.mk' [(93,90)] _ _ _ rfl ⟨aT.pF (bD.drop (bD.bytes r) m) (by simp),aj,aj,aT.int rfl,trivial⟩ ⟨⟨_,rfl,cO.row (by simp) (fun m hm=>bJ (c:=Ev.cs) rfl rfl m hm)⟩,trivial⟩ rfl,by show c-(i+1+1)<c-(i+1);omega⟩
         · rw[hz (by omega)]
           exact bG.mk (aj)
       all_goals
        have hno:i+1<c→ng b=none:=fun h=>by rw[hlf,uI (uH hp (by rw[ht];decide)) c (by omega)];rfl
        dsimp only
        repeat' ((conv=>whnf);first|refine K1.w ?_|refine K1.u ?_|refine K1.P1 (take_any r ht (bD.bytes r) rfl (by omega)) rfl ?_|refine aJ.dR ?_|refine K1.o (id:=10) [(0,none),(1,none),(4,none),(5,none),(6,none),(2,some [1]),(3,some [1]),(7,none),(8,none)] [(2,[1]),(3,[1]),(7,[1]),(8,[1])] ?_|refine K1.z ?_|refine K1.y (fun _=>?_) (fun _=>?_)|fail)
        all_goals(conv=>whnf)
        · rw[hno (by omega)]
          exact bG.mk (aj)
        · rw[hz (by omega)]
          exact bG.mk (aj)
theorem Gt {n:Nat} {F:Nat→List AV} (b:List UInt8) (hF:bD F b) (hn:n=b.length) (hl:b.length≤1000000000):aG Tryz.prog 166 [.sl 1 n true F] (Ig (ng b)) []:=
 (aaN b hl).args (Ch.pF hF hn .nil)
theorem OC (k:Int) (h:k=1∨k=2∨k=5):aG Tryz.prog 127 [.v (.int .i64 k)] (.dL [.v (.bool false),.v (.bool true),.v (.bool false),.v (.bool true)]) []:=by
 have:=gW k
 rcases h with rfl|rfl|rfl<;>exact this
theorem OD (k:Int) (h:k=3):aG Tryz.prog 127 [.v (.int .i64 k)] (.dL [.v (.bool true),.v (.bool false),.v (.bool false),.v (.bool true)]) []:=by
 have:=gW k
 rcases h with rfl;exact this
theorem Ce (k:Int) (h:k=4):aG Tryz.prog 127 [.v (.int .i64 k)] (.dL [.v (.bool true),.v (.bool true),.v (.bool false),.v (.bool true)]) []:=by
 have:=gW k
 rcases h with rfl;exact this
theorem tq (k:Int) (h:k=6):aG Tryz.prog 127 [.v (.int .i64 k)] (.dL [.v (.bool false),.v (.bool false),.v (.bool true),.v (.bool true)]) []:=by
 have:=gW k
 rcases h with rfl;exact this
theorem wI {b:List UInt8} (hu:2≤b.length):jH b=rdR ((b.getD 0 default).toNat:Int) ((b.getD 1 default).toNat:Int) (b.drop 2):=by
 unfold jH
 rw[if_neg (by omega)]
theorem YH (b:List UInt8) (hl:b.length≤1000000000) (h:b.length<2):
  aG Tryz.prog 134 [.sl 1 b.length true (aV b)] (.dL [(jH b).1.av,.v (.bool (jH b).2)]) []:=by
 rw[show jH b=(YE,false) by unfold jH;rw[if_pos h]]
 dsimp only[Rc.av,Rc.cs]
 refine K1.E 0x200042020000027fd Tryz.func134 ?_
 repeat' ((conv=>whnf);first|refine K1.w ?_|refine K1.u ?_|refine aN.sO 10 6 rfl ?_|refine aJ.dR ?_|refine K1.o (id:=3) [(0,none),(1,none),(2,none),(3,none),(4,none),(5,none),(6,none),(7,none),(8,none),(9,some []),(10,some [7,6,3,2])] [(3,[2]),(7,[6]),(8,[7,6,3,2]),(9,[]),(10,[7,6,3,2])] ?_|refine K1.z ?_|refine K1.y (fun _=>?_) (fun _=>?_)|fail)
 all_goals(conv=>whnf)
 all_goals exact bG.mk (aT.ig _)
theorem QM (b:List UInt8) (hl:b.length≤1000000000) (hu:2≤b.length) (hk: ¬ (((b.getD 0 default).toNat:Int)=1∨((b.getD 0 default).toNat:Int)=2∨((b.getD 0 default).toNat:Int)=5)∧ ¬ ((b.getD 0 default).toNat:Int)=3∧ ¬ ((b.getD 0 default).toNat:Int)=4∧ ¬ ((b.getD 0 default).toNat:Int)=6):
  aG Tryz.prog 134 [.sl 1 b.length true (aV b)] (.dL [(jH b).1.av,.v (.bool (jH b).2)]) []:=by
 rw[wI hu]
 unfold rdR
 rw[if_neg hk.1,if_neg hk.2.1,if_neg hk.2.2.1,if_neg hk.2.2.2]
 have hf:=Df ((b.getD 0 default).toNat:Int) (by omega)
 dsimp only[Rc.av,Rc.cs]
 refine K1.E 0x200042020000027fd Tryz.func134 ?_
 repeat' ((conv=>whnf);first|refine K1.w ?_|refine K1.u ?_|refine K1.P1 hf rfl ?_|refine aN.sO 10 6 rfl ?_|refine aJ.dR ?_|refine K1.o (id:=3) [(0,none),(1,none),(2,none),(3,none),(4,none),(5,none),(6,none),(7,none),(8,none),(9,some []),(10,some [7,6,3,2])] [(3,[2]),(7,[6]),(8,[7,6,3,2]),(9,[]),(10,[7,6,3,2])] ?_|refine K1.z ?_|refine K1.y (fun _=>?_) (fun _=>?_)|fail)
 all_goals(conv=>whnf)
 all_goals exact bG.mk (aT.ig _)
theorem aaO (b:List UInt8) (hl:b.length≤1000000000) (hu:2≤b.length) (hk:((b.getD 0 default).toNat:Int)=1∨((b.getD 0 default).toNat:Int)=2∨((b.getD 0 default).toNat:Int)=5):
  aG Tryz.prog 134 [.sl 1 b.length true (aV b)] (.dL [(jH b).1.av,.v (.bool (jH b).2)]) []:=by
 rw[wI hu]
 unfold rdR
 rw[if_pos hk]
 unfold OA
 have he:=Gt (n:=b.length-2) (b.drop 2) (bD.drop (bD.bytes b) 2) (by simp) (by simp;omega)
 cases hE:ng (b.drop 2)with
 | none=>
   rw[hE]at he
   dsimp only[Ig]at he
   dsimp only[Rc.av,Rc.cs]
   refine K1.E 0x200042020000027fd Tryz.func134 ?_
   repeat' ((conv=>whnf);first|refine K1.w ?_|refine K1.u ?_|refine K1.P1 (OC _ hk) rfl ?_|refine K1.P1 he rfl ?_|refine aN.sO 10 6 rfl ?_|refine aJ.dR ?_|refine K1.o (id:=3) [(0,none),(1,none),(2,none),(3,none),(4,none),(5,none),(6,none),(7,none),(8,none),(9,some []),(10,some [7,6,3,2])] [(3,[2]),(7,[6]),(8,[7,6,3,2]),(9,[]),(10,[7,6,3,2])] ?_|refine K1.z ?_|refine K1.y (fun _=>?_) (fun _=>?_)|fail)
   all_goals(conv=>whnf)
   all_goals exact bG.mk (aT.ig _)
 | some l=>
   rw[hE]at he
   dsimp only[Ig]at he
   dsimp only[Rc.av,Rc.cs]
   refine K1.E 0x200042020000027fd Tryz.func134 ?_
   repeat' ((conv=>whnf);first|refine K1.w ?_|refine K1.u ?_|refine K1.P1 (OC _ hk) rfl ?_|refine K1.P1 he rfl ?_|refine aN.sO 10 6 rfl ?_|refine aJ.dR ?_|refine K1.o (id:=3) [(0,none),(1,none),(2,none),(3,none),(4,none),(5,none),(6,none),(7,none),(8,none),(9,some []),(10,some [7,6,3,2])] [(3,[2]),(7,[6]),(8,[7,6,3,2]),(9,[]),(10,[7,6,3,2])] ?_|refine K1.z ?_|refine K1.y (fun _=>?_) (fun _=>?_)|fail)
   all_goals(conv=>whnf)
   all_goals exact bG.mk (aj)
theorem aaP (b:List UInt8) (hl:b.length≤1000000000) (hu:2≤b.length) (hk:((b.getD 0 default).toNat:Int)=3):
  aG Tryz.prog 134 [.sl 1 b.length true (aV b)] (.dL [(jH b).1.av,.v (.bool (jH b).2)]) []:=by
 rw[wI hu]
 unfold rdR
 rw[if_neg (by omega),if_pos hk]
 unfold aaM
 cases hE:kS (b.drop 2)with
 | none=>
   have he:=ru (n:=b.length-2) (b.drop 2) hE (bD.drop (bD.bytes b) 2) (by simp)
   dsimp only[Rc.av,Rc.cs]
   refine K1.E 0x200042020000027fd Tryz.func134 ?_
   repeat' ((conv=>whnf);first|refine K1.w ?_|refine K1.u ?_|refine K1.P1 (OD _ hk) rfl ?_|refine K1.P1 he rfl ?_|refine aN.sO 10 6 rfl ?_|refine aJ.dR ?_|refine K1.o (id:=3) [(0,none),(1,none),(2,none),(3,none),(4,none),(5,none),(6,none),(7,none),(8,none),(9,some []),(10,some [7,6,3,2])] [(3,[2]),(7,[6]),(8,[7,6,3,2]),(9,[]),(10,[7,6,3,2])] ?_|refine K1.z ?_|refine K1.y (fun _=>?_) (fun _=>?_)|fail)
   all_goals(conv=>whnf)
   all_goals exact bG.mk (aT.ig _)
 | some p=>
   obtain⟨m,k⟩:=p
   have he:=qZ (n:=b.length-2) (b.drop 2) hE (bD.drop (bD.bytes b) 2) (by simp)
   dsimp only[Rc.av,Rc.cs]
   refine K1.E 0x200042020000027fd Tryz.func134 ?_
   repeat' ((conv=>whnf);first|refine K1.w ?_|refine K1.u ?_|refine K1.P1 (OD _ hk) rfl ?_|refine K1.P1 he rfl ?_|refine aN.sO 10 6 rfl ?_|refine aJ.dR ?_|refine K1.o (id:=3) [(0,none),(1,none),(2,none),(3,none),(4,none),(5,none),(6,none),(7,none),(8,none),(9,some []),(10,some [7,6,3,2])] [(3,[2]),(7,[6]),(8,[7,6,3,2]),(9,[]),(10,[7,6,3,2])] ?_|refine K1.z ?_|refine K1.y (fun _=>?_) (fun _=>?_)|fail)
   all_goals(conv=>whnf)
   all_goals exact bG.mk (aT.ig _)
theorem YI (b:List UInt8) (hl:b.length≤1000000000) (hu:2≤b.length) (hk:((b.getD 0 default).toNat:Int)=4):
  aG Tryz.prog 134 [.sl 1 b.length true (aV b)] (.dL [(jH b).1.av,.v (.bool (jH b).2)]) []:=by
 rw[wI hu]
 unfold rdR
 rw[if_neg (by omega),if_neg (by omega),if_pos hk]
 cases hE:kS (b.drop 2)with
 | none=>
   have he:=ru (n:=b.length-2) (b.drop 2) hE (bD.drop (bD.bytes b) 2) (by simp)
   dsimp only[Rc.av,Rc.cs]
   refine K1.E 0x200042020000027fd Tryz.func134 ?_
   repeat' ((conv=>whnf);first|refine K1.w ?_|refine K1.u ?_|refine K1.P1 (Ce _ hk) rfl ?_|refine K1.P1 he rfl ?_|refine aN.sO 10 6 rfl ?_|refine aJ.dR ?_|refine K1.o (id:=3) [(0,none),(1,none),(2,none),(3,none),(4,none),(5,none),(6,none),(7,none),(8,none),(9,some []),(10,some [7,6,3,2])] [(3,[2]),(7,[6]),(8,[7,6,3,2]),(9,[]),(10,[7,6,3,2])] ?_|refine K1.z ?_|refine K1.y (fun _=>?_) (fun _=>?_)|fail)
   all_goals(conv=>whnf)
   all_goals exact bG.mk (aT.ig _)
 | some p=>
   obtain⟨m,k⟩:=p
   have he:=qZ (n:=b.length-2) (b.drop 2) hE (bD.drop (bD.bytes b) 2) (by simp)
   dsimp only
   have hdl:((b.drop 2).drop k).length≤b.length:=by rw[List.length_drop,List.length_drop];omega
   generalize(b.drop 2).drop k=t at he hdl
   have LC:=Gt t (bD.bytes t) rfl (by omega)
   unfold OA
   cases hL:ng t with
   | none=>
     rw[hL]at LC
     dsimp only[Ig]at LC
     dsimp only[Rc.av,Rc.cs]
     refine K1.E 0x200042020000027fd Tryz.func134 ?_
     repeat' ((conv=>whnf);first|refine K1.w ?_|refine K1.u ?_|refine K1.P1 (Ce _ hk) rfl ?_|refine K1.P1 he rfl ?_|refine K1.P1 LC rfl ?_|refine aN.sO 10 6 rfl ?_|refine aJ.dR ?_|refine K1.o (id:=3) [(0,none),(1,none),(2,none),(3,none),(4,none),(5,none),(6,none),(7,none),(8,none),(9,some []),(10,some [7,6,3,2])] [(3,[2]),(7,[6]),(8,[7,6,3,2]),(9,[]),(10,[7,6,3,2])] ?_|refine K1.z ?_|refine K1.y (fun _=>?_) (fun _=>?_)|fail)
     all_goals(conv=>whnf)
     all_goals exact bG.mk (aT.ig _)
   | some l=>
     rw[hL]at LC
     dsimp only[Ig]at LC
     dsimp only[Rc.av,Rc.cs]
     refine K1.E 0x200042020000027fd Tryz.func134 ?_
     repeat' ((conv=>whnf);first|refine K1.w ?_|refine K1.u ?_|refine K1.P1 (Ce _ hk) rfl ?_|refine K1.P1 he rfl ?_|refine K1.P1 LC rfl ?_|refine aN.sO 10 6 rfl ?_|refine aJ.dR ?_|refine K1.o (id:=3) [(0,none),(1,none),(2,none),(3,none),(4,none),(5,none),(6,none),(7,none),(8,none),(9,some []),(10,some [7,6,3,2])] [(3,[2]),(7,[6]),(8,[7,6,3,2]),(9,[]),(10,[7,6,3,2])] ?_|refine K1.z ?_|refine K1.y (fun _=>?_) (fun _=>?_)|fail)
     all_goals(conv=>whnf)
     all_goals exact bG.mk (aj)
theorem aaQ (b:List UInt8) (hl:b.length≤1000000000) (hu:2≤b.length) (hk:((b.getD 0 default).toNat:Int)=6):
  aG Tryz.prog 134 [.sl 1 b.length true (aV b)] (.dL [(jH b).1.av,.v (.bool (jH b).2)]) []:=by
 rw[wI hu]
 unfold rdR
 rw[if_neg (by omega),if_neg (by omega),if_neg (by omega),if_pos hk]
 cases g0:kS (b.drop 2)with
 | none=>
   have e0:=ru (n:=b.length-2) (b.drop 2) g0 (bD.drop (bD.bytes b) 2) (by simp)
   have hr:zH (b.drop 2)=(⟨0,0,0,0,0⟩,false):=by unfold zH;simp only[g0]
   rw[hr]
   dsimp only[Rc.av,Rc.cs]
   refine K1.E 0x200042020000027fd Tryz.func134 ?_
   repeat' ((conv=>whnf);first|refine K1.w ?_|refine K1.u ?_|refine K1.P1 (tq _ hk) rfl ?_|refine K1.P1 e0 rfl ?_|refine aN.sO 10 6 rfl ?_|refine aJ.dR ?_|refine K1.o (id:=3) [(0,none),(1,none),(2,none),(3,none),(4,none),(5,none),(6,none),(7,none),(8,none),(9,some []),(10,some [7,6,3,2])] [(3,[2]),(7,[6]),(8,[7,6,3,2]),(9,[]),(10,[7,6,3,2])] ?_|refine K1.z ?_|refine K1.y (fun _=>?_) (fun _=>?_)|fail)
   all_goals(conv=>whnf)
   all_goals exact bG.mk (aT.ig _)
 | some p0 =>
   obtain⟨m0,k0⟩:=p0
   have e0:=qZ (n:=b.length-2) (b.drop 2) g0 (bD.drop (bD.bytes b) 2) (by simp)
   cases g1:kS ((b.drop 2).drop k0)with
   | none=>
     have e1:=ru ((b.drop 2).drop k0) g1 (bD.bytes _) rfl
     have hr:zH (b.drop 2)=(⟨m0,0,0,0,0⟩,false):=by unfold zH;simp only[g0,g1]
     rw[hr]
     dsimp only[Rc.av,Rc.cs]
     refine K1.E 0x200042020000027fd Tryz.func134 ?_
     repeat' ((conv=>whnf);first|refine K1.w ?_|refine K1.u ?_|refine K1.P1 (tq _ hk) rfl ?_|refine K1.P1 e0 rfl ?_|refine K1.P1 e1 rfl ?_|refine aN.sO 10 6 rfl ?_|refine aJ.dR ?_|refine K1.o (id:=3) [(0,none),(1,none),(2,none),(3,none),(4,none),(5,none),(6,none),(7,none),(8,none),(9,some []),(10,some [7,6,3,2])] [(3,[2]),(7,[6]),(8,[7,6,3,2]),(9,[]),(10,[7,6,3,2])] ?_|refine K1.z ?_|refine K1.y (fun _=>?_) (fun _=>?_)|fail)
     all_goals(conv=>whnf)
     all_goals exact bG.mk (aT.ig _)
   | some p1=>
     obtain⟨m1,k1⟩:=p1
     have e1:=qZ ((b.drop 2).drop k0) g1 (bD.bytes _) rfl
     cases g2:kS (((b.drop 2).drop k0).drop k1)with
     | none=>
       have e2:=ru (((b.drop 2).drop k0).drop k1) g2 (bD.bytes _) rfl
       have hr:zH (b.drop 2)=(⟨m0,m1,0,0,0⟩,false):=by unfold zH;simp only[g0,g1,g2]
       rw[hr]
       dsimp only[Rc.av,Rc.cs]
       refine K1.E 0x200042020000027fd Tryz.func134 ?_
       repeat' ((conv=>whnf);first|refine K1.w ?_|refine K1.u ?_|refine K1.P1 (tq _ hk) rfl ?_|refine K1.P1 e0 rfl ?_|refine K1.P1 e1 rfl ?_|refine K1.P1 e2 rfl ?_|refine aN.sO 10 6 rfl ?_|refine aJ.dR ?_|refine K1.o (id:=3) [(0,none),(1,none),(2,none),(3,none),(4,none),(5,none),(6,none),(7,none),(8,none),(9,some []),(10,some [7,6,3,2])] [(3,[2]),(7,[6]),(8,[7,6,3,2]),(9,[]),(10,[7,6,3,2])] ?_|refine K1.z ?_|refine K1.y (fun _=>?_) (fun _=>?_)|fail)
       all_goals(conv=>whnf)
       all_goals exact bG.mk (aT.ig _)
     | some p2=>
       obtain⟨m2,k2⟩:=p2
       have e2:=qZ (((b.drop 2).drop k0).drop k1) g2 (bD.bytes _) rfl
       cases g3:kS ((((b.drop 2).drop k0).drop k1).drop k2)with
       | none=>
         have e3:=ru ((((b.drop 2).drop k0).drop k1).drop k2) g3 (bD.bytes _) rfl
         have hr:zH (b.drop 2)=(⟨m0,m1,m2,0,0⟩,false):=by unfold zH;simp only[g0,g1,g2,g3]
         rw[hr]
         dsimp only[Rc.av,Rc.cs]
         refine K1.E 0x200042020000027fd Tryz.func134 ?_
         repeat' ((conv=>whnf);first|refine K1.w ?_|refine K1.u ?_|refine K1.P1 (tq _ hk) rfl ?_|refine K1.P1 e0 rfl ?_|refine K1.P1 e1 rfl ?_|refine K1.P1 e2 rfl ?_|refine K1.P1 e3 rfl ?_|refine aN.sO 10 6 rfl ?_|refine aJ.dR ?_|refine K1.o (id:=3) [(0,none),(1,none),(2,none),(3,none),(4,none),(5,none),(6,none),(7,none),(8,none),(9,some []),(10,some [7,6,3,2])] [(3,[2]),(7,[6]),(8,[7,6,3,2]),(9,[]),(10,[7,6,3,2])] ?_|refine K1.z ?_|refine K1.y (fun _=>?_) (fun _=>?_)|fail)
         all_goals(conv=>whnf)
         all_goals exact bG.mk (aT.ig _)
       | some p3=>
         obtain⟨m3,k3⟩:=p3
         have e3:=qZ ((((b.drop 2).drop k0).drop k1).drop k2) g3 (bD.bytes _) rfl
         cases g4:kS (((((b.drop 2).drop k0).drop k1).drop k2).drop k3)with
         | none=>
           have e4:=ru (((((b.drop 2).drop k0).drop k1).drop k2).drop k3) g4 (bD.bytes _) rfl
           have hr:zH (b.drop 2)=(⟨m0,m1,m2,m3,0⟩,false):=by unfold zH;simp only[g0,g1,g2,g3,g4]
           rw[hr]
           dsimp only[Rc.av,Rc.cs]
           refine K1.E 0x200042020000027fd Tryz.func134 ?_
           repeat' ((conv=>whnf);first|refine K1.w ?_|refine K1.u ?_|refine K1.P1 (tq _ hk) rfl ?_|refine K1.P1 e0 rfl ?_|refine K1.P1 e1 rfl ?_|refine K1.P1 e2 rfl ?_|refine K1.P1 e3 rfl ?_|refine K1.P1 e4 rfl ?_|refine aN.sO 10 6 rfl ?_|refine aJ.dR ?_|refine K1.o (id:=3) [(0,none),(1,none),(2,none),(3,none),(4,none),(5,none),(6,none),(7,none),(8,none),(9,some []),(10,some [7,6,3,2])] [(3,[2]),(7,[6]),(8,[7,6,3,2]),(9,[]),(10,[7,6,3,2])] ?_|refine K1.z ?_|refine K1.y (fun _=>?_) (fun _=>?_)|fail)
           all_goals(conv=>whnf)
           all_goals exact bG.mk (aT.ig _)
         | some p4=>
           obtain⟨m4,k4⟩:=p4
           have e4:=qZ (((((b.drop 2).drop k0).drop k1).drop k2).drop k3) g4 (bD.bytes _) rfl
           have hr:zH (b.drop 2)=(⟨m0,m1,m2,m3,m4⟩,true):=by unfold zH;simp only[g0,g1,g2,g3,g4]
           rw[hr]
           dsimp only[Rc.av,Rc.cs]
           refine K1.E 0x200042020000027fd Tryz.func134 ?_
           repeat' ((conv=>whnf);first|refine K1.w ?_|refine K1.u ?_|refine K1.P1 (tq _ hk) rfl ?_|refine K1.P1 e0 rfl ?_|refine K1.P1 e1 rfl ?_|refine K1.P1 e2 rfl ?_|refine K1.P1 e3 rfl ?_|refine K1.P1 e4 rfl ?_|refine aN.sO 10 6 rfl ?_|refine aJ.dR ?_|refine K1.o (id:=3) [(0,none),(1,none),(2,none),(3,none),(4,none),(5,none),(6,none),(7,none),(8,none),(9,some []),(10,some [7,6,3,2])] [(3,[2]),(7,[6]),(8,[7,6,3,2]),(9,[]),(10,[7,6,3,2])] ?_|refine K1.z ?_|refine K1.y (fun _=>?_) (fun _=>?_)|fail)
           all_goals(conv=>whnf)
           all_goals exact bG.mk (aT.ig _)
theorem QN {n:Nat} {F:Nat→List AV} (b:List UInt8) (hF:bD F b) (hn:n=b.length) (hl:b.length≤1000000000):aG Tryz.prog 134 [.sl 1 n true F] (.dL [(jH b).1.av,.v (.bool (jH b).2)]) []:=by
 refine aG.args ?_ (Ch.pF hF hn .nil)
 by_cases h:b.length<2
 · exact YH b hl h
 · have hu:2≤b.length:=by omega
   by_cases h1:((b.getD 0 default).toNat:Int)=1∨((b.getD 0 default).toNat:Int)=2∨((b.getD 0 default).toNat:Int)=5
   · exact aaO b hl hu h1
   · by_cases h2:((b.getD 0 default).toNat:Int)=3
     · exact aaP b hl hu h2
     · by_cases h3:((b.getD 0 default).toNat:Int)=4
       · exact YI b hl hu h3
       · by_cases h4:((b.getD 0 default).toNat:Int)=6
         · exact aaQ b hl hu h4
         · exact QM b hl hu ⟨h1,h2,h3,h4⟩
end
section
open Go.RowKit
def kQ (K:AS→Prop):jE→AS→Prop:=fun e st=>match e with| .normal=>K st|_=>False
structure aeA (P:Program) (L:Lay) (W:Walk) (N lv:Nat) (t:Operand) (x0 x1 y0 y1 z:Code) (Q:jE→AS→Prop) (K:AS→Prop) (st:AS):Prop where
 h : kG P L W N lv x0 (kQ fun st=>kG P L W N lv x1 (kQ fun st=>match st.ev t with
   | .v (.bool b)=>(match b with
     |true=>kG P L W N lv y0 (kQ fun st=>kG P L W N lv y1 (kQ K) st) st
     |false=>kG P L W N lv z Q st)
   |_=>False) st) st
inductive YJ (P:Program) (L:Lay) (W:Walk) (N lv:Nat) (t:Operand) (x0 x1 y0 y1 z:Code) (Q:jE→AS→Prop) (st:AS):Prop where
  | mk (X:Type) (S:X→AS) (m:X→Nat) (i0:X) (σ:List (Nat×Nat)) (h0:dO σ st (S i0))
    (hb: ∀i,kG P L W N lv x0 (kQ fun st=>kG P L W N lv x1 (kQ fun st=>match st.ev t with
    | .v (.bool b)=>(match b with
      |true=>kG P L W N lv y0 (kQ fun st=>kG P L W N lv y1 (kQ fun st=> ∃j σ,dO σ st (S j)∧m j<m i) st) st
      |false=>kG P L W N lv z Q st)
    |_=>False) st) (S i)):YJ P L W N lv t x0 x1 y0 y1 z Q st
section
variable {P:Program} {L:Lay} {g:Base} {N:Nat} {bs:List (Array Value)} {ρ:Nat→Value} {a:Act} {w:World} {st:AS}
theorem YK (hL:bQ P L) {f:FuncId} {fn:Func} {c:Code} {cu:List AV} {r:AV} {hh:List (Nat×AO)} (hf:P.funcs[f]? =some fn) (hn:(fn.name== "runtime.NumGoroutine")=false) (hb:fn.body=some c) (hsz:Nat.ble cu.length fn.ntmps=true)
  (h: ∀ (g:Base) (E:Exit→Act→World→Prop) {ρ:Nat→Value} {a:Act} {w:World},qOf g fn.ntmps [] (MK L fn r hh) E→Rel g fn.ntmps [] ρ a w (start cu)→c.wp P E a w):aG P f cu r hh:=by
 refine⟨⟨fn,c,hf,hn,hb⟩,fun w keep args hkeep hargs=>?_⟩
 have hsz:=Nat.le_of_ble_eq_true hsz
 have hlen:args.length=cu.length:=hargs.1.symm
 refine calls_of_wp hf hb ?_
 let g:Base:=base0 w keep
 have yS:aF (C2 (aB g w (fun _=>undef) [])) cu args:=hargs.imp fun _ _ h=>C2.jL (C1.same (X:=⟨w,keep,fun _=>undef⟩) (Y:=aB g w (fun _=>undef) []) (fun b hb=>⟨hkeep b hb,fun _=> .inl hb,by simp[ah]⟩) (fun _ _=>rfl) rfl h)
 have R0:Rel g fn.ntmps [] (fun _=>undef) {tmps:=args.toArray++Array.replicate (fn.ntmps-args.toArray.size) undef,defers:=[]} w (start cu):=
  ⟨by simp;omega,rfl,eF.refl _ _ _,oJ yS hsz,(fun p hp=>by cases hp),by simp[start,ah],(fun b hb=>by simp[start,ah]at hb),trivial⟩
 have fin: ∀ (e:Exit),(e= .normal∨e= .ret)→ ∀ρ a w' st,Rel g fn.ntmps [] ρ a w' st→l9 L st fn.results.toList (fun x=>aJ st x r hh)→
   bodyPost P fn (fun e w'=> ∃u ρ,e= .returned u∧Below w.heap.size w w'∧C2 (aB (base0 w keep) w' ρ hh) r u∧(∀p∈hh,aZ (aB (base0 w keep) w' ρ hh) p.1 p.2)∧(ah ρ hh).Nodup∧ ∀b∈ah ρ hh,w.heap.size≤b) e a w':=by
  intro e he ρ a w' st R hq
  obtain⟨x,u,hret,hc,hrun⟩:=Ag hL R hq
  have post:a.defers=[]∧ ∃v,(results fn a.tmps).run P w'= .ok v w'∧ ∃u ρ,Ending.returned v= .returned u∧Below w.heap.size w w'∧C2 (aB (base0 w keep) w' ρ hh) r u∧(∀p∈hh,aZ (aB (base0 w keep) w' ρ hh) p.1 p.2)∧(ah ρ hh).Nodup∧ ∀b∈ah ρ hh,w.heap.size≤b:=by
   have hbel:Below w.heap.size w w':=R.below.less fun _ h=>h
   have hlt': ∀ {b:Nat},b∈ah ρ st.heap→g.w.heap.size≤b:=fun{b} h=>(R.own b h).elim id False.elim
   refine⟨R.defers,u,hrun, ?_⟩
   cases hret with
   | plain _ hr=>
     let k:Nat→Prop:=aI g w' (fun _=>undef) []
     have hk: ∀b,aI g w' ρ st.heap b→k b:=fun b h=>⟨h.1,h.2.1,by simp[ah]⟩
     have rd: ∀y,Reads st ρ w' k y:=fun y id e s n sc f _ hf=>kU R hf hk fun b hb=>by
      have hin:=aO.2 ⟨_,au hf,hb⟩
      have:=R.gI hin
      exact⟨this.1,fun hlt=>absurd hlt (by have:=hlt' hin;omega),by simp[ah]⟩
     refine⟨u,fun _=>undef,rfl,hbel,hr _ _ ?_,(fun p hp=>by cases hp),by simp[ah],(fun b hb=>by simp[ah]at hb)⟩
     cases x with
     | dL vs=>
       obtain⟨us,rfl,ha⟩:=C2.tN hc
       exact⟨us,rfl,ha.l7 fun y v hy=>xG hk rd (C2.jL hy)⟩
     |_=>exact C2.jL (xG hk rd hc)
   | nil d e s f hx hs=>
     subst hx
     obtain rfl:=C2.dK hc
     have hb:ah (fun _:Nat=>Value.slice none 0 0) [(d,AO.row e s 0 true f)]=[]:=rfl
     refine⟨.slice none 0 0,fun _=> .slice none 0 0,rfl,hbel,rfl,fun p hp=>?_,by rw[hb];exact List.nodup_nil,fun b hb'=>by rw[hb]at hb';cases hb'⟩
     obtain rfl:=List.mem_singleton.1 hp
     exact⟨[],World.ownsRow_nil w' _ e s,hs,fun i hi=>absurd hi (by omega),(fun _ x hx=>by cases hx),aF.nil⟩
   | own id d _ e s n sc f o' hfo ho hr=>
     have hin:=au hfo
     let ρ':Nat→Value:=fun i=>if i=d then ρ id else undef
     have vM:ρ' d=ρ id:=by simp[ρ']
     have hbl: ∀o'':AO,ah ρ' [(d,o'')]=blks (ρ id):=by intro o'';rw[aU];simp[ρ',ah]
     let k:Nat→Prop:=aI g w' ρ' [(d,o')]
     have hk: ∀b,aI g w' ρ st.heap b→k b:=fun b h=>⟨h.1,h.2.1,fun hb=>h.2.2 (by
      rw[hbl]at hb
      exact aO.2 ⟨_,hin,hb⟩)⟩
     have rd: ∀i,i≠id→Reads st ρ w' k (.own i):=fun i hi j e s n sc f hij hf=>kU R hf hk fun b hb=>by
      cases hij
      have hin0:=aO.2 ⟨_,au hf,hb⟩
      have:=R.gI hin0
      refine⟨this.1,fun hlt=>absurd hlt (by have:=hlt' hin0;omega),fun hin'=>?_⟩
      rw[hbl]at hin'
      exact hi (fF R.apart _ (au hf) _ hin hb hin')
     refine⟨u,ρ',rfl,hbel,hr _ _ ?_, ?_, ?_, ?_⟩
     · cases x with
       | dL vs=>
         obtain⟨us,rfl,ha⟩:=C2.tN hc
         exact⟨us,rfl,ha.l7 fun y v hy=>lN hk vM rd (C2.jL hy)⟩
       |agg cs=>exact C2.jL (lN hk vM rd hc)
       |v y=>exact hc
       |own i=>exact C2.jL (lN hk vM rd (x:= .own i) hc)
       |sl s n sc f=>exact C2.jL (lN hk vM rd (x:= .sl s n sc f) hc)
       |_=>trivial
     · intro p hp
       simp only[List.mem_singleton]at hp
       subst hp
       refine ho _ _ ?_
       obtain⟨us,hown,hs,hfl,hsc,ha⟩:=R.objs _ hin
       exact⟨us,by simpa[aB,vM]using hown,hs,hfl,hsc,ha.imp fun _ _=>PC.mono hk (fun _ _=>rfl)⟩
     · rw[hbl]
       exact jP R.apart hin
     · intro b hb
       rw[hbl]at hb
       exact hlt' (aO.2 ⟨_,hin,hb⟩)
  rcases he with rfl|rfl
  · exact post
  · exact post
 exact h g _ ⟨fun ρ a w' st R h=>fin _ (.inl rfl) ρ a w' st R h,fun i ρ a w' st R h=>h.elim,fun ρ a w' st R h=>fin _ (.inr rfl) ρ a w' st R h⟩ R0
theorem zx (hL:bQ P L) {W:Walk} (hW:Hz P W) {lv:Nat} {p next:Code} {K:AS→Prop} {E:Exit→Act→World→Prop} (R:Rel g N bs ρ a w st) (h:kG P L W N lv p (kQ K) st)
  (hk: ∀ρ a w st,Rel g N bs ρ a w st→K st→next.wp P E a w):(Code.seq p next).wp P E a w:=
 wp_seq (mP hL hW lv p (Q:=kQ K) (E:=Exit.then (next.wp P E) E) ⟨fun ρ a w st R h=>hk ρ a w st R h,fun _ _ _ _ _ _ h=>h.elim,fun _ _ _ _ _ h=>h.elim⟩ R h)
def JN (P:Program) (L:Lay) (W:Walk) (g:Base) (N lv:Nat) (bs:List (Array Value)) (t:Operand) (x0 x1 y0 y1 z:Code) (Q:jE→AS→Prop) (a:Act) (w:World) (n:Nat):Prop:=
 ∃ (X:Type) (S:X→AS) (m:X→Nat) (i:X) (ρ:Nat→Value),(∀i,kG P L W N lv x0 (kQ fun st=>kG P L W N lv x1 (kQ fun st=>match st.ev t with
   | .v (.bool b)=>(match b with
     |true=>kG P L W N lv y0 (kQ fun st=>kG P L W N lv y1 (kQ fun st=> ∃j σ,dO σ st (S j)∧m j<m i) st) st
     |false=>kG P L W N lv z Q st)
   |_=>False) st) (S i))∧Rel g N bs ρ a w (S i)∧m i=n
theorem QO (hL:bQ P L) (lv:Nat) {f:FuncId} {fn:Func} {p0 p1 p2 x0 x1 y0 y1 z:Code} {t:Operand} {l:Nat} {cu:List AV} {r:AV} {hh:List (Nat×AO)} (hf:P.funcs[f]? =some fn) (hn:(fn.name== "runtime.NumGoroutine")=false)
  (hb:fn.body=some (.seq p0 (.scope (.seq p1 (.seq p2 (.seq (.label l) (.seq (.seq x0 (.seq x1 (.cond t (.seq y0 (.seq y1 (.goto l))) .skip))) z))))))) (hsz:Nat.ble cu.length fn.ntmps=true)
  (hl:findLabel (.seq p1 (.seq p2 (.seq (.label l) (.seq (.seq x0 (.seq x1 (.cond t (.seq y0 (.seq y1 (.goto l))) .skip))) z)))) l=some (.seq .skip (.seq (.seq x0 (.seq x1 (.cond t (.seq y0 (.seq y1 (.goto l))) .skip))) z)))
  (h:kG P L (yC P L 8) fn.ntmps lv p0 (kQ fun st=>kG P L (yC P L 8) fn.ntmps lv p1 (kQ fun st=>kG P L (yC P L 8) fn.ntmps lv p2 (kQ fun st=>YJ P L (yC P L 8) fn.ntmps lv t x0 x1 y0 y1 z (MK L fn r hh) st) st) st) (start cu)):aG P f cu r hh:=by
 refine YK hL hf hn hb hsz fun g E ρ a w hq R=>?_
 have hW:=fM hL 8
 let J:Act→World→Nat→Prop:=JN P L (yC P L 8) g fn.ntmps lv [] t x0 x1 y0 y1 z (MK L fn r hh)
 refine zx hL hW R h fun ρ a w st R h=>?_
 refine wp_scope_jumps l (fun a w=> ∃n,J a w n) (fun a w=>least (J a w)) hl ?_ ?_
 all_goals
  have body: ∀ (J':Act→World→Prop) (X:Type) (S:X→AS) (m:X→Nat) (i:X) (ρ:Nat→Value) (a:Act) (w:World),(∀a w n,n<m i→J a w n→J' a w)→(∀i,kG P L (yC P L 8) fn.ntmps lv x0 (kQ fun st=>kG P L (yC P L 8) fn.ntmps lv x1 (kQ fun st=>match st.ev t with
      | .v (.bool b)=>(match b with
        |true=>kG P L (yC P L 8) fn.ntmps lv y0 (kQ fun st=>kG P L (yC P L 8) fn.ntmps lv y1 (kQ fun st=> ∃j σ,dO σ st (S j)∧m j<m i) st) st
        |false=>kG P L (yC P L 8) fn.ntmps lv z (MK L fn r hh) st)
      |_=>False) st) (S i))→Rel g fn.ntmps [] ρ a w (S i)→(Code.seq (.seq x0 (.seq x1 (.cond t (.seq y0 (.seq y1 (.goto l))) .skip))) z).wp P (Exit.jump l J' E) a w:=by
   intro J' X S m i ρ a w hJ hb R
   refine wp_seq ?_
   refine zx hL hW R (hb i) fun ρ a w st R h=>?_
   refine zx hL hW R h fun ρ a w st R h=>?_
   split at h
   · rename_i b et
     have hc:=R.ev t
     rw[et]at hc
     have hc:=C2.dK hc
     cases b with
     | true=>
       refine wp_cond_true hc ?_
       refine zx hL hW R h fun ρ a w st R h=>?_
       refine zx hL hW R h fun ρ a w st R h=>?_
       obtain⟨j,σ,hle,hlt⟩:=h
       obtain⟨ρ',R'⟩:=R.Nq hle
       exact wp_goto ⟨rfl,hJ a w (m j) hlt ⟨X,S,m,j,ρ',hb,R',rfl⟩⟩
     | false=>
       refine wp_cond_false hc (wp_skip ?_)
       exact mP hL hW lv z (Q:=MK L fn r hh) (E:=Exit.jump l J' E) ⟨fun ρ a w st R h=>hq.1 ρ a w st R h,fun i ρ a w st R h=>hq.2.1 i ρ a w st R h,fun ρ a w st R h=>hq.2.2 ρ a w st R h⟩ R h
   · exact h.elim
 · refine zx hL hW R h fun ρ a w st R h=>?_
   refine zx hL hW R h fun ρ a w st R h=>?_
   refine wp_seq (wp_label ?_)
   cases h with
   | mk X S m i0 σ h0 hb=>
     obtain⟨ρ',R'⟩:=R.Nq h0
     exact body _ X S m i0 ρ' a w (fun a w n _ hj=>⟨n,hj⟩) hb R'
 · intro a w hJ
   obtain⟨X,S,m,i,ρ,hb,R,hm⟩:=EZ hJ
   refine wp_seq (wp_skip ?_)
   refine body _ X S m i ρ a w (fun a' w' n hlt hj=>⟨⟨n,hj⟩, ?_⟩) hb R
   have:=least_le hj
   show least (J a' w')<least (J a w)
   omega
end
end
end Go.Proofs.YtimhagicagdkfaaGreat
