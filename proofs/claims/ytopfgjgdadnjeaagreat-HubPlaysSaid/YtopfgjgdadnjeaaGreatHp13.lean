/-
  Contracts of the walk:HbE,HbF,HbG,HbH,HbI,HbL,HbS,HbO,HbK,HbM.
-/
import Derived.Test.YtopfgjgdadnjeaaGreatHp12
import Derived.Test.YtopfgjgdadnjeaaGreatHp11
import Derived.Test.YtopfgjgdadnjeaaGreatHp8
set_option maxHeartbeats 16000000
set_option maxRecDepth 100000
set_option linter.unusedVariables false
set_option linter.unusedSimpArgs false
namespace Go.Proofs.YtopfgjgdadnjeaaGreat
open Go.RowKit
variable{r:AV}{f:FuncId}{most:Int}{ho:List (Nat×AO)}{bD:List AV}{a b c l:List Ev}{n n1 n2:Nat}{s:jI}
instance:Inhabited dD:=⟨⟨0,0,0,0,0⟩⟩
def jM(c:dD):List AV:=[.v (.int .i64 c.c0),.v (.int .i64 c.c1),.v (.int .i64 c.c2),.v (.int .i64 c.c3),.v (.int .i64 c.c4)]
abbrev clF(l:List dD):Nat->List AV:=qP jM l
structure Pt where
 (sh:List jI)(told:List dD)
def ptrs:Nat->List jI->List AV
 |_,[]=>[]
 |i,_::l=> .box i 0::ptrs (i+1) l
def PD(most:Int):Nat->List jI->List (Nat×AO)
 |_,[]=>[]
 |i,s::l=>(i,.obs (AA most s))::PD most (i+1) l
def Q7:AO:= .box 112 [.own 10,.own 11]
def tJ(l:List dD):AO:= .row 36 5 l.length true (clF l)
def o9(most:Int)(p:Pt)(_:Unit):List (Nat×AO):=(0,Q7)::(10,.rn (108:Nat) (ptrs 20 p.sh))::(11,tJ p.told)::PD most 20 p.sh
def wO(most:Int)(p:Pt):OB:=OB.pack (o9 most p)
theorem MX(most:Int)(p:Pt):Closes (o9 most p ()) 0 (wO most p):=Closes.pack (o9 most p) () rfl λ _ hok=>wK (hok _ List.mem_cons_self)
def vG(n:Nat):Pt:=⟨List.replicate n ⟨0,[]⟩,List.replicate n aJ⟩
theorem AL{m:Nat}(h:m<n):clF (List.replicate n aJ) m=jM aJ:=by
 show jM ((List.replicate n aJ).getD m default)=_;rw[List.getD_eq_getElem?_getD,List.getElem?_replicate,if_pos h];rfl
theorem Xh(w q h l p:Int):au Tryz.prog 42 [] [.agg [.v (.int .i64 1),.v (.int .i64 w),.v (.int .i64 q),.v (.int .i64 h),.v (.int .i64 l),.v (.int .i64 p)]] (.box 0 0) (o9 w (vG 1) ()):=by
 dsimp only[o9,vG,List.replicate,Q7,tJ,ptrs,PD];refine K1.M 0xe01f Tryz.func42 40 ?_;repeat' ((conv=>whnf);first|refine K1.u ?_|refine K1.C 0 [] (wL _) rfl ?_|refine Vd.full (by decide) rfl (by decide) (by decide) ?_|refine aK.jA 14 6 rfl ?_|refine K1.o (id:=5) (nN [0,1,2,3,4,5,6] ((7,some [6])::(8,some [6])::(9,some [6,4,2])::nN [10,11] [(12,some [6,4,2,10])])) ?_|refine K1.z ?_|refine K1.y (λ _=>?_) (λ _=>?_)|fail)
 all_goals(conv=>whnf)
 exact⟨[(42,0),(45,10),(41,11),(43,20)],rfl,rfl,⟨aY rfl,aY rfl,⟨_,rfl,fP.row rfl (λ m hm=>(AL (n:=1) hm).symm)⟩,aY rfl,trivial⟩,rfl,rfl,aP⟩
theorem Xi(w q h l p:Int):au Tryz.prog 42 [] [.agg [.v (.int .i64 2),.v (.int .i64 w),.v (.int .i64 q),.v (.int .i64 h),.v (.int .i64 l),.v (.int .i64 p)]] (.box 0 0) (o9 w (vG 2) ()):=by
 dsimp only[o9,vG,List.replicate,Q7,tJ,ptrs,PD];refine K1.M 0xe01f Tryz.func42 40 ?_;repeat' ((conv=>whnf);first|refine K1.u ?_|refine K1.C 0 [] (wL _) rfl ?_|refine Vd.full (by decide) rfl (by decide) (by decide) ?_|refine aK.jA 14 6 rfl ?_|refine K1.o (id:=5) (nN [0,1,2,3,4,5,6] ((7,some [6])::(8,some [6])::(9,some [6,4,2])::nN [10,11] [(12,some [6,4,2,10])])) ?_|refine K1.z ?_|refine K1.y (λ _=>?_) (λ _=>?_)|fail)
 all_goals(conv=>whnf)
 exact⟨[(42,0),(48,10),(41,11),(43,20),(46,21)],rfl,rfl,⟨aY rfl,aY rfl,⟨_,rfl,fP.row rfl (λ m hm=>(AL (n:=2) hm).symm)⟩,aY rfl,aY rfl,trivial⟩,rfl,rfl,aP⟩
theorem Xj(w q h l p:Int):au Tryz.prog 42 [] [.agg [.v (.int .i64 3),.v (.int .i64 w),.v (.int .i64 q),.v (.int .i64 h),.v (.int .i64 l),.v (.int .i64 p)]] (.box 0 0) (o9 w (vG 3) ()):=by
 dsimp only[o9,vG,List.replicate,Q7,tJ,ptrs,PD];refine K1.M 0xe01f Tryz.func42 40 ?_;repeat' ((conv=>whnf);first|refine K1.u ?_|refine K1.C 0 [] (wL _) rfl ?_|refine Vd.full (by decide) rfl (by decide) (by decide) ?_|refine aK.jA 14 6 rfl ?_|refine K1.o (id:=5) (nN [0,1,2,3,4,5,6] ((7,some [6])::(8,some [6])::(9,some [6,4,2])::nN [10,11] [(12,some [6,4,2,10])])) ?_|refine K1.z ?_|refine K1.y (λ _=>?_) (λ _=>?_)|fail)
 all_goals(conv=>whnf)
 exact⟨[(42,0),(51,10),(41,11),(43,20),(46,21),(49,22)],rfl,rfl,⟨aY rfl,aY rfl,⟨_,rfl,fP.row rfl (λ m hm=>(AL (n:=3) hm).symm)⟩,aY rfl,aY rfl,aY rfl,trivial⟩,rfl,rfl,aP⟩
theorem Xk(w q h l p:Int):au Tryz.prog 42 [] [.agg [.v (.int .i64 4),.v (.int .i64 w),.v (.int .i64 q),.v (.int .i64 h),.v (.int .i64 l),.v (.int .i64 p)]] (.box 0 0) (o9 w (vG 4) ()):=by
 dsimp only[o9,vG,List.replicate,Q7,tJ,ptrs,PD];refine K1.M 0xe01f Tryz.func42 40 ?_;repeat' ((conv=>whnf);first|refine K1.u ?_|refine K1.C 0 [] (wL _) rfl ?_|refine Vd.full (by decide) rfl (by decide) (by decide) ?_|refine aK.jA 14 6 rfl ?_|refine K1.o (id:=5) (nN [0,1,2,3,4,5,6] ((7,some [6])::(8,some [6])::(9,some [6,4,2])::nN [10,11] [(12,some [6,4,2,10])])) ?_|refine K1.z ?_|refine K1.y (λ _=>?_) (λ _=>?_)|fail)
 all_goals(conv=>whnf)
 exact⟨[(42,0),(54,10),(41,11),(43,20),(46,21),(49,22),(52,23)],rfl,rfl,⟨aY rfl,aY rfl,⟨_,rfl,fP.row rfl (λ m hm=>(AL (n:=4) hm).symm)⟩,aY rfl,aY rfl,aY rfl,aY rfl,trivial⟩,rfl,rfl,aP⟩
theorem Xl(w q h l p:Int):au Tryz.prog 42 [] [.agg [.v (.int .i64 5),.v (.int .i64 w),.v (.int .i64 q),.v (.int .i64 h),.v (.int .i64 l),.v (.int .i64 p)]] (.box 0 0) (o9 w (vG 5) ()):=by
 dsimp only[o9,vG,List.replicate,Q7,tJ,ptrs,PD];refine K1.M 0xe01f Tryz.func42 40 ?_;repeat' ((conv=>whnf);first|refine K1.u ?_|refine K1.C 0 [] (wL _) rfl ?_|refine Vd.full (by decide) rfl (by decide) (by decide) ?_|refine aK.jA 14 6 rfl ?_|refine K1.o (id:=5) (nN [0,1,2,3,4,5,6] ((7,some [6])::(8,some [6])::(9,some [6,4,2])::nN [10,11] [(12,some [6,4,2,10])])) ?_|refine K1.z ?_|refine K1.y (λ _=>?_) (λ _=>?_)|fail)
 all_goals(conv=>whnf)
 exact⟨[(42,0),(57,10),(41,11),(43,20),(46,21),(49,22),(52,23),(55,24)],rfl,rfl,⟨aY rfl,aY rfl,⟨_,rfl,fP.row rfl (λ m hm=>(AL (n:=5) hm).symm)⟩,aY rfl,aY rfl,aY rfl,aY rfl,aY rfl,trivial⟩,rfl,rfl,aP⟩
theorem MZ(c:jv)(n:Nat)(hn:c.n=(n:Int))(h1:1<=n)(h5:n<=5):au Tryz.prog 42 [] [c.av] (.box 0 0) [(0,.obs (wO c.w (vG n)))]:=by
 refine au.cls (hs':=o9 c.w (vG n) ()) (ho:=[]) (MX _ _) ?_ rfl;obtain⟨cn,w,q,h,l,p⟩:=c;dsimp only at hn⊢;subst hn;rw[List.append_nil];rcases(show n=1\/n=2\/n=3\/n=4\/n=5 by omega)with rfl|rfl|rfl|rfl|rfl
 ·exact Xh w q h l p
 ·exact Xi w q h l p
 ·exact Xj w q h l p
 ·exact Xk w q h l p
 ·exact Xl w q h l p
structure iY(s:jI):Prop where
 b0:0<=s.base
 ln:s.base+(s.kept.length:Int)<=1048576
theorem iY.b1(h:iY s):s.base<=1000000000000:=by have:=h.b0;have:=h.ln;omega
theorem iY.k(h:iY s):s.kept.length<=1048576:=by have:=h.b0;have:=h.ln;omega
structure oV(p:Pt):Prop where
 h1:1<=p.sh.length
 h5:p.sh.length<=5
 t:p.told.length=p.sh.length
 s:∀s∈p.sh,iY s
def nums(l:List Int):List AV:=[.v (.int .i64 (l.getD 0 0)),.v (.int .i64 (l.getD 1 0)),.v (.int .i64 (l.getD 2 0)),.v (.int .i64 (l.getD 3 0)),.v (.int .i64 (l.getD 4 0))]
def Pt.site(p:Pt):List AV:= .v (.bool true)::(nums (p.sh.map jI.base)++(nums (p.sh.map jI.len)++(jM (p.told.getD 0 aJ)++(jM (p.told.getD 1 aJ)++(jM (p.told.getD 2 aJ)++(jM (p.told.getD 3 aJ)++jM (p.told.getD 4 aJ)))))))
theorem FN{p p':Pt}(hE:Enters Tryz.prog f)(h:au Tryz.prog f (o9 most p ()) bD r (o9 most p' ()++ho))
  (hb:(bD.all (rD (λ _=>false) 0)&&nJ (λ i=>bW i ho) 0 r&&iF ho ho&& !(bW 0 ho))=true):au Tryz.prog f [(0,.obs (wO most p))] bD r ((0,.obs (wO most p'))::ho):=
 au.opn hE (Opens.pack (o9 most p)) (λ _=>⟨_,MX most p',rfl,rfl,h⟩) hb
theorem Pt.cases{C:Pt->Prop}(p:Pt)(hp:oV p)(h1:∀s0 t0,iY s0->C ⟨[s0],[t0]⟩)(h2:∀s0 s1 t0 t1,iY s0->iY s1->C ⟨[s0,s1],[t0,t1]⟩)
  (h3:∀s0 s1 s2 t0 t1 t2,iY s0->iY s1->iY s2->C ⟨[s0,s1,s2],[t0,t1,t2]⟩)(h4:∀s0 s1 s2 s3 t0 t1 t2 t3,iY s0->iY s1->iY s2->iY s3->C ⟨[s0,s1,s2,s3],[t0,t1,t2,t3]⟩)
  (h5:∀s0 s1 s2 s3 s4 t0 t1 t2 t3 t4,iY s0->iY s1->iY s2->iY s3->iY s4->C ⟨[s0,s1,s2,s3,s4],[t0,t1,t2,t3,t4]⟩):C p:=by
 obtain⟨sh,told⟩:=p;obtain⟨a1,a5,at',as'⟩:=hp;dsimp only at a1 a5 at' as';rcases sh with _|⟨s0,_|⟨s1,_|⟨s2,_|⟨s3,_|⟨s4,_|⟨s5,sh⟩⟩⟩⟩⟩⟩
 ·simp at a1
 ·rcases told with _|⟨t0,_|⟨t1,told⟩⟩
  ·simp at at'
  ·exact h1 s0 t0 (as' _ (by simp))
  ·simp at at'
 ·rcases told with _|⟨t0,_|⟨t1,_|⟨t2,told⟩⟩⟩
  ·simp at at'
  ·simp at at'
  ·exact h2 s0 s1 t0 t1 (as' _ (by simp)) (as' _ (by simp))
  ·simp at at'
 ·rcases told with _|⟨t0,_|⟨t1,_|⟨t2,_|⟨t3,told⟩⟩⟩⟩
  ·simp at at'
  ·simp at at'
  ·simp at at'
  ·exact h3 s0 s1 s2 t0 t1 t2 (as' _ (by simp)) (as' _ (by simp)) (as' _ (by simp))
  ·simp at at'
 ·rcases told with _|⟨t0,_|⟨t1,_|⟨t2,_|⟨t3,_|⟨t4,told⟩⟩⟩⟩⟩
  ·simp at at'
  ·simp at at'
  ·simp at at'
  ·simp at at'
  ·exact h4 s0 s1 s2 s3 t0 t1 t2 t3 (as' _ (by simp)) (as' _ (by simp)) (as' _ (by simp)) (as' _ (by simp))
  ·simp at at'
 ·rcases told with _|⟨t0,_|⟨t1,_|⟨t2,_|⟨t3,_|⟨t4,_|⟨t5,told⟩⟩⟩⟩⟩⟩
  ·simp at at'
  ·simp at at'
  ·simp at at'
  ·simp at at'
  ·simp at at'
  ·exact h5 s0 s1 s2 s3 s4 t0 t1 t2 t3 t4 (as' _ (by simp)) (as' _ (by simp)) (as' _ (by simp)) (as' _ (by simp)) (as' _ (by simp))
  ·simp at at'
 ·simp at a5
instance:Inhabited jI:=⟨⟨0,[]⟩⟩
theorem Pt.FP{C:Pt->Nat->Prop}(p:Pt)(r:Nat)(hp:oV p)(hr:r<p.sh.length)
  (h10:∀s0 t0,iY s0->C ⟨[s0],[t0]⟩ 0)
  (h20:∀s0 s1 t0 t1,iY s0->iY s1->C ⟨[s0,s1],[t0,t1]⟩ 0)
  (h21:∀s0 s1 t0 t1,iY s0->iY s1->C ⟨[s0,s1],[t0,t1]⟩ 1)
  (h30:∀s0 s1 s2 t0 t1 t2,iY s0->iY s1->iY s2->C ⟨[s0,s1,s2],[t0,t1,t2]⟩ 0)
  (h31:∀s0 s1 s2 t0 t1 t2,iY s0->iY s1->iY s2->C ⟨[s0,s1,s2],[t0,t1,t2]⟩ 1)
  (h32:∀s0 s1 s2 t0 t1 t2,iY s0->iY s1->iY s2->C ⟨[s0,s1,s2],[t0,t1,t2]⟩ 2)
  (h40:∀s0 s1 s2 s3 t0 t1 t2 t3,iY s0->iY s1->iY s2->iY s3->C ⟨[s0,s1,s2,s3],[t0,t1,t2,t3]⟩ 0)
  (h41:∀s0 s1 s2 s3 t0 t1 t2 t3,iY s0->iY s1->iY s2->iY s3->C ⟨[s0,s1,s2,s3],[t0,t1,t2,t3]⟩ 1)
  (h42:∀s0 s1 s2 s3 t0 t1 t2 t3,iY s0->iY s1->iY s2->iY s3->C ⟨[s0,s1,s2,s3],[t0,t1,t2,t3]⟩ 2)
  (h43:∀s0 s1 s2 s3 t0 t1 t2 t3,iY s0->iY s1->iY s2->iY s3->C ⟨[s0,s1,s2,s3],[t0,t1,t2,t3]⟩ 3)
  (h50:∀s0 s1 s2 s3 s4 t0 t1 t2 t3 t4,iY s0->iY s1->iY s2->iY s3->iY s4->C ⟨[s0,s1,s2,s3,s4],[t0,t1,t2,t3,t4]⟩ 0)
  (h51:∀s0 s1 s2 s3 s4 t0 t1 t2 t3 t4,iY s0->iY s1->iY s2->iY s3->iY s4->C ⟨[s0,s1,s2,s3,s4],[t0,t1,t2,t3,t4]⟩ 1)
  (h52:∀s0 s1 s2 s3 s4 t0 t1 t2 t3 t4,iY s0->iY s1->iY s2->iY s3->iY s4->C ⟨[s0,s1,s2,s3,s4],[t0,t1,t2,t3,t4]⟩ 2)
  (h53:∀s0 s1 s2 s3 s4 t0 t1 t2 t3 t4,iY s0->iY s1->iY s2->iY s3->iY s4->C ⟨[s0,s1,s2,s3,s4],[t0,t1,t2,t3,t4]⟩ 3)
  (h54:∀s0 s1 s2 s3 s4 t0 t1 t2 t3 t4,iY s0->iY s1->iY s2->iY s3->iY s4->C ⟨[s0,s1,s2,s3,s4],[t0,t1,t2,t3,t4]⟩ 4):C p r:=by
 refine Pt.cases (C:=λ p=>r<p.sh.length->C p r) p hp ?_ ?_ ?_ ?_ ?_ hr
 ·intro s0 t0 g0 hr;rcases(show r=0 by simp at hr;omega)with rfl
  ·exact h10 s0 t0 g0
 ·intro s0 s1 t0 t1 g0 g1 hr;rcases(show r=0\/r=1 by simp at hr;omega)with rfl|rfl
  ·exact h20 s0 s1 t0 t1 g0 g1
  ·exact h21 s0 s1 t0 t1 g0 g1
 ·intro s0 s1 s2 t0 t1 t2 g0 g1 g2 hr;rcases(show r=0\/r=1\/r=2 by simp at hr;omega)with rfl|rfl|rfl
  ·exact h30 s0 s1 s2 t0 t1 t2 g0 g1 g2
  ·exact h31 s0 s1 s2 t0 t1 t2 g0 g1 g2
  ·exact h32 s0 s1 s2 t0 t1 t2 g0 g1 g2
 ·intro s0 s1 s2 s3 t0 t1 t2 t3 g0 g1 g2 g3 hr;rcases(show r=0\/r=1\/r=2\/r=3 by simp at hr;omega)with rfl|rfl|rfl|rfl
  ·exact h40 s0 s1 s2 s3 t0 t1 t2 t3 g0 g1 g2 g3
  ·exact h41 s0 s1 s2 s3 t0 t1 t2 t3 g0 g1 g2 g3
  ·exact h42 s0 s1 s2 s3 t0 t1 t2 t3 g0 g1 g2 g3
  ·exact h43 s0 s1 s2 s3 t0 t1 t2 t3 g0 g1 g2 g3
 ·intro s0 s1 s2 s3 s4 t0 t1 t2 t3 t4 g0 g1 g2 g3 g4 hr;rcases(show r=0\/r=1\/r=2\/r=3\/r=4 by simp at hr;omega)with rfl|rfl|rfl|rfl|rfl
  ·exact h50 s0 s1 s2 s3 s4 t0 t1 t2 t3 t4 g0 g1 g2 g3 g4
  ·exact h51 s0 s1 s2 s3 s4 t0 t1 t2 t3 t4 g0 g1 g2 g3 g4
  ·exact h52 s0 s1 s2 s3 s4 t0 t1 t2 t3 t4 g0 g1 g2 g3 g4
  ·exact h53 s0 s1 s2 s3 s4 t0 t1 t2 t3 t4 g0 g1 g2 g3 g4
  ·exact h54 s0 s1 s2 s3 s4 t0 t1 t2 t3 t4 g0 g1 g2 g3 g4
theorem Na(most:Int)(s:jI)(h:iY s):au Tryz.prog 59 [(0,.obs (AA most s))] [.box 0 0] (.v (.int .i64 s.len)) [(0,.obs (AA most s))]:=Xd most s h.b0 h.b1 h.k
theorem fA(most:Int)(p:Pt)(hp:oV p):au Tryz.prog 28 [(0,.obs (wO most p))] [.box 0 0] (.agg p.site) [(0,.obs (wO most p))]:=by
 refine FN (ho:=[]) ⟨_,_,Tryz.func28,rfl,rfl⟩ ?_ rfl;rw[List.append_nil];refine Pt.cases (C:=λ p=>au Tryz.prog 28 (o9 most p ()) [.box 0 0] (.agg p.site) (o9 most p ())) p hp ?_ ?_ ?_ ?_ ?_;all_goals
  intros;dsimp only[o9,Q7,tJ,ptrs,PD];refine K1.M 0xd Tryz.func28 40 ?_;repeat' ((conv=>whnf);first|refine K1.u ?_|refine K1.C 1 [(0,_)] (Na _ _ (by assumption)) rfl ?_ rfl rfl rfl|refine K1.C 1 [(0,_)] (TS _ _) rfl ?_|refine K1.I 0x78f3 Tryz.func57 ?_|refine aK.jA 13 6 rfl ?_|refine Vb.part ?_|refine qM.mk (by decide) ?_|refine lD.yes (by decide) ?_|refine lD.no (by decide) ?_|refine K1.o (id:=2) (nN [0,1,2,3,4,5] [(6,some [5,3])]) ?_|refine K1.z ?_|refine K1.y (λ _=>?_) (λ _=>?_)|fail)
  all_goals(conv=>whnf)
  refine⟨[],rfl,rfl, ?_,rfl,rfl,aP⟩;repeat' first|exact trivial|refine⟨aY rfl, ?_⟩
def jT(r:Nat)(c:dD):Nat->List jI->List Ev
 |_,[]=>[]
 |i,s::l=>(if i=r then []else s.kept.filter (gW (c.get i)))++jT r c (i+1) l
theorem Zm(h:iY s)(n:Int):(s.kept.filter (gW n)).length<=1048576:=Nat.le_trans (List.length_filter_le _ _) h.k
theorem JR{l':List Ev}(hn:n=l.length):kJ n (jH l) (jH l')=jH (l++l'):=funext λ i=>els_app (c:=Ev.cs) hn i
theorem TU(most:Int)(s:jI)(n:Int)(h:iY s):au Tryz.prog 97 [(0,.obs (AA most s))] [.box 0 0,.v (.int .i64 n)] (.own 1) [(0,.obs (AA most s)),(1,bU (s.kept.filter (gW n)))]:=TT most s n h.k
theorem Q8(h1:n1=a.length)(h2:n2=n1+b.length):kJ n2 (kJ n1 (jH a) (jH b)) (jH c)=jH (a++b++c):=by
 rw[JR h1,JR (by rw[h2,h1,List.length_append])]
theorem Zn{n3:Nat}{d:List Ev}(h1:n1=a.length)(h2:n2=n1+b.length)(h3:n3=n2+c.length):kJ n3 (kJ n2 (kJ n1 (jH a) (jH b)) (jH c)) (jH d)=jH (a++b++c++d):=by
 rw[Q8 h1 h2,JR (by rw[h3,h2,h1,List.length_append,List.length_append])]
def fB(c:dD):Nat->List jI->Prop
 |_,[]=>True
 |i,s::l=>(s.kept.filter (gW (c.get i))).length<=1048576/\fB c (i+1) l
theorem aan{c:dD}:∀{l:List jI}{i:Nat},(∀s∈l,iY s)->fB c i l
 |[],_,_=>trivial
 |s::_,_,h=>⟨Zm (h s List.mem_cons_self) _,aan λ x hx=>h x (List.mem_cons_of_mem _ hx)⟩
theorem PE(most:Int)(p:Pt)(hp:oV p)(r:Nat)(c:dD)(hr:r<p.sh.length)(h2:2<=p.sh.length):
  au Tryz.prog 62 [(0,.obs (wO most p))] [.box 0 0,.v (.int .i64 (r:Int)),.agg (jM c)] (.bJ [.own 1,.v (.int .i64 0)]) [(0,.obs (wO most p)),(1,bU (jT r c 0 p.sh))]:=by
 refine FN (ho:=[(1,bU (jT r c 0 p.sh))]) ⟨_,_,Tryz.func62,rfl,rfl⟩ ?_ rfl;refine Pt.FP (C:=λ p r=>2<=p.sh.length->fB c 0 p.sh-> ∀l,jT r c 0 p.sh=l->au Tryz.prog 62 (o9 most p ()) [.box 0 0,.v (.int .i64 (r:Int)),.agg (jM c)] (.bJ [.own 1,.v (.int .i64 0)]) (o9 most p ()++[(1,bU l)])) p r hp hr ?_ ?_ ?_ ?_ ?_ ?_ ?_ ?_ ?_ ?_ ?_ ?_ ?_ ?_ ?_ h2 (aan hp.s) _ rfl
 ·intro s0 t0 g0 h2;simp at h2
 all_goals
  intros;rename_i hf _ e;simp[fB,jT,dD.get,-Nat.reduceLeDiff]at hf e;try simp only[<-List.append_assoc]at e
  subst e;dsimp only[o9,Q7,tJ,ptrs,PD,bU,jM,List.cons_append,List.nil_append];refine K1.M 0x83c47e7 Tryz.func62 40 ?_;repeat' ((conv=>whnf);first|refine K1.u ?_|refine K1.C 1 [(0,_)] (TU _ _ _ (by assumption)) rfl ?_ rfl rfl rfl|refine K1.I 0x13 Tryz.func82 ?_|refine aK.jA 20 6 rfl ?_|refine qM.mk (by decide) ?_|refine lD.yes (by decide) ?_|refine lD.no (by decide) ?_|refine K1.z ?_|refine K1.y (λ _=>?_) (λ _=>?_)|fail)
  all_goals(conv=>whnf)
  first
   |refine⟨[(42,1)],rfl,rfl, ?_,rfl,rfl,aP⟩
   |refine⟨[(44,1)],rfl,rfl, ?_,rfl,rfl,aP⟩
   |refine⟨[(46,1)],rfl,rfl, ?_,rfl,rfl,aP⟩
   |refine⟨[(48,1)],rfl,rfl, ?_,rfl,rfl,aP⟩
  repeat' first
   |exact trivial
   |refine⟨aY rfl, ?_⟩
   |refine⟨⟨_,rfl,fP.row (by simp only[List.length_append]) (λ m _=>congrFun (JR rfl) m)⟩, ?_⟩
   |refine⟨⟨_,rfl,fP.row (by simp only[List.length_append]) (λ m _=>congrFun (Q8 rfl rfl) m)⟩, ?_⟩
   |refine⟨⟨_,rfl,fP.row (by simp only[List.length_append]) (λ m _=>congrFun (Zn rfl rfl rfl) m)⟩, ?_⟩
structure Hb where
 (up:Bool)(c:jv)(p:Pt)(d:Dk)
def hbB(up:Bool)(c:jv)(d p:AV):AO:= .box 61 [.v (.bool up),d,.v (.int .i64 c.n),.v (.int .i64 c.w),.v (.int .i64 c.q),.v (.int .i64 c.h),.v (.int .i64 c.l),.v (.int .i64 c.p),p]
def ji(h:Hb)(_:Unit):List (Nat×AO):=[(0,hbB h.up h.c (.box 8 0) (.box 9 0)),(8,uQ (.own 10) h.d),(10,fJ h.d.bs),(9,.obs (wO h.c.w h.p))]
def oh(h:Hb):OB:=OB.pack (ji h)
theorem AP(h:Hb):Closes (ji h ()) 0 (oh h):=Closes.pack (ji h) () rfl λ _ hok=>wK (hok _ List.mem_cons_self)
theorem hb_new(up:Bool)(c:jv)(p:Pt):Closes [(0,hbB up c (.box 8 0) (.box 9 0)),(8,uQ (.v (.slice none 0 0)) dk0),(9,.obs (wO c.w p))] 0 (oh ⟨up,c,p,dk0⟩):=
 Closes.imp (AP ⟨up,c,p,dk0⟩) λ X hnd hok=>by
  have h0:=hok _ List.mem_cons_self;have h8:=hok (8,uQ (.v (.slice none 0 0)) dk0) (by simp);have h9:=hok (9,.obs (wO c.w p)) (by simp);have e:ah (TG X.ρ 10 (.slice none 0 0)) (ji ⟨up,c,p,dk0⟩ ())=ah X.ρ [(0,hbB up c (.box 8 0) (.box 9 0)),(8,uQ (.v (.slice none 0 0)) dk0),(9,.obs (wO c.w p))]:=rfl;refine⟨TG X.ρ 10 (.slice none 0 0),rfl,by rw[e];exact hnd,λ b hb=>by rw[e]at hb;exact hb,λ q hq=>?_⟩;simp only[ji,List.mem_cons,List.not_mem_nil,or_false]at hq;rcases hq with rfl|rfl|rfl|rfl
  ·obtain⟨b,us,g1,g2,g3,g4⟩:=h0;exact⟨b,us,g1,g2,g3,λ i x u hx hu=>by
    match i,hx with
    |0,hx=>cases hx;exact g4 0 _ u rfl hu
    |1,hx=>cases hx;exact g4 1 _ u rfl hu
    |2,hx=>cases hx;exact g4 2 _ u rfl hu
    |3,hx=>cases hx;exact g4 3 _ u rfl hu
    |4,hx=>cases hx;exact g4 4 _ u rfl hu
    |5,hx=>cases hx;exact g4 5 _ u rfl hu
    |6,hx=>cases hx;exact g4 6 _ u rfl hu
    |7,hx=>cases hx;exact g4 7 _ u rfl hu
    |8,hx=>cases hx;exact g4 8 _ u rfl hu⟩
  ·obtain⟨b,us,g1,g2,g3,g4⟩:=h8;exact⟨b,us,g1,g2,g3,λ i x u hx hu=>by
    match i,hx with
    |0,hx=>cases hx;exact g4 0 _ u rfl hu
    |1,hx=>cases hx;exact g4 1 _ u rfl hu
    |2,hx=>cases hx;exact g4 2 _ u rfl hu
    |3,hx=>cases hx;exact g4 3 _ u rfl hu⟩
  ·exact⟨[],World.ownsRow_nil X.w _ _ _,by omega,λ i hi=>absurd hi (by simp[dk0]),(λ _ x hx=>by cases hx),aN.nil⟩
  ·exact h9
theorem BQ{h h':Hb}(hE:Enters Tryz.prog f)(hm:au Tryz.prog f (ji h ()) bD r (ji h' ()++ho))
  (hb:(bD.all (rD (λ _=>false) 0)&&nJ (λ i=>bW i ho) 0 r&&iF ho ho&& !(bW 0 ho))=true):au Tryz.prog f [(0,.obs (oh h))] bD r ((0,.obs (oh h'))::ho):=
 au.opn hE (Opens.pack (ji h)) (λ _=>⟨_,AP h',rfl,rfl,hm⟩) hb
def hb0(c:jv)(n:Nat):Hb:=⟨true,c,vG n,dk0⟩
theorem FQ(c:jv)(n:Nat)(hn:c.n=(n:Int))(hc:xY c=true)(h1:1<=n)(h5:n<=5):au Tryz.prog 7 [] [c.av] (.bJ [.box 0 0,.v (.int .i64 0)]) [(0,.obs (oh (hb0 c n)))]:=by
 have hm:=TQ c;rw[hc]at hm;have hp:=MZ c n hn h1 h5;have ha:=all_nil;refine au.cls (hs':=[(0,hbB true c (.box 8 0) (.box 9 0)),(8,uQ (.v (.slice none 0 0)) dk0),(9,.obs (wO c.w (vG n)))]) (ho:=[]) (hb_new true c (vG n)) ?_ rfl;obtain⟨cn,w,q,hh,l,p⟩:=c;dsimp only[jv.av,jv.cs,hbB,uQ,dk0,List.append_nil]at hm hp⊢;refine K1.M 0x9f Tryz.func7 40 ?_;repeat' ((conv=>whnf);first|refine K1.u ?_|refine K1.P1 hm ?_|refine K1.C 0 [] (hp) rfl ?_|refine K1.P1 ha ?_|refine K1.P1 clone_nil ?_|refine K1.I 0x10031e00215 Tryz.func16 ?_|refine K1.I 0x3d Tryz.func43 ?_|refine K1.I 0x85 Tryz.func47 ?_|refine K1.I 0x1 Tryz.func86 ?_|refine K1.I 0x1 Tryz.func78 ?_|refine K1.I 0x5 Tryz.func80 ?_|refine K1.I 0x4003 Tryz.func81 ?_|refine aK.jA 23 1 rfl ?_|refine K1.o (id:=9) (nN [0,1,2,3,4,5,6,7] [(8,some [7,5,3,1])]) ?_|refine K1.o (id:=11) (nN [0,1,2,3,4,5,6,7] [(8,some [7,5,3,1])]) ?_|refine K1.z ?_|refine K1.y (λ _=>?_) (λ _=>?_)|fail)
 all_goals(conv=>whnf)
 exact⟨[(41,0),(43,8),(42,9)],rfl,rfl,⟨aY rfl,aY rfl,aY rfl,trivial⟩,rfl,rfl,aP⟩
def lI(i:Nat)(h:Hb):List (Nat×AO):=[(0,hbB h.up h.c (.box 8 0) (.box 9 0)),(8,uQ (.own i) h.d),(i,fJ h.d.bs),(9,.obs (wO h.c.w h.p))]
theorem PG(h:Hb):Closes (lI 11 h) 0 (oh h):=
 Closes.imp (AP h) λ X hnd hok=>by
  have h0:=hok _ List.mem_cons_self;have h8:=hok (8,uQ (.own 11) h.d) (by simp[lI]);have h9:=hok (9,.obs (wO h.c.w h.p)) (by simp[lI]);have h11:=hok (11,fJ h.d.bs) (by simp[lI]);have e:ah (TG X.ρ 10 (X.ρ 11)) (ji h ())=ah X.ρ (lI 11 h):=rfl;refine⟨TG X.ρ 10 (X.ρ 11),rfl,by rw[e];exact hnd,λ b hb=>by rw[e]at hb;exact hb,λ q hq=>?_⟩;simp only[ji,List.mem_cons,List.not_mem_nil,or_false]at hq;rcases hq with rfl|rfl|rfl|rfl
  ·obtain⟨b,us,g1,g2,g3,g4⟩:=h0;exact⟨b,us,g1,g2,g3,λ i x u hx hu=>by
    match i,hx with
    |0,hx=>cases hx;exact g4 0 _ u rfl hu
    |1,hx=>cases hx;exact g4 1 _ u rfl hu
    |2,hx=>cases hx;exact g4 2 _ u rfl hu
    |3,hx=>cases hx;exact g4 3 _ u rfl hu
    |4,hx=>cases hx;exact g4 4 _ u rfl hu
    |5,hx=>cases hx;exact g4 5 _ u rfl hu
    |6,hx=>cases hx;exact g4 6 _ u rfl hu
    |7,hx=>cases hx;exact g4 7 _ u rfl hu
    |8,hx=>cases hx;exact g4 8 _ u rfl hu⟩
  ·obtain⟨b,us,g1,g2,g3,g4⟩:=h8;exact⟨b,us,g1,g2,g3,λ i x u hx hu=>by
    match i,hx with
    |0,hx=>cases hx;exact g4 0 _ u rfl hu
    |1,hx=>cases hx;exact g4 1 _ u rfl hu
    |2,hx=>cases hx;exact g4 2 _ u rfl hu
    |3,hx=>cases hx;exact g4 3 _ u rfl hu⟩
  ·exact h11
  ·exact h9
theorem Nb{h h':Hb}(hE:Enters Tryz.prog f)(hm:au Tryz.prog f (ji h ()) bD r (lI 11 h'++ho))
  (hb:(bD.all (rD (λ _=>false) 0)&&nJ (λ i=>bW i ho) 0 r&&iF ho ho&& !(bW 0 ho))=true):au Tryz.prog f [(0,.obs (oh h))] bD r ((0,.obs (oh h'))::ho):=
 au.opn hE (Opens.pack (ji h)) (λ _=>⟨_,PG h',rfl,rfl,hm⟩) hb
def lu(h:Hb)(x:Rc):Hb×Int:=
 if(ny h.d (aH x)).2=0 then(⟨h.up,h.c,h.p,(ny h.d (aH x)).1⟩,0)else(⟨false,h.c,h.p,(ny h.d (aH x)).1⟩,18)
theorem FT(h h':Hb)(x:Rc)(y:Int)(hx:jR x=true)(hb:h.d.bs.length<=1000000000)(hw:lu h x=(h',y)):
  au Tryz.prog 60 (ji h ()) [.box 0 0,x.av] (.v (.int .i64 y)) (lI 11 h'):=by
 have hp:=(Ig 0 x hx).thaw;have hm:=C9 x hx;obtain⟨⟨d',e⟩,hd⟩:∃q,ny h.d (aH x)=q:=⟨_,rfl⟩;have hdk:=Pv h.d d' (aH x) e (aS.bytes _) rfl hb (by omega) hd;unfold lu at hw;rw[hd]at hw;generalize aH x=w at hp hdk hd;obtain⟨up,c,p,d⟩:=h;obtain⟨k,r,u,⟨c0,c1,c2,c3,c4⟩,ev⟩:=x;by_cases he:e=0
 ·rw[if_pos he]at hw;cases hw;dsimp only[ji,lI,hbB,uQ,fJ,Rc.av,Rc.cs]at hdk hp⊢;refine K1.M 0x8207b Tryz.func60 40 ?_;repeat' ((conv=>whnf);first|refine K1.u ?_|refine K1.P1 hp ?_|refine K1.C 2 [(0,_),(1,_)] (hdk) rfl ?_|refine K1.I 0x85 Tryz.func47 ?_|refine K1.z ?_|refine K1.y (λ _=>?_) (λ _=>?_)|fail)
  all_goals(conv=>whnf)
  exact⟨[(41,11)],rfl,rfl,⟨aY rfl,aY rfl,aY rfl,aY rfl,trivial⟩,rfl,rfl,aP⟩
 ·rw[if_neg he]at hw;cases hw;dsimp only[ji,lI,hbB,uQ,fJ,Rc.av,Rc.cs]at hdk hp⊢;refine K1.M 0x8207b Tryz.func60 40 ?_;repeat' ((conv=>whnf);first|refine K1.u ?_|refine K1.P1 hp ?_|refine K1.C 2 [(0,_),(1,_)] (hdk) rfl ?_|refine K1.I 0x85 Tryz.func47 ?_|refine K1.z ?_|refine K1.y (λ _=>?_) (λ _=>?_)|fail)
  all_goals(conv=>whnf)
  exact⟨[(41,11)],rfl,rfl,⟨aY rfl,aY rfl,aY rfl,aY rfl,trivial⟩,rfl,rfl,aP⟩
instance(a b:dD):Decidable (a=b):=decidable_of_iff _ (dD.eq_iff a b)
structure Sit where
 (up:Bool)(b l a0 a1 a2 a3 a4:dD)
def Sit.vs(s:Sit):List Value:= .bool s.up::(s.b.vs++(s.l.vs++(s.a0.vs++(s.a1.vs++(s.a2.vs++(s.a3.vs++s.a4.vs))))))
theorem Xm(n:Nat)(a0 a1 a2 a3 a4 b0 b1 b2 b3 b4:dD)(w:World):(Op.equalIn (n+3) 40 (.agg (a0.vs++(a1.vs++(a2.vs++(a3.vs++a4.vs)))).toArray) (.agg (b0.vs++(b1.vs++(b2.vs++(b3.vs++b4.vs)))).toArray)).run Tryz.prog w=
  .ok (decide (a0=b0/\a1=b1/\a2=b2/\a3=b3/\a4=b4)) w:=by
 rw[Op.equalIn];simp only[Sem.run_bind,run_underlying Tryz.underlying40,Result.andThen_ok];simp only[Std.Legacy.Range.forIn_eq_forIn_range',Std.Legacy.Range.size,Nat.sub_zero,Nat.add_sub_cancel,Nat.div_one,List.range'_succ,List.range'_zero,List.forIn_cons,List.forIn_nil];have a5:=Tryz.isAgg36;have z5:=Tryz.sizeOf36;have hk:=Fh n;simp only[<-dD.eq_iff];unfold dD.vs;go_simp;repeat' split
 all_goals simp_all
theorem TV:Tryz.prog.eqGuardType Tryz.prog.depth 42=false:=by kernel_rfl
theorem Sit.eq_iff(s t:Sit):(s.up=t.up/\s.b=t.b/\s.l=t.l/\s.a0=t.a0/\s.a1=t.a1/\s.a2=t.a2/\s.a3=t.a3/\s.a4=t.a4)↔s=t:=by
 obtain⟨a,b,c,d,e,f,g,h⟩:=s;obtain⟨a',b',c',d',e',f',g',h'⟩:=t;simp
theorem aa5{b:Bool}{w:World}:(if b=false then Result.ok false w else Result.ok true w:Result Bool)= .ok b w:=by cases b<;>rfl
theorem Xn(s t:Sit)(w:World):(Op.equalIn 10000 42 (.agg s.vs.toArray) (.agg t.vs.toArray)).run Tryz.prog w=
  .ok (decide (s.up=t.up/\s.b=t.b/\s.l=t.l/\(s.a0=t.a0/\s.a1=t.a1/\s.a2=t.a2/\s.a3=t.a3/\s.a4=t.a4))) w:=by
 have hS:Tryz.prog.underlying 42=some (.struct (Tryz.prog.fieldsOf 42)):=by kernel_rfl
 have a4:=Tryz.isAgg4;have z4:=Tryz.sizeOf4;have u4:=Tryz.underlying4;have a5:=Tryz.isAgg36;have z5:=Tryz.sizeOf36;have a6:=Tryz.isAgg40;have z6:=Tryz.sizeOf40;rw[show(10000:Nat)=9999+1 from rfl,run_equalIn_agg w 9999 42 _ _ hS (by kernel_rfl)];simp only[Program.fieldsOf,Tryz.underlying42];have hk:=Fh 9997;have hk2:=Xm 9996;simp only[<-dD.eq_iff]at hk2⊢;unfold dD.vs at hk2;unfold Sit.vs dD.vs;go_simp;repeat' split
 all_goals simp_all
 all_goals exact aa5
theorem aa6(s t:Sit):Jb Tryz.prog 42 s.vs t.vs (s=t):=
 ⟨TV,λ w=>⟨_,by rw[decide_eq_true_eq,<-Sit.eq_iff],Xn s t w⟩⟩
def Pt.sit(p:Pt):Sit:=⟨true,⟨(p.sh.map jI.base).getD 0 0,(p.sh.map jI.base).getD 1 0,(p.sh.map jI.base).getD 2 0,(p.sh.map jI.base).getD 3 0,(p.sh.map jI.base).getD 4 0⟩,⟨(p.sh.map jI.len).getD 0 0,(p.sh.map jI.len).getD 1 0,(p.sh.map jI.len).getD 2 0,(p.sh.map jI.len).getD 3 0,(p.sh.map jI.len).getD 4 0⟩,
 p.told.getD 0 aJ,p.told.getD 1 aJ,p.told.getD 2 aJ,p.told.getD 3 aJ,p.told.getD 4 aJ⟩
def aa7:Sit:=⟨false,aJ,aJ,aJ,aJ,aJ,aJ,aJ⟩
theorem Zo(p:Pt):p.site=p.sit.vs.map .v:=rfl
def Hb.sit(h:Hb):Sit:=if h.up then h.p.sit else aa7
theorem TW(h:Hb)(hp:oV h.p):au Tryz.prog 10 [(0,.obs (oh h))] [.box 0 0] (.agg (h.sit.vs.map .v)) [(0,.obs (oh h))]:=by
 refine BQ (ho:=[]) ⟨_,_,Tryz.func10,rfl,rfl⟩ ?_ rfl;have hs:=fA h.c.w h.p hp;rw[Zo]at hs;rw[List.append_nil];obtain⟨up,c,p,d⟩:=h;unfold Hb.sit;cases up with
 |true=>
  rw[if_pos rfl];dsimp only[ji,hbB,uQ,fJ]at hs⊢;refine K1.M 0x105 Tryz.func10 40 ?_;repeat' ((conv=>whnf);first|refine K1.u ?_|refine K1.C 1 [(0,_)] (hs) rfl ?_|refine K1.z ?_|refine K1.y (λ _=>?_) (λ _=>?_)|fail)
  all_goals(conv=>whnf)
  exact⟨[],rfl,rfl,⟨aY rfl,aY rfl,aY rfl,aY rfl,trivial⟩,rfl,rfl,aP⟩
 |false=>
  rw[if_neg (by simp)];dsimp only[ji,hbB,uQ,fJ]at hs⊢;refine K1.M 0x105 Tryz.func10 40 ?_;repeat' ((conv=>whnf);first|refine K1.u ?_|refine K1.C 1 [(0,_)] (hs) rfl ?_|refine K1.z ?_|refine K1.y (λ _=>?_) (λ _=>?_)|fail)
  all_goals(conv=>whnf)
  exact⟨[],rfl,rfl,⟨aY rfl,aY rfl,aY rfl,aY rfl,trivial⟩,rfl,rfl,aP⟩
theorem Xo(h:Hb)(k:Int):au Tryz.prog 24 [(0,.obs (oh h))] [.box 0 0,.v (.int .i64 k)] (.bJ []) [(0,.obs (oh ⟨h.up,h.c,h.p,⟨h.d.bs,h.d.down,true,k⟩⟩))]:=by
 refine BQ (ho:=[]) ⟨_,_,Tryz.func24,rfl,rfl⟩ ?_ rfl;rw[List.append_nil];obtain⟨up,c,p,d⟩:=h;dsimp only[ji,hbB,uQ,fJ];refine K1.M 0x3 Tryz.func24 40 ?_;repeat' ((conv=>whnf);first|refine K1.u ?_|refine K1.I 0x85 Tryz.func47 ?_|refine K1.I 0x3 Tryz.func49 ?_|refine K1.z ?_|refine K1.y (λ _=>?_) (λ _=>?_)|fail)
 all_goals(conv=>whnf)
 exact⟨[],rfl,rfl,⟨aY rfl,aY rfl,aY rfl,aY rfl,trivial⟩,rfl,rfl,aP⟩
def mnI(a b:Int):Int:=if b<a then b else a
def PI(a b:Int):Int:=if b>a then b else a
def dD.jn(a b:dD):dD:=⟨PI a.c0 b.c0,PI a.c1 b.c1,PI a.c2 b.c2,PI a.c3 b.c3,PI a.c4 b.c4⟩
def yZ(s:Nat):Int->List dD->Int
 |a,[]=>a
 |a,c::l=>yZ s (mnI a (c.at s)) l
def iZ(told:List dD)(s:Nat):Int:=yZ s ((told.headD aJ).at s) told
def dL{α:Type}(f:α->α):Nat->List α->List α
 |_,[]=>[]
 |0,x::l=>f x::l
 |i+1,x::l=>x::dL f i l
def oN(p:Pt)(s:Nat):Pt:=⟨dL (λ x=>jw x (iZ p.told s)) s p.sh,p.told⟩
def lC(told:List dD):Nat->List jI->List jI
 |_,[]=>[]
 |i,s::l=>jw s (iZ told i)::lC told (i+1) l
def oO(p:Pt)(r:Nat)(c:dD):Pt:=⟨lC (dL (λ t=>t.jn c) r p.told) 0 p.sh,dL (λ t=>t.jn c) r p.told⟩
def zf:List (Nat×AO)->List (Nat×AO)->Prop
 |[],[]=>True
 |p::l,q::m=>p.1=q.1/\fP p.2 q.2/\zf l m
 |_,_=>False
theorem zf.blocks{ρ:Nat->Value}:∀{h g:List (Nat×AO)},zf h g->ah ρ h=ah ρ g
 |[],[],_=>rfl
 |p::l,q::m,h=>by rw[aT,aT,h.1,zf.blocks h.2.2]
theorem zf.ok{X:CX}:∀{h g:List (Nat×AO)},zf h g->(∀p∈h,bn X p.1 p.2)-> ∀p∈g,bn X p.1 p.2
 |[],[],_,_,_,hp=>by cases hp
 |p::l,q::m,h,hi,x,hx=>by
  rcases List.mem_cons.1 hx with rfl|hx
  ·rw[<-h.1];exact h.2.1 _ _ (hi p List.mem_cons_self)
  ·exact zf.ok h.2.2 (λ y hy=>hi y (List.mem_cons_of_mem _ hy)) x hx
theorem zf.mem:∀{h g:List (Nat×AO)},zf h g-> ∀p∈h,∃q∈g,q.1=p.1
 |[],[],_,_,hp=>by cases hp
 |p::l,q::m,h,x,hx=>by
  rcases List.mem_cons.1 hx with rfl|hx
  ·exact⟨q,List.mem_cons_self,h.1.symm⟩
  ·obtain⟨y,h1,h2⟩:=zf.mem h.2.2 x hx;exact⟨y,List.mem_cons_of_mem _ h1,h2⟩
theorem au.ins{P:Program}{hin hin':List (Nat×AO)}{hout:List (Nat×AO)}(h:au P f hin bD r hout)(hi:zf hin' hin):au P f hin' bD r hout:=by
 refine⟨h.1,λ w keep ρ args a1 a2 a3 a4 a5=>?_⟩;have e:=hi.blocks (ρ:=ρ);rw[e]at a3 a4⊢;refine(h.2 w keep ρ args a1 (hi.ok a2) a3 a4 a5).mono ?_;rintro x w' ⟨u,ρ',h1,h2,h3,h4⟩;exact⟨u,ρ',h1,h2,λ p hp q hq hqp=>by
  obtain⟨p',hp',he⟩:=hi.mem p hp;rw[<-he]at hqp⊢;exact h3 p' hp' q hq hqp,h4⟩
def ace(i:Nat)(F:Nat->List AV)(c:List AV):Nat->List AV:=λ m=>bif m.beq i then c else F m
theorem JU(h:iY s)(n:Int):iY (jw s n):=by
 have hc:=AB s.base s.kept.length n (by omega);have:=h.b0;have:=h.ln;exact⟨by show 0<=qF _ _ _;omega,by
  show qF _ _ _+((s.kept.drop _).length:Int)<=_;rw[List.length_drop];omega⟩
theorem PK(a b:dD):aC Tryz.prog 85 [.agg (jM a),.agg (jM b)] (.agg (jM (a.jn b))) []:=by
 dsimp only[jM,dD.jn];refine K1.E 0xff Tryz.func85 ?_;repeat' ((conv=>whnf);first|refine K1.u ?_|refine aK.rounds 6 ?_|refine aO.dW ?_|refine K1.o (id:=4) (nN [0,1,2,3,4,5,6,7,8] [(9,some [7,6,3])]) ?_|refine K1.z ?_|refine K1.y (λ _=>?_) (λ _=>?_)|fail)
 conv=>whnf
 exact aW.mk (aP)
theorem dI{α:Type}(f:α->α):∀(r:Nat)(l:List α),(dL f r l).length=l.length
 |r,[]=>by cases r<;>rfl
 |0,_::_=>rfl
 |r+1,x::l=>by show(dL f r l).length+1=_;rw[dI f r l];rfl
theorem tK{α:Type}{f:α->α}:∀{r:Nat}{l:List α}{y:α},y∈dL f r l->y∈l\/ ∃x∈l,y=f x
 |r,[],_,h=>by cases r<;>cases h
 |0,x::l,y,h=>by
  rcases List.mem_cons.1 h with rfl|h
  ·exact .inr ⟨x,List.mem_cons_self,rfl⟩
  ·exact .inl (List.mem_cons_of_mem _ h)
 |r+1,x::l,y,h=>by
  rcases List.mem_cons.1 h with rfl|h
  ·exact .inl List.mem_cons_self
  ·rcases tK h with h|⟨z,hz,rfl⟩
   ·exact .inl (List.mem_cons_of_mem _ h)
   ·exact .inr ⟨z,List.mem_cons_of_mem _ hz,rfl⟩
theorem oV.get{p:Pt}(hp:oV p){r:Nat}(hr:r<p.sh.length):iY (p.sh.getD r default):=hp.s _ (by rw[List.getD,List.getElem?_eq_getElem hr];exact List.getElem_mem hr)
theorem oV.set{p:Pt}(hp:oV p)(hs:iY s)(r:Nat):oV ⟨dL (λ _=>s) r p.sh,p.told⟩:=
 ⟨by rw[dI];exact hp.h1,by rw[dI];exact hp.h5,by rw[dI];exact hp.t,λ x hx=>by
  rcases tK hx with h|⟨_,_,rfl⟩
  ·exact hp.s _ h
  ·exact hs⟩
theorem Xp{p:Pt}(hp:oV p)(r:Nat):oV (oN p r):=
 ⟨by show 1<=(dL _ _ _).length;rw[dI];exact hp.h1,by show(dL _ _ _).length<=5;rw[dI];exact hp.h5,by show _=(dL _ _ _).length;rw[dI];exact hp.t,λ x hx=>by
  rcases tK hx with h|⟨y,hy,rfl⟩
  ·exact hp.s _ h
  ·exact JU (hp.s _ hy) _⟩
theorem Xq(most:Int)(s:jI)(n:Int)(h:iY s):au Tryz.prog 111 [(0,.obs (AA most s))] [.box 0 0,.v (.int .i64 n)] (.bJ []) [(0,.obs (AA most (jw s n)))]:=Xg most s n h.b0 h.b1 h.k
theorem Nc(most:Int)(p:Pt)(r:Nat)(hp:oV p)(hr:r<p.sh.length):au Tryz.prog 84 (o9 most p ()) [.box 0 0,.v (.int .i64 (r:Int))] (.bJ []) (o9 most (oN p r) ()):=by
 refine Pt.FP (C:=λ p r=>au Tryz.prog 84 (o9 most p ()) [.box 0 0,.v (.int .i64 (r:Int))] (.bJ []) (o9 most (oN p r) ())) p r hp hr ?_ ?_ ?_ ?_ ?_ ?_ ?_ ?_ ?_ ?_ ?_ ?_ ?_ ?_ ?_;all_goals
  intros;dsimp only[o9,Q7,tJ,ptrs,PD,oN,dL,iZ,yZ,List.headD,dD.at,List.length];refine K1.M 0x3c0053 Tryz.func84 40 ?_;repeat' ((conv=>whnf);first|refine K1.u ?_|refine K1.C 1 [(0,_)] (Xq _ _ _ (by assumption)) rfl ?_ rfl rfl rfl|refine aK.rounds 6 ?_|refine qM.mk (by decide) ?_|refine lD.yes (by decide) ?_|refine lD.no (by decide) ?_|refine K1.z ?_|refine K1.y (λ _=>?_) (λ _=>?_)|fail)
  all_goals(conv=>whnf)
  refine⟨[],rfl,rfl, ?_,rfl,rfl,aP⟩;repeat' first|exact trivial|refine⟨aY rfl, ?_⟩
def Nh(p:Pt)(r:Nat)(c:dD):Nat->Pt
 |0=>⟨p.sh,dL (λ t=>t.jn c) r p.told⟩
 |s+1=>oN (Nh p r c s) s
def acf(most:Int)(p:Pt)(r:Nat)(c:dD):List (Nat×AO):=(0,Q7)::(10,.rn (108:Nat) (ptrs 20 p.sh))::(11,.row 36 5 p.told.length true (ace r (clF p.told) (jM ((p.told.getD r aJ).jn c))))::PD most 20 p.sh
def acg(most:Int)(p:Pt)(r:Nat)(c:dD):Prop:=au Tryz.prog 84 (acf most p r c) [.box 0 0,.v (.int .i64 ((0:Nat):Int))] (.bJ []) (o9 most (Nh p r c 1) ())/\
 ∀s:Nat,s<p.sh.length->au Tryz.prog 84 (o9 most (Nh p r c s) ()) [.box 0 0,.v (.int .i64 (s:Int))] (.bJ []) (o9 most (Nh p r c (s+1)) ())
theorem Xr{p:Pt}(hp:oV p)(r:Nat)(c:dD):∀s,oV (Nh p r c s)/\(Nh p r c s).sh.length=p.sh.length
 |0=>⟨⟨hp.h1,hp.h5,by show(dL _ _ _).length=_;rw[dI];exact hp.t,hp.s⟩,rfl⟩
 |s+1=>by
  have:=Xr hp r c s;exact⟨Xp this.1 s,by show(dL _ _ _).length=_;rw[dI];exact this.2⟩
theorem zf.refl:∀h,zf h h
 |[]=>trivial
 |_::l=>⟨rfl,fP.refl _,zf.refl l⟩
theorem Q9{c:dD}:∀{l:List dD}{r m:Nat},m<l.length->ace r (clF l) (jM ((l.getD r aJ).jn c)) m=clF (dL (λ t=>t.jn c) r l) m
 |[],_,_,h=>by simp at h
 |x::l,0,0,_=>rfl
 |x::l,0,m+1,_=>rfl
 |x::l,r+1,0,_=>rfl
 |x::l,r+1,m+1,h=>(Q9 (l:=l) (r:=r) (m:=m) (by simpa using h):_)
theorem Zp(most:Int)(p:Pt)(hp:oV p)(r:Nat)(c:dD):acg most p r c:=by
 have hs:∀s:Nat,s<p.sh.length->au Tryz.prog 84 (o9 most (Nh p r c s) ()) [.box 0 0,.v (.int .i64 (s:Int))] (.bJ []) (o9 most (Nh p r c (s+1)) ()):=λ s hs=>by
  have:=Xr hp r c s;exact Nc most _ s this.1 (by rw[this.2];exact hs)
 refine⟨au.ins (hs 0 hp.h1) ⟨rfl,fP.refl _,rfl,fP.refl _,rfl, ?_,zf.refl _⟩,hs⟩;exact fP.row (dI _ _ _).symm λ m hm=>Q9 hm
theorem Nj(most:Int)(p:Pt)(hp:oV p)(r:Nat)(c:dD)(hr:r<p.sh.length):
  au Tryz.prog 45 [(0,.obs (wO most p))] [.box 0 0,.v (.int .i64 (r:Int)),.agg (jM c)] (.v (.int .i64 0)) [(0,.obs (wO most (oO p r c)))]:=by
 refine FN (ho:=[]) ⟨_,_,Tryz.func45,rfl,rfl⟩ ?_ rfl;rw[List.append_nil];have hj:=PK;refine Pt.FP (C:=λ p r=>acg most p r c->au Tryz.prog 45 (o9 most p ()) [.box 0 0,.v (.int .i64 (r:Int)),.agg (jM c)] (.v (.int .i64 0)) (o9 most (oO p r c) ())) p r hp hr ?_ ?_ ?_ ?_ ?_ ?_ ?_ ?_ ?_ ?_ ?_ ?_ ?_ ?_ ?_ (Zp most p hp r c);all_goals
  intros;rename_i hA;obtain⟨h0,hA⟩:=hA;try have h1:=hA 1 (Nat.le_of_ble_eq_true rfl)
  try have h2:=hA 2 (Nat.le_of_ble_eq_true rfl)
  try have h3:=hA 3 (Nat.le_of_ble_eq_true rfl)
  try have h4:=hA 4 (Nat.le_of_ble_eq_true rfl)
  clear hA;dsimp only[acf,o9,Q7,tJ,ptrs,PD,oN,oO,lC,dL,List.length,jM]at*;refine K1.M 0x3800008e7 Tryz.func45 40 ?_;repeat' ((conv=>whnf);first|refine K1.u ?_|refine K1.P1 (hj _ _) ?_|refine K1.C 99 [(0,_),(10,_),(11,_),(20,_)] (h0) rfl ?_|refine K1.C 99 [(0,_),(10,_),(11,_),(20,_),(21,_)] (h0) rfl ?_|refine K1.C 99 [(0,_),(10,_),(11,_),(20,_),(21,_),(22,_)] (h0) rfl ?_|refine K1.C 99 [(0,_),(10,_),(11,_),(20,_),(21,_),(22,_),(23,_)] (h0) rfl ?_|refine K1.C 99 [(0,_),(10,_),(11,_),(20,_),(21,_),(22,_),(23,_),(24,_)] (h0) rfl ?_|refine K1.C 99 [(0,_),(10,_),(11,_),(20,_),(21,_)] (h1) rfl ?_|refine K1.C 99 [(0,_),(10,_),(11,_),(20,_),(21,_),(22,_)] (h1) rfl ?_|refine K1.C 99 [(0,_),(10,_),(11,_),(20,_),(21,_),(22,_),(23,_)] (h1) rfl ?_|refine K1.C 99 [(0,_),(10,_),(11,_),(20,_),(21,_),(22,_),(23,_),(24,_)] (h1) rfl ?_|refine K1.C 99 [(0,_),(10,_),(11,_),(20,_),(21,_),(22,_)] (h2) rfl ?_|refine K1.C 99 [(0,_),(10,_),(11,_),(20,_),(21,_),(22,_),(23,_)] (h2) rfl ?_|refine K1.C 99 [(0,_),(10,_),(11,_),(20,_),(21,_),(22,_),(23,_),(24,_)] (h2) rfl ?_|refine K1.C 99 [(0,_),(10,_),(11,_),(20,_),(21,_),(22,_),(23,_)] (h3) rfl ?_|refine K1.C 99 [(0,_),(10,_),(11,_),(20,_),(21,_),(22,_),(23,_),(24,_)] (h3) rfl ?_|refine K1.C 99 [(0,_),(10,_),(11,_),(20,_),(21,_),(22,_),(23,_),(24,_)] (h4) rfl ?_|refine K1.I 0x13 Tryz.func82 ?_|refine aK.rounds 6 ?_|refine qM.mk (by decide) ?_|refine lD.yes (by decide) ?_|refine lD.no (by decide) ?_|refine K1.o (id:=3) (nN [0,1,2,3,4,5,6,7,8,9,10,11,12] [(13,some [12,11,8,6]),(14,none),(15,some [12,11,8,6,3,1])]) ?_|refine K1.z ?_|refine K1.y (λ _=>?_) (λ _=>?_)|fail)
  all_goals(conv=>whnf)
  refine⟨[],rfl,rfl, ?_,rfl,rfl,aP⟩;repeat' first|exact trivial|refine⟨aY rfl, ?_⟩
def pushP(most:Int)(r:Nat)(l:List Ev)(p:Pt):Pt×Int×Int:=
 if(jJ most (p.sh.getD r default) l).2=0 then
  (oN ⟨dL (λ _=>(jJ most (p.sh.getD r default) l).1) r p.sh,p.told⟩ r,(jw (jJ most (p.sh.getD r default) l).1 (iZ p.told r)).len,0)
 else(p,0,(jJ most (p.sh.getD r default) l).2)
theorem Xt(h:(jJ most s l).2≠0):(jJ most s l).1=s:=by
 revert h;unfold jJ;split<;>(try split)<;>(try split)<;>simp
theorem aK.cnt{body:(jK->AS->Prop)->AS->Prop}{Q:jK->AS->Prop}{sl:List (Nat×AV)}{h:List (Nat×AO)}{bk:List (List (Nat×AV))}{b:Nat}(t n:Nat)(h0:iw [] ⟨(t,.v (.int .i64 0))::sl,h,bk,b⟩ ⟨(t,.v (.int .i64 ((0:Nat):Int)))::sl,h,bk,b⟩)
  (hb:∀x:{j:Nat//j<=n},body (λ e st'=>match e with| .normal=> ∃(y:{j:Nat//j<=n}) (σ:List (Nat×Nat)),iw σ st' ⟨(t,.v (.int .i64 (y.1:Int)))::sl,h,bk,b⟩/\n-y.1<n-x.1| .exit i=>Q (.exit i) st'| .ret=>Q .ret st') ⟨(t,.v (.int .i64 (x.1:Int)))::sl,h,bk,b⟩):aK body Q ⟨(t,.v (.int .i64 0))::sl,h,bk,b⟩:=
 aK.mk {j:Nat//j<=n} (λ j=>⟨(t,.v (.int .i64 (j.1:Int)))::sl,h,bk,b⟩) (λ j=>n-j.1) ⟨0,Nat.zero_le _⟩ [] h0 hb
structure EvB(l:List Ev):Prop where
 h:l.length<=1000000
 n:∀j,0<=(l.getD j default).n/\(l.getD j default).n<=1000000000
theorem Nk(most:Int)(p:Pt)(r:Nat)(hp:oV p)(hr:r<p.sh.length)(l:List Ev)(x:Int)(hl:EvB l)(hs:iY (p.sh.getD r default))(hall:∀j,j<l.length->(l.getD j default).r=(r:Int))(hput:jJ most (p.sh.getD r default) l=(p.sh.getD r default,x))(hx:x≠0):
  au Tryz.prog 44 (o9 most p ()) [.box 0 0,.v (.int .i64 (r:Int)),.sl 12 l.length true (jH l)] (.bJ [.v (.int .i64 0),.v (.int .i64 x)]) (o9 most p ()):=by
 refine Pt.FP (C:=λ p r=>(iY (p.sh.getD r default))->(∀j,j<l.length->(l.getD j default).r=(r:Int))->(jJ most (p.sh.getD r default) l=(p.sh.getD r default,x))->(x≠0)->au Tryz.prog 44 (o9 most p ()) [.box 0 0,.v (.int .i64 (r:Int)),.sl 12 l.length true (jH l)] (.bJ [.v (.int .i64 0),.v (.int .i64 x)]) (o9 most p ())) p r hp hr ?_ ?_ ?_ ?_ ?_ ?_ ?_ ?_ ?_ ?_ ?_ ?_ ?_ ?_ ?_ hs hall hput hx;all_goals
  intros;rename_i hs hall hput hx;dsimp only[o9,Q7,tJ,ptrs,PD,List.length,List.getD_cons_zero,List.getD_cons_succ]at*;refine K1.M 0x100107c6c7 Tryz.func44 40 ?_;repeat' ((conv=>whnf);first|refine K1.u ?_|refine K1.I 0x13 Tryz.func82 ?_|refine lD.yes (by decide) ?_|refine lD.no (by decide) ?_|refine K1.z ?_|refine K1.y (λ _=>?_) (λ _=>?_)|fail)
  conv=>whnf
  refine aK.cnt 17 l.length ?_ ?_
  ·refine iw.mk' [] _ _ _ rfl ?_ ?_ rfl;all_goals repeat' first|exact trivial|refine⟨aP, ?_⟩|refine⟨aY rfl, ?_⟩
  have hlh:=hl.h;rintro⟨j,hj⟩;dsimp only;by_cases hjl:j<l.length
  ·have hr:=hall j hjl;rw[show j=(j:Int).toNat by omega]at hr;repeat' ((conv=>whnf);first|refine K1.u ?_|refine K1.z ?_|refine K1.y (λ _=>?_) (λ _=>?_)|fail)
   all_goals(conv=>whnf)
   refine⟨⟨j+1,hjl⟩,[],iw.mk' [] _ _ _ rfl ?_ ?_ rfl,by show l.length-(j+1)<l.length-j;omega⟩;all_goals repeat' first|exact trivial|refine⟨aP, ?_⟩|refine⟨aY rfl, ?_⟩
  ·have Xu:=MW _ _ _ _ _ hs.b0 hs.b1 hs.k hl.h hl.n hput;repeat' ((conv=>whnf);first|refine K1.u ?_|refine K1.C 1 [(0,_)] (Xu) rfl ?_|refine qM.mk (by decide) ?_|refine K1.z ?_|refine K1.y (λ _=>?_) (λ _=>?_)|fail)
   all_goals(conv=>whnf)
   refine⟨[],rfl,rfl, ?_,rfl,rfl,aP⟩;repeat' first|exact trivial|refine⟨aY rfl, ?_⟩
theorem PL(most:Int)(p:Pt)(r:Nat)(hp:oV p)(hr:r<p.sh.length)(l:List Ev)(s':jI)(hl:EvB l)(hs:iY (p.sh.getD r default))(hall:∀j,j<l.length->(l.getD j default).r=(r:Int))(hput:jJ most (p.sh.getD r default) l=(s',0))(hc:au Tryz.prog 84 (o9 most ⟨dL (λ _=>s') r p.sh,p.told⟩ ()) [.box 0 0,.v (.int .i64 (r:Int))] (.bJ []) (o9 most (oN ⟨dL (λ _=>s') r p.sh,p.told⟩ r) ()))(hln:au Tryz.prog 59 [(0,.obs (AA most (jw s' (iZ p.told r))))] [.box 0 0] (.v (.int .i64 (jw s' (iZ p.told r)).len)) [(0,.obs (AA most (jw s' (iZ p.told r))))]):
  au Tryz.prog 44 (o9 most p ()) [.box 0 0,.v (.int .i64 (r:Int)),.sl 12 l.length true (jH l)] (.bJ [.v (.int .i64 (jw s' (iZ p.told r)).len),.v (.int .i64 0)]) (o9 most (oN ⟨dL (λ _=>s') r p.sh,p.told⟩ r) ()):=by
 refine Pt.FP (C:=λ p r=>(iY (p.sh.getD r default))->(∀j,j<l.length->(l.getD j default).r=(r:Int))->(jJ most (p.sh.getD r default) l=(s',0))->(au Tryz.prog 84 (o9 most ⟨dL (λ _=>s') r p.sh,p.told⟩ ()) [.box 0 0,.v (.int .i64 (r:Int))] (.bJ []) (o9 most (oN ⟨dL (λ _=>s') r p.sh,p.told⟩ r) ()))->(au Tryz.prog 59 [(0,.obs (AA most (jw s' (iZ p.told r))))] [.box 0 0] (.v (.int .i64 (jw s' (iZ p.told r)).len)) [(0,.obs (AA most (jw s' (iZ p.told r))))])->au Tryz.prog 44 (o9 most p ()) [.box 0 0,.v (.int .i64 (r:Int)),.sl 12 l.length true (jH l)] (.bJ [.v (.int .i64 (jw s' (iZ p.told r)).len),.v (.int .i64 0)]) (o9 most (oN ⟨dL (λ _=>s') r p.sh,p.told⟩ r) ())) p r hp hr ?_ ?_ ?_ ?_ ?_ ?_ ?_ ?_ ?_ ?_ ?_ ?_ ?_ ?_ ?_ hs hall hput hc hln;all_goals
  intros;rename_i hs hall hput hc hln;dsimp only[o9,Q7,tJ,ptrs,PD,List.length,oN,dL,List.getD_cons_zero,List.getD_cons_succ]at*;refine K1.M 0x100107c6c7 Tryz.func44 40 ?_;repeat' ((conv=>whnf);first|refine K1.u ?_|refine K1.I 0x13 Tryz.func82 ?_|refine lD.yes (by decide) ?_|refine lD.no (by decide) ?_|refine K1.z ?_|refine K1.y (λ _=>?_) (λ _=>?_)|fail)
  conv=>whnf
  refine aK.cnt 17 l.length ?_ ?_
  ·refine iw.mk' [] _ _ _ rfl ?_ ?_ rfl;all_goals repeat' first|exact trivial|refine⟨aP, ?_⟩|refine⟨aY rfl, ?_⟩
  have hlh:=hl.h;rintro⟨j,hj⟩;dsimp only;by_cases hjl:j<l.length
  ·have hr:=hall j hjl;rw[show j=(j:Int).toNat by omega]at hr;repeat' ((conv=>whnf);first|refine K1.u ?_|refine K1.z ?_|refine K1.y (λ _=>?_) (λ _=>?_)|fail)
   all_goals(conv=>whnf)
   refine⟨⟨j+1,hjl⟩,[],iw.mk' [] _ _ _ rfl ?_ ?_ rfl,by show l.length-(j+1)<l.length-j;omega⟩;all_goals repeat' first|exact trivial|refine⟨aP, ?_⟩|refine⟨aY rfl, ?_⟩
  ·have Xu:=MW _ _ _ _ _ hs.b0 hs.b1 hs.k hl.h hl.n hput;repeat' ((conv=>whnf);first|refine K1.u ?_|refine K1.C 1 [(0,_)] (Xu) rfl ?_|refine K1.C 99 [(0,_),(10,_),(11,_),(20,_)] (hc) rfl ?_|refine K1.C 99 [(0,_),(10,_),(11,_),(20,_),(21,_)] (hc) rfl ?_|refine K1.C 99 [(0,_),(10,_),(11,_),(20,_),(21,_),(22,_)] (hc) rfl ?_|refine K1.C 99 [(0,_),(10,_),(11,_),(20,_),(21,_),(22,_),(23,_)] (hc) rfl ?_|refine K1.C 99 [(0,_),(10,_),(11,_),(20,_),(21,_),(22,_),(23,_),(24,_)] (hc) rfl ?_|refine K1.C 1 [(0,_)] (hln) rfl ?_|refine qM.mk (by decide) ?_|refine K1.z ?_|refine K1.y (λ _=>?_) (λ _=>?_)|fail)
   all_goals(conv=>whnf)
   refine⟨[],rfl,rfl, ?_,rfl,rfl,aP⟩;repeat' first|exact trivial|refine⟨aY rfl, ?_⟩
theorem IB(most:Int)(p p':Pt)(r:Nat)(hp:oV p)(hr:r<p.sh.length)(l:List Ev)(hl:EvB l)(hall:∀j,j<l.length->(l.getD j default).r=(r:Int))(hs:iY (jJ most (p.sh.getD r default) l).1)(u x:Int)(h:pushP most r l p=(p',u,x)):
  au Tryz.prog 44 [(0,.obs (wO most p))] [.box 0 0,.v (.int .i64 (r:Int)),.sl 12 l.length true (jH l)] (.bJ [.v (.int .i64 u),.v (.int .i64 x)]) [(0,.obs (wO most p'))]:=by
 refine FN (ho:=[]) ⟨_,_,Tryz.func44,rfl,rfl⟩ ?_ rfl;rw[List.append_nil];obtain⟨⟨s',y⟩,hput⟩:∃q,jJ most (p.sh.getD r default) l=q:=⟨_,rfl⟩;unfold pushP at h;rw[hput]at h hs;by_cases hy:y=0
 ·subst hy;rw[if_pos rfl]at h;cases h;exact PL most p r hp hr l s' hl (hp.get hr) hall hput (Nc most _ r (hp.set hs r) (by show r<(dL _ _ _).length;rw[dI];exact hr)) (Na most _ (JU hs _))
 ·have he:s'=p.sh.getD r default:=by have:=Xt (most:=most) (s:=p.sh.getD r default) (l:=l) (by rw[hput];exact hy);rw[hput]at this;exact this
  rw[if_neg hy]at h;cases h;rw[he]at hput;exact Nk most p r hp hr l y hl (hp.get hr) hall hput hy
end Go.Proofs.YtopfgjgdadnjeaaGreat
