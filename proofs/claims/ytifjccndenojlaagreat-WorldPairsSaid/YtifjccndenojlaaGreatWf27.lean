/-
  Contracts of the walk:HbK.
-/
import Derived.Test.YtifjccndenojlaaGreatWf16
set_option maxHeartbeats 16000000
set_option maxRecDepth 100000
set_option linter.unusedVariables false
set_option linter.unusedSimpArgs false
namespace Go.Proofs.YtifjccndenojlaaGreat
open Go.RowKit
open Go.Proofs.Tryz
variable{p:Pt}{s:jY}
def mnI(a b:Int):Int:=if b<a then b else a
def agw(a b:Int):Int:=if b>a then b else a
def aV.jn(a b:aV):aV:=⟨agw a.c0 b.c0,agw a.c1 b.c1,agw a.c2 b.c2,agw a.c3 b.c3,agw a.c4 b.c4⟩
def Td(s:Nat):Int->List aV->Int
 |a,[]=>a
 |a,c::l=>Td s (mnI a (c.at s)) l
def jc(told:List aV)(s:Nat):Int:=Td s ((told.headD aW).at s) told
def eF{α:Type}(f:α->α):Nat->List α->List α
 |_,[]=>[]
 |0,x::l=>f x::l
 |i+1,x::l=>x::eF f i l
def qP(p:Pt)(s:Nat):Pt:=⟨eF (λ x=>jO x (jc p.told s)) s p.sh,p.told⟩
def mZ(told:List aV):Nat->List jY->List jY
 |_,[]=>[]
 |i,s::l=>jO s (jc told i)::mZ told (i+1) l
def qQ(p:Pt)(r:Nat)(c:aV):Pt:=⟨mZ (eF (λ t=>t.jn c) r p.told) 0 p.sh,eF (λ t=>t.jn c) r p.told⟩
def Dq:List (Nat×AO)->List (Nat×AO)->Prop
 |[],[]=>True
 |p::l,q::m=>p.1=q.1/\dK p.2 q.2/\Dq l m
 |_,_=>False
theorem Dq.blocks{ρ:Nat->Value}:∀{h g:List (Nat×AO)},Dq h g->ah ρ h=ah ρ g
 |[],[],_=>rfl
 |p::l,q::m,h=>by rw[aS,aS,h.1,Dq.blocks h.2.2]
theorem Dq.ok{X:CX}:∀{h g:List (Nat×AO)},Dq h g->(∀p∈h,aT X p.1 p.2)-> ∀p∈g,aT X p.1 p.2
 |[],[],_,_,_,hp=>by cases hp
 |p::l,q::m,h,hi,x,hx=>by
  rcases aot.1 hx with rfl|hx
  ·rw[<-h.1];exact h.2.1 _ _ (hi p aol)
  ·exact Dq.ok h.2.2 (λ y hy=>hi y (aoq _ hy)) x hx
theorem Dq.mem:∀{h g:List (Nat×AO)},Dq h g-> ∀p∈h,∃q∈g,q.1=p.1
 |[],[],_,_,hp=>by cases hp
 |p::l,q::m,h,x,hx=>by
  rcases aot.1 hx with rfl|hx
  ·exact⟨q,aol,h.1.symm⟩
  ·obtain⟨y,h1,h2⟩:=Dq.mem h.2.2 x hx;exact⟨y,aoq _ h1,h2⟩
theorem aj.ins{P:Program}{f:FuncId}{hin hin':List (Nat×AO)}{aZ:List AV}{r:AV}{hout:List (Nat×AO)}(h:aj P f hin aZ r hout)(hi:Dq hin' hin):aj P f hin' aZ r hout:=by
 refine⟨h.1,λ w keep ρ args a1 a2 a3 a4 a5=>?_⟩;have e:=hi.blocks (ρ:=ρ);rw[e]at a3 a4⊢;refine(h.2 w keep ρ args a1 (hi.ok a2) a3 a4 a5).mono ?_;rintro x w' ⟨u,ρ',h1,h2,h3,h4⟩;exact⟨u,ρ',h1,h2,λ p hp q hq hqp=>by
  obtain⟨p',hp',he⟩:=hi.mem p hp;rw[<-he]at hqp⊢;exact h3 p' hp' q hq hqp,h4⟩
def amK(i:Nat)(F:Nat->List AV)(c:List AV):Nat->List AV:=λ m=>bif m.beq i then c else F m
theorem Tf(h:iW s)(n:Int):iW (jO s n):=by
 have hc:=EK s.base s.kept.length n o_;have:=h.b0;have:=h.ln;exact⟨by show 0<=tu _ _ _;omega,by
  show tu _ _ _+((s.kept.drop _).length:Int)<=_;rw[aoK];omega⟩
theorem Y2(a b:aV):aH prog 104 [.agg (yQ a),.agg (yQ b)] (.agg (yQ (a.jn b))) []:=by
 dsimp only[yQ,aV.jn];refine K1.E 0xff func104 ?_;repeat' ((conv=>whnf);first|refine K1.u ?_|refine aI.rounds 6 ?_|refine aU.fF ?_|refine K1.o (id:=4) (nN [0,1,2,3,4,5,6,7,8] [(9,some [7,6,3])]) ?_|refine K1.z ?_|fail)
 conv=>whnf
 exact bn.mk (au)
theorem dH{α:Type}(f:α->α):∀(r:Nat)(l:List α),(eF f r l).length=l.length
 |r,[]=>by cases r<;>rfl
 |0,_::_=>rfl
 |r+1,x::l=>by show(eF f r l).length+1=_;rw[dH f r l];rfl
theorem wL{α:Type}{f:α->α}:∀{r:Nat}{l:List α}{y:α},y∈eF f r l->y∈l\/ ∃x∈l,y=f x
 |r,[],_,h=>by cases r<;>cases h
 |0,x::l,y,h=>by
  rcases aot.1 h with rfl|h
  ·exact .inr ⟨x,aol,rfl⟩
  ·exact .inl (aoq _ h)
 |r+1,x::l,y,h=>by
  rcases aot.1 h with rfl|h
  ·exact .inl aol
  ·rcases wL h with h|⟨z,hz,rfl⟩
   ·exact .inl (aoq _ h)
   ·exact .inr ⟨z,aoq _ hz,rfl⟩
theorem qX.get(hp:qX p){r:Nat}(hr:r<p.sh.length):iW (p.sh.getD r default):=hp.s _ (by rw[List.getD,aom hr];exact ao1 hr)
theorem qX.set(hp:qX p)(hs:iW s)(r:Nat):qX ⟨eF (λ _=>s) r p.sh,p.told⟩:=
 ⟨by rw[dH];exact hp.h1,by rw[dH];exact hp.h5,by rw[dH];exact hp.t,λ x hx=>by
  rcases wL hx with h|⟨_,_,rfl⟩
  ·exact hp.s _ h
  ·exact hs⟩
theorem agx(hp:qX p)(r:Nat):qX (qP p r):=
 ⟨by show 1<=(eF _ _ _).length;rw[dH];exact hp.h1,by show(eF _ _ _).length<=5;rw[dH];exact hp.h5,by show _=(eF _ _ _).length;rw[dH];exact hp.t,λ x hx=>by
  rcases wL hx with h|⟨y,hy,rfl⟩
  ·exact hp.s _ h
  ·exact Tf (hp.s _ hy) _⟩
theorem agy(most:Int)(s:jY)(n:Int)(h:iW s):aj prog 141 [(0,.obs (EJ most s))] [.box 0 0,.v (.int .i64 n)] (.bI []) [(0,.obs (EJ most (jO s n)))]:=afA most s n h.b0 h.b1 h.k
theorem WG(most:Int)(p:Pt)(r:Nat)(hp:qX p)(hr:r<p.sh.length):aj prog 103 (rD most p ()) [.box 0 0,.v (.int .i64 (r:Int))] (.bI []) (rD most (qP p r) ()):=by
 refine Pt.Le (C:=λ p r=>aj prog 103 (rD most p ()) [.box 0 0,.v (.int .i64 (r:Int))] (.bI []) (rD most (qP p r) ())) p r hp hr ?_ ?_ ?_ ?_ ?_ ?_ ?_ ?_ ?_ ?_ ?_ ?_ ?_ ?_ ?_;all_goals
  intros;dsimp only[rD,ptB,wC,ptrs,YI,qP,eF,jc,Td,List.headD,aV.at,List.length];refine K1.M 0x3c0053 func103 40 ?_;repeat' ((conv=>whnf);first|refine K1.u ?_|refine K1.C 1 [(0,_)] (agy _ _ _ a_) rfl ?_ rfl rfl rfl|refine aI.rounds 6 ?_|refine nV.mk d_ ?_|fail)
  all_goals(conv=>whnf)
  refine⟨[],rfl,rfl, ?_,rfl,rfl,au⟩;repeat' first|exact trivial|refine⟨ay rfl, ?_⟩
def WH(p:Pt)(r:Nat)(c:aV):Nat->Pt
 |0=>⟨p.sh,eF (λ t=>t.jn c) r p.told⟩
 |s+1=>qP (WH p r c s) s
def amL(most:Int)(p:Pt)(r:Nat)(c:aV):List (Nat×AO):=(0,ptB)::(10,.rn (200:Nat) (ptrs 20 p.sh))::(11,.row 41 5 p.told.length true (amK r (clF p.told) (yQ ((p.told.getD r aW).jn c))))::YI most 20 p.sh
def amM(most:Int)(p:Pt)(r:Nat)(c:aV):Prop:=aj prog 103 (amL most p r c) [.box 0 0,.v (.int .i64 ((0:Nat):Int))] (.bI []) (rD most (WH p r c 1) ())/\
 ∀s:Nat,s<p.sh.length->aj prog 103 (rD most (WH p r c s) ()) [.box 0 0,.v (.int .i64 (s:Int))] (.bI []) (rD most (WH p r c (s+1)) ())
theorem agz{p:Pt}(hp:qX p)(r:Nat)(c:aV):∀s,qX (WH p r c s)/\(WH p r c s).sh.length=p.sh.length
 |0=>⟨⟨hp.h1,hp.h5,by show(eF _ _ _).length=_;rw[dH];exact hp.t,hp.s⟩,rfl⟩
 |s+1=>by
  have:=agz hp r c s;exact⟨agx this.1 s,by show(eF _ _ _).length=_;rw[dH];exact this.2⟩
theorem Dq.refl:∀h,Dq h h
 |[]=>trivial
 |_::l=>⟨rfl,dK.refl _,Dq.refl l⟩
theorem aaL{c:aV}:∀{l:List aV}{r m:Nat},m<l.length->amK r (clF l) (yQ ((l.getD r aW).jn c)) m=clF (eF (λ t=>t.jn c) r l) m
 |[],_,_,h=>by simp at h
 |x::l,0,0,_=>rfl
 |x::l,0,m+1,_=>rfl
 |x::l,r+1,0,_=>rfl
 |x::l,r+1,m+1,h=>(aaL (l:=l) (r:=r) (m:=m) (by simpa using h):_)
theorem aja(most:Int)(p:Pt)(hp:qX p)(r:Nat)(c:aV):amM most p r c:=by
 have hs:∀s:Nat,s<p.sh.length->aj prog 103 (rD most (WH p r c s) ()) [.box 0 0,.v (.int .i64 (s:Int))] (.bI []) (rD most (WH p r c (s+1)) ()):=λ s hs=>by
  have:=agz hp r c s;exact WG most _ s this.1 (by rw[this.2];exact hs)
 refine⟨aj.ins (hs 0 hp.h1) ⟨rfl,dK.refl _,rfl,dK.refl _,rfl, ?_,Dq.refl _⟩,hs⟩;exact dK.row (dH _ _ _).symm λ m hm=>aaL hm
theorem WI(most:Int)(p:Pt)(hp:qX p)(r:Nat)(c:aV)(hr:r<p.sh.length):
  aj prog 66 [(0,.obs (Bd most p))] [.box 0 0,.v (.int .i64 (r:Int)),.agg (yQ c)] (.v (.int .i64 0)) [(0,.obs (Bd most (qQ p r c)))]:=by
 refine Ld (ho:=[]) ⟨_,_,func66,rfl,rfl⟩ ?_ rfl;rw[aor];have hj:=Y2;refine Pt.Le (C:=λ p r=>amM most p r c->aj prog 66 (rD most p ()) [.box 0 0,.v (.int .i64 (r:Int)),.agg (yQ c)] (.v (.int .i64 0)) (rD most (qQ p r c) ())) p r hp hr ?_ ?_ ?_ ?_ ?_ ?_ ?_ ?_ ?_ ?_ ?_ ?_ ?_ ?_ ?_ (aja most p hp r c);all_goals
  intros;rename_i hA;obtain⟨h0,hA⟩:=hA;try have h1:=hA 1 (aox rfl)
  try have h2:=hA 2 (aox rfl)
  try have h3:=hA 3 (aox rfl)
  try have h4:=hA 4 (aox rfl)
  clear hA;dsimp only[amL,rD,ptB,wC,ptrs,YI,qP,qQ,mZ,eF,List.length,yQ]at*;refine K1.M 0x3800008e7 func66 40 ?_;repeat' ((conv=>whnf);first|refine K1.u ?_|refine K1.P1 (hj _ _) ?_|refine K1.C 99 [(0,_),(10,_),(11,_),(20,_)] (h0) rfl ?_|refine K1.C 99 [(0,_),(10,_),(11,_),(20,_),(21,_)] (h0) rfl ?_|refine K1.C 99 [(0,_),(10,_),(11,_),(20,_),(21,_),(22,_)] (h0) rfl ?_|refine K1.C 99 [(0,_),(10,_),(11,_),(20,_),(21,_),(22,_),(23,_)] (h0) rfl ?_|refine K1.C 99 [(0,_),(10,_),(11,_),(20,_),(21,_),(22,_),(23,_),(24,_)] (h0) rfl ?_|refine K1.C 99 [(0,_),(10,_),(11,_),(20,_),(21,_)] (h1) rfl ?_|refine K1.C 99 [(0,_),(10,_),(11,_),(20,_),(21,_),(22,_)] (h1) rfl ?_|refine K1.C 99 [(0,_),(10,_),(11,_),(20,_),(21,_),(22,_),(23,_)] (h1) rfl ?_|refine K1.C 99 [(0,_),(10,_),(11,_),(20,_),(21,_),(22,_),(23,_),(24,_)] (h1) rfl ?_|refine K1.C 99 [(0,_),(10,_),(11,_),(20,_),(21,_),(22,_)] (h2) rfl ?_|refine K1.C 99 [(0,_),(10,_),(11,_),(20,_),(21,_),(22,_),(23,_)] (h2) rfl ?_|refine K1.C 99 [(0,_),(10,_),(11,_),(20,_),(21,_),(22,_),(23,_),(24,_)] (h2) rfl ?_|refine K1.C 99 [(0,_),(10,_),(11,_),(20,_),(21,_),(22,_),(23,_)] (h3) rfl ?_|refine K1.C 99 [(0,_),(10,_),(11,_),(20,_),(21,_),(22,_),(23,_),(24,_)] (h3) rfl ?_|refine K1.C 99 [(0,_),(10,_),(11,_),(20,_),(21,_),(22,_),(23,_),(24,_)] (h4) rfl ?_|refine K1.I 0x13 func101 ?_|refine aI.rounds 6 ?_|refine oC.yes d_ ?_|refine oC.no d_ ?_|refine K1.o (id:=3) (nN [0,1,2,3,4,5,6,7,8,9,10,11,12] [(13,some [12,11,8,6]),(14,none),(15,some [12,11,8,6,3,1])]) ?_|fail)
  all_goals(conv=>whnf)
  refine⟨[],rfl,rfl, ?_,rfl,rfl,au⟩;repeat' first|exact trivial|refine⟨ay rfl, ?_⟩
end Go.Proofs.YtifjccndenojlaaGreat
