/-
  Contracts of the walk:HbK.
-/
import Derived.Test.YtkimgljckickcaaGreatRa15
set_option maxHeartbeats 16000000
set_option maxRecDepth 100000
set_option linter.unusedVariables false
set_option linter.unusedSimpArgs false
namespace Go.Proofs.YtkimgljckickcaaGreat
open Go.RowKit
open Go.Proofs.Tryz
variable{p:Pt}{s:jU}
def mnI(a b:Int):Int:=if b<a then b else a
def aeU(a b:Int):Int:=if b>a then b else a
def aS.jn(a b:aS):aS:=⟨aeU a.c0 b.c0,aeU a.c1 b.c1,aeU a.c2 b.c2,aeU a.c3 b.c3,aeU a.c4 b.c4⟩
def QM(s:Nat):Int->List aS->Int
 |a,[]=>a
 |a,c::l=>QM s (mnI a (c.at s)) l
def iU(told:List aS)(s:Nat):Int:=QM s ((told.headD aV).at s) told
def dR{α:Type}(f:α->α):Nat->List α->List α
 |_,[]=>[]
 |0,x::l=>f x::l
 |i+1,x::l=>x::dR f i l
def qp(p:Pt)(s:Nat):Pt:=⟨dR (λ x=>jG x (iU p.told s)) s p.sh,p.told⟩
def mP(told:List aS):Nat->List jU->List jU
 |_,[]=>[]
 |i,s::l=>jG s (iU told i)::mP told (i+1) l
def qw(p:Pt)(r:Nat)(c:aS):Pt:=⟨mP (dR (λ t=>t.jn c) r p.told) 0 p.sh,dR (λ t=>t.jn c) r p.told⟩
def BZ:List (Nat×AO)->List (Nat×AO)->Prop
 |[],[]=>True
 |p::l,q::m=>p.1=q.1/\dK p.2 q.2/\BZ l m
 |_,_=>False
theorem BZ.blocks{ρ:Nat->Value}:∀{h g:List (Nat×AO)},BZ h g->ah ρ h=ah ρ g
 |[],[],_=>rfl
 |p::l,q::m,h=>by rw[aP,aP,h.1,BZ.blocks h.2.2]
theorem BZ.ok{X:CX}:∀{h g:List (Nat×AO)},BZ h g->(∀p∈h,aQ X p.1 p.2)-> ∀p∈g,aQ X p.1 p.2
 |[],[],_,_,_,hp=>by cases hp
 |p::l,q::m,h,hi,x,hx=>by
  rcases am4.1 hx with rfl|hx
  ·rw[<-h.1];exact h.2.1 _ _ (hi p amW)
  ·exact BZ.ok h.2.2 (λ y hy=>hi y (am1 _ hy)) x hx
theorem BZ.mem:∀{h g:List (Nat×AO)},BZ h g-> ∀p∈h,∃q∈g,q.1=p.1
 |[],[],_,_,hp=>by cases hp
 |p::l,q::m,h,x,hx=>by
  rcases am4.1 hx with rfl|hx
  ·exact⟨q,amW,h.1.symm⟩
  ·obtain⟨y,h1,h2⟩:=BZ.mem h.2.2 x hx;exact⟨y,am1 _ h1,h2⟩
theorem aj.ins{P:Program}{f:FuncId}{hin hin':List (Nat×AO)}{aW:List AV}{r:AV}{hout:List (Nat×AO)}(h:aj P f hin aW r hout)(hi:BZ hin' hin):aj P f hin' aW r hout:=by
 refine⟨h.1,λ w keep ρ args a1 a2 a3 a4 a5=>?_⟩;have e:=hi.blocks (ρ:=ρ);rw[e]at a3 a4⊢;refine(h.2 w keep ρ args a1 (hi.ok a2) a3 a4 a5).mono ?_;rintro x w' ⟨u,ρ',h1,h2,h3,h4⟩;exact⟨u,ρ',h1,h2,λ p hp q hq hqp=>by
  obtain⟨p',hp',he⟩:=hi.mem p hp;rw[<-he]at hqp⊢;exact h3 p' hp' q hq hqp,h4⟩
def ak5(i:Nat)(F:Nat->List AV)(c:List AV):Nat->List AV:=λ m=>bif m.beq i then c else F m
theorem QN(h:iQ s)(n:Int):iQ (jG s n):=by
 have hc:=D7 s.base s.kept.length n o_;have:=h.b0;have:=h.ln;exact⟨by show 0<=sG _ _ _;omega,by
  show sG _ _ _+((s.kept.drop _).length:Int)<=_;rw[anl];omega⟩
theorem Xy(a b:aS):aF prog 174 [.agg (yg a),.agg (yg b)] (.agg (yg (a.jn b))) []:=by
 dsimp only[yg,aS.jn];refine K1.E 0xff func174 ?_;repeat' ((conv=>whnf);first|refine K1.u ?_|refine aI.rounds 6 ?_|refine aT.fH ?_|refine K1.o (id:=4) (nN [0,1,2,3,4,5,6,7,8] [(9,some [7,6,3])]) ?_|refine K1.z ?_|fail)
 conv=>whnf
 exact bF.mk (bY)
theorem dw{α:Type}(f:α->α):∀(r:Nat)(l:List α),(dR f r l).length=l.length
 |r,[]=>by cases r<;>rfl
 |0,_::_=>rfl
 |r+1,x::l=>by show(dR f r l).length+1=_;rw[dw f r l];rfl
theorem vO{α:Type}{f:α->α}:∀{r:Nat}{l:List α}{y:α},y∈dR f r l->y∈l\/ ∃x∈l,y=f x
 |r,[],_,h=>by cases r<;>cases h
 |0,x::l,y,h=>by
  rcases am4.1 h with rfl|h
  ·exact .inr ⟨x,amW,rfl⟩
  ·exact .inl (am1 _ h)
 |r+1,x::l,y,h=>by
  rcases am4.1 h with rfl|h
  ·exact .inl amW
  ·rcases vO h with h|⟨z,hz,rfl⟩
   ·exact .inl (am1 _ h)
   ·exact .inr ⟨z,am1 _ hz,rfl⟩
theorem qA.get(hp:qA p){r:Nat}(hr:r<p.sh.length):iQ (p.sh.getD r default):=hp.s _ (by rw[List.getD,amX hr];exact anH hr)
theorem qA.set(hp:qA p)(hs:iQ s)(r:Nat):qA ⟨dR (λ _=>s) r p.sh,p.told⟩:=
 ⟨by rw[dw];exact hp.h1,by rw[dw];exact hp.h5,by rw[dw];exact hp.t,λ x hx=>by
  rcases vO hx with h|⟨_,_,rfl⟩
  ·exact hp.s _ h
  ·exact hs⟩
theorem aeV(hp:qA p)(r:Nat):qA (qp p r):=
 ⟨by show 1<=(dR _ _ _).length;rw[dw];exact hp.h1,by show(dR _ _ _).length<=5;rw[dw];exact hp.h5,by show _=(dR _ _ _).length;rw[dw];exact hp.t,λ x hx=>by
  rcases vO hx with h|⟨y,hy,rfl⟩
  ·exact hp.s _ h
  ·exact QN (hp.s _ hy) _⟩
theorem aeW(most:Int)(s:jU)(n:Int)(h:iQ s):aj prog 210 [(0,.obs (D6 most s))] [.box 0 0,.v (.int .i64 n)] (.aZ []) [(0,.obs (D6 most (jG s n)))]:=aeh most s n h.b0 h.b1 h.k
theorem U6(most:Int)(p:Pt)(r:Nat)(hp:qA p)(hr:r<p.sh.length):aj prog 173 (uP most p ()) [.box 0 0,.v (.int .i64 (r:Int))] (.aZ []) (uP most (qp p r) ()):=by
 refine Pt.JV (C:=λ p r=>aj prog 173 (uP most p ()) [.box 0 0,.v (.int .i64 (r:Int))] (.aZ []) (uP most (qp p r) ())) p r hp hr ?_ ?_ ?_ ?_ ?_ ?_ ?_ ?_ ?_ ?_ ?_ ?_ ?_ ?_ ?_;all_goals
  intros;dsimp only[uP,ptB,D8,ptrs,shs,qp,dR,iU,QM,List.headD,aS.at,List.length];refine K1.M 0x3c0053 func173 40 ?_;repeat' ((conv=>whnf);first|refine K1.u ?_|refine K1.C 1 [(0,_)] (aeW _ _ _ a_) rfl ?_ rfl rfl rfl|refine aI.rounds 6 ?_|refine mJ.mk d_ ?_|fail)
  all_goals(conv=>whnf)
  refine⟨[],rfl,rfl, ?_,rfl,rfl,bY⟩;repeat' first|exact trivial|refine⟨dB rfl, ?_⟩
def U7(p:Pt)(r:Nat)(c:aS):Nat->Pt
 |0=>⟨p.sh,dR (λ t=>t.jn c) r p.told⟩
 |s+1=>qp (U7 p r c s) s
def ak6(most:Int)(p:Pt)(r:Nat)(c:aS):List (Nat×AO):=(0,ptB)::(10,.rn (253:Nat) (ptrs 20 p.sh))::(11,.row 33 5 p.told.length true (ak5 r (clF p.told) (yg ((p.told.getD r aV).jn c))))::shs most 20 p.sh
def ak7(most:Int)(p:Pt)(r:Nat)(c:aS):Prop:=aj prog 173 (ak6 most p r c) [.box 0 0,.v (.int .i64 ((0:Nat):Int))] (.aZ []) (uP most (U7 p r c 1) ())/\
 ∀s:Nat,s<p.sh.length->aj prog 173 (uP most (U7 p r c s) ()) [.box 0 0,.v (.int .i64 (s:Int))] (.aZ []) (uP most (U7 p r c (s+1)) ())
theorem aeX{p:Pt}(hp:qA p)(r:Nat)(c:aS):∀s,qA (U7 p r c s)/\(U7 p r c s).sh.length=p.sh.length
 |0=>⟨⟨hp.h1,hp.h5,by show(dR _ _ _).length=_;rw[dw];exact hp.t,hp.s⟩,rfl⟩
 |s+1=>by
  have:=aeX hp r c s;exact⟨aeV this.1 s,by show(dR _ _ _).length=_;rw[dw];exact this.2⟩
theorem BZ.refl:∀h,BZ h h
 |[]=>trivial
 |_::l=>⟨rfl,dK.refl _,BZ.refl l⟩
theorem Zd{c:aS}:∀{l:List aS}{r m:Nat},m<l.length->ak5 r (clF l) (yg ((l.getD r aV).jn c)) m=clF (dR (λ t=>t.jn c) r l) m
 |[],_,_,h=>by simp at h
 |x::l,0,0,_=>rfl
 |x::l,0,m+1,_=>rfl
 |x::l,r+1,0,_=>rfl
 |x::l,r+1,m+1,h=>(Zd (l:=l) (r:=r) (m:=m) (by simpa using h):_)
theorem ahs(most:Int)(p:Pt)(hp:qA p)(r:Nat)(c:aS):ak7 most p r c:=by
 have hs:∀s:Nat,s<p.sh.length->aj prog 173 (uP most (U7 p r c s) ()) [.box 0 0,.v (.int .i64 (s:Int))] (.aZ []) (uP most (U7 p r c (s+1)) ()):=λ s hs=>by
  have:=aeX hp r c s;exact U6 most _ s this.1 (by rw[this.2];exact hs)
 refine⟨aj.ins (hs 0 hp.h1) ⟨rfl,dK.refl _,rfl,dK.refl _,rfl, ?_,BZ.refl _⟩,hs⟩;exact dK.row (dw _ _ _).symm λ m hm=>Zd hm
theorem U8(most:Int)(p:Pt)(hp:qA p)(r:Nat)(c:aS)(hr:r<p.sh.length):
  aj prog 115 [(0,.obs (BL most p))] [.box 0 0,.v (.int .i64 (r:Int)),.agg (yg c)] (.v (.int .i64 0)) [(0,.obs (BL most (qw p r c)))]:=by
 refine JU (ho:=[]) ⟨_,_,func115,rfl,rfl⟩ ?_ rfl;rw[am2];have hj:=Xy;refine Pt.JV (C:=λ p r=>ak7 most p r c->aj prog 115 (uP most p ()) [.box 0 0,.v (.int .i64 (r:Int)),.agg (yg c)] (.v (.int .i64 0)) (uP most (qw p r c) ())) p r hp hr ?_ ?_ ?_ ?_ ?_ ?_ ?_ ?_ ?_ ?_ ?_ ?_ ?_ ?_ ?_ (ahs most p hp r c);all_goals
  intros;rename_i hA;obtain⟨h0,hA⟩:=hA;try have h1:=hA 1 (am7 rfl)
  try have h2:=hA 2 (am7 rfl)
  try have h3:=hA 3 (am7 rfl)
  try have h4:=hA 4 (am7 rfl)
  clear hA;dsimp only[ak6,uP,ptB,D8,ptrs,shs,qp,qw,mP,dR,List.length,yg]at*;refine K1.M 0x3800008e7 func115 40 ?_;repeat' ((conv=>whnf);first|refine K1.u ?_|refine K1.P1 (hj _ _) ?_|refine K1.C 99 [(0,_),(10,_),(11,_),(20,_)] (h0) rfl ?_|refine K1.C 99 [(0,_),(10,_),(11,_),(20,_),(21,_)] (h0) rfl ?_|refine K1.C 99 [(0,_),(10,_),(11,_),(20,_),(21,_),(22,_)] (h0) rfl ?_|refine K1.C 99 [(0,_),(10,_),(11,_),(20,_),(21,_),(22,_),(23,_)] (h0) rfl ?_|refine K1.C 99 [(0,_),(10,_),(11,_),(20,_),(21,_),(22,_),(23,_),(24,_)] (h0) rfl ?_|refine K1.C 99 [(0,_),(10,_),(11,_),(20,_),(21,_)] (h1) rfl ?_|refine K1.C 99 [(0,_),(10,_),(11,_),(20,_),(21,_),(22,_)] (h1) rfl ?_|refine K1.C 99 [(0,_),(10,_),(11,_),(20,_),(21,_),(22,_),(23,_)] (h1) rfl ?_|refine K1.C 99 [(0,_),(10,_),(11,_),(20,_),(21,_),(22,_),(23,_),(24,_)] (h1) rfl ?_|refine K1.C 99 [(0,_),(10,_),(11,_),(20,_),(21,_),(22,_)] (h2) rfl ?_|refine K1.C 99 [(0,_),(10,_),(11,_),(20,_),(21,_),(22,_),(23,_)] (h2) rfl ?_|refine K1.C 99 [(0,_),(10,_),(11,_),(20,_),(21,_),(22,_),(23,_),(24,_)] (h2) rfl ?_|refine K1.C 99 [(0,_),(10,_),(11,_),(20,_),(21,_),(22,_),(23,_)] (h3) rfl ?_|refine K1.C 99 [(0,_),(10,_),(11,_),(20,_),(21,_),(22,_),(23,_),(24,_)] (h3) rfl ?_|refine K1.C 99 [(0,_),(10,_),(11,_),(20,_),(21,_),(22,_),(23,_),(24,_)] (h4) rfl ?_|refine K1.I 0x13 func171 ?_|refine aI.rounds 6 ?_|refine nR.yes d_ ?_|refine nR.no d_ ?_|refine K1.o (id:=3) (nN [0,1,2,3,4,5,6,7,8,9,10,11,12] [(13,some [12,11,8,6]),(14,none),(15,some [12,11,8,6,3,1])]) ?_|fail)
  all_goals(conv=>whnf)
  refine⟨[],rfl,rfl, ?_,rfl,rfl,bY⟩;repeat' first|exact trivial|refine⟨dB rfl, ?_⟩
end Go.Proofs.YtkimgljckickcaaGreat
