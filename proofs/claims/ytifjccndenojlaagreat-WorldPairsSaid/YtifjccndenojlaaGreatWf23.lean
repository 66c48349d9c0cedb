/-
  Contracts of the walk:HbG.
-/
import Derived.Test.YtifjccndenojlaaGreatWf16
set_option maxHeartbeats 16000000
set_option maxRecDepth 100000
set_option linter.unusedVariables false
set_option linter.unusedSimpArgs false
namespace Go.Proofs.YtifjccndenojlaaGreat
open Go.RowKit
open Go.Proofs.Tryz
variable{a b c:List Ev}{n1 n2:Nat}
def lG(r:Nat)(c:aV):Nat->List jY->List Ev
 |_,[]=>[]
 |i,s::l=>(if i=r then []else s.kept.filter (qM (c.get i)))++lG r c (i+1) l
theorem ai0{s:jY}(h:iW s)(n:Int):(s.kept.filter (qM n)).length<=1048576:=ao7 (aoI _ _) h.k
theorem SQ{n:Nat}{l l':List Ev}(hn:n=l.length):kV n (dI l) (dI l')=dI (l++l'):=funext λ i=>els_app (c:=Ev.cs) hn i
theorem acA(most:Int)(s:jY)(n:Int)(h:iW s):aj prog 180 [(0,.obs (EJ most s))] [.box 0 0,.v (.int .i64 n)] (.own 1) [(0,.obs (EJ most s)),(1,bH (s.kept.filter (qM n)))]:=abY most s n h.k
theorem aaG(h1:n1=a.length)(h2:n2=n1+b.length):kV n2 (kV n1 (dI a) (dI b)) (dI c)=dI (a++b++c):=by
 rw[SQ h1,SQ (by rw[h2,h1,aop])]
theorem ai1{n3:Nat}{d:List Ev}(h1:n1=a.length)(h2:n2=n1+b.length)(h3:n3=n2+c.length):kV n3 (kV n2 (kV n1 (dI a) (dI b)) (dI c)) (dI d)=dI (a++b++c++d):=by
 rw[aaG h1 h2,SQ (by rw[h3,h2,h1,aop,aop])]
def fB(c:aV):Nat->List jY->Prop
 |_,[]=>True
 |i,s::l=>(s.kept.filter (qM (c.get i))).length<=1048576/\fB c (i+1) l
theorem aj9{c:aV}:∀{l:List jY}{i:Nat},(∀s∈l,iW s)->fB c i l
 |[],_,_=>trivial
 |s::_,_,h=>⟨ai0 (h s aol) _,aj9 λ x hx=>h x (aoq _ hx)⟩
theorem YT(most:Int)(p:Pt)(hp:qX p)(r:Nat)(c:aV)(hr:r<p.sh.length)(h2:2<=p.sh.length):
  aj prog 151 [(0,.obs (Bd most p))] [.box 0 0,.v (.int .i64 (r:Int)),.agg (yQ c)] (.bI [.own 1,.v (.int .i64 0)]) [(0,.obs (Bd most p)),(1,bH (lG r c 0 p.sh))]:=by
 refine Ld (ho:=[(1,bH (lG r c 0 p.sh))]) ⟨_,_,func151,rfl,rfl⟩ ?_ rfl;refine Pt.Le (C:=λ p r=>2<=p.sh.length->fB c 0 p.sh-> ∀l,lG r c 0 p.sh=l->aj prog 151 (rD most p ()) [.box 0 0,.v (.int .i64 (r:Int)),.agg (yQ c)] (.bI [.own 1,.v (.int .i64 0)]) (rD most p ()++[(1,bH l)])) p r hp hr ?_ ?_ ?_ ?_ ?_ ?_ ?_ ?_ ?_ ?_ ?_ ?_ ?_ ?_ ?_ h2 (aj9 hp.s) _ rfl
 ·intro s0 t0 g0 h2;simp at h2
 all_goals
  intros;rename_i hf _ e;simp[fB,lG,aV.get,-Nat.reduceLeDiff]at hf e;try simp only[<-aoL]at e
  subst e;dsimp only[rD,ptB,wC,ptrs,YI,bH,yQ,List.cons_append,List.nil_append];refine K1.M 0x83c47e7 func151 40 ?_;repeat' ((conv=>whnf);first|refine K1.u ?_|refine K1.C 1 [(0,_)] (acA _ _ _ a_) rfl ?_ rfl rfl rfl|refine K1.I 0x13 func101 ?_|refine aI.yP 20 6 rfl ?_|refine nV.mk d_ ?_|refine oC.yes d_ ?_|refine oC.no d_ ?_|fail)
  all_goals(conv=>whnf)
  first
   |refine⟨[(42,1)],rfl,rfl, ?_,rfl,rfl,au⟩
   |refine⟨[(44,1)],rfl,rfl, ?_,rfl,rfl,au⟩
   |refine⟨[(46,1)],rfl,rfl, ?_,rfl,rfl,au⟩
   |refine⟨[(48,1)],rfl,rfl, ?_,rfl,rfl,au⟩
  repeat' first
   |exact trivial
   |refine⟨ay rfl, ?_⟩
   |refine⟨⟨_,rfl,dK.row (by simp only[aop]) (λ m _=>congrFun (SQ rfl) m)⟩, ?_⟩
   |refine⟨⟨_,rfl,dK.row (by simp only[aop]) (λ m _=>congrFun (aaG rfl rfl) m)⟩, ?_⟩
   |refine⟨⟨_,rfl,dK.row (by simp only[aop]) (λ m _=>congrFun (ai1 rfl rfl rfl) m)⟩, ?_⟩
end Go.Proofs.YtifjccndenojlaaGreat
