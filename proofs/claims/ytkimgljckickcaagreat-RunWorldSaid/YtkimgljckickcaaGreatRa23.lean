/-
  Contracts of the walk:HbG.
-/
import Derived.Test.YtkimgljckickcaaGreatRa15
set_option maxHeartbeats 16000000
set_option maxRecDepth 100000
set_option linter.unusedVariables false
set_option linter.unusedSimpArgs false
namespace Go.Proofs.YtkimgljckickcaaGreat
open Go.RowKit
open Go.Proofs.Tryz
variable{a b c:List Ev}{n1 n2:Nat}
def kX(r:Nat)(c:aS):Nat->List jU->List Ev
 |_,[]=>[]
 |i,s::l=>(if i=r then []else s.kept.filter (ql (c.get i)))++kX r c (i+1) l
theorem ahq{s:jU}(h:iQ s)(n:Int):(s.kept.filter (ql n)).length<=1048576:=anK (anj _ _) h.k
theorem QL{n:Nat}{l l':List Ev}(hn:n=l.length):lV n (dA l) (dA l')=dA (l++l'):=funext λ i=>els_app (c:=Ev.cs) hn i
theorem aa8(most:Int)(s:jU)(n:Int)(h:iQ s):aj prog 229 [(0,.obs (D6 most s))] [.box 0 0,.v (.int .i64 n)] (.own 1) [(0,.obs (D6 most s)),(1,bn (s.kept.filter (ql n)))]:=aaG most s n h.k
theorem Zc(h1:n1=a.length)(h2:n2=n1+b.length):lV n2 (lV n1 (dA a) (dA b)) (dA c)=dA (a++b++c):=by
 rw[QL h1,QL (by rw[h2,h1,am0])]
theorem ahr{n3:Nat}{d:List Ev}(h1:n1=a.length)(h2:n2=n1+b.length)(h3:n3=n2+c.length):lV n3 (lV n2 (lV n1 (dA a) (dA b)) (dA c)) (dA d)=dA (a++b++c++d):=by
 rw[Zc h1 h2,QL (by rw[h3,h2,h1,am0,am0])]
def fB(c:aS):Nat->List jU->Prop
 |_,[]=>True
 |i,s::l=>(s.kept.filter (ql (c.get i))).length<=1048576/\fB c (i+1) l
theorem aiC{c:aS}:∀{l:List jU}{i:Nat},(∀s∈l,iQ s)->fB c i l
 |[],_,_=>trivial
 |s::_,_,h=>⟨ahq (h s amW) _,aiC λ x hx=>h x (am1 _ hx)⟩
theorem Xx(most:Int)(p:Pt)(hp:qA p)(r:Nat)(c:aS)(hr:r<p.sh.length)(h2:2<=p.sh.length):
  aj prog 200 [(0,.obs (BL most p))] [.box 0 0,.v (.int .i64 (r:Int)),.agg (yg c)] (.aZ [.own 1,.v (.int .i64 0)]) [(0,.obs (BL most p)),(1,bn (kX r c 0 p.sh))]:=by
 refine JU (ho:=[(1,bn (kX r c 0 p.sh))]) ⟨_,_,func200,rfl,rfl⟩ ?_ rfl;refine Pt.JV (C:=λ p r=>2<=p.sh.length->fB c 0 p.sh-> ∀l,kX r c 0 p.sh=l->aj prog 200 (uP most p ()) [.box 0 0,.v (.int .i64 (r:Int)),.agg (yg c)] (.aZ [.own 1,.v (.int .i64 0)]) (uP most p ()++[(1,bn l)])) p r hp hr ?_ ?_ ?_ ?_ ?_ ?_ ?_ ?_ ?_ ?_ ?_ ?_ ?_ ?_ ?_ h2 (aiC hp.s) _ rfl
 ·intro s0 t0 g0 h2;simp at h2
 all_goals
  intros;rename_i hf _ e;simp[fB,kX,aS.get,-Nat.reduceLeDiff]at hf e;try simp only[<-anm]at e
  subst e;dsimp only[uP,ptB,D8,ptrs,shs,bn,yg,List.cons_append,List.nil_append];refine K1.M 0x83c47e7 func200 40 ?_;repeat' ((conv=>whnf);first|refine K1.u ?_|refine K1.C 1 [(0,_)] (aa8 _ _ _ a_) rfl ?_ rfl rfl rfl|refine K1.I 0x13 func171 ?_|refine aI.Au 20 6 rfl ?_|refine mJ.mk d_ ?_|refine nR.yes d_ ?_|refine nR.no d_ ?_|fail)
  all_goals(conv=>whnf)
  first
   |refine⟨[(42,1)],rfl,rfl, ?_,rfl,rfl,bY⟩
   |refine⟨[(44,1)],rfl,rfl, ?_,rfl,rfl,bY⟩
   |refine⟨[(46,1)],rfl,rfl, ?_,rfl,rfl,bY⟩
   |refine⟨[(48,1)],rfl,rfl, ?_,rfl,rfl,bY⟩
  repeat' first
   |exact trivial
   |refine⟨dB rfl, ?_⟩
   |refine⟨⟨_,rfl,dK.row (by simp only[am0]) (λ m _=>congrFun (QL rfl) m)⟩, ?_⟩
   |refine⟨⟨_,rfl,dK.row (by simp only[am0]) (λ m _=>congrFun (Zc rfl rfl) m)⟩, ?_⟩
   |refine⟨⟨_,rfl,dK.row (by simp only[am0]) (λ m _=>congrFun (ahr rfl rfl rfl) m)⟩, ?_⟩
end Go.Proofs.YtkimgljckickcaaGreat
