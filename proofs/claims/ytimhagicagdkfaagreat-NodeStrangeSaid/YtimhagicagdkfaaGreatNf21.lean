/-
  Contracts of the walk:LvD,LvE,Ay,LvF,LvI,LvH,LvG,LvP,TxL.
-/
import Derived.Test.YtimhagicagdkfaaGreatNf19
import Derived.Test.YtimhagicagdkfaaGreatNf6
import Derived.Test.YtimhagicagdkfaaGreatNf18
import Derived.Test.YtimhagicagdkfaaGreatNf9
set_option linter.unusedVariables false
set_option linter.unusedSimpArgs false
set_option maxHeartbeats 16000000
set_option maxRecDepth 100000
namespace Go.Proofs.YtimhagicagdkfaaGreat
section
open Go.RowKit
theorem Bg (g:FuncId) (same:Ev→Bool) (kind:Int) (e:Ev) (hs: ∀a,aH Tryz.prog g [a.av] (.v (.bool (same a))) [])
  (l:List Ev) (r:Ev) (rs:List Ev) (hr:l.filter (bG kind same e)=r::rs) (hl:l.length≤1000000000):
  aY Tryz.prog 159 [(0,jI l)] [.own 0,e.av,.v (.int .i64 kind),.fn g []] (.own 1) [(1,.row 42 12 (rs.length+1) true (dV (r::rs)))]:=by
 dsimp only[Ev.av,Ev.cs]
 refine K1.M 0x20000fb2f Tryz.func159 10 ?_
 repeat' ((conv=>whnf);first|refine K1.w ?_|refine K1.u ?_|refine aG.cO ?_|refine K1.z ?_|refine K1.y (fun _=> ?_) (fun _=> ?_)|fail)
 conv=>whnf
 refine aJ.BG 0 rfl ?_
 refine aJ.mk (La (bG kind same e) l) (fun x=>match x with
   |⟨(j,[]),_⟩=>⟨[(0,.sl 12 l.length true (dV l)),(2,.v (.int .i64 kind)),(3,.fn g []),(5,.box 10 0),(9,.v (.slice none 0 0)),(12,.sl 12 l.length true (dV l)),(13,.v (.int .i64 (l.length:Int))),(14,.v (.int .i64 (j:Int)))],[(10,.box 42 e.cs)],[[(0,.sl 12 l.length true (dV l))]],11⟩
   |⟨(j,y::ys),_⟩=>⟨[(0,.sl 12 l.length true (dV l)),(2,.v (.int .i64 kind)),(3,.fn g []),(5,.box 10 0),(9,.own 90),(12,.sl 12 l.length true (dV l)),(13,.v (.int .i64 (l.length:Int))),(14,.v (.int .i64 (j:Int)))],[(10,.box 42 e.cs),(90,.row 42 12 (ys.length+1) true (dV (y::ys)))],[[(0,.sl 12 l.length true (dV l))]],91⟩) (fun x=>l.length-x.1.1) ⟨(0,[]),Nat.zero_le _,rfl⟩ _
   (dB.mk' [] _ _ _ rfl ⟨aj.refl _,aj.refl _,aj.refl _,aj.refl _,aj.refl _,aj.refl _,aj.int rfl,aj.int rfl,trivial⟩ ⟨⟨_,rfl,au.refl _⟩,trivial⟩ rfl) ?_
 rintro⟨⟨j,ys⟩,hj,hys⟩
 dsimp only at hj hys
 rcases ys with _|⟨y,ys⟩
 · dsimp only
   by_cases hjl:j<l.length
   · have hab:=hs (l.getD (j:Int).toNat default)
     have hbb:=iQ (l.getD (j:Int).toNat default) e
     have hft:=cZ (p:=bG kind same e) hjl
     rw[←hys,List.nil_append]at hft
     rw[show l.getD j default=l.getD (j:Int).toNat default from rfl]at hft
     have hk: ¬ (l.getD (j:Int).toNat default).k=kind→[l.getD j default]=(l.take (j+1)).filter (bG kind same e):=fun h=>by rw[hft,wU h];rfl
     have hsm:same (l.getD (j:Int).toNat default)=false→[l.getD j default]=(l.take (j+1)).filter (bG kind same e):=fun h=>by rw[hft,wV h];rfl
     have hbl:aN (l.getD (j:Int).toNat default) e=false→[l.getD j default]=(l.take (j+1)).filter (bG kind same e):=fun h=>by rw[hft,wW h];rfl
     have hno:(l.getD (j:Int).toNat default).k=kind→same (l.getD (j:Int).toNat default)=true→aN (l.getD (j:Int).toNat default) e=true→[]=(l.take (j+1)).filter (bG kind same e):=fun h h1 h2=>by rw[hft,wX h h1 h2];simp
     clear hft
     generalize same (l.getD (j:Int).toNat default)=q1 at hab hsm hno
     generalize aN (l.getD (j:Int).toNat default) e=q2 at hbb hbl hno
     dsimp only[Ev.av,Ev.cs]at hab hbb⊢
     repeat' ((conv=>whnf);first|refine K1.w ?_|refine K1.u ?_|refine K1.P1 (hab) rfl ?_|refine K1.P1 (hbb) rfl ?_|refine aG.cO ?_|refine K1.z ?_|refine K1.y (fun _=> ?_) (fun _=> ?_)|fail)
     all_goals(conv=>whnf)
     all_goals first
       |exact⟨⟨(j+1,[]),hjl,hno (by assumption) (by assumption) (by assumption)⟩,_,dB.mk' [] _ _ _ rfl ⟨aj.refl _,aj.refl _,aj.refl _,aj.refl _,aj.refl _,aj.refl _,aj.int rfl,aj.int rfl,trivial⟩ ⟨⟨_,rfl,au.refl _⟩,trivial⟩ rfl,by show l.length-(j+1)<l.length-j;omega⟩
       | (refine⟨⟨(j+1,[l.getD j default]),hjl,by first|exact hk (by assumption)|exact hsm (by assumption)|exact hbl (by assumption)⟩,_,dB.mk' [(12,90)] _ _ _ rfl ⟨aj.refl _,aj.refl _,aj.refl _,aj.refl _,aj.refl _,aj.refl _,aj.int rfl,aj.int rfl,trivial⟩ ⟨⟨_,rfl,au.refl _⟩,⟨_,rfl,au.row rfl (fun m hm=> ?_)⟩,trivial⟩ rfl,by show l.length-(j+1)<l.length-j;omega⟩
          have hm:m<1:=hm
          obtain rfl:m=0:=by omega
          rfl)
       | (refine⟨⟨(j+1,[l.getD j default]),hjl,by first|exact hk (by assumption)|exact hsm (by assumption)|exact hbl (by assumption)⟩,_,dB.mk' [(13,90)] _ _ _ rfl ⟨aj.refl _,aj.refl _,aj.refl _,aj.refl _,aj.refl _,aj.refl _,aj.int rfl,aj.int rfl,trivial⟩ ⟨⟨_,rfl,au.refl _⟩,⟨_,rfl,au.row rfl (fun m hm=> ?_)⟩,trivial⟩ rfl,by show l.length-(j+1)<l.length-j;omega⟩
          have hm:m<1:=hm
          obtain rfl:m=0:=by omega
          rfl)
       | (refine⟨⟨(j+1,[l.getD j default]),hjl,by first|exact hk (by assumption)|exact hsm (by assumption)|exact hbl (by assumption)⟩,_,dB.mk' [(14,90)] _ _ _ rfl ⟨aj.refl _,aj.refl _,aj.refl _,aj.refl _,aj.refl _,aj.refl _,aj.int rfl,aj.int rfl,trivial⟩ ⟨⟨_,rfl,au.refl _⟩,⟨_,rfl,au.row rfl (fun m hm=> ?_)⟩,trivial⟩ rfl,by show l.length-(j+1)<l.length-j;omega⟩
          have hm:m<1:=hm
          obtain rfl:m=0:=by omega
          rfl)
       | (refine⟨⟨(j+1,[l.getD j default]),hjl,by first|exact hk (by assumption)|exact hsm (by assumption)|exact hbl (by assumption)⟩,_,dB.mk' [(15,90)] _ _ _ rfl ⟨aj.refl _,aj.refl _,aj.refl _,aj.refl _,aj.refl _,aj.refl _,aj.int rfl,aj.int rfl,trivial⟩ ⟨⟨_,rfl,au.refl _⟩,⟨_,rfl,au.row rfl (fun m hm=> ?_)⟩,trivial⟩ rfl,by show l.length-(j+1)<l.length-j;omega⟩
          have hm:m<1:=hm
          obtain rfl:m=0:=by omega
          rfl)
   · have e0:l.filter (bG kind same e)=[]:=by rw[List.take_of_length_le (by omega)]at hys;exact hys.symm
     rw[hr]at e0
     cases e0
 · dsimp only
   have hyl:ys.length+1≤j:=by
    have h1:=congrArg List.length hys
    have h2:=List.length_filter_le (bG kind same e) (l.take j)
    rw[List.length_take]at h2
    rw[List.length_cons]at h1
    omega
   by_cases hjl:j<l.length
   · have hab:=hs (l.getD (j:Int).toNat default)
     have hbb:=iQ (l.getD (j:Int).toNat default) e
     have hft:=cZ (p:=bG kind same e) hjl
     rw[←hys]at hft
     rw[show l.getD j default=l.getD (j:Int).toNat default from rfl]at hft
     have hk: ¬ (l.getD (j:Int).toNat default).k=kind→y::(ys++[l.getD j default])=(l.take (j+1)).filter (bG kind same e):=fun h=>by rw[hft,wU h];rfl
     have hsm:same (l.getD (j:Int).toNat default)=false→y::(ys++[l.getD j default])=(l.take (j+1)).filter (bG kind same e):=fun h=>by rw[hft,wV h];rfl
     have hbl:aN (l.getD (j:Int).toNat default) e=false→y::(ys++[l.getD j default])=(l.take (j+1)).filter (bG kind same e):=fun h=>by rw[hft,wW h];rfl
     have hno:(l.getD (j:Int).toNat default).k=kind→same (l.getD (j:Int).toNat default)=true→aN (l.getD (j:Int).toNat default) e=true→y::ys=(l.take (j+1)).filter (bG kind same e):=fun h h1 h2=>by rw[hft,wX h h1 h2];simp
     clear hft
     generalize same (l.getD (j:Int).toNat default)=q1 at hab hsm hno
     generalize aN (l.getD (j:Int).toNat default) e=q2 at hbb hbl hno
     dsimp only[Ev.av,Ev.cs]at hab hbb⊢
     repeat' ((conv=>whnf);first|refine K1.w ?_|refine K1.u ?_|refine K1.P1 (hab) rfl ?_|refine K1.P1 (hbb) rfl ?_|refine aG.cO ?_|refine K1.z ?_|refine K1.y (fun _=> ?_) (fun _=> ?_)|fail)
     all_goals(conv=>whnf)
     all_goals first
       |exact⟨⟨(j+1,y::ys),hjl,hno (by assumption) (by assumption) (by assumption)⟩,_,dB.mk' [] _ _ _ rfl ⟨aj.refl _,aj.refl _,aj.refl _,aj.refl _,aj.refl _,aj.refl _,aj.int rfl,aj.int rfl,trivial⟩ ⟨⟨_,rfl,au.refl _⟩,⟨_,rfl,au.refl _⟩,trivial⟩ rfl,by show l.length-(j+1)<l.length-j;omega⟩
       | (refine⟨⟨(j+1,y::(ys++[l.getD j default])),hjl,by first|exact hk (by assumption)|exact hsm (by assumption)|exact hbl (by assumption)⟩,_,dB.mk' [(92,90)] _ _ _ rfl ⟨aj.refl _,aj.refl _,aj.refl _,aj.refl _,aj.refl _,aj.refl _,aj.int rfl,aj.int rfl,trivial⟩ ⟨⟨_,rfl,au.refl _⟩,⟨_,rfl,au.row (by simp) (fun m hm=> ?_)⟩,trivial⟩ rfl,by show l.length-(j+1)<l.length-j;omega⟩
          exact bn (c:=Ev.cs) (l:=y::ys) rfl rfl m hm)
       | (refine⟨⟨(j+1,y::(ys++[l.getD j default])),hjl,by first|exact hk (by assumption)|exact hsm (by assumption)|exact hbl (by assumption)⟩,_,dB.mk' [(93,90)] _ _ _ rfl ⟨aj.refl _,aj.refl _,aj.refl _,aj.refl _,aj.refl _,aj.refl _,aj.int rfl,aj.int rfl,trivial⟩ ⟨⟨_,rfl,au.refl _⟩,⟨_,rfl,au.row (by simp) (fun m hm=> ?_)⟩,trivial⟩ rfl,by show l.length-(j+1)<l.length-j;omega⟩
          exact bn (c:=Ev.cs) (l:=y::ys) rfl rfl m hm)
       | (refine⟨⟨(j+1,y::(ys++[l.getD j default])),hjl,by first|exact hk (by assumption)|exact hsm (by assumption)|exact hbl (by assumption)⟩,_,dB.mk' [(94,90)] _ _ _ rfl ⟨aj.refl _,aj.refl _,aj.refl _,aj.refl _,aj.refl _,aj.refl _,aj.int rfl,aj.int rfl,trivial⟩ ⟨⟨_,rfl,au.refl _⟩,⟨_,rfl,au.row (by simp) (fun m hm=> ?_)⟩,trivial⟩ rfl,by show l.length-(j+1)<l.length-j;omega⟩
          exact bn (c:=Ev.cs) (l:=y::ys) rfl rfl m hm)
       | (refine⟨⟨(j+1,y::(ys++[l.getD j default])),hjl,by first|exact hk (by assumption)|exact hsm (by assumption)|exact hbl (by assumption)⟩,_,dB.mk' [(95,90)] _ _ _ rfl ⟨aj.refl _,aj.refl _,aj.refl _,aj.refl _,aj.refl _,aj.refl _,aj.int rfl,aj.int rfl,trivial⟩ ⟨⟨_,rfl,au.refl _⟩,⟨_,rfl,au.row (by simp) (fun m hm=> ?_)⟩,trivial⟩ rfl,by show l.length-(j+1)<l.length-j;omega⟩
          exact bn (c:=Ev.cs) (l:=y::ys) rfl rfl m hm)
   · have e0:l.filter (bG kind same e)=y::ys:=by rw[List.take_of_length_le (by omega)]at hys;exact hys.symm
     rw[hr]at e0
     cases e0
     repeat' ((conv=>whnf);first|refine K1.w ?_|refine K1.u ?_|refine aG.cO ?_|refine K1.z ?_|refine K1.y (fun _=> ?_) (fun _=> ?_)|fail)
     conv=>whnf
     exact⟨[(90,1)],rfl,rfl,⟨⟨_,rfl,au.refl _⟩,trivial⟩,rfl,rfl,aj.refl _⟩
theorem Mc (g:FuncId) (same:Ev→Bool) (kind:Int) (e:Ev) (hs: ∀a,aH Tryz.prog g [a.av] (.v (.bool (same a))) [])
  (l:List Ev) (hr:l.filter (bG kind same e)=[]) (hl:l.length≤1000000000):
  aY Tryz.prog 159 [(0,jI l)] [.own 0,e.av,.v (.int .i64 kind),.fn g []] (.v (.slice none 0 0)) []:=by
 dsimp only[Ev.av,Ev.cs]
 refine K1.M 0x20000fb2f Tryz.func159 10 ?_
 repeat' ((conv=>whnf);first|refine K1.w ?_|refine K1.u ?_|refine aG.cO ?_|refine K1.z ?_|refine K1.y (fun _=> ?_) (fun _=> ?_)|fail)
 conv=>whnf
 refine aJ.BG 0 rfl ?_
 refine aJ.mk (La (bG kind same e) l) (fun x=>match x with
   |⟨(j,[]),_⟩=>⟨[(0,.sl 12 l.length true (dV l)),(2,.v (.int .i64 kind)),(3,.fn g []),(5,.box 10 0),(9,.v (.slice none 0 0)),(12,.sl 12 l.length true (dV l)),(13,.v (.int .i64 (l.length:Int))),(14,.v (.int .i64 (j:Int)))],[(10,.box 42 e.cs)],[[(0,.sl 12 l.length true (dV l))]],11⟩
   |⟨(j,y::ys),_⟩=>⟨[(0,.sl 12 l.length true (dV l)),(2,.v (.int .i64 kind)),(3,.fn g []),(5,.box 10 0),(9,.own 90),(12,.sl 12 l.length true (dV l)),(13,.v (.int .i64 (l.length:Int))),(14,.v (.int .i64 (j:Int)))],[(10,.box 42 e.cs),(90,.row 42 12 (ys.length+1) true (dV (y::ys)))],[[(0,.sl 12 l.length true (dV l))]],91⟩) (fun x=>l.length-x.1.1) ⟨(0,[]),Nat.zero_le _,rfl⟩ _
   (dB.mk' [] _ _ _ rfl ⟨aj.refl _,aj.refl _,aj.refl _,aj.refl _,aj.refl _,aj.refl _,aj.int rfl,aj.int rfl,trivial⟩ ⟨⟨_,rfl,au.refl _⟩,trivial⟩ rfl) ?_
 rintro⟨⟨j,ys⟩,hj,hys⟩
 dsimp only at hj hys
 rcases ys with _|⟨y,ys⟩
 · dsimp only
   by_cases hjl:j<l.length
   · have hab:=hs (l.getD (j:Int).toNat default)
     have hbb:=iQ (l.getD (j:Int).toNat default) e
     have hft:=cZ (p:=bG kind same e) hjl
     rw[←hys,List.nil_append]at hft
     rw[show l.getD j default=l.getD (j:Int).toNat default from rfl]at hft
     have hk: ¬ (l.getD (j:Int).toNat default).k=kind→[l.getD j default]=(l.take (j+1)).filter (bG kind same e):=fun h=>by rw[hft,wU h];rfl
     have hsm:same (l.getD (j:Int).toNat default)=false→[l.getD j default]=(l.take (j+1)).filter (bG kind same e):=fun h=>by rw[hft,wV h];rfl
     have hbl:aN (l.getD (j:Int).toNat default) e=false→[l.getD j default]=(l.take (j+1)).filter (bG kind same e):=fun h=>by rw[hft,wW h];rfl
     have hno:(l.getD (j:Int).toNat default).k=kind→same (l.getD (j:Int).toNat default)=true→aN (l.getD (j:Int).toNat default) e=true→[]=(l.take (j+1)).filter (bG kind same e):=fun h h1 h2=>by rw[hft,wX h h1 h2];simp
     clear hft
     generalize same (l.getD (j:Int).toNat default)=q1 at hab hsm hno
     generalize aN (l.getD (j:Int).toNat default) e=q2 at hbb hbl hno
     dsimp only[Ev.av,Ev.cs]at hab hbb⊢
     repeat' ((conv=>whnf);first|refine K1.w ?_|refine K1.u ?_|refine K1.P1 (hab) rfl ?_|refine K1.P1 (hbb) rfl ?_|refine aG.cO ?_|refine K1.z ?_|refine K1.y (fun _=> ?_) (fun _=> ?_)|fail)
     all_goals(conv=>whnf)
     all_goals first
       |exact⟨⟨(j+1,[]),hjl,hno (by assumption) (by assumption) (by assumption)⟩,_,dB.mk' [] _ _ _ rfl ⟨aj.refl _,aj.refl _,aj.refl _,aj.refl _,aj.refl _,aj.refl _,aj.int rfl,aj.int rfl,trivial⟩ ⟨⟨_,rfl,au.refl _⟩,trivial⟩ rfl,by show l.length-(j+1)<l.length-j;omega⟩
       | (refine⟨⟨(j+1,[l.getD j default]),hjl,by first|exact hk (by assumption)|exact hsm (by assumption)|exact hbl (by assumption)⟩,_,dB.mk' [(12,90)] _ _ _ rfl ⟨aj.refl _,aj.refl _,aj.refl _,aj.refl _,aj.refl _,aj.refl _,aj.int rfl,aj.int rfl,trivial⟩ ⟨⟨_,rfl,au.refl _⟩,⟨_,rfl,au.row rfl (fun m hm=> ?_)⟩,trivial⟩ rfl,by show l.length-(j+1)<l.length-j;omega⟩
          have hm:m<1:=hm
          obtain rfl:m=0:=by omega
          rfl)
       | (refine⟨⟨(j+1,[l.getD j default]),hjl,by first|exact hk (by assumption)|exact hsm (by assumption)|exact hbl (by assumption)⟩,_,dB.mk' [(13,90)] _ _ _ rfl ⟨aj.refl _,aj.refl _,aj.refl _,aj.refl _,aj.refl _,aj.refl _,aj.int rfl,aj.int rfl,trivial⟩ ⟨⟨_,rfl,au.refl _⟩,⟨_,rfl,au.row rfl (fun m hm=> ?_)⟩,trivial⟩ rfl,by show l.length-(j+1)<l.length-j;omega⟩
          have hm:m<1:=hm
          obtain rfl:m=0:=by omega
          rfl)
       | (refine⟨⟨(j+1,[l.getD j default]),hjl,by first|exact hk (by assumption)|exact hsm (by assumption)|exact hbl (by assumption)⟩,_,dB.mk' [(14,90)] _ _ _ rfl ⟨aj.refl _,aj.refl _,aj.refl _,aj.refl _,aj.refl _,aj.refl _,aj.int rfl,aj.int rfl,trivial⟩ ⟨⟨_,rfl,au.refl _⟩,⟨_,rfl,au.row rfl (fun m hm=> ?_)⟩,trivial⟩ rfl,by show l.length-(j+1)<l.length-j;omega⟩
          have hm:m<1:=hm
          obtain rfl:m=0:=by omega
          rfl)
       | (refine⟨⟨(j+1,[l.getD j default]),hjl,by first|exact hk (by assumption)|exact hsm (by assumption)|exact hbl (by assumption)⟩,_,dB.mk' [(15,90)] _ _ _ rfl ⟨aj.refl _,aj.refl _,aj.refl _,aj.refl _,aj.refl _,aj.refl _,aj.int rfl,aj.int rfl,trivial⟩ ⟨⟨_,rfl,au.refl _⟩,⟨_,rfl,au.row rfl (fun m hm=> ?_)⟩,trivial⟩ rfl,by show l.length-(j+1)<l.length-j;omega⟩
          have hm:m<1:=hm
          obtain rfl:m=0:=by omega
          rfl)
   · repeat' ((conv=>whnf);first|refine K1.w ?_|refine K1.u ?_|refine aG.cO ?_|refine K1.z ?_|refine K1.y (fun _=> ?_) (fun _=> ?_)|fail)
     conv=>whnf
     exact⟨[],rfl,rfl,trivial,rfl,rfl,aj.refl _⟩
 · dsimp only
   have hyl:ys.length+1≤j:=by
    have h1:=congrArg List.length hys
    have h2:=List.length_filter_le (bG kind same e) (l.take j)
    rw[List.length_take]at h2
    rw[List.length_cons]at h1
    omega
   by_cases hjl:j<l.length
   · have hab:=hs (l.getD (j:Int).toNat default)
     have hbb:=iQ (l.getD (j:Int).toNat default) e
     have hft:=cZ (p:=bG kind same e) hjl
     rw[←hys]at hft
     rw[show l.getD j default=l.getD (j:Int).toNat default from rfl]at hft
     have hk: ¬ (l.getD (j:Int).toNat default).k=kind→y::(ys++[l.getD j default])=(l.take (j+1)).filter (bG kind same e):=fun h=>by rw[hft,wU h];rfl
     have hsm:same (l.getD (j:Int).toNat default)=false→y::(ys++[l.getD j default])=(l.take (j+1)).filter (bG kind same e):=fun h=>by rw[hft,wV h];rfl
     have hbl:aN (l.getD (j:Int).toNat default) e=false→y::(ys++[l.getD j default])=(l.take (j+1)).filter (bG kind same e):=fun h=>by rw[hft,wW h];rfl
     have hno:(l.getD (j:Int).toNat default).k=kind→same (l.getD (j:Int).toNat default)=true→aN (l.getD (j:Int).toNat default) e=true→y::ys=(l.take (j+1)).filter (bG kind same e):=fun h h1 h2=>by rw[hft,wX h h1 h2];simp
     clear hft
     generalize same (l.getD (j:Int).toNat default)=q1 at hab hsm hno
     generalize aN (l.getD (j:Int).toNat default) e=q2 at hbb hbl hno
     dsimp only[Ev.av,Ev.cs]at hab hbb⊢
     repeat' ((conv=>whnf);first|refine K1.w ?_|refine K1.u ?_|refine K1.P1 (hab) rfl ?_|refine K1.P1 (hbb) rfl ?_|refine aG.cO ?_|refine K1.z ?_|refine K1.y (fun _=> ?_) (fun _=> ?_)|fail)
     all_goals(conv=>whnf)
     all_goals first
       |exact⟨⟨(j+1,y::ys),hjl,hno (by assumption) (by assumption) (by assumption)⟩,_,dB.mk' [] _ _ _ rfl ⟨aj.refl _,aj.refl _,aj.refl _,aj.refl _,aj.refl _,aj.refl _,aj.int rfl,aj.int rfl,trivial⟩ ⟨⟨_,rfl,au.refl _⟩,⟨_,rfl,au.refl _⟩,trivial⟩ rfl,by show l.length-(j+1)<l.length-j;omega⟩
       | (refine⟨⟨(j+1,y::(ys++[l.getD j default])),hjl,by first|exact hk (by assumption)|exact hsm (by assumption)|exact hbl (by assumption)⟩,_,dB.mk' [(92,90)] _ _ _ rfl ⟨aj.refl _,aj.refl _,aj.refl _,aj.refl _,aj.refl _,aj.refl _,aj.int rfl,aj.int rfl,trivial⟩ ⟨⟨_,rfl,au.refl _⟩,⟨_,rfl,au.row (by simp) (fun m hm=> ?_)⟩,trivial⟩ rfl,by show l.length-(j+1)<l.length-j;omega⟩
          exact bn (c:=Ev.cs) (l:=y::ys) rfl rfl m hm)
       | (refine⟨⟨(j+1,y::(ys++[l.getD j default])),hjl,by first|exact hk (by assumption)|exact hsm (by assumption)|exact hbl (by assumption)⟩,_,dB.mk' [(93,90)] _ _ _ rfl ⟨aj.refl _,aj.refl _,aj.refl _,aj.refl _,aj.refl _,aj.refl _,aj.int rfl,aj.int rfl,trivial⟩ ⟨⟨_,rfl,au.refl _⟩,⟨_,rfl,au.row (by simp) (fun m hm=> ?_)⟩,trivial⟩ rfl,by show l.length-(j+1)<l.length-j;omega⟩
          exact bn (c:=Ev.cs) (l:=y::ys) rfl rfl m hm)
       | (refine⟨⟨(j+1,y::(ys++[l.getD j default])),hjl,by first|exact hk (by assumption)|exact hsm (by assumption)|exact hbl (by assumption)⟩,_,dB.mk' [(94,90)] _ _ _ rfl ⟨aj.refl _,aj.refl _,aj.refl _,aj.refl _,aj.refl _,aj.refl _,aj.int rfl,aj.int rfl,trivial⟩ ⟨⟨_,rfl,au.refl _⟩,⟨_,rfl,au.row (by simp) (fun m hm=> ?_)⟩,trivial⟩ rfl,by show l.length-(j+1)<l.length-j;omega⟩
          exact bn (c:=Ev.cs) (l:=y::ys) rfl rfl m hm)
       | (refine⟨⟨(j+1,y::(ys++[l.getD j default])),hjl,by first|exact hk (by assumption)|exact hsm (by assumption)|exact hbl (by assumption)⟩,_,dB.mk' [(95,90)] _ _ _ rfl ⟨aj.refl _,aj.refl _,aj.refl _,aj.refl _,aj.refl _,aj.refl _,aj.int rfl,aj.int rfl,trivial⟩ ⟨⟨_,rfl,au.refl _⟩,⟨_,rfl,au.row (by simp) (fun m hm=> ?_)⟩,trivial⟩ rfl,by show l.length-(j+1)<l.length-j;omega⟩
          exact bn (c:=Ev.cs) (l:=y::ys) rfl rfl m hm)
   · have e0:l.filter (bG kind same e)=y::ys:=by rw[List.take_of_length_le (by omega)]at hys;exact hys.symm
     rw[hr]at e0
     cases e0
theorem Rl (a:Ev):aH Tryz.prog 160 [a.av] (.v (.bool true)) []:=by
 dsimp only[Ev.av,Ev.cs]
 refine K1.E 0x5 Tryz.func160 ?_
 repeat' ((conv=>whnf);first|refine K1.w ?_|refine K1.u ?_|refine aG.cO ?_|refine K1.z ?_|refine K1.y (fun _=> ?_) (fun _=> ?_)|fail)
 conv=>whnf
 exact aW.mk (aj.refl _)
theorem TU (e a:Ev):aY Tryz.prog 162 [(0,.box 42 e.cs)] [a.av,.box 0 0] (.v (.bool (decide (a.l=e.l)))) [(0,.box 42 e.cs)]:=by
 dsimp only[Ev.av,Ev.cs]
 refine K1.M 0xf Tryz.func162 10 ?_
 repeat' ((conv=>whnf);first|refine K1.w ?_|refine K1.u ?_|refine K1.z ?_|refine K1.y (fun _=> ?_) (fun _=> ?_)|fail)
 all_goals(conv=>whnf)
 all_goals refine⟨[],rfl,rfl,⟨⟨_,rfl,au.refl _⟩,trivial⟩,rfl,rfl, ?_⟩
 · rw[decide_eq_true (by assumption)];exact aj.refl _
 · rw[decide_eq_false (by assumption)];exact aj.refl _
theorem Eh (e a:Ev):aY Tryz.prog 163 [(0,.box 42 e.cs)] [a.av,.box 0 0] (.v (.bool (decide (a.l=e.l)&&decide (a.v=e.v)))) [(0,.box 42 e.cs)]:=by
 dsimp only[Ev.av,Ev.cs]
 refine K1.M 0xf Tryz.func163 10 ?_
 repeat' ((conv=>whnf);first|refine K1.w ?_|refine K1.u ?_|refine K1.z ?_|refine K1.y (fun _=> ?_) (fun _=> ?_)|fail)
 all_goals(conv=>whnf)
 all_goals refine⟨[],rfl,rfl,⟨⟨_,rfl,au.refl _⟩,trivial⟩,rfl,rfl, ?_⟩
 all_goals first
   |(rw[show(decide (a.l=e.l)&&decide (a.v=e.v))=true by simp[*]];exact aj.refl _)
   |(rw[show(decide (a.l=e.l)&&decide (a.v=e.v))=false by simp[*]];exact aj.refl _)
end
section
open Go.RowKit
theorem acV (l:List Ev) (e:Ev) (hk:e.k=1) (hl:l.length≤1000000000):
  aY Tryz.prog 132 [(0,jI l)] [.own 0,e.av] (.own 1) [(1,jI (l++[e]))]:=by
 obtain⟨er,en,ec,eh,ek,Iq,el,ev⟩:=e
 dsimp only at hk
 subst hk
 dsimp only[Ev.av,Ev.cs]
 refine K1.M 0x2020021041bb Tryz.func132 10 ?_
 repeat' ((conv=>whnf);first|refine K1.w ?_|refine K1.u ?_|refine K1.z ?_|refine K1.y (fun _=> ?_) (fun _=> ?_)|fail)
 conv=>whnf
 refine⟨[(12,1)],rfl,rfl,⟨⟨_,rfl,au.row (by simp) (fun m hm=> ?_)⟩,trivial⟩,rfl,rfl,aj.refl _⟩
 exact bn (c:=Ev.cs) (l:=l) rfl rfl m hm
theorem Zc (l:List Ev) (e:Ev) (hk:e.k=3) (hc:l.any (G5 e)=false) (hl:l.length≤1000000000):
  aY Tryz.prog 132 [(0,jI l)] [.own 0,e.av] (.own 0) [(0,jI l)]:=by
 have hcr:=iK l e (by omega)
 rw[hc]at hcr
 dsimp only[Ev.av,Ev.cs]at hcr⊢
 refine K1.M 0x2020021041bb Tryz.func132 10 ?_
 repeat' ((conv=>whnf);first|refine K1.w ?_|refine K1.u ?_|refine K1.P1 (hcr) rfl ?_|refine K1.z ?_|refine K1.y (fun _=> ?_) (fun _=> ?_)|fail)
 all_goals(conv=>whnf)
 exact⟨[],rfl,rfl,⟨⟨_,rfl,au.refl _⟩,trivial⟩,rfl,rfl,aj.refl _⟩
end
section
open Go.RowKit
section
variable {P:Program} {L:Lay} {N:Nat} {st:AS}
theorem JV (lv:Nat): ∀ (l:List (Nat×AV)) (t:Nat),qI (DF lv l) t=if Kt lv t=true then qI l t else .junk
  |[],t=>by simp[DF,qI]
  | (k,v)::l,t=>by
    have ih:=JV lv l t
    simp only[DF]
    cases hk:Kt lv k with
    | true=>
      simp only[cond_true,qI]
      cases hb:Nat.beq t k with
      |true=>rw[Nat.eq_of_beq_eq_true hb,hk];simp
      |false=>simpa using ih
    | false=>
      simp only[cond_false,qI]
      cases hb:Nat.beq t k with
      |true=>rw[ih,Nat.eq_of_beq_eq_true hb,hk];simp
      |false=>simpa using ih
theorem Ey.acW {st S:AS} (lv:Nat) (h:Ey (st.vk lv) S):Ey st S:=by
 refine⟨fun t=> ?_,h.hp,h.nd,h.bk⟩
 rcases h.tm t with k|k
 · exact .inl k
 · refine .inr ?_
   have e:(st.vk lv).tmps t=if Kt lv t=true then st.tmps t else .junk:=JV lv st.sl t
   rw[e]at k
   split at k
   · exact k
   · exact fun X u _=>k X u (by trivial)
theorem iF.aeB (lv:Nat) (hL:bM P L) {W:Walk} (hW:Ia P W) {id:Nat} {ops:Array Oper} {K:AS→Prop} (S:AS) (hm:P.follows .mixedOrders=true) (hs:Region.noSelect ops=true) (h:ug P L W N ops.toList.length ops.toList (fun st'=>nrm lv st' (fun s=>Ey s S)) ops.toList.length [] st) (hK:K S):iF P L W N id ops K st:=by
 have go: ∀ {st':AS},nrm lv st' (fun s=>Ey s S)→Ey st' S:=fun h=>by rw[Ky]at h;exact h.acW lv
 have:=iF.any (P:=P) (L:=L) (N:=N) (id:=id) hL hW hm hs h
 cases this with
 | quiet hm hB hq h=>
   refine .sem fun g bs ρ a w E R hE=> ?_
   refine wp_region_quiet (C:=fun w'=>w'=w.drew) hm hB rfl ?_
   have R':Rel g N bs ρ a w.drew st:=R.world (Below.refl _ _).drew
   exact vM hL (E:=fun a w=>E .normal a w) (ops:=ops.toList) (fun a w1 st R h=>hE _ _ _ _ (R.less (go h)) hK) ops.toList hq R' h
 |sem h=>exact .sem fun g bs ρ a w E R hE=>h g bs ρ a w E R fun ρ a w st R h=>hE _ _ _ _ (R.less (go h)) hK
structure aA (P:Program) (L:Lay) (W:Walk) (N:Nat) (n:Nat) (ops:List Oper) (Q:AS→Prop) (f:Nat) (done:List Nat) (st:AS):Prop where
 mk::
 h:ug P L W N n ops Q f done st
section
variable {W:Walk} {n:Nat} {ops:List Oper} {Q:AS→Prop} {f:Nat} {done:List Nat}
theorem aA.eq:aA P L W N n ops Q f done=ug P L W N n ops Q f done:=funext fun _=>propext ⟨fun k=>k.h,.mk⟩
theorem aA.fin (h1:gB n done 0 ops=[]) (h:Q st):aA P L W N n ops Q f done st:= .mk (by
 cases f with
 |zero=>simp only[ug,h1];exact h
 |succ f=>simp only[ug,h1];exact h)
theorem aA.pick (j:Nat) (o:Oper) (h2:vT L N st ops done (gB n done 0 ops)=some j) (h3:ops[j]? =some o) (h:oI P L W N ops o st (aA P L W N n ops Q f (j::done))):aA P L W N n ops Q (f+1) done st:= .mk (by
 rw[aA.eq]at h
 cases h1:gB n done 0 ops with
 |nil=>rw[h1]at h2;cases h2
 | cons i r=>
   rw[h1]at h2
   simp only[ug,h1,h2,h3]
   exact h)
theorem aA.one (i:Nat) (o:Oper) (h1:gB n done 0 ops=[i]) (h2:vT L N st ops done [i]=none) (h3:ops[i]? =some o) (h:oI P L W N ops o st (aA P L W N n ops Q f (i::done))):aA P L W N n ops Q (f+1) done st:= .mk (by
 rw[aA.eq]at h
 simp only[ug,h1,h2,UH,h3]
 exact h)
theorem aA.fork (i j:Nat) (o p:Oper) (h1:gB n done 0 ops=[i,j]) (h2:vT L N st ops done [i,j]=none) (h3:ops[i]? =some o) (h4:ops[j]? =some p)
  (h:oI P L W N ops o st (aA P L W N n ops Q f (i::done))) (k:oI P L W N ops p st (aA P L W N n ops Q f (j::done))):aA P L W N n ops Q (f+1) done st:= .mk (by
 rw[aA.eq]at h k
 simp only[ug,h1,h2,UH,h3,h4]
 exact⟨h,k⟩)
theorem aA.bY (i j q:Nat) (o p r:Oper) (h1:gB n done 0 ops=[i,j,q]) (h2:vT L N st ops done [i,j,q]=none) (h3:ops[i]? =some o) (h4:ops[j]? =some p) (h5:ops[q]? =some r)
  (h:oI P L W N ops o st (aA P L W N n ops Q f (i::done))) (k:oI P L W N ops p st (aA P L W N n ops Q f (j::done))) (m:oI P L W N ops r st (aA P L W N n ops Q f (q::done))):aA P L W N n ops Q (f+1) done st:= .mk (by
 rw[aA.eq]at h k m
 simp only[ug,h1,h2,UH,h3,h4,h5]
 exact⟨h,k,m⟩)
theorem iF.aa4 (lv:Nat) (hL:bM P L) (hW:Ia P W) {id:Nat} {ops:Array Oper} {K:AS→Prop} (S:AS) (hm:P.follows .mixedOrders=true) (hs:Region.noSelect ops=true) (m:Nat) (l:List Oper) (hm':ops.toList.length=m) (hl:ops.toList=l) (h:aA P L W N m l (fun st'=>nrm lv st' (fun s=>Ey s S)) m [] st) (hK:K S):iF P L W N id ops K st:=
 iF.aeB lv hL hW S hm hs (by subst hm' hl;exact h.h) hK
end
end
theorem Ey.WE {st:AS} {l:List (Nat×AV)} {h:List (Nat×AO)} {b:Nat} {x:List (Nat×AV)} (ht:LeT st l) (hh:Z4 st h) (hn:nodupB (h.map (·.1))=true) (hb:st.back=[x]):Ey st ⟨l,h,[[]],b⟩:=by
 have:=Ey.mk' (st:=st) l h ht hh hn
 exact⟨this.tm,this.hp,this.nd,by rw[hb];exact⟨fun _=> .inl rfl,trivial⟩⟩
end
section
open Go.RowKit
theorem VG (l:List Ev) (e:Ev) (hk:e.k=3)  (hc:l.any (G5 e)=true) (hr:l.filter (bG 3 (fun a=>decide (a.l=e.l)) e)=[]) (hl:l.length≤1000000000):
  aY Tryz.prog 132 [(0,jI l)] [.own 0,e.av] (.own 1) [(1,jI ([]++[e]))]:=by
 have hw:=wZ 162 (fun a=>decide (a.l=e.l)) 3 e (TU e) l hr hl
 have hcr:=iK l e (by omega)
 rw[hc]at hcr
 have hlf:=List.length_filter_le (bG 3 (fun a=>decide (a.l=e.l)) e) l
 rw[hr]at hlf
 simp only[List.length_nil]at hlf
 dsimp only[Ev.av,Ev.cs]at hw hcr⊢
 refine K1.M 0x2020021041bb Tryz.func132 10 ?_
 repeat' ((conv=>whnf);first|refine K1.w ?_|refine K1.u ?_|refine K1.P1 (hcr) rfl ?_|refine K1.C 2 [(0,_),(1,_)] (hw) rfl ?_|refine iF.aa4 16 (id:=9) dR (fJ dR _) ⟨[(4,.own 13)],[(13,jI ([]++[e]))],[[]],14⟩ jy (by kernel_rfl) 8 _ rfl rfl ?_ ?_|refine aA.fin rfl ?_|refine Ey.WE ⟨aj.refl _,trivial⟩ ⟨⟨_,rfl, ?_⟩,trivial⟩ rfl rfl|refine aA.pick 0 _ rfl rfl ?_|refine aA.pick 1 _ rfl rfl ?_|refine aA.pick 2 _ rfl rfl ?_|refine aA.pick 3 _ rfl rfl ?_|refine aA.pick 4 _ rfl rfl ?_|refine aA.pick 5 _ rfl rfl ?_|refine aA.pick 6 _ rfl rfl ?_|refine aA.pick 7 _ rfl rfl ?_|refine aA.one 0 _ rfl rfl rfl ?_|refine aA.one 1 _ rfl rfl rfl ?_|refine aA.one 2 _ rfl rfl rfl ?_|refine aA.one 3 _ rfl rfl rfl ?_|refine aA.one 4 _ rfl rfl rfl ?_|refine aA.one 5 _ rfl rfl rfl ?_|refine aA.one 6 _ rfl rfl rfl ?_|refine aA.one 7 _ rfl rfl rfl ?_|refine aA.fork 0 1 _ _ rfl rfl rfl rfl ?_ ?_|refine aA.fork 0 2 _ _ rfl rfl rfl rfl ?_ ?_|refine aA.fork 0 3 _ _ rfl rfl rfl rfl ?_ ?_|refine aA.fork 0 4 _ _ rfl rfl rfl rfl ?_ ?_|refine aA.fork 0 5 _ _ rfl rfl rfl rfl ?_ ?_|refine aA.fork 0 6 _ _ rfl rfl rfl rfl ?_ ?_|refine aA.fork 1 2 _ _ rfl rfl rfl rfl ?_ ?_|refine aA.fork 1 3 _ _ rfl rfl rfl rfl ?_ ?_|refine aA.fork 1 4 _ _ rfl rfl rfl rfl ?_ ?_|refine aA.fork 1 5 _ _ rfl rfl rfl rfl ?_ ?_|refine aA.fork 1 6 _ _ rfl rfl rfl rfl ?_ ?_|refine aA.fork 2 3 _ _ rfl rfl rfl rfl ?_ ?_|refine aA.fork 2 4 _ _ rfl rfl rfl rfl ?_ ?_|refine aA.fork 2 5 _ _ rfl rfl rfl rfl ?_ ?_|refine aA.fork 2 6 _ _ rfl rfl rfl rfl ?_ ?_|refine aA.fork 3 4 _ _ rfl rfl rfl rfl ?_ ?_|refine aA.fork 3 5 _ _ rfl rfl rfl rfl ?_ ?_|refine aA.fork 3 6 _ _ rfl rfl rfl rfl ?_ ?_|refine aA.fork 4 5 _ _ rfl rfl rfl rfl ?_ ?_|refine aA.fork 4 6 _ _ rfl rfl rfl rfl ?_ ?_|refine aA.fork 5 6 _ _ rfl rfl rfl rfl ?_ ?_|refine aA.bY 0 1 2 _ _ _ rfl rfl rfl rfl rfl ?_ ?_ ?_|refine aA.bY 0 1 3 _ _ _ rfl rfl rfl rfl rfl ?_ ?_ ?_|refine aA.bY 0 1 4 _ _ _ rfl rfl rfl rfl rfl ?_ ?_ ?_|refine aA.bY 0 1 5 _ _ _ rfl rfl rfl rfl rfl ?_ ?_ ?_|refine aA.bY 0 2 3 _ _ _ rfl rfl rfl rfl rfl ?_ ?_ ?_|refine aA.bY 0 2 4 _ _ _ rfl rfl rfl rfl rfl ?_ ?_ ?_|refine aA.bY 0 2 5 _ _ _ rfl rfl rfl rfl rfl ?_ ?_ ?_|refine aA.bY 0 3 4 _ _ _ rfl rfl rfl rfl rfl ?_ ?_ ?_|refine aA.bY 0 3 5 _ _ _ rfl rfl rfl rfl rfl ?_ ?_ ?_|refine aA.bY 0 4 5 _ _ _ rfl rfl rfl rfl rfl ?_ ?_ ?_|refine aA.bY 1 2 3 _ _ _ rfl rfl rfl rfl rfl ?_ ?_ ?_|refine aA.bY 1 2 4 _ _ _ rfl rfl rfl rfl rfl ?_ ?_ ?_|refine aA.bY 1 2 5 _ _ _ rfl rfl rfl rfl rfl ?_ ?_ ?_|refine aA.bY 1 3 4 _ _ _ rfl rfl rfl rfl rfl ?_ ?_ ?_|refine aA.bY 1 3 5 _ _ _ rfl rfl rfl rfl rfl ?_ ?_ ?_|refine aA.bY 1 4 5 _ _ _ rfl rfl rfl rfl rfl ?_ ?_ ?_|refine aA.bY 2 3 4 _ _ _ rfl rfl rfl rfl rfl ?_ ?_ ?_|refine aA.bY 2 3 5 _ _ _ rfl rfl rfl rfl rfl ?_ ?_ ?_|refine aA.bY 2 4 5 _ _ _ rfl rfl rfl rfl rfl ?_ ?_ ?_|refine aA.bY 3 4 5 _ _ _ rfl rfl rfl rfl rfl ?_ ?_ ?_|refine K1.z ?_|refine K1.y (fun _=> ?_) (fun _=> ?_)|fail)
 all_goals first
   |exact⟨[(13,1)],rfl,rfl,⟨⟨_,rfl,au.refl _⟩,trivial⟩,rfl,rfl,aj.refl _⟩
   | (refine au.row rfl (fun m hm=> ?_)
      have hm:m<1:=hm
      obtain rfl:m=0:=by omega
      rfl)
theorem VH (l:List Ev) (e:Ev) (hk:e.k=4)  (hc:l.any (G5 e)=true) (hr:l.filter (bG 4 (fun a=>decide (a.l=e.l)&&decide (a.v=e.v)) e)=[]) (hl:l.length≤1000000000):
  aY Tryz.prog 132 [(0,jI l)] [.own 0,e.av] (.own 1) [(1,jI ([]++[e]))]:=by
 have hw:=wZ 163 (fun a=>decide (a.l=e.l)&&decide (a.v=e.v)) 4 e (Eh e) l hr hl
 have hcr:=iK l e (by omega)
 rw[hc]at hcr
 have hlf:=List.length_filter_le (bG 4 (fun a=>decide (a.l=e.l)&&decide (a.v=e.v)) e) l
 rw[hr]at hlf
 simp only[List.length_nil]at hlf
 dsimp only[Ev.av,Ev.cs]at hw hcr⊢
 refine K1.M 0x2020021041bb Tryz.func132 10 ?_
 repeat' ((conv=>whnf);first|refine K1.w ?_|refine K1.u ?_|refine K1.P1 (hcr) rfl ?_|refine K1.C 2 [(0,_),(1,_)] (hw) rfl ?_|refine iF.aa4 16 (id:=15) dR (fJ dR _) ⟨[(4,.own 13)],[(13,jI ([]++[e]))],[[]],14⟩ jy (by kernel_rfl) 8 _ rfl rfl ?_ ?_|refine aA.fin rfl ?_|refine Ey.WE ⟨aj.refl _,trivial⟩ ⟨⟨_,rfl, ?_⟩,trivial⟩ rfl rfl|refine aA.pick 0 _ rfl rfl ?_|refine aA.pick 1 _ rfl rfl ?_|refine aA.pick 2 _ rfl rfl ?_|refine aA.pick 3 _ rfl rfl ?_|refine aA.pick 4 _ rfl rfl ?_|refine aA.pick 5 _ rfl rfl ?_|refine aA.pick 6 _ rfl rfl ?_|refine aA.pick 7 _ rfl rfl ?_|refine aA.one 0 _ rfl rfl rfl ?_|refine aA.one 1 _ rfl rfl rfl ?_|refine aA.one 2 _ rfl rfl rfl ?_|refine aA.one 3 _ rfl rfl rfl ?_|refine aA.one 4 _ rfl rfl rfl ?_|refine aA.one 5 _ rfl rfl rfl ?_|refine aA.one 6 _ rfl rfl rfl ?_|refine aA.one 7 _ rfl rfl rfl ?_|refine aA.fork 0 1 _ _ rfl rfl rfl rfl ?_ ?_|refine aA.fork 0 2 _ _ rfl rfl rfl rfl ?_ ?_|refine aA.fork 0 3 _ _ rfl rfl rfl rfl ?_ ?_|refine aA.fork 0 4 _ _ rfl rfl rfl rfl ?_ ?_|refine aA.fork 0 5 _ _ rfl rfl rfl rfl ?_ ?_|refine aA.fork 0 6 _ _ rfl rfl rfl rfl ?_ ?_|refine aA.fork 1 2 _ _ rfl rfl rfl rfl ?_ ?_|refine aA.fork 1 3 _ _ rfl rfl rfl rfl ?_ ?_|refine aA.fork 1 4 _ _ rfl rfl rfl rfl ?_ ?_|refine aA.fork 1 5 _ _ rfl rfl rfl rfl ?_ ?_|refine aA.fork 1 6 _ _ rfl rfl rfl rfl ?_ ?_|refine aA.fork 2 3 _ _ rfl rfl rfl rfl ?_ ?_|refine aA.fork 2 4 _ _ rfl rfl rfl rfl ?_ ?_|refine aA.fork 2 5 _ _ rfl rfl rfl rfl ?_ ?_|refine aA.fork 2 6 _ _ rfl rfl rfl rfl ?_ ?_|refine aA.fork 3 4 _ _ rfl rfl rfl rfl ?_ ?_|refine aA.fork 3 5 _ _ rfl rfl rfl rfl ?_ ?_|refine aA.fork 3 6 _ _ rfl rfl rfl rfl ?_ ?_|refine aA.fork 4 5 _ _ rfl rfl rfl rfl ?_ ?_|refine aA.fork 4 6 _ _ rfl rfl rfl rfl ?_ ?_|refine aA.fork 5 6 _ _ rfl rfl rfl rfl ?_ ?_|refine aA.bY 0 1 2 _ _ _ rfl rfl rfl rfl rfl ?_ ?_ ?_|refine aA.bY 0 1 3 _ _ _ rfl rfl rfl rfl rfl ?_ ?_ ?_|refine aA.bY 0 1 4 _ _ _ rfl rfl rfl rfl rfl ?_ ?_ ?_|refine aA.bY 0 1 5 _ _ _ rfl rfl rfl rfl rfl ?_ ?_ ?_|refine aA.bY 0 2 3 _ _ _ rfl rfl rfl rfl rfl ?_ ?_ ?_|refine aA.bY 0 2 4 _ _ _ rfl rfl rfl rfl rfl ?_ ?_ ?_|refine aA.bY 0 2 5 _ _ _ rfl rfl rfl rfl rfl ?_ ?_ ?_|refine aA.bY 0 3 4 _ _ _ rfl rfl rfl rfl rfl ?_ ?_ ?_|refine aA.bY 0 3 5 _ _ _ rfl rfl rfl rfl rfl ?_ ?_ ?_|refine aA.bY 0 4 5 _ _ _ rfl rfl rfl rfl rfl ?_ ?_ ?_|refine aA.bY 1 2 3 _ _ _ rfl rfl rfl rfl rfl ?_ ?_ ?_|refine aA.bY 1 2 4 _ _ _ rfl rfl rfl rfl rfl ?_ ?_ ?_|refine aA.bY 1 2 5 _ _ _ rfl rfl rfl rfl rfl ?_ ?_ ?_|refine aA.bY 1 3 4 _ _ _ rfl rfl rfl rfl rfl ?_ ?_ ?_|refine aA.bY 1 3 5 _ _ _ rfl rfl rfl rfl rfl ?_ ?_ ?_|refine aA.bY 1 4 5 _ _ _ rfl rfl rfl rfl rfl ?_ ?_ ?_|refine aA.bY 2 3 4 _ _ _ rfl rfl rfl rfl rfl ?_ ?_ ?_|refine aA.bY 2 3 5 _ _ _ rfl rfl rfl rfl rfl ?_ ?_ ?_|refine aA.bY 2 4 5 _ _ _ rfl rfl rfl rfl rfl ?_ ?_ ?_|refine aA.bY 3 4 5 _ _ _ rfl rfl rfl rfl rfl ?_ ?_ ?_|refine K1.z ?_|refine K1.y (fun _=> ?_) (fun _=> ?_)|fail)
 all_goals first
   |exact⟨[(13,1)],rfl,rfl,⟨⟨_,rfl,au.refl _⟩,trivial⟩,rfl,rfl,aj.refl _⟩
   | (refine au.row rfl (fun m hm=> ?_)
      have hm:m<1:=hm
      obtain rfl:m=0:=by omega
      rfl)
end
section
open Go.RowKit
theorem VI (l:List Ev) (e:Ev) (hk:e.k=4)  (hc:l.any (G5 e)=true) (r:Ev) (rs:List Ev) (hr:l.filter (bG 4 (fun a=>decide (a.l=e.l)&&decide (a.v=e.v)) e)=r::rs) (hl:l.length≤1000000000):
  aY Tryz.prog 132 [(0,jI l)] [.own 0,e.av] (.own 1) [(1,jI ((r::rs)++[e]))]:=by
 have hw:=wY 163 (fun a=>decide (a.l=e.l)&&decide (a.v=e.v)) 4 e (Eh e) l r rs hr hl
 have hcr:=iK l e (by omega)
 rw[hc]at hcr
 have hlf:=List.length_filter_le (bG 4 (fun a=>decide (a.l=e.l)&&decide (a.v=e.v)) e) l
 rw[hr]at hlf
 simp only[List.length_cons]at hlf
 dsimp only[Ev.av,Ev.cs]at hw hcr⊢
 refine K1.M 0x2020021041bb Tryz.func132 10 ?_
 repeat' ((conv=>whnf);first|refine K1.w ?_|refine K1.u ?_|refine K1.P1 (hcr) rfl ?_|refine K1.C 2 [(0,_),(1,_)] (hw) rfl ?_|refine iF.aa4 16 (id:=15) dR (fJ dR _) ⟨[(4,.own 13)],[(13,jI ((r::rs)++[e]))],[[]],14⟩ jy (by kernel_rfl) 8 _ rfl rfl ?_ ?_|refine aA.fin rfl ?_|refine Ey.WE ⟨aj.refl _,trivial⟩ ⟨⟨_,rfl,au.row (by simp) (fun m hm=>bn (c:=Ev.cs) (l:=r::rs) rfl rfl m hm)⟩,trivial⟩ rfl rfl|refine aA.pick 0 _ rfl rfl ?_|refine aA.pick 1 _ rfl rfl ?_|refine aA.pick 2 _ rfl rfl ?_|refine aA.pick 3 _ rfl rfl ?_|refine aA.pick 4 _ rfl rfl ?_|refine aA.pick 5 _ rfl rfl ?_|refine aA.pick 6 _ rfl rfl ?_|refine aA.pick 7 _ rfl rfl ?_|refine aA.one 0 _ rfl rfl rfl ?_|refine aA.one 1 _ rfl rfl rfl ?_|refine aA.one 2 _ rfl rfl rfl ?_|refine aA.one 3 _ rfl rfl rfl ?_|refine aA.one 4 _ rfl rfl rfl ?_|refine aA.one 5 _ rfl rfl rfl ?_|refine aA.one 6 _ rfl rfl rfl ?_|refine aA.one 7 _ rfl rfl rfl ?_|refine aA.fork 0 1 _ _ rfl rfl rfl rfl ?_ ?_|refine aA.fork 0 2 _ _ rfl rfl rfl rfl ?_ ?_|refine aA.fork 0 3 _ _ rfl rfl rfl rfl ?_ ?_|refine aA.fork 0 4 _ _ rfl rfl rfl rfl ?_ ?_|refine aA.fork 0 5 _ _ rfl rfl rfl rfl ?_ ?_|refine aA.fork 0 6 _ _ rfl rfl rfl rfl ?_ ?_|refine aA.fork 1 2 _ _ rfl rfl rfl rfl ?_ ?_|refine aA.fork 1 3 _ _ rfl rfl rfl rfl ?_ ?_|refine aA.fork 1 4 _ _ rfl rfl rfl rfl ?_ ?_|refine aA.fork 1 5 _ _ rfl rfl rfl rfl ?_ ?_|refine aA.fork 1 6 _ _ rfl rfl rfl rfl ?_ ?_|refine aA.fork 2 3 _ _ rfl rfl rfl rfl ?_ ?_|refine aA.fork 2 4 _ _ rfl rfl rfl rfl ?_ ?_|refine aA.fork 2 5 _ _ rfl rfl rfl rfl ?_ ?_|refine aA.fork 2 6 _ _ rfl rfl rfl rfl ?_ ?_|refine aA.fork 3 4 _ _ rfl rfl rfl rfl ?_ ?_|refine aA.fork 3 5 _ _ rfl rfl rfl rfl ?_ ?_|refine aA.fork 3 6 _ _ rfl rfl rfl rfl ?_ ?_|refine aA.fork 4 5 _ _ rfl rfl rfl rfl ?_ ?_|refine aA.fork 4 6 _ _ rfl rfl rfl rfl ?_ ?_|refine aA.fork 5 6 _ _ rfl rfl rfl rfl ?_ ?_|refine aA.bY 0 1 2 _ _ _ rfl rfl rfl rfl rfl ?_ ?_ ?_|refine aA.bY 0 1 3 _ _ _ rfl rfl rfl rfl rfl ?_ ?_ ?_|refine aA.bY 0 1 4 _ _ _ rfl rfl rfl rfl rfl ?_ ?_ ?_|refine aA.bY 0 1 5 _ _ _ rfl rfl rfl rfl rfl ?_ ?_ ?_|refine aA.bY 0 2 3 _ _ _ rfl rfl rfl rfl rfl ?_ ?_ ?_|refine aA.bY 0 2 4 _ _ _ rfl rfl rfl rfl rfl ?_ ?_ ?_|refine aA.bY 0 2 5 _ _ _ rfl rfl rfl rfl rfl ?_ ?_ ?_|refine aA.bY 0 3 4 _ _ _ rfl rfl rfl rfl rfl ?_ ?_ ?_|refine aA.bY 0 3 5 _ _ _ rfl rfl rfl rfl rfl ?_ ?_ ?_|refine aA.bY 0 4 5 _ _ _ rfl rfl rfl rfl rfl ?_ ?_ ?_|refine aA.bY 1 2 3 _ _ _ rfl rfl rfl rfl rfl ?_ ?_ ?_|refine aA.bY 1 2 4 _ _ _ rfl rfl rfl rfl rfl ?_ ?_ ?_|refine aA.bY 1 2 5 _ _ _ rfl rfl rfl rfl rfl ?_ ?_ ?_|refine aA.bY 1 3 4 _ _ _ rfl rfl rfl rfl rfl ?_ ?_ ?_|refine aA.bY 1 3 5 _ _ _ rfl rfl rfl rfl rfl ?_ ?_ ?_|refine aA.bY 1 4 5 _ _ _ rfl rfl rfl rfl rfl ?_ ?_ ?_|refine aA.bY 2 3 4 _ _ _ rfl rfl rfl rfl rfl ?_ ?_ ?_|refine aA.bY 2 3 5 _ _ _ rfl rfl rfl rfl rfl ?_ ?_ ?_|refine aA.bY 2 4 5 _ _ _ rfl rfl rfl rfl rfl ?_ ?_ ?_|refine aA.bY 3 4 5 _ _ _ rfl rfl rfl rfl rfl ?_ ?_ ?_|refine K1.z ?_|refine K1.y (fun _=> ?_) (fun _=> ?_)|fail)
 all_goals(conv=>whnf)
 exact⟨[(13,1)],rfl,rfl,⟨⟨_,rfl,au.refl _⟩,trivial⟩,rfl,rfl,aj.refl _⟩
end
section
open Go.RowKit
theorem VJ (l:List Ev) (e:Ev) (hk:e.k=3)  (hc:l.any (G5 e)=true) (r:Ev) (rs:List Ev) (hr:l.filter (bG 3 (fun a=>decide (a.l=e.l)) e)=r::rs) (hl:l.length≤1000000000):
  aY Tryz.prog 132 [(0,jI l)] [.own 0,e.av] (.own 1) [(1,jI ((r::rs)++[e]))]:=by
 have hw:=wY 162 (fun a=>decide (a.l=e.l)) 3 e (TU e) l r rs hr hl
 have hcr:=iK l e (by omega)
 rw[hc]at hcr
 have hlf:=List.length_filter_le (bG 3 (fun a=>decide (a.l=e.l)) e) l
 rw[hr]at hlf
 simp only[List.length_cons]at hlf
 dsimp only[Ev.av,Ev.cs]at hw hcr⊢
 refine K1.M 0x2020021041bb Tryz.func132 10 ?_
 repeat' ((conv=>whnf);first|refine K1.w ?_|refine K1.u ?_|refine K1.P1 (hcr) rfl ?_|refine K1.C 2 [(0,_),(1,_)] (hw) rfl ?_|refine iF.aa4 16 (id:=9) dR (fJ dR _) ⟨[(4,.own 13)],[(13,jI ((r::rs)++[e]))],[[]],14⟩ jy (by kernel_rfl) 8 _ rfl rfl ?_ ?_|refine aA.fin rfl ?_|refine Ey.WE ⟨aj.refl _,trivial⟩ ⟨⟨_,rfl,au.row (by simp) (fun m hm=>bn (c:=Ev.cs) (l:=r::rs) rfl rfl m hm)⟩,trivial⟩ rfl rfl|refine aA.pick 0 _ rfl rfl ?_|refine aA.pick 1 _ rfl rfl ?_|refine aA.pick 2 _ rfl rfl ?_|refine aA.pick 3 _ rfl rfl ?_|refine aA.pick 4 _ rfl rfl ?_|refine aA.pick 5 _ rfl rfl ?_|refine aA.pick 6 _ rfl rfl ?_|refine aA.pick 7 _ rfl rfl ?_|refine aA.one 0 _ rfl rfl rfl ?_|refine aA.one 1 _ rfl rfl rfl ?_|refine aA.one 2 _ rfl rfl rfl ?_|refine aA.one 3 _ rfl rfl rfl ?_|refine aA.one 4 _ rfl rfl rfl ?_|refine aA.one 5 _ rfl rfl rfl ?_|refine aA.one 6 _ rfl rfl rfl ?_|refine aA.one 7 _ rfl rfl rfl ?_|refine aA.fork 0 1 _ _ rfl rfl rfl rfl ?_ ?_|refine aA.fork 0 2 _ _ rfl rfl rfl rfl ?_ ?_|refine aA.fork 0 3 _ _ rfl rfl rfl rfl ?_ ?_|refine aA.fork 0 4 _ _ rfl rfl rfl rfl ?_ ?_|refine aA.fork 0 5 _ _ rfl rfl rfl rfl ?_ ?_|refine aA.fork 0 6 _ _ rfl rfl rfl rfl ?_ ?_|refine aA.fork 1 2 _ _ rfl rfl rfl rfl ?_ ?_|refine aA.fork 1 3 _ _ rfl rfl rfl rfl ?_ ?_|refine aA.fork 1 4 _ _ rfl rfl rfl rfl ?_ ?_|refine aA.fork 1 5 _ _ rfl rfl rfl rfl ?_ ?_|refine aA.fork 1 6 _ _ rfl rfl rfl rfl ?_ ?_|refine aA.fork 2 3 _ _ rfl rfl rfl rfl ?_ ?_|refine aA.fork 2 4 _ _ rfl rfl rfl rfl ?_ ?_|refine aA.fork 2 5 _ _ rfl rfl rfl rfl ?_ ?_|refine aA.fork 2 6 _ _ rfl rfl rfl rfl ?_ ?_|refine aA.fork 3 4 _ _ rfl rfl rfl rfl ?_ ?_|refine aA.fork 3 5 _ _ rfl rfl rfl rfl ?_ ?_|refine aA.fork 3 6 _ _ rfl rfl rfl rfl ?_ ?_|refine aA.fork 4 5 _ _ rfl rfl rfl rfl ?_ ?_|refine aA.fork 4 6 _ _ rfl rfl rfl rfl ?_ ?_|refine aA.fork 5 6 _ _ rfl rfl rfl rfl ?_ ?_|refine aA.bY 0 1 2 _ _ _ rfl rfl rfl rfl rfl ?_ ?_ ?_|refine aA.bY 0 1 3 _ _ _ rfl rfl rfl rfl rfl ?_ ?_ ?_|refine aA.bY 0 1 4 _ _ _ rfl rfl rfl rfl rfl ?_ ?_ ?_|refine aA.bY 0 1 5 _ _ _ rfl rfl rfl rfl rfl ?_ ?_ ?_|refine aA.bY 0 2 3 _ _ _ rfl rfl rfl rfl rfl ?_ ?_ ?_|refine aA.bY 0 2 4 _ _ _ rfl rfl rfl rfl rfl ?_ ?_ ?_|refine aA.bY 0 2 5 _ _ _ rfl rfl rfl rfl rfl ?_ ?_ ?_|refine aA.bY 0 3 4 _ _ _ rfl rfl rfl rfl rfl ?_ ?_ ?_|refine aA.bY 0 3 5 _ _ _ rfl rfl rfl rfl rfl ?_ ?_ ?_|refine aA.bY 0 4 5 _ _ _ rfl rfl rfl rfl rfl ?_ ?_ ?_|refine aA.bY 1 2 3 _ _ _ rfl rfl rfl rfl rfl ?_ ?_ ?_|refine aA.bY 1 2 4 _ _ _ rfl rfl rfl rfl rfl ?_ ?_ ?_|refine aA.bY 1 2 5 _ _ _ rfl rfl rfl rfl rfl ?_ ?_ ?_|refine aA.bY 1 3 4 _ _ _ rfl rfl rfl rfl rfl ?_ ?_ ?_|refine aA.bY 1 3 5 _ _ _ rfl rfl rfl rfl rfl ?_ ?_ ?_|refine aA.bY 1 4 5 _ _ _ rfl rfl rfl rfl rfl ?_ ?_ ?_|refine aA.bY 2 3 4 _ _ _ rfl rfl rfl rfl rfl ?_ ?_ ?_|refine aA.bY 2 3 5 _ _ _ rfl rfl rfl rfl rfl ?_ ?_ ?_|refine aA.bY 2 4 5 _ _ _ rfl rfl rfl rfl rfl ?_ ?_ ?_|refine aA.bY 3 4 5 _ _ _ rfl rfl rfl rfl rfl ?_ ?_ ?_|refine K1.z ?_|refine K1.y (fun _=> ?_) (fun _=> ?_)|fail)
 all_goals(conv=>whnf)
 exact⟨[(13,1)],rfl,rfl,⟨⟨_,rfl,au.refl _⟩,trivial⟩,rfl,rfl,aj.refl _⟩
end
section
open Go.RowKit
theorem VK (l:List Ev) (e:Ev) (hk:e.k=5)  (r:Ev) (rs:List Ev) (hr:l.filter (bG 4 (fun a=>decide (a.l=e.l)&&decide (a.v=e.v)) e)=r::rs) (hl:l.length≤1000000000):
  aY Tryz.prog 132 [(0,jI l)] [.own 0,e.av] (.own 1) [(1,jI (r::rs))]:=by
 have hw:=wY 163 (fun a=>decide (a.l=e.l)&&decide (a.v=e.v)) 4 e (Eh e) l r rs hr hl
 have hlf:=List.length_filter_le (bG 4 (fun a=>decide (a.l=e.l)&&decide (a.v=e.v)) e) l
 rw[hr]at hlf
 simp only[List.length_cons]at hlf
 dsimp only[Ev.av,Ev.cs]at hw⊢
 refine K1.M 0x2020021041bb Tryz.func132 10 ?_
 repeat' ((conv=>whnf);first|refine K1.w ?_|refine K1.u ?_|refine K1.C 2 [(0,_),(1,_)] (hw) rfl ?_|refine K1.z ?_|refine K1.y (fun _=> ?_) (fun _=> ?_)|fail)
 all_goals(conv=>whnf)
 first
   |exact⟨[(11,1)],rfl,rfl,⟨⟨_,rfl,au.refl _⟩,trivial⟩,rfl,rfl,aj.refl _⟩
   |exact⟨[(12,1)],rfl,rfl,⟨⟨_,rfl,au.refl _⟩,trivial⟩,rfl,rfl,aj.refl _⟩
   |exact⟨[(13,1)],rfl,rfl,⟨⟨_,rfl,au.refl _⟩,trivial⟩,rfl,rfl,aj.refl _⟩
   |exact⟨[(14,1)],rfl,rfl,⟨⟨_,rfl,au.refl _⟩,trivial⟩,rfl,rfl,aj.refl _⟩
   |exact⟨[(15,1)],rfl,rfl,⟨⟨_,rfl,au.refl _⟩,trivial⟩,rfl,rfl,aj.refl _⟩
   |exact⟨[(16,1)],rfl,rfl,⟨⟨_,rfl,au.refl _⟩,trivial⟩,rfl,rfl,aj.refl _⟩
   |exact⟨[(17,1)],rfl,rfl,⟨⟨_,rfl,au.refl _⟩,trivial⟩,rfl,rfl,aj.refl _⟩
   |exact⟨[(18,1)],rfl,rfl,⟨⟨_,rfl,au.refl _⟩,trivial⟩,rfl,rfl,aj.refl _⟩
theorem VL (l:List Ev) (e:Ev) (hk:e.k=5)  (hr:l.filter (bG 4 (fun a=>decide (a.l=e.l)&&decide (a.v=e.v)) e)=[]) (hl:l.length≤1000000000):
  aY Tryz.prog 132 [(0,jI l)] [.own 0,e.av] (.v (.slice none 0 0)) []:=by
 have hw:=wZ 163 (fun a=>decide (a.l=e.l)&&decide (a.v=e.v)) 4 e (Eh e) l hr hl
 have hlf:=List.length_filter_le (bG 4 (fun a=>decide (a.l=e.l)&&decide (a.v=e.v)) e) l
 rw[hr]at hlf
 simp only[List.length_nil]at hlf
 dsimp only[Ev.av,Ev.cs]at hw⊢
 refine K1.M 0x2020021041bb Tryz.func132 10 ?_
 repeat' ((conv=>whnf);first|refine K1.w ?_|refine K1.u ?_|refine K1.C 2 [(0,_),(1,_)] (hw) rfl ?_|refine K1.z ?_|refine K1.y (fun _=> ?_) (fun _=> ?_)|fail)
 all_goals(conv=>whnf)
 exact⟨[],rfl,rfl,trivial,rfl,rfl,aj.refl _⟩
theorem Zd (l:List Ev) (e:Ev) (hk:e.k=4) (hc:l.any (G5 e)=false) (hl:l.length≤1000000000):
  aY Tryz.prog 132 [(0,jI l)] [.own 0,e.av] (.own 0) [(0,jI l)]:=by
 have hcr:=iK l e (by omega)
 rw[hc]at hcr
 dsimp only[Ev.av,Ev.cs]at hcr⊢
 refine K1.M 0x2020021041bb Tryz.func132 10 ?_
 repeat' ((conv=>whnf);first|refine K1.w ?_|refine K1.u ?_|refine K1.P1 (hcr) rfl ?_|refine K1.z ?_|refine K1.y (fun _=> ?_) (fun _=> ?_)|fail)
 all_goals(conv=>whnf)
 exact⟨[],rfl,rfl,⟨⟨_,rfl,au.refl _⟩,trivial⟩,rfl,rfl,aj.refl _⟩
theorem VN (l:List Ev) (e:Ev) (hk:e.k=2) (r:Ev) (rs:List Ev) (hr:l.filter (bG 1 (fun _=>true) e)=r::rs) (x:Ev) (xs:List Ev) (hx:(r::rs).filter (qG (r::rs))=x::xs) (hl:l.length≤1000000000):
  aY Tryz.prog 132 [(0,jI l)] [.own 0,e.av] (.own 1) [(1,jI (x::xs))]:=by
 have hlf:=List.length_filter_le (bG 1 (fun _=>true) e) l
 rw[hr]at hlf
 have hw:=Bg 160 (fun _=>true) 1 e Rl l r rs hr hl
 have hc:=fun d=>O7 d (r::rs) x xs hx (by omega)
 dsimp only[Ev.av,Ev.cs]at hw⊢
 refine K1.M 0x2020021041bb Tryz.func132 10 ?_
 repeat' ((conv=>whnf);first|refine K1.w ?_|refine K1.u ?_|refine K1.C 1 [(0,_)] (hw) rfl ?_|refine K1.F1 (hc _) rfl ?_|refine K1.z ?_|refine K1.y (fun _=> ?_) (fun _=> ?_)|fail)
 all_goals(conv=>whnf)
 first
   |exact⟨[(11,1)],rfl,rfl,⟨⟨_,rfl,au.refl _⟩,trivial⟩,rfl,rfl,aj.refl _⟩
   |exact⟨[(12,1)],rfl,rfl,⟨⟨_,rfl,au.refl _⟩,trivial⟩,rfl,rfl,aj.refl _⟩
   |exact⟨[(13,1)],rfl,rfl,⟨⟨_,rfl,au.refl _⟩,trivial⟩,rfl,rfl,aj.refl _⟩
   |exact⟨[(14,1)],rfl,rfl,⟨⟨_,rfl,au.refl _⟩,trivial⟩,rfl,rfl,aj.refl _⟩
   |exact⟨[(15,1)],rfl,rfl,⟨⟨_,rfl,au.refl _⟩,trivial⟩,rfl,rfl,aj.refl _⟩
   |exact⟨[(16,1)],rfl,rfl,⟨⟨_,rfl,au.refl _⟩,trivial⟩,rfl,rfl,aj.refl _⟩
   |exact⟨[(17,1)],rfl,rfl,⟨⟨_,rfl,au.refl _⟩,trivial⟩,rfl,rfl,aj.refl _⟩
   |exact⟨[(18,1)],rfl,rfl,⟨⟨_,rfl,au.refl _⟩,trivial⟩,rfl,rfl,aj.refl _⟩
theorem VO (l:List Ev) (e:Ev) (hk:e.k=2) (r:Ev) (rs:List Ev) (hr:l.filter (bG 1 (fun _=>true) e)=r::rs) (hx:(r::rs).filter (qG (r::rs))=[]) (hl:l.length≤1000000000):
  aY Tryz.prog 132 [(0,jI l)] [.own 0,e.av] (.v (.slice none 0 0)) []:=by
 have hlf:=List.length_filter_le (bG 1 (fun _=>true) e) l
 rw[hr]at hlf
 have hw:=Bg 160 (fun _=>true) 1 e Rl l r rs hr hl
 have hc:=Du (r::rs) hx (by omega)
 dsimp only[Ev.av,Ev.cs]at hw⊢
 refine K1.M 0x2020021041bb Tryz.func132 10 ?_
 repeat' ((conv=>whnf);first|refine K1.w ?_|refine K1.u ?_|refine K1.C 1 [(0,_)] (hw) rfl ?_|refine K1.P1 (hc) rfl ?_|refine K1.z ?_|refine K1.y (fun _=> ?_) (fun _=> ?_)|fail)
 all_goals(conv=>whnf)
 exact⟨[],rfl,rfl,trivial,rfl,rfl,aj.refl _⟩
theorem VP (l:List Ev) (e:Ev) (hk:e.k=2) (hr:l.filter (bG 1 (fun _=>true) e)=[]) (hl:l.length≤1000000000):
  aY Tryz.prog 132 [(0,jI l)] [.own 0,e.av] (.v (.slice none 0 0)) []:=by
 have hlf:=List.length_filter_le (bG 1 (fun _=>true) e) l
 rw[hr]at hlf
 have hw:=Mc 160 (fun _=>true) 1 e Rl l hr hl
 have hc:=Du [] rfl (by decide)
 dsimp only[Ev.av,Ev.cs]at hw⊢
 refine K1.M 0x2020021041bb Tryz.func132 10 ?_
 repeat' ((conv=>whnf);first|refine K1.w ?_|refine K1.u ?_|refine K1.C 1 [(0,_)] (hw) rfl ?_|refine K1.P1 (hc) rfl ?_|refine dI.plain _ _ hc (DC.cons (.nil 12 true (dV []) (by decide)) .nil) rfl ?_|refine K1.z ?_|refine K1.y (fun _=> ?_) (fun _=> ?_)|fail)
 all_goals(conv=>whnf)
 exact⟨[],rfl,rfl,trivial,rfl,rfl,aj.refl _⟩
end
section
open Go.RowKit
inductive Ze (l:List Ev) (e:Ev):Prop where
  |own (r:Ev) (rs:List Ev) (h:kF l e=r::rs) (hs:aY Tryz.prog 132 [(0,jI l)] [.own 0,e.av] (.own 1) [(1,jI (r::rs))])
  |same (h:kF l e=l) (hs:aY Tryz.prog 132 [(0,jI l)] [.own 0,e.av] (.own 0) [(0,jI l)])
  |nil (h:kF l e=[]) (hs:aY Tryz.prog 132 [(0,jI l)] [.own 0,e.av] (.v (.slice none 0 0)) [])
theorem yA (kind:Int) (same:Ev→Bool) (e:Ev) (l:List Ev):qF kind same e l=l.filter (bG kind same e):=by
 unfold qF
 refine List.filter_congr fun a _=> ?_
 unfold bG
 cases decide (a.k=kind)<;>cases same a<;>cases aN a e<;>rfl
theorem Bh (l:List Ev) (e:Ev):rD l e=l.any (G5 e):=by
 unfold rD
 refine any_congr fun a _=> ?_
 rfl
theorem acX (l:List Ev):(l.filter fun a=>decide (a.k=1)||rD l a)=l.filter (qG l):=by
 refine List.filter_congr fun a _=> ?_
 unfold qG
 rw[Bh]
theorem Bj {l:List Ev} {e:Ev} {m:List Ev} (h:kF l e=m++[e]) (hs:aY Tryz.prog 132 [(0,jI l)] [.own 0,e.av] (.own 1) [(1,jI (m++[e]))]):Ze l e:=by
 cases hm:m++[e]with
 |nil=>simp at hm
 |cons r rs=>rw[hm]at h hs;exact .own r rs h hs
theorem Zf (l:List Ev) (e:Ev) (hk:1≤e.k∧e.k≤5) (hl:l.length≤1000000000):Ze l e:=by
 rcases(show e.k=1∨e.k=2∨e.k=3∨e.k=4∨e.k=5 by omega)with h|h|h|h|h
 · exact Bj (m:=l) (by unfold kF;rw[if_pos h]) (acV l e h hl)
 · have hw:kF l e=(l.filter (bG 1 (fun _=>true) e)).filter (qG (l.filter (bG 1 (fun _=>true) e))):=by
    unfold kF
    rw[if_neg (by omega),if_pos h,yA,acX]
   cases hr:l.filter (bG 1 (fun _=>true) e)with
   |nil=>rw[hr]at hw;exact .nil hw (VP l e h hr hl)
   | cons r rs=>
     rw[hr]at hw
     cases hx:(r::rs).filter (qG (r::rs))with
     |nil=>rw[hx]at hw;exact .nil hw (VO l e h r rs hr hx hl)
     |cons x xs=>rw[hx]at hw;exact .own x xs hw (VN l e h r rs hr x xs hx hl)
 · cases hc:l.any (G5 e)with
   |false=>exact .same (by unfold kF;rw[if_neg (by omega),if_neg (by omega),if_pos h,Bh,hc];rfl) (Zc l e h hc hl)
   | true=>
     have hw:kF l e=l.filter (bG 3 (fun a=>decide (a.l=e.l)) e)++[e]:=by
      unfold kF
      rw[if_neg (by omega),if_neg (by omega),if_pos h,Bh,hc,if_pos rfl,yA]
      rfl
     cases hr:l.filter (bG 3 (fun a=>decide (a.l=e.l)) e)with
     |nil=>rw[hr]at hw;exact Bj hw (VG l e h hc hr hl)
     |cons r rs=>rw[hr]at hw;exact Bj hw (VJ l e h hc r rs hr hl)
 · cases hc:l.any (G5 e)with
   |false=>exact .same (by unfold kF;rw[if_neg (by omega),if_neg (by omega),if_neg (by omega),if_neg (by omega),Bh,hc];rfl) (Zd l e h hc hl)
   | true=>
     have hw:kF l e=l.filter (bG 4 (fun a=>decide (a.l=e.l)&&decide (a.v=e.v)) e)++[e]:=by
      unfold kF
      rw[if_neg (by omega),if_neg (by omega),if_neg (by omega),if_neg (by omega),Bh,hc,if_pos rfl,yA]
      rfl
     cases hr:l.filter (bG 4 (fun a=>decide (a.l=e.l)&&decide (a.v=e.v)) e)with
     |nil=>rw[hr]at hw;exact Bj hw (VH l e h hc hr hl)
     |cons r rs=>rw[hr]at hw;exact Bj hw (VI l e h hc r rs hr hl)
 · have hw:kF l e=l.filter (bG 4 (fun a=>decide (a.l=e.l)&&decide (a.v=e.v)) e):=by
    unfold kF
    rw[if_neg (by omega),if_neg (by omega),if_neg (by omega),if_pos h,yA]
    rfl
   cases hr:l.filter (bG 4 (fun a=>decide (a.l=e.l)&&decide (a.v=e.v)) e)with
   |nil=>rw[hr]at hw;exact .nil hw (VL l e h hr hl)
   |cons r rs=>rw[hr]at hw;exact .own r rs hw (VK l e h r rs hr hl)
end
end Go.Proofs.YtimhagicagdkfaaGreat
