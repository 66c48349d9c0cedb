/-
  Contracts of the walk:LvD,LvE,Ay,LvF,LvI,LvH,LvG,LvP,TxL.
-/
import Derived.Test.YtimhagicagdkfaaGreatNh18
import Derived.Test.YtimhagicagdkfaaGreatNh6
import Derived.Test.YtimhagicagdkfaaGreatNh17
import Derived.Test.YtimhagicagdkfaaGreatNh9
set_option maxHeartbeats 16000000
set_option maxRecDepth 100000
set_option linter.unusedVariables false
set_option linter.unusedSimpArgs false
namespace Go.Proofs.YtimhagicagdkfaaGreat
section
open Go.RowKit
theorem BN (g:FuncId) (same:Ev→Bool) (kind:Int) (e:Ev) (hs: ∀a,aH Tryz.prog g [a.av] (.v (.bool (same a))) [])
  (l:List Ev) (r:Ev) (rs:List Ev) (hr:l.filter (bH kind same e)=r::rs) (hl:l.length≤1000000000):
  aV Tryz.prog 159 [(0,jM l)] [.own 0,e.av,.v (.int .i64 kind),.fn g []] (.own 1) [(1,.row 42 12 (rs.length+1) true (dX (r::rs)))]:=by
 dsimp only[Ev.av,Ev.cs]
 refine K1.M 0x20000fb2f Tryz.func159 10 ?_
 repeat' ((conv=>whnf);first|refine K1.w ?_|refine K1.u ?_|refine aJ.dO ?_|refine K1.z ?_|refine K1.y (fun _=>?_) (fun _=>?_)|fail)
 conv=>whnf
 refine aN.CB 0 rfl ?_
 refine aN.mk (LU (bH kind same e) l) (fun x=>match x with
   |⟨(j,[]),_⟩=>⟨[(0,.sl 12 l.length true (dX l)),(2,.v (.int .i64 kind)),(3,.fn g []),(5,.box 10 0),(9,.v (.slice none 0 0)),(12,.sl 12 l.length true (dX l)),(13,.v (.int .i64 (l.length:Int))),(14,.v (.int .i64 (j:Int)))],[(10,.box 42 e.cs)],[[(0,.sl 12 l.length true (dX l))]],11⟩
   |⟨(j,y::ys),_⟩=>⟨[(0,.sl 12 l.length true (dX l)),(2,.v (.int .i64 kind)),(3,.fn g []),(5,.box 10 0),(9,.own 90),(12,.sl 12 l.length true (dX l)),(13,.v (.int .i64 (l.length:Int))),(14,.v (.int .i64 (j:Int)))],[(10,.box 42 e.cs),(90,.row 42 12 (ys.length+1) true (dX (y::ys)))],[[(0,.sl 12 l.length true (dX l))]],91⟩) (fun x=>l.length-x.1.1) ⟨(0,[]),Nat.zero_le _,rfl⟩ _
   (dL.mk' [] _ _ _ rfl ⟨aj,aj,aj,aj,aj,aj,aS.int rfl,aS.int rfl,trivial⟩ ⟨aF rfl,trivial⟩ rfl) ?_
 rintro⟨⟨j,ys⟩,hj,hys⟩
 dsimp only at hj hys
 rcases ys with _|⟨y,ys⟩
 · dsimp only
   by_cases hjl:j<l.length
   · have hab:=hs (l.getD (j:Int).toNat default)
     have hbb:=iZ (l.getD (j:Int).toNat default) e
     have hft:=dw (p:=bH kind same e) hjl
     rw[←hys,List.nil_append]at hft
     rw[show l.getD j default=l.getD (j:Int).toNat default from rfl]at hft
     have hk: ¬ (l.getD (j:Int).toNat default).k=kind→[l.getD j default]=(l.take (j+1)).filter (bH kind same e):=fun h=>by rw[hft,xg h];rfl
     have hsm:same (l.getD (j:Int).toNat default)=false→[l.getD j default]=(l.take (j+1)).filter (bH kind same e):=fun h=>by rw[hft,xq h];rfl
     have hbl:aO (l.getD (j:Int).toNat default) e=false→[l.getD j default]=(l.take (j+1)).filter (bH kind same e):=fun h=>by rw[hft,xA h];rfl
     have hno:(l.getD (j:Int).toNat default).k=kind→same (l.getD (j:Int).toNat default)=true→aO (l.getD (j:Int).toNat default) e=true→[]=(l.take (j+1)).filter (bH kind same e):=fun h h1 h2=>by rw[hft,xB h h1 h2];simp
     clear hft
     generalize same (l.getD (j:Int).toNat default)=q1 at hab hsm hno
     generalize aO (l.getD (j:Int).toNat default) e=q2 at hbb hbl hno
     dsimp only[Ev.av,Ev.cs]at hab hbb⊢
     repeat' ((conv=>whnf);first|refine K1.w ?_|refine K1.u ?_|refine K1.P1 hab rfl ?_|refine K1.P1 hbb rfl ?_|refine aJ.dO ?_|refine K1.z ?_|refine K1.y (fun _=>?_) (fun _=>?_)|fail)
     all_goals(conv=>whnf)
     all_goals first
       |exact⟨⟨(j+1,[]),hjl,hno (by assumption) (by assumption) (by assumption)⟩,_,dL.mk' [] _ _ _ rfl ⟨aj,aj,aj,aj,aj,aj,aS.int rfl,aS.int rfl,trivial⟩ ⟨aF rfl,trivial⟩ rfl,by show l.length-(j+1)<l.length-j;omega⟩
       | (refine⟨⟨(j+1,[l.getD j default]),hjl,by first|exact hk (by assumption)|exact hsm (by assumption)|exact hbl (by assumption)⟩,_,dL.mk' [(12,90)] _ _ _ rfl ⟨aj,aj,aj,aj,aj,aj,aS.int rfl,aS.int rfl,trivial⟩ ⟨aF rfl,⟨_,rfl,bW.row rfl (fun m hm=>?_)⟩,trivial⟩ rfl,by show l.length-(j+1)<l.length-j;omega⟩
          have hm:m<1:=hm
          obtain rfl:m=0:=by omega
          rfl)
       | (refine⟨⟨(j+1,[l.getD j default]),hjl,by first|exact hk (by assumption)|exact hsm (by assumption)|exact hbl (by assumption)⟩,_,dL.mk' [(13,90)] _ _ _ rfl ⟨aj,aj,aj,aj,aj,aj,aS.int rfl,aS.int rfl,trivial⟩ ⟨aF rfl,⟨_,rfl,bW.row rfl (fun m hm=>?_)⟩,trivial⟩ rfl,by show l.length-(j+1)<l.length-j;omega⟩
          have hm:m<1:=hm
          obtain rfl:m=0:=by omega
          rfl)
       | (refine⟨⟨(j+1,[l.getD j default]),hjl,by first|exact hk (by assumption)|exact hsm (by assumption)|exact hbl (by assumption)⟩,_,dL.mk' [(14,90)] _ _ _ rfl ⟨aj,aj,aj,aj,aj,aj,aS.int rfl,aS.int rfl,trivial⟩ ⟨aF rfl,⟨_,rfl,bW.row rfl (fun m hm=>?_)⟩,trivial⟩ rfl,by show l.length-(j+1)<l.length-j;omega⟩
          have hm:m<1:=hm
          obtain rfl:m=0:=by omega
          rfl)
       | (refine⟨⟨(j+1,[l.getD j default]),hjl,by first|exact hk (by assumption)|exact hsm (by assumption)|exact hbl (by assumption)⟩,_,dL.mk' [(15,90)] _ _ _ rfl ⟨aj,aj,aj,aj,aj,aj,aS.int rfl,aS.int rfl,trivial⟩ ⟨aF rfl,⟨_,rfl,bW.row rfl (fun m hm=>?_)⟩,trivial⟩ rfl,by show l.length-(j+1)<l.length-j;omega⟩
          have hm:m<1:=hm
          obtain rfl:m=0:=by omega
          rfl)
   · have e0:l.filter (bH kind same e)=[]:=by rw[List.take_of_length_le (by omega)]at hys;exact hys.symm
     rw[hr]at e0
     cases e0
 · dsimp only
   have hyl:ys.length+1≤j:=by
    have h1:=congrArg List.length hys
    have h2:=List.length_filter_le (bH kind same e) (l.take j)
    rw[List.length_take]at h2
    rw[List.length_cons]at h1
    omega
   by_cases hjl:j<l.length
   · have hab:=hs (l.getD (j:Int).toNat default)
     have hbb:=iZ (l.getD (j:Int).toNat default) e
     have hft:=dw (p:=bH kind same e) hjl
     rw[←hys]at hft
     rw[show l.getD j default=l.getD (j:Int).toNat default from rfl]at hft
     have hk: ¬ (l.getD (j:Int).toNat default).k=kind→y::(ys++[l.getD j default])=(l.take (j+1)).filter (bH kind same e):=fun h=>by rw[hft,xg h];rfl
     have hsm:same (l.getD (j:Int).toNat default)=false→y::(ys++[l.getD j default])=(l.take (j+1)).filter (bH kind same e):=fun h=>by rw[hft,xq h];rfl
     have hbl:aO (l.getD (j:Int).toNat default) e=false→y::(ys++[l.getD j default])=(l.take (j+1)).filter (bH kind same e):=fun h=>by rw[hft,xA h];rfl
     have hno:(l.getD (j:Int).toNat default).k=kind→same (l.getD (j:Int).toNat default)=true→aO (l.getD (j:Int).toNat default) e=true→y::ys=(l.take (j+1)).filter (bH kind same e):=fun h h1 h2=>by rw[hft,xB h h1 h2];simp
     clear hft
     generalize same (l.getD (j:Int).toNat default)=q1 at hab hsm hno
     generalize aO (l.getD (j:Int).toNat default) e=q2 at hbb hbl hno
     dsimp only[Ev.av,Ev.cs]at hab hbb⊢
     repeat' ((conv=>whnf);first|refine K1.w ?_|refine K1.u ?_|refine K1.P1 hab rfl ?_|refine K1.P1 hbb rfl ?_|refine aJ.dO ?_|refine K1.z ?_|refine K1.y (fun _=>?_) (fun _=>?_)|fail)
     all_goals(conv=>whnf)
     all_goals first
       |exact⟨⟨(j+1,y::ys),hjl,hno (by assumption) (by assumption) (by assumption)⟩,_,dL.mk' [] _ _ _ rfl ⟨aj,aj,aj,aj,aj,aj,aS.int rfl,aS.int rfl,trivial⟩ ⟨aF rfl,aF rfl,trivial⟩ rfl,by show l.length-(j+1)<l.length-j;omega⟩
       | (refine⟨⟨(j+1,y::(ys++[l.getD j default])),hjl,by first|exact hk (by assumption)|exact hsm (by assumption)|exact hbl (by assumption)⟩,_,dL.mk' [(92,90)] _ _ _ rfl ⟨aj,aj,aj,aj,aj,aj,aS.int rfl,aS.int rfl,trivial⟩ ⟨aF rfl,⟨_,rfl,bW.row (by simp) (fun m hm=>?_)⟩,trivial⟩ rfl,by show l.length-(j+1)<l.length-j;omega⟩
          exact bJ (c:=Ev.cs) (l:=y::ys) rfl rfl m hm)
       | (refine⟨⟨(j+1,y::(ys++[l.getD j default])),hjl,by first|exact hk (by assumption)|exact hsm (by assumption)|exact hbl (by assumption)⟩,_,dL.mk' [(93,90)] _ _ _ rfl ⟨aj,aj,aj,aj,aj,aj,aS.int rfl,aS.int rfl,trivial⟩ ⟨aF rfl,⟨_,rfl,bW.row (by simp) (fun m hm=>?_)⟩,trivial⟩ rfl,by show l.length-(j+1)<l.length-j;omega⟩
          exact bJ (c:=Ev.cs) (l:=y::ys) rfl rfl m hm)
       | (refine⟨⟨(j+1,y::(ys++[l.getD j default])),hjl,by first|exact hk (by assumption)|exact hsm (by assumption)|exact hbl (by assumption)⟩,_,dL.mk' [(94,90)] _ _ _ rfl ⟨aj,aj,aj,aj,aj,aj,aS.int rfl,aS.int rfl,trivial⟩ ⟨aF rfl,⟨_,rfl,bW.row (by simp) (fun m hm=>?_)⟩,trivial⟩ rfl,by show l.length-(j+1)<l.length-j;omega⟩
          exact bJ (c:=Ev.cs) (l:=y::ys) rfl rfl m hm)
       | (refine⟨⟨(j+1,y::(ys++[l.getD j default])),hjl,by first|exact hk (by assumption)|exact hsm (by assumption)|exact hbl (by assumption)⟩,_,dL.mk' [(95,90)] _ _ _ rfl ⟨aj,aj,aj,aj,aj,aj,aS.int rfl,aS.int rfl,trivial⟩ ⟨aF rfl,⟨_,rfl,bW.row (by simp) (fun m hm=>?_)⟩,trivial⟩ rfl,by show l.length-(j+1)<l.length-j;omega⟩
          exact bJ (c:=Ev.cs) (l:=y::ys) rfl rfl m hm)
   · have e0:l.filter (bH kind same e)=y::ys:=by rw[List.take_of_length_le (by omega)]at hys;exact hys.symm
     rw[hr]at e0
     cases e0
     repeat' ((conv=>whnf);first|refine K1.w ?_|refine K1.u ?_|refine aJ.dO ?_|refine K1.z ?_|refine K1.y (fun _=>?_) (fun _=>?_)|fail)
     conv=>whnf
     exact⟨[(90,1)],rfl,rfl,⟨aF rfl,trivial⟩,rfl,rfl,aj⟩
theorem MQ (g:FuncId) (same:Ev→Bool) (kind:Int) (e:Ev) (hs: ∀a,aH Tryz.prog g [a.av] (.v (.bool (same a))) [])
  (l:List Ev) (hr:l.filter (bH kind same e)=[]) (hl:l.length≤1000000000):
  aV Tryz.prog 159 [(0,jM l)] [.own 0,e.av,.v (.int .i64 kind),.fn g []] (.v (.slice none 0 0)) []:=by
 dsimp only[Ev.av,Ev.cs]
 refine K1.M 0x20000fb2f Tryz.func159 10 ?_
 repeat' ((conv=>whnf);first|refine K1.w ?_|refine K1.u ?_|refine aJ.dO ?_|refine K1.z ?_|refine K1.y (fun _=>?_) (fun _=>?_)|fail)
 conv=>whnf
 refine aN.CB 0 rfl ?_
 refine aN.mk (LU (bH kind same e) l) (fun x=>match x with
   |⟨(j,[]),_⟩=>⟨[(0,.sl 12 l.length true (dX l)),(2,.v (.int .i64 kind)),(3,.fn g []),(5,.box 10 0),(9,.v (.slice none 0 0)),(12,.sl 12 l.length true (dX l)),(13,.v (.int .i64 (l.length:Int))),(14,.v (.int .i64 (j:Int)))],[(10,.box 42 e.cs)],[[(0,.sl 12 l.length true (dX l))]],11⟩
   |⟨(j,y::ys),_⟩=>⟨[(0,.sl 12 l.length true (dX l)),(2,.v (.int .i64 kind)),(3,.fn g []),(5,.box 10 0),(9,.own 90),(12,.sl 12 l.length true (dX l)),(13,.v (.int .i64 (l.length:Int))),(14,.v (.int .i64 (j:Int)))],[(10,.box 42 e.cs),(90,.row 42 12 (ys.length+1) true (dX (y::ys)))],[[(0,.sl 12 l.length true (dX l))]],91⟩) (fun x=>l.length-x.1.1) ⟨(0,[]),Nat.zero_le _,rfl⟩ _
   (dL.mk' [] _ _ _ rfl ⟨aj,aj,aj,aj,aj,aj,aS.int rfl,aS.int rfl,trivial⟩ ⟨aF rfl,trivial⟩ rfl) ?_
 rintro⟨⟨j,ys⟩,hj,hys⟩
 dsimp only at hj hys
 rcases ys with _|⟨y,ys⟩
 · dsimp only
   by_cases hjl:j<l.length
   · have hab:=hs (l.getD (j:Int).toNat default)
     have hbb:=iZ (l.getD (j:Int).toNat default) e
     have hft:=dw (p:=bH kind same e) hjl
     rw[←hys,List.nil_append]at hft
     rw[show l.getD j default=l.getD (j:Int).toNat default from rfl]at hft
     have hk: ¬ (l.getD (j:Int).toNat default).k=kind→[l.getD j default]=(l.take (j+1)).filter (bH kind same e):=fun h=>by rw[hft,xg h];rfl
     have hsm:same (l.getD (j:Int).toNat default)=false→[l.getD j default]=(l.take (j+1)).filter (bH kind same e):=fun h=>by rw[hft,xq h];rfl
     have hbl:aO (l.getD (j:Int).toNat default) e=false→[l.getD j default]=(l.take (j+1)).filter (bH kind same e):=fun h=>by rw[hft,xA h];rfl
     have hno:(l.getD (j:Int).toNat default).k=kind→same (l.getD (j:Int).toNat default)=true→aO (l.getD (j:Int).toNat default) e=true→[]=(l.take (j+1)).filter (bH kind same e):=fun h h1 h2=>by rw[hft,xB h h1 h2];simp
     clear hft
     generalize same (l.getD (j:Int).toNat default)=q1 at hab hsm hno
     generalize aO (l.getD (j:Int).toNat default) e=q2 at hbb hbl hno
     dsimp only[Ev.av,Ev.cs]at hab hbb⊢
     repeat' ((conv=>whnf);first|refine K1.w ?_|refine K1.u ?_|refine K1.P1 hab rfl ?_|refine K1.P1 hbb rfl ?_|refine aJ.dO ?_|refine K1.z ?_|refine K1.y (fun _=>?_) (fun _=>?_)|fail)
     all_goals(conv=>whnf)
     all_goals first
       |exact⟨⟨(j+1,[]),hjl,hno (by assumption) (by assumption) (by assumption)⟩,_,dL.mk' [] _ _ _ rfl ⟨aj,aj,aj,aj,aj,aj,aS.int rfl,aS.int rfl,trivial⟩ ⟨aF rfl,trivial⟩ rfl,by show l.length-(j+1)<l.length-j;omega⟩
       | (refine⟨⟨(j+1,[l.getD j default]),hjl,by first|exact hk (by assumption)|exact hsm (by assumption)|exact hbl (by assumption)⟩,_,dL.mk' [(12,90)] _ _ _ rfl ⟨aj,aj,aj,aj,aj,aj,aS.int rfl,aS.int rfl,trivial⟩ ⟨aF rfl,⟨_,rfl,bW.row rfl (fun m hm=>?_)⟩,trivial⟩ rfl,by show l.length-(j+1)<l.length-j;omega⟩
          have hm:m<1:=hm
          obtain rfl:m=0:=by omega
          rfl)
       | (refine⟨⟨(j+1,[l.getD j default]),hjl,by first|exact hk (by assumption)|exact hsm (by assumption)|exact hbl (by assumption)⟩,_,dL.mk' [(13,90)] _ _ _ rfl ⟨aj,aj,aj,aj,aj,aj,aS.int rfl,aS.int rfl,trivial⟩ ⟨aF rfl,⟨_,rfl,bW.row rfl (fun m hm=>?_)⟩,trivial⟩ rfl,by show l.length-(j+1)<l.length-j;omega⟩
          have hm:m<1:=hm
          obtain rfl:m=0:=by omega
          rfl)
       | (refine⟨⟨(j+1,[l.getD j default]),hjl,by first|exact hk (by assumption)|exact hsm (by assumption)|exact hbl (by assumption)⟩,_,dL.mk' [(14,90)] _ _ _ rfl ⟨aj,aj,aj,aj,aj,aj,aS.int rfl,aS.int rfl,trivial⟩ ⟨aF rfl,⟨_,rfl,bW.row rfl (fun m hm=>?_)⟩,trivial⟩ rfl,by show l.length-(j+1)<l.length-j;omega⟩
          have hm:m<1:=hm
          obtain rfl:m=0:=by omega
          rfl)
       | (refine⟨⟨(j+1,[l.getD j default]),hjl,by first|exact hk (by assumption)|exact hsm (by assumption)|exact hbl (by assumption)⟩,_,dL.mk' [(15,90)] _ _ _ rfl ⟨aj,aj,aj,aj,aj,aj,aS.int rfl,aS.int rfl,trivial⟩ ⟨aF rfl,⟨_,rfl,bW.row rfl (fun m hm=>?_)⟩,trivial⟩ rfl,by show l.length-(j+1)<l.length-j;omega⟩
          have hm:m<1:=hm
          obtain rfl:m=0:=by omega
          rfl)
   · repeat' ((conv=>whnf);first|refine K1.w ?_|refine K1.u ?_|refine aJ.dO ?_|refine K1.z ?_|refine K1.y (fun _=>?_) (fun _=>?_)|fail)
     conv=>whnf
     exact⟨[],rfl,rfl,trivial,rfl,rfl,aj⟩
 · dsimp only
   have hyl:ys.length+1≤j:=by
    have h1:=congrArg List.length hys
    have h2:=List.length_filter_le (bH kind same e) (l.take j)
    rw[List.length_take]at h2
    rw[List.length_cons]at h1
    omega
   by_cases hjl:j<l.length
   · have hab:=hs (l.getD (j:Int).toNat default)
     have hbb:=iZ (l.getD (j:Int).toNat default) e
     have hft:=dw (p:=bH kind same e) hjl
     rw[←hys]at hft
     rw[show l.getD j default=l.getD (j:Int).toNat default from rfl]at hft
     have hk: ¬ (l.getD (j:Int).toNat default).k=kind→y::(ys++[l.getD j default])=(l.take (j+1)).filter (bH kind same e):=fun h=>by rw[hft,xg h];rfl
     have hsm:same (l.getD (j:Int).toNat default)=false→y::(ys++[l.getD j default])=(l.take (j+1)).filter (bH kind same e):=fun h=>by rw[hft,xq h];rfl
     have hbl:aO (l.getD (j:Int).toNat default) e=false→y::(ys++[l.getD j default])=(l.take (j+1)).filter (bH kind same e):=fun h=>by rw[hft,xA h];rfl
     have hno:(l.getD (j:Int).toNat default).k=kind→same (l.getD (j:Int).toNat default)=true→aO (l.getD (j:Int).toNat default) e=true→y::ys=(l.take (j+1)).filter (bH kind same e):=fun h h1 h2=>by rw[hft,xB h h1 h2];simp
     clear hft
     generalize same (l.getD (j:Int).toNat default)=q1 at hab hsm hno
     generalize aO (l.getD (j:Int).toNat default) e=q2 at hbb hbl hno
     dsimp only[Ev.av,Ev.cs]at hab hbb⊢
     repeat' ((conv=>whnf);first|refine K1.w ?_|refine K1.u ?_|refine K1.P1 hab rfl ?_|refine K1.P1 hbb rfl ?_|refine aJ.dO ?_|refine K1.z ?_|refine K1.y (fun _=>?_) (fun _=>?_)|fail)
     all_goals(conv=>whnf)
     all_goals first
       |exact⟨⟨(j+1,y::ys),hjl,hno (by assumption) (by assumption) (by assumption)⟩,_,dL.mk' [] _ _ _ rfl ⟨aj,aj,aj,aj,aj,aj,aS.int rfl,aS.int rfl,trivial⟩ ⟨aF rfl,aF rfl,trivial⟩ rfl,by show l.length-(j+1)<l.length-j;omega⟩
       | (refine⟨⟨(j+1,y::(ys++[l.getD j default])),hjl,by first|exact hk (by assumption)|exact hsm (by assumption)|exact hbl (by assumption)⟩,_,dL.mk' [(92,90)] _ _ _ rfl ⟨aj,aj,aj,aj,aj,aj,aS.int rfl,aS.int rfl,trivial⟩ ⟨aF rfl,⟨_,rfl,bW.row (by simp) (fun m hm=>?_)⟩,trivial⟩ rfl,by show l.length-(j+1)<l.length-j;omega⟩
          exact bJ (c:=Ev.cs) (l:=y::ys) rfl rfl m hm)
       | (refine⟨⟨(j+1,y::(ys++[l.getD j default])),hjl,by first|exact hk (by assumption)|exact hsm (by assumption)|exact hbl (by assumption)⟩,_,dL.mk' [(93,90)] _ _ _ rfl ⟨aj,aj,aj,aj,aj,aj,aS.int rfl,aS.int rfl,trivial⟩ ⟨aF rfl,⟨_,rfl,bW.row (by simp) (fun m hm=>?_)⟩,trivial⟩ rfl,by show l.length-(j+1)<l.length-j;omega⟩
          exact bJ (c:=Ev.cs) (l:=y::ys) rfl rfl m hm)
       | (refine⟨⟨(j+1,y::(ys++[l.getD j default])),hjl,by first|exact hk (by assumption)|exact hsm (by assumption)|exact hbl (by assumption)⟩,_,dL.mk' [(94,90)] _ _ _ rfl ⟨aj,aj,aj,aj,aj,aj,aS.int rfl,aS.int rfl,trivial⟩ ⟨aF rfl,⟨_,rfl,bW.row (by simp) (fun m hm=>?_)⟩,trivial⟩ rfl,by show l.length-(j+1)<l.length-j;omega⟩
          exact bJ (c:=Ev.cs) (l:=y::ys) rfl rfl m hm)
       | (refine⟨⟨(j+1,y::(ys++[l.getD j default])),hjl,by first|exact hk (by assumption)|exact hsm (by assumption)|exact hbl (by assumption)⟩,_,dL.mk' [(95,90)] _ _ _ rfl ⟨aj,aj,aj,aj,aj,aj,aS.int rfl,aS.int rfl,trivial⟩ ⟨aF rfl,⟨_,rfl,bW.row (by simp) (fun m hm=>?_)⟩,trivial⟩ rfl,by show l.length-(j+1)<l.length-j;omega⟩
          exact bJ (c:=Ev.cs) (l:=y::ys) rfl rfl m hm)
   · have e0:l.filter (bH kind same e)=y::ys:=by rw[List.take_of_length_le (by omega)]at hys;exact hys.symm
     rw[hr]at e0
     cases e0
theorem Sj (a:Ev):aH Tryz.prog 160 [a.av] (.v (.bool true)) []:=by
 dsimp only[Ev.av,Ev.cs]
 refine K1.E 0x5 Tryz.func160 ?_
 repeat' ((conv=>whnf);first|refine K1.w ?_|refine K1.u ?_|refine aJ.dO ?_|refine K1.z ?_|refine K1.y (fun _=>?_) (fun _=>?_)|fail)
 conv=>whnf
 exact bF.mk (aj)
theorem UD (e a:Ev):aV Tryz.prog 162 [(0,.box 42 e.cs)] [a.av,.box 0 0] (.v (.bool (decide (a.l=e.l)))) [(0,.box 42 e.cs)]:=by
 dsimp only[Ev.av,Ev.cs]
 refine K1.M 0xf Tryz.func162 10 ?_
 repeat' ((conv=>whnf);first|refine K1.w ?_|refine K1.u ?_|refine K1.z ?_|refine K1.y (fun _=>?_) (fun _=>?_)|fail)
 all_goals(conv=>whnf)
 all_goals refine⟨[],rfl,rfl,⟨aF rfl,trivial⟩,rfl,rfl, ?_⟩
 · rw[decide_eq_true (by assumption)];exact aj
 · rw[decide_eq_false (by assumption)];exact aj
theorem EY (e a:Ev):aV Tryz.prog 163 [(0,.box 42 e.cs)] [a.av,.box 0 0] (.v (.bool (decide (a.l=e.l)&&decide (a.v=e.v)))) [(0,.box 42 e.cs)]:=by
 dsimp only[Ev.av,Ev.cs]
 refine K1.M 0xf Tryz.func163 10 ?_
 repeat' ((conv=>whnf);first|refine K1.w ?_|refine K1.u ?_|refine K1.z ?_|refine K1.y (fun _=>?_) (fun _=>?_)|fail)
 all_goals(conv=>whnf)
 all_goals refine⟨[],rfl,rfl,⟨aF rfl,trivial⟩,rfl,rfl, ?_⟩
 all_goals first
   |(rw[show(decide (a.l=e.l)&&decide (a.v=e.v))=true by simp[*]];exact aj)
   |(rw[show(decide (a.l=e.l)&&decide (a.v=e.v))=false by simp[*]];exact aj)
end
section
open Go.RowKit
theorem adp (l:List Ev) (e:Ev) (hk:e.k=1) (hl:l.length≤1000000000):
  aV Tryz.prog 132 [(0,jM l)] [.own 0,e.av] (.own 1) [(1,jM (l++[e]))]:=by
 obtain⟨er,en,ec,eh,ek,Jf,el,ev⟩:=e
 dsimp only at hk
 subst hk
 dsimp only[Ev.av,Ev.cs]
 refine K1.M 0x2020021041bb Tryz.func132 10 ?_
 repeat' ((conv=>whnf);first|refine K1.w ?_|refine K1.u ?_|refine K1.z ?_|refine K1.y (fun _=>?_) (fun _=>?_)|fail)
 conv=>whnf
 refine⟨[(12,1)],rfl,rfl,⟨⟨_,rfl,bW.row (by simp) (fun m hm=>?_)⟩,trivial⟩,rfl,rfl,aj⟩
 exact bJ (c:=Ev.cs) (l:=l) rfl rfl m hm
theorem ZI (l:List Ev) (e:Ev) (hk:e.k=3) (hc:l.any (Ib e)=false) (hl:l.length≤1000000000):
  aV Tryz.prog 132 [(0,jM l)] [.own 0,e.av] (.own 0) [(0,jM l)]:=by
 have hcr:=iR l e (by omega)
 rw[hc]at hcr
 dsimp only[Ev.av,Ev.cs]at hcr⊢
 refine K1.M 0x2020021041bb Tryz.func132 10 ?_
 repeat' ((conv=>whnf);first|refine K1.w ?_|refine K1.u ?_|refine K1.P1 hcr rfl ?_|refine K1.z ?_|refine K1.y (fun _=>?_) (fun _=>?_)|fail)
 all_goals(conv=>whnf)
 exact⟨[],rfl,rfl,⟨aF rfl,trivial⟩,rfl,rfl,aj⟩
end
section
open Go.RowKit
section
variable {P:Program} {L:Lay} {N:Nat} {st:AS}
theorem Kz (lv:Nat): ∀ (l:List (Nat×AV)) (t:Nat),qW (Eo lv l) t=if KT lv t=true then qW l t else .junk
  |[],t=>by simp[Eo,qW]
  | (k,v)::l,t=>by
    have ih:=Kz lv l t
    simp only[Eo]
    cases hk:KT lv k with
    | true=>
      simp only[cond_true,qW]
      cases hb:Nat.beq t k with
      |true=>rw[Nat.eq_of_beq_eq_true hb,hk];simp
      |false=>simpa using ih
    | false=>
      simp only[cond_false,qW]
      cases hb:Nat.beq t k with
      |true=>rw[ih,Nat.eq_of_beq_eq_true hb,hk];simp
      |false=>simpa using ih
theorem Fv.adq {st S:AS} (lv:Nat) (h:Fv (st.vO lv) S):Fv st S:=by
 refine⟨fun t=>?_,h.hp,h.nd,h.bk⟩
 rcases h.tm t with k|k
 · exact .inl k
 · refine .inr ?_
   have e:(st.vO lv).tmps t=if KT lv t=true then st.tmps t else .junk:=Kz lv st.sl t
   rw[e]at k
   split at k
   · exact k
   · exact fun X u _=>k X u (by trivial)
theorem iK.ae1 (lv:Nat) (hL:bQ P L) {W:Walk} (hW:IZ P W) {id:Nat} {ops:Array Oper} {K:AS→Prop} (S:AS) (hm:P.follows .mixedOrders=true) (hs:Region.noSelect ops=true) (h:uF P L W N ops.toList.length ops.toList (fun st'=>nrm lv st' (fun s=>Fv s S)) ops.toList.length [] st) (hK:K S):iK P L W N id ops K st:=by
 have go: ∀ {st':AS},nrm lv st' (fun s=>Fv s S)→Fv st' S:=fun h=>by rw[KY]at h;exact h.adq lv
 have:=iK.any (P:=P) (L:=L) (N:=N) (id:=id) hL hW hm hs h
 cases this with
 | quiet hm hB hq h=>
   refine .sem fun g bs ρ a w E R hE=>?_
   refine wp_region_quiet (C:=fun w'=>w'=w.drew) hm hB rfl ?_
   have R':Rel g N bs ρ a w.drew st:=R.world (Below.refl _ _).drew
   exact vZ hL (E:=fun a w=>E .normal a w) (ops:=ops.toList) (fun a w1 st R h=>hE _ _ _ _ (R.less (go h)) hK) ops.toList hq R' h
 |sem h=>exact .sem fun g bs ρ a w E R hE=>h g bs ρ a w E R fun ρ a w st R h=>hE _ _ _ _ (R.less (go h)) hK
structure aA (P:Program) (L:Lay) (W:Walk) (N:Nat) (n:Nat) (ops:List Oper) (Q:AS→Prop) (f:Nat) (done:List Nat) (st:AS):Prop where
 mk::
 h:uF P L W N n ops Q f done st
section
variable {W:Walk} {n:Nat} {ops:List Oper} {Q:AS→Prop} {f:Nat} {done:List Nat}
theorem aA.eq:aA P L W N n ops Q f done=uF P L W N n ops Q f done:=funext fun _=>propext ⟨fun k=>k.h,.mk⟩
theorem aA.fin (h1:gK n done 0 ops=[]) (h:Q st):aA P L W N n ops Q f done st:= .mk (by
 cases f with
 |zero=>simp only[uF,h1];exact h
 |succ f=>simp only[uF,h1];exact h)
theorem aA.pick (j:Nat) (o:Oper) (h2:wE L N st ops done (gK n done 0 ops)=some j) (h3:ops[j]? =some o) (h:o8 P L W N ops o st (aA P L W N n ops Q f (j::done))):aA P L W N n ops Q (f+1) done st:= .mk (by
 rw[aA.eq]at h
 cases h1:gK n done 0 ops with
 |nil=>rw[h1]at h2;cases h2
 | cons i r=>
   rw[h1]at h2
   simp only[uF,h1,h2,h3]
   exact h)
theorem aA.one (i:Nat) (o:Oper) (h1:gK n done 0 ops=[i]) (h2:wE L N st ops done [i]=none) (h3:ops[i]? =some o) (h:o8 P L W N ops o st (aA P L W N n ops Q f (i::done))):aA P L W N n ops Q (f+1) done st:= .mk (by
 rw[aA.eq]at h
 simp only[uF,h1,h2,Vh,h3]
 exact h)
theorem aA.fork (i j:Nat) (o p:Oper) (h1:gK n done 0 ops=[i,j]) (h2:wE L N st ops done [i,j]=none) (h3:ops[i]? =some o) (h4:ops[j]? =some p)
  (h:o8 P L W N ops o st (aA P L W N n ops Q f (i::done))) (k:o8 P L W N ops p st (aA P L W N n ops Q f (j::done))):aA P L W N n ops Q (f+1) done st:= .mk (by
 rw[aA.eq]at h k
 simp only[uF,h1,h2,Vh,h3,h4]
 exact⟨h,k⟩)
theorem aA.cu (i j q:Nat) (o p r:Oper) (h1:gK n done 0 ops=[i,j,q]) (h2:wE L N st ops done [i,j,q]=none) (h3:ops[i]? =some o) (h4:ops[j]? =some p) (h5:ops[q]? =some r)
  (h:o8 P L W N ops o st (aA P L W N n ops Q f (i::done))) (k:o8 P L W N ops p st (aA P L W N n ops Q f (j::done))) (m:o8 P L W N ops r st (aA P L W N n ops Q f (q::done))):aA P L W N n ops Q (f+1) done st:= .mk (by
 rw[aA.eq]at h k m
 simp only[uF,h1,h2,Vh,h3,h4,h5]
 exact⟨h,k,m⟩)
theorem iK.abA (lv:Nat) (hL:bQ P L) (hW:IZ P W) {id:Nat} {ops:Array Oper} {K:AS→Prop} (S:AS) (hm:P.follows .mixedOrders=true) (hs:Region.noSelect ops=true) (m:Nat) (l:List Oper) (hm':ops.toList.length=m) (hl:ops.toList=l) (h:aA P L W N m l (fun st'=>nrm lv st' (fun s=>Fv s S)) m [] st) (hK:K S):iK P L W N id ops K st:=
 iK.ae1 lv hL hW S hm hs (by subst hm' hl;exact h.h) hK
end
end
theorem Fv.mkF {st:AS} {l:List (Nat×AV)} {h:List (Nat×AO)} {b:Nat} {x:List (Nat×AV)} (ht:LeT st l) (hh:LeH st h) (hn:nodupB (h.map (·.1))=true) (hb:st.back=[x]):Fv st ⟨l,h,[[]],b⟩:=by
 have:=Fv.mk' (st:=st) l h ht hh hn
 exact⟨this.tm,this.hp,this.nd,by rw[hb];exact⟨fun _=> .inl rfl,trivial⟩⟩
end
section
open Go.RowKit
theorem Wq (l:List Ev) (e:Ev) (hk:e.k=3)  (hc:l.any (Ib e)=true) (hr:l.filter (bH 3 (fun a=>decide (a.l=e.l)) e)=[]) (hl:l.length≤1000000000):
  aV Tryz.prog 132 [(0,jM l)] [.own 0,e.av] (.own 1) [(1,jM ([]++[e]))]:=by
 have hw:=xE 162 (fun a=>decide (a.l=e.l)) 3 e (UD e) l hr hl
 have hcr:=iR l e (by omega)
 rw[hc]at hcr
 have hlf:=List.length_filter_le (bH 3 (fun a=>decide (a.l=e.l)) e) l
 rw[hr]at hlf
 simp only[List.length_nil]at hlf
 dsimp only[Ev.av,Ev.cs]at hw hcr⊢
 refine K1.M 0x2020021041bb Tryz.func132 10 ?_
 repeat' ((conv=>whnf);first|refine K1.w ?_|refine K1.u ?_|refine K1.P1 hcr rfl ?_|refine K1.C 2 [(0,_),(1,_)] (hw) rfl ?_|refine iK.abA 16 (id:=9) dV (fO dV _) ⟨[(4,.own 13)],[(13,jM ([]++[e]))],[[]],14⟩ jG (by kernel_rfl) 8 _ rfl rfl ?_ ?_|refine aA.fin rfl ?_|refine Fv.mkF ⟨aj,trivial⟩ ⟨⟨_,rfl, ?_⟩,trivial⟩ rfl rfl|refine aA.pick 0 _ rfl rfl ?_|refine aA.pick 1 _ rfl rfl ?_|refine aA.pick 2 _ rfl rfl ?_|refine aA.pick 3 _ rfl rfl ?_|refine aA.pick 4 _ rfl rfl ?_|refine aA.pick 5 _ rfl rfl ?_|refine aA.pick 6 _ rfl rfl ?_|refine aA.pick 7 _ rfl rfl ?_|refine aA.one 0 _ rfl rfl rfl ?_|refine aA.one 1 _ rfl rfl rfl ?_|refine aA.one 2 _ rfl rfl rfl ?_|refine aA.one 3 _ rfl rfl rfl ?_|refine aA.one 4 _ rfl rfl rfl ?_|refine aA.one 5 _ rfl rfl rfl ?_|refine aA.one 6 _ rfl rfl rfl ?_|refine aA.one 7 _ rfl rfl rfl ?_|refine aA.fork 0 1 _ _ rfl rfl rfl rfl ?_ ?_|refine aA.fork 0 2 _ _ rfl rfl rfl rfl ?_ ?_|refine aA.fork 0 3 _ _ rfl rfl rfl rfl ?_ ?_|refine aA.fork 0 4 _ _ rfl rfl rfl rfl ?_ ?_|refine aA.fork 0 5 _ _ rfl rfl rfl rfl ?_ ?_|refine aA.fork 0 6 _ _ rfl rfl rfl rfl ?_ ?_|refine aA.fork 1 2 _ _ rfl rfl rfl rfl ?_ ?_|refine aA.fork 1 3 _ _ rfl rfl rfl rfl ?_ ?_|refine aA.fork 1 4 _ _ rfl rfl rfl rfl ?_ ?_|refine aA.fork 1 5 _ _ rfl rfl rfl rfl ?_ ?_|refine aA.fork 1 6 _ _ rfl rfl rfl rfl ?_ ?_|refine aA.fork 2 3 _ _ rfl rfl rfl rfl ?_ ?_|refine aA.fork 2 4 _ _ rfl rfl rfl rfl ?_ ?_|refine aA.fork 2 5 _ _ rfl rfl rfl rfl ?_ ?_|refine aA.fork 2 6 _ _ rfl rfl rfl rfl ?_ ?_|refine aA.fork 3 4 _ _ rfl rfl rfl rfl ?_ ?_|refine aA.fork 3 5 _ _ rfl rfl rfl rfl ?_ ?_|refine aA.fork 3 6 _ _ rfl rfl rfl rfl ?_ ?_|refine aA.fork 4 5 _ _ rfl rfl rfl rfl ?_ ?_|refine aA.fork 4 6 _ _ rfl rfl rfl rfl ?_ ?_|refine aA.fork 5 6 _ _ rfl rfl rfl rfl ?_ ?_|refine aA.cu 0 1 2 _ _ _ rfl rfl rfl rfl rfl ?_ ?_ ?_|refine aA.cu 0 1 3 _ _ _ rfl rfl rfl rfl rfl ?_ ?_ ?_|refine aA.cu 0 1 4 _ _ _ rfl rfl rfl rfl rfl ?_ ?_ ?_|refine aA.cu 0 1 5 _ _ _ rfl rfl rfl rfl rfl ?_ ?_ ?_|refine aA.cu 0 2 3 _ _ _ rfl rfl rfl rfl rfl ?_ ?_ ?_|refine aA.cu 0 2 4 _ _ _ rfl rfl rfl rfl rfl ?_ ?_ ?_|refine aA.cu 0 2 5 _ _ _ rfl rfl rfl rfl rfl ?_ ?_ ?_|refine aA.cu 0 3 4 _ _ _ rfl rfl rfl rfl rfl ?_ ?_ ?_|refine aA.cu 0 3 5 _ _ _ rfl rfl rfl rfl rfl ?_ ?_ ?_|refine aA.cu 0 4 5 _ _ _ rfl rfl rfl rfl rfl ?_ ?_ ?_|refine aA.cu 1 2 3 _ _ _ rfl rfl rfl rfl rfl ?_ ?_ ?_|refine aA.cu 1 2 4 _ _ _ rfl rfl rfl rfl rfl ?_ ?_ ?_|refine aA.cu 1 2 5 _ _ _ rfl rfl rfl rfl rfl ?_ ?_ ?_|refine aA.cu 1 3 4 _ _ _ rfl rfl rfl rfl rfl ?_ ?_ ?_|refine aA.cu 1 3 5 _ _ _ rfl rfl rfl rfl rfl ?_ ?_ ?_|refine aA.cu 1 4 5 _ _ _ rfl rfl rfl rfl rfl ?_ ?_ ?_|refine aA.cu 2 3 4 _ _ _ rfl rfl rfl rfl rfl ?_ ?_ ?_|refine aA.cu 2 3 5 _ _ _ rfl rfl rfl rfl rfl ?_ ?_ ?_|refine aA.cu 2 4 5 _ _ _ rfl rfl rfl rfl rfl ?_ ?_ ?_|refine aA.cu 3 4 5 _ _ _ rfl rfl rfl rfl rfl ?_ ?_ ?_|refine K1.z ?_|refine K1.y (fun _=>?_) (fun _=>?_)|fail)
 all_goals first
   |exact⟨[(13,1)],rfl,rfl,⟨aF rfl,trivial⟩,rfl,rfl,aj⟩
   | (refine bW.row rfl (fun m hm=>?_)
      have hm:m<1:=hm
      obtain rfl:m=0:=by omega
      rfl)
theorem Ws (l:List Ev) (e:Ev) (hk:e.k=4)  (hc:l.any (Ib e)=true) (hr:l.filter (bH 4 (fun a=>decide (a.l=e.l)&&decide (a.v=e.v)) e)=[]) (hl:l.length≤1000000000):
  aV Tryz.prog 132 [(0,jM l)] [.own 0,e.av] (.own 1) [(1,jM ([]++[e]))]:=by
 have hw:=xE 163 (fun a=>decide (a.l=e.l)&&decide (a.v=e.v)) 4 e (EY e) l hr hl
 have hcr:=iR l e (by omega)
 rw[hc]at hcr
 have hlf:=List.length_filter_le (bH 4 (fun a=>decide (a.l=e.l)&&decide (a.v=e.v)) e) l
 rw[hr]at hlf
 simp only[List.length_nil]at hlf
 dsimp only[Ev.av,Ev.cs]at hw hcr⊢
 refine K1.M 0x2020021041bb Tryz.func132 10 ?_
 repeat' ((conv=>whnf);first|refine K1.w ?_|refine K1.u ?_|refine K1.P1 hcr rfl ?_|refine K1.C 2 [(0,_),(1,_)] (hw) rfl ?_|refine iK.abA 16 (id:=15) dV (fO dV _) ⟨[(4,.own 13)],[(13,jM ([]++[e]))],[[]],14⟩ jG (by kernel_rfl) 8 _ rfl rfl ?_ ?_|refine aA.fin rfl ?_|refine Fv.mkF ⟨aj,trivial⟩ ⟨⟨_,rfl, ?_⟩,trivial⟩ rfl rfl|refine aA.pick 0 _ rfl rfl ?_|refine aA.pick 1 _ rfl rfl ?_|refine aA.pick 2 _ rfl rfl ?_|refine aA.pick 3 _ rfl rfl ?_|refine aA.pick 4 _ rfl rfl ?_|refine aA.pick 5 _ rfl rfl ?_|refine aA.pick 6 _ rfl rfl ?_|refine aA.pick 7 _ rfl rfl ?_|refine aA.one 0 _ rfl rfl rfl ?_|refine aA.one 1 _ rfl rfl rfl ?_|refine aA.one 2 _ rfl rfl rfl ?_|refine aA.one 3 _ rfl rfl rfl ?_|refine aA.one 4 _ rfl rfl rfl ?_|refine aA.one 5 _ rfl rfl rfl ?_|refine aA.one 6 _ rfl rfl rfl ?_|refine aA.one 7 _ rfl rfl rfl ?_|refine aA.fork 0 1 _ _ rfl rfl rfl rfl ?_ ?_|refine aA.fork 0 2 _ _ rfl rfl rfl rfl ?_ ?_|refine aA.fork 0 3 _ _ rfl rfl rfl rfl ?_ ?_|refine aA.fork 0 4 _ _ rfl rfl rfl rfl ?_ ?_|refine aA.fork 0 5 _ _ rfl rfl rfl rfl ?_ ?_|refine aA.fork 0 6 _ _ rfl rfl rfl rfl ?_ ?_|refine aA.fork 1 2 _ _ rfl rfl rfl rfl ?_ ?_|refine aA.fork 1 3 _ _ rfl rfl rfl rfl ?_ ?_|refine aA.fork 1 4 _ _ rfl rfl rfl rfl ?_ ?_|refine aA.fork 1 5 _ _ rfl rfl rfl rfl ?_ ?_|refine aA.fork 1 6 _ _ rfl rfl rfl rfl ?_ ?_|refine aA.fork 2 3 _ _ rfl rfl rfl rfl ?_ ?_|refine aA.fork 2 4 _ _ rfl rfl rfl rfl ?_ ?_|refine aA.fork 2 5 _ _ rfl rfl rfl rfl ?_ ?_|refine aA.fork 2 6 _ _ rfl rfl rfl rfl ?_ ?_|refine aA.fork 3 4 _ _ rfl rfl rfl rfl ?_ ?_|refine aA.fork 3 5 _ _ rfl rfl rfl rfl ?_ ?_|refine aA.fork 3 6 _ _ rfl rfl rfl rfl ?_ ?_|refine aA.fork 4 5 _ _ rfl rfl rfl rfl ?_ ?_|refine aA.fork 4 6 _ _ rfl rfl rfl rfl ?_ ?_|refine aA.fork 5 6 _ _ rfl rfl rfl rfl ?_ ?_|refine aA.cu 0 1 2 _ _ _ rfl rfl rfl rfl rfl ?_ ?_ ?_|refine aA.cu 0 1 3 _ _ _ rfl rfl rfl rfl rfl ?_ ?_ ?_|refine aA.cu 0 1 4 _ _ _ rfl rfl rfl rfl rfl ?_ ?_ ?_|refine aA.cu 0 1 5 _ _ _ rfl rfl rfl rfl rfl ?_ ?_ ?_|refine aA.cu 0 2 3 _ _ _ rfl rfl rfl rfl rfl ?_ ?_ ?_|refine aA.cu 0 2 4 _ _ _ rfl rfl rfl rfl rfl ?_ ?_ ?_|refine aA.cu 0 2 5 _ _ _ rfl rfl rfl rfl rfl ?_ ?_ ?_|refine aA.cu 0 3 4 _ _ _ rfl rfl rfl rfl rfl ?_ ?_ ?_|refine aA.cu 0 3 5 _ _ _ rfl rfl rfl rfl rfl ?_ ?_ ?_|refine aA.cu 0 4 5 _ _ _ rfl rfl rfl rfl rfl ?_ ?_ ?_|refine aA.cu 1 2 3 _ _ _ rfl rfl rfl rfl rfl ?_ ?_ ?_|refine aA.cu 1 2 4 _ _ _ rfl rfl rfl rfl rfl ?_ ?_ ?_|refine aA.cu 1 2 5 _ _ _ rfl rfl rfl rfl rfl ?_ ?_ ?_|refine aA.cu 1 3 4 _ _ _ rfl rfl rfl rfl rfl ?_ ?_ ?_|refine aA.cu 1 3 5 _ _ _ rfl rfl rfl rfl rfl ?_ ?_ ?_|refine aA.cu 1 4 5 _ _ _ rfl rfl rfl rfl rfl ?_ ?_ ?_|refine aA.cu 2 3 4 _ _ _ rfl rfl rfl rfl rfl ?_ ?_ ?_|refine aA.cu 2 3 5 _ _ _ rfl rfl rfl rfl rfl ?_ ?_ ?_|refine aA.cu 2 4 5 _ _ _ rfl rfl rfl rfl rfl ?_ ?_ ?_|refine aA.cu 3 4 5 _ _ _ rfl rfl rfl rfl rfl ?_ ?_ ?_|refine K1.z ?_|refine K1.y (fun _=>?_) (fun _=>?_)|fail)
 all_goals first
   |exact⟨[(13,1)],rfl,rfl,⟨aF rfl,trivial⟩,rfl,rfl,aj⟩
   | (refine bW.row rfl (fun m hm=>?_)
      have hm:m<1:=hm
      obtain rfl:m=0:=by omega
      rfl)
end
section
open Go.RowKit
theorem Wu (l:List Ev) (e:Ev) (hk:e.k=4)  (hc:l.any (Ib e)=true) (r:Ev) (rs:List Ev) (hr:l.filter (bH 4 (fun a=>decide (a.l=e.l)&&decide (a.v=e.v)) e)=r::rs) (hl:l.length≤1000000000):
  aV Tryz.prog 132 [(0,jM l)] [.own 0,e.av] (.own 1) [(1,jM ((r::rs)++[e]))]:=by
 have hw:=xC 163 (fun a=>decide (a.l=e.l)&&decide (a.v=e.v)) 4 e (EY e) l r rs hr hl
 have hcr:=iR l e (by omega)
 rw[hc]at hcr
 have hlf:=List.length_filter_le (bH 4 (fun a=>decide (a.l=e.l)&&decide (a.v=e.v)) e) l
 rw[hr]at hlf
 simp only[List.length_cons]at hlf
 dsimp only[Ev.av,Ev.cs]at hw hcr⊢
 refine K1.M 0x2020021041bb Tryz.func132 10 ?_
 repeat' ((conv=>whnf);first|refine K1.w ?_|refine K1.u ?_|refine K1.P1 hcr rfl ?_|refine K1.C 2 [(0,_),(1,_)] (hw) rfl ?_|refine iK.abA 16 (id:=15) dV (fO dV _) ⟨[(4,.own 13)],[(13,jM ((r::rs)++[e]))],[[]],14⟩ jG (by kernel_rfl) 8 _ rfl rfl ?_ ?_|refine aA.fin rfl ?_|refine Fv.mkF ⟨aj,trivial⟩ ⟨⟨_,rfl,bW.row (by simp) (fun m hm=>bJ (c:=Ev.cs) (l:=r::rs) rfl rfl m hm)⟩,trivial⟩ rfl rfl|refine aA.pick 0 _ rfl rfl ?_|refine aA.pick 1 _ rfl rfl ?_|refine aA.pick 2 _ rfl rfl ?_|refine aA.pick 3 _ rfl rfl ?_|refine aA.pick 4 _ rfl rfl ?_|refine aA.pick 5 _ rfl rfl ?_|refine aA.pick 6 _ rfl rfl ?_|refine aA.pick 7 _ rfl rfl ?_|refine aA.one 0 _ rfl rfl rfl ?_|refine aA.one 1 _ rfl rfl rfl ?_|refine aA.one 2 _ rfl rfl rfl ?_|refine aA.one 3 _ rfl rfl rfl ?_|refine aA.one 4 _ rfl rfl rfl ?_|refine aA.one 5 _ rfl rfl rfl ?_|refine aA.one 6 _ rfl rfl rfl ?_|refine aA.one 7 _ rfl rfl rfl ?_|refine aA.fork 0 1 _ _ rfl rfl rfl rfl ?_ ?_|refine aA.fork 0 2 _ _ rfl rfl rfl rfl ?_ ?_|refine aA.fork 0 3 _ _ rfl rfl rfl rfl ?_ ?_|refine aA.fork 0 4 _ _ rfl rfl rfl rfl ?_ ?_|refine aA.fork 0 5 _ _ rfl rfl rfl rfl ?_ ?_|refine aA.fork 0 6 _ _ rfl rfl rfl rfl ?_ ?_|refine aA.fork 1 2 _ _ rfl rfl rfl rfl ?_ ?_|refine aA.fork 1 3 _ _ rfl rfl rfl rfl ?_ ?_|refine aA.fork 1 4 _ _ rfl rfl rfl rfl ?_ ?_|refine aA.fork 1 5 _ _ rfl rfl rfl rfl ?_ ?_|refine aA.fork 1 6 _ _ rfl rfl rfl rfl ?_ ?_|refine aA.fork 2 3 _ _ rfl rfl rfl rfl ?_ ?_|refine aA.fork 2 4 _ _ rfl rfl rfl rfl ?_ ?_|refine aA.fork 2 5 _ _ rfl rfl rfl rfl ?_ ?_|refine aA.fork 2 6 _ _ rfl rfl rfl rfl ?_ ?_|refine aA.fork 3 4 _ _ rfl rfl rfl rfl ?_ ?_|refine aA.fork 3 5 _ _ rfl rfl rfl rfl ?_ ?_|refine aA.fork 3 6 _ _ rfl rfl rfl rfl ?_ ?_|refine aA.fork 4 5 _ _ rfl rfl rfl rfl ?_ ?_|refine aA.fork 4 6 _ _ rfl rfl rfl rfl ?_ ?_|refine aA.fork 5 6 _ _ rfl rfl rfl rfl ?_ ?_|refine aA.cu 0 1 2 _ _ _ rfl rfl rfl rfl rfl ?_ ?_ ?_|refine aA.cu 0 1 3 _ _ _ rfl rfl rfl rfl rfl ?_ ?_ ?_|refine aA.cu 0 1 4 _ _ _ rfl rfl rfl rfl rfl ?_ ?_ ?_|refine aA.cu 0 1 5 _ _ _ rfl rfl rfl rfl rfl ?_ ?_ ?_|refine aA.cu 0 2 3 _ _ _ rfl rfl rfl rfl rfl ?_ ?_ ?_|refine aA.cu 0 2 4 _ _ _ rfl rfl rfl rfl rfl ?_ ?_ ?_|refine aA.cu 0 2 5 _ _ _ rfl rfl rfl rfl rfl ?_ ?_ ?_|refine aA.cu 0 3 4 _ _ _ rfl rfl rfl rfl rfl ?_ ?_ ?_|refine aA.cu 0 3 5 _ _ _ rfl rfl rfl rfl rfl ?_ ?_ ?_|refine aA.cu 0 4 5 _ _ _ rfl rfl rfl rfl rfl ?_ ?_ ?_|refine aA.cu 1 2 3 _ _ _ rfl rfl rfl rfl rfl ?_ ?_ ?_|refine aA.cu 1 2 4 _ _ _ rfl rfl rfl rfl rfl ?_ ?_ ?_|refine aA.cu 1 2 5 _ _ _ rfl rfl rfl rfl rfl ?_ ?_ ?_|refine aA.cu 1 3 4 _ _ _ rfl rfl rfl rfl rfl ?_ ?_ ?_|refine aA.cu 1 3 5 _ _ _ rfl rfl rfl rfl rfl ?_ ?_ ?_|refine aA.cu 1 4 5 _ _ _ rfl rfl rfl rfl rfl ?_ ?_ ?_|refine aA.cu 2 3 4 _ _ _ rfl rfl rfl rfl rfl ?_ ?_ ?_|refine aA.cu 2 3 5 _ _ _ rfl rfl rfl rfl rfl ?_ ?_ ?_|refine aA.cu 2 4 5 _ _ _ rfl rfl rfl rfl rfl ?_ ?_ ?_|refine aA.cu 3 4 5 _ _ _ rfl rfl rfl rfl rfl ?_ ?_ ?_|refine K1.z ?_|refine K1.y (fun _=>?_) (fun _=>?_)|fail)
 all_goals(conv=>whnf)
 exact⟨[(13,1)],rfl,rfl,⟨aF rfl,trivial⟩,rfl,rfl,aj⟩
end
section
open Go.RowKit
theorem Wv (l:List Ev) (e:Ev) (hk:e.k=3)  (hc:l.any (Ib e)=true) (r:Ev) (rs:List Ev) (hr:l.filter (bH 3 (fun a=>decide (a.l=e.l)) e)=r::rs) (hl:l.length≤1000000000):
  aV Tryz.prog 132 [(0,jM l)] [.own 0,e.av] (.own 1) [(1,jM ((r::rs)++[e]))]:=by
 have hw:=xC 162 (fun a=>decide (a.l=e.l)) 3 e (UD e) l r rs hr hl
 have hcr:=iR l e (by omega)
 rw[hc]at hcr
 have hlf:=List.length_filter_le (bH 3 (fun a=>decide (a.l=e.l)) e) l
 rw[hr]at hlf
 simp only[List.length_cons]at hlf
 dsimp only[Ev.av,Ev.cs]at hw hcr⊢
 refine K1.M 0x2020021041bb Tryz.func132 10 ?_
 repeat' ((conv=>whnf);first|refine K1.w ?_|refine K1.u ?_|refine K1.P1 hcr rfl ?_|refine K1.C 2 [(0,_),(1,_)] (hw) rfl ?_|refine iK.abA 16 (id:=9) dV (fO dV _) ⟨[(4,.own 13)],[(13,jM ((r::rs)++[e]))],[[]],14⟩ jG (by kernel_rfl) 8 _ rfl rfl ?_ ?_|refine aA.fin rfl ?_|refine Fv.mkF ⟨aj,trivial⟩ ⟨⟨_,rfl,bW.row (by simp) (fun m hm=>bJ (c:=Ev.cs) (l:=r::rs) rfl rfl m hm)⟩,trivial⟩ rfl rfl|refine aA.pick 0 _ rfl rfl ?_|refine aA.pick 1 _ rfl rfl ?_|refine aA.pick 2 _ rfl rfl ?_|refine aA.pick 3 _ rfl rfl ?_|refine aA.pick 4 _ rfl rfl ?_|refine aA.pick 5 _ rfl rfl ?_|refine aA.pick 6 _ rfl rfl ?_|refine aA.pick 7 _ rfl rfl ?_|refine aA.one 0 _ rfl rfl rfl ?_|refine aA.one 1 _ rfl rfl rfl ?_|refine aA.one 2 _ rfl rfl rfl ?_|refine aA.one 3 _ rfl rfl rfl ?_|refine aA.one 4 _ rfl rfl rfl ?_|refine aA.one 5 _ rfl rfl rfl ?_|refine aA.one 6 _ rfl rfl rfl ?_|refine aA.one 7 _ rfl rfl rfl ?_|refine aA.fork 0 1 _ _ rfl rfl rfl rfl ?_ ?_|refine aA.fork 0 2 _ _ rfl rfl rfl rfl ?_ ?_|refine aA.fork 0 3 _ _ rfl rfl rfl rfl ?_ ?_|refine aA.fork 0 4 _ _ rfl rfl rfl rfl ?_ ?_|refine aA.fork 0 5 _ _ rfl rfl rfl rfl ?_ ?_|refine aA.fork 0 6 _ _ rfl rfl rfl rfl ?_ ?_|refine aA.fork 1 2 _ _ rfl rfl rfl rfl ?_ ?_|refine aA.fork 1 3 _ _ rfl rfl rfl rfl ?_ ?_|refine aA.fork 1 4 _ _ rfl rfl rfl rfl ?_ ?_|refine aA.fork 1 5 _ _ rfl rfl rfl rfl ?_ ?_|refine aA.fork 1 6 _ _ rfl rfl rfl rfl ?_ ?_|refine aA.fork 2 3 _ _ rfl rfl rfl rfl ?_ ?_|refine aA.fork 2 4 _ _ rfl rfl rfl rfl ?_ ?_|refine aA.fork 2 5 _ _ rfl rfl rfl rfl ?_ ?_|refine aA.fork 2 6 _ _ rfl rfl rfl rfl ?_ ?_|refine aA.fork 3 4 _ _ rfl rfl rfl rfl ?_ ?_|refine aA.fork 3 5 _ _ rfl rfl rfl rfl ?_ ?_|refine aA.fork 3 6 _ _ rfl rfl rfl rfl ?_ ?_|refine aA.fork 4 5 _ _ rfl rfl rfl rfl ?_ ?_|refine aA.fork 4 6 _ _ rfl rfl rfl rfl ?_ ?_|refine aA.fork 5 6 _ _ rfl rfl rfl rfl ?_ ?_|refine aA.cu 0 1 2 _ _ _ rfl rfl rfl rfl rfl ?_ ?_ ?_|refine aA.cu 0 1 3 _ _ _ rfl rfl rfl rfl rfl ?_ ?_ ?_|refine aA.cu 0 1 4 _ _ _ rfl rfl rfl rfl rfl ?_ ?_ ?_|refine aA.cu 0 1 5 _ _ _ rfl rfl rfl rfl rfl ?_ ?_ ?_|refine aA.cu 0 2 3 _ _ _ rfl rfl rfl rfl rfl ?_ ?_ ?_|refine aA.cu 0 2 4 _ _ _ rfl rfl rfl rfl rfl ?_ ?_ ?_|refine aA.cu 0 2 5 _ _ _ rfl rfl rfl rfl rfl ?_ ?_ ?_|refine aA.cu 0 3 4 _ _ _ rfl rfl rfl rfl rfl ?_ ?_ ?_|refine aA.cu 0 3 5 _ _ _ rfl rfl rfl rfl rfl ?_ ?_ ?_|refine aA.cu 0 4 5 _ _ _ rfl rfl rfl rfl rfl ?_ ?_ ?_|refine aA.cu 1 2 3 _ _ _ rfl rfl rfl rfl rfl ?_ ?_ ?_|refine aA.cu 1 2 4 _ _ _ rfl rfl rfl rfl rfl ?_ ?_ ?_|refine aA.cu 1 2 5 _ _ _ rfl rfl rfl rfl rfl ?_ ?_ ?_|refine aA.cu 1 3 4 _ _ _ rfl rfl rfl rfl rfl ?_ ?_ ?_|refine aA.cu 1 3 5 _ _ _ rfl rfl rfl rfl rfl ?_ ?_ ?_|refine aA.cu 1 4 5 _ _ _ rfl rfl rfl rfl rfl ?_ ?_ ?_|refine aA.cu 2 3 4 _ _ _ rfl rfl rfl rfl rfl ?_ ?_ ?_|refine aA.cu 2 3 5 _ _ _ rfl rfl rfl rfl rfl ?_ ?_ ?_|refine aA.cu 2 4 5 _ _ _ rfl rfl rfl rfl rfl ?_ ?_ ?_|refine aA.cu 3 4 5 _ _ _ rfl rfl rfl rfl rfl ?_ ?_ ?_|refine K1.z ?_|refine K1.y (fun _=>?_) (fun _=>?_)|fail)
 all_goals(conv=>whnf)
 exact⟨[(13,1)],rfl,rfl,⟨aF rfl,trivial⟩,rfl,rfl,aj⟩
end
section
open Go.RowKit
theorem Wx (l:List Ev) (e:Ev) (hk:e.k=5)  (r:Ev) (rs:List Ev) (hr:l.filter (bH 4 (fun a=>decide (a.l=e.l)&&decide (a.v=e.v)) e)=r::rs) (hl:l.length≤1000000000):
  aV Tryz.prog 132 [(0,jM l)] [.own 0,e.av] (.own 1) [(1,jM (r::rs))]:=by
 have hw:=xC 163 (fun a=>decide (a.l=e.l)&&decide (a.v=e.v)) 4 e (EY e) l r rs hr hl
 have hlf:=List.length_filter_le (bH 4 (fun a=>decide (a.l=e.l)&&decide (a.v=e.v)) e) l
 rw[hr]at hlf
 simp only[List.length_cons]at hlf
 dsimp only[Ev.av,Ev.cs]at hw⊢
 refine K1.M 0x2020021041bb Tryz.func132 10 ?_
 repeat' ((conv=>whnf);first|refine K1.w ?_|refine K1.u ?_|refine K1.C 2 [(0,_),(1,_)] (hw) rfl ?_|refine K1.z ?_|refine K1.y (fun _=>?_) (fun _=>?_)|fail)
 all_goals(conv=>whnf)
 first
   |exact⟨[(11,1)],rfl,rfl,⟨aF rfl,trivial⟩,rfl,rfl,aj⟩
   |exact⟨[(12,1)],rfl,rfl,⟨aF rfl,trivial⟩,rfl,rfl,aj⟩
   |exact⟨[(13,1)],rfl,rfl,⟨aF rfl,trivial⟩,rfl,rfl,aj⟩
   |exact⟨[(14,1)],rfl,rfl,⟨aF rfl,trivial⟩,rfl,rfl,aj⟩
   |exact⟨[(15,1)],rfl,rfl,⟨aF rfl,trivial⟩,rfl,rfl,aj⟩
   |exact⟨[(16,1)],rfl,rfl,⟨aF rfl,trivial⟩,rfl,rfl,aj⟩
   |exact⟨[(17,1)],rfl,rfl,⟨aF rfl,trivial⟩,rfl,rfl,aj⟩
   |exact⟨[(18,1)],rfl,rfl,⟨aF rfl,trivial⟩,rfl,rfl,aj⟩
theorem Wy (l:List Ev) (e:Ev) (hk:e.k=5)  (hr:l.filter (bH 4 (fun a=>decide (a.l=e.l)&&decide (a.v=e.v)) e)=[]) (hl:l.length≤1000000000):
  aV Tryz.prog 132 [(0,jM l)] [.own 0,e.av] (.v (.slice none 0 0)) []:=by
 have hw:=xE 163 (fun a=>decide (a.l=e.l)&&decide (a.v=e.v)) 4 e (EY e) l hr hl
 have hlf:=List.length_filter_le (bH 4 (fun a=>decide (a.l=e.l)&&decide (a.v=e.v)) e) l
 rw[hr]at hlf
 simp only[List.length_nil]at hlf
 dsimp only[Ev.av,Ev.cs]at hw⊢
 refine K1.M 0x2020021041bb Tryz.func132 10 ?_
 repeat' ((conv=>whnf);first|refine K1.w ?_|refine K1.u ?_|refine K1.C 2 [(0,_),(1,_)] (hw) rfl ?_|refine K1.z ?_|refine K1.y (fun _=>?_) (fun _=>?_)|fail)
 all_goals(conv=>whnf)
 exact⟨[],rfl,rfl,trivial,rfl,rfl,aj⟩
theorem ZJ (l:List Ev) (e:Ev) (hk:e.k=4) (hc:l.any (Ib e)=false) (hl:l.length≤1000000000):
  aV Tryz.prog 132 [(0,jM l)] [.own 0,e.av] (.own 0) [(0,jM l)]:=by
 have hcr:=iR l e (by omega)
 rw[hc]at hcr
 dsimp only[Ev.av,Ev.cs]at hcr⊢
 refine K1.M 0x2020021041bb Tryz.func132 10 ?_
 repeat' ((conv=>whnf);first|refine K1.w ?_|refine K1.u ?_|refine K1.P1 hcr rfl ?_|refine K1.z ?_|refine K1.y (fun _=>?_) (fun _=>?_)|fail)
 all_goals(conv=>whnf)
 exact⟨[],rfl,rfl,⟨aF rfl,trivial⟩,rfl,rfl,aj⟩
theorem WA (l:List Ev) (e:Ev) (hk:e.k=2) (r:Ev) (rs:List Ev) (hr:l.filter (bH 1 (fun _=>true) e)=r::rs) (x:Ev) (xs:List Ev) (hx:(r::rs).filter (qR (r::rs))=x::xs) (hl:l.length≤1000000000):
  aV Tryz.prog 132 [(0,jM l)] [.own 0,e.av] (.own 1) [(1,jM (x::xs))]:=by
 have hlf:=List.length_filter_le (bH 1 (fun _=>true) e) l
 rw[hr]at hlf
 have hw:=BN 160 (fun _=>true) 1 e Sj l r rs hr hl
 have hc:=fun d=>PK d (r::rs) x xs hx (by omega)
 dsimp only[Ev.av,Ev.cs]at hw⊢
 refine K1.M 0x2020021041bb Tryz.func132 10 ?_
 repeat' ((conv=>whnf);first|refine K1.w ?_|refine K1.u ?_|refine K1.C 1 [(0,_)] (hw) rfl ?_|refine K1.F1 (hc _) rfl ?_|refine K1.z ?_|refine K1.y (fun _=>?_) (fun _=>?_)|fail)
 all_goals(conv=>whnf)
 first
   |exact⟨[(11,1)],rfl,rfl,⟨aF rfl,trivial⟩,rfl,rfl,aj⟩
   |exact⟨[(12,1)],rfl,rfl,⟨aF rfl,trivial⟩,rfl,rfl,aj⟩
   |exact⟨[(13,1)],rfl,rfl,⟨aF rfl,trivial⟩,rfl,rfl,aj⟩
   |exact⟨[(14,1)],rfl,rfl,⟨aF rfl,trivial⟩,rfl,rfl,aj⟩
   |exact⟨[(15,1)],rfl,rfl,⟨aF rfl,trivial⟩,rfl,rfl,aj⟩
   |exact⟨[(16,1)],rfl,rfl,⟨aF rfl,trivial⟩,rfl,rfl,aj⟩
   |exact⟨[(17,1)],rfl,rfl,⟨aF rfl,trivial⟩,rfl,rfl,aj⟩
   |exact⟨[(18,1)],rfl,rfl,⟨aF rfl,trivial⟩,rfl,rfl,aj⟩
theorem WB (l:List Ev) (e:Ev) (hk:e.k=2) (r:Ev) (rs:List Ev) (hr:l.filter (bH 1 (fun _=>true) e)=r::rs) (hx:(r::rs).filter (qR (r::rs))=[]) (hl:l.length≤1000000000):
  aV Tryz.prog 132 [(0,jM l)] [.own 0,e.av] (.v (.slice none 0 0)) []:=by
 have hlf:=List.length_filter_le (bH 1 (fun _=>true) e) l
 rw[hr]at hlf
 have hw:=BN 160 (fun _=>true) 1 e Sj l r rs hr hl
 have hc:=Ef (r::rs) hx (by omega)
 dsimp only[Ev.av,Ev.cs]at hw⊢
 refine K1.M 0x2020021041bb Tryz.func132 10 ?_
 repeat' ((conv=>whnf);first|refine K1.w ?_|refine K1.u ?_|refine K1.C 1 [(0,_)] (hw) rfl ?_|refine K1.P1 hc rfl ?_|refine K1.z ?_|refine K1.y (fun _=>?_) (fun _=>?_)|fail)
 all_goals(conv=>whnf)
 exact⟨[],rfl,rfl,trivial,rfl,rfl,aj⟩
theorem WC (l:List Ev) (e:Ev) (hk:e.k=2) (hr:l.filter (bH 1 (fun _=>true) e)=[]) (hl:l.length≤1000000000):
  aV Tryz.prog 132 [(0,jM l)] [.own 0,e.av] (.v (.slice none 0 0)) []:=by
 have hlf:=List.length_filter_le (bH 1 (fun _=>true) e) l
 rw[hr]at hlf
 have hw:=MQ 160 (fun _=>true) 1 e Sj l hr hl
 have hc:=Ef [] rfl (by decide)
 dsimp only[Ev.av,Ev.cs]at hw⊢
 refine K1.M 0x2020021041bb Tryz.func132 10 ?_
 repeat' ((conv=>whnf);first|refine K1.w ?_|refine K1.u ?_|refine K1.C 1 [(0,_)] (hw) rfl ?_|refine K1.P1 hc rfl ?_|refine dK.plain _ _ hc (En.cons (.nil 12 true (dX []) (by decide)) .nil) rfl ?_|refine K1.z ?_|refine K1.y (fun _=>?_) (fun _=>?_)|fail)
 all_goals(conv=>whnf)
 exact⟨[],rfl,rfl,trivial,rfl,rfl,aj⟩
end
section
open Go.RowKit
inductive ZK (l:List Ev) (e:Ev):Prop where
  |own (r:Ev) (rs:List Ev) (h:kH l e=r::rs) (hs:aV Tryz.prog 132 [(0,jM l)] [.own 0,e.av] (.own 1) [(1,jM (r::rs))])
  |same (h:kH l e=l) (hs:aV Tryz.prog 132 [(0,jM l)] [.own 0,e.av] (.own 0) [(0,jM l)])
  |nil (h:kH l e=[]) (hs:aV Tryz.prog 132 [(0,jM l)] [.own 0,e.av] (.v (.slice none 0 0)) [])
theorem yG (kind:Int) (same:Ev→Bool) (e:Ev) (l:List Ev):qQ kind same e l=l.filter (bH kind same e):=by
 unfold qQ
 refine List.filter_congr fun a _=>?_
 unfold bH
 cases decide (a.k=kind)<;>cases same a<;>cases aO a e<;>rfl
theorem BO (l:List Ev) (e:Ev):rV l e=l.any (Ib e):=by
 unfold rV
 refine any_congr fun a _=>?_
 rfl
theorem adr (l:List Ev):(l.filter fun a=>decide (a.k=1)||rV l a)=l.filter (qR l):=by
 refine List.filter_congr fun a _=>?_
 unfold qR
 rw[BO]
theorem BP {l:List Ev} {e:Ev} {m:List Ev} (h:kH l e=m++[e]) (hs:aV Tryz.prog 132 [(0,jM l)] [.own 0,e.av] (.own 1) [(1,jM (m++[e]))]):ZK l e:=by
 cases hm:m++[e]with
 |nil=>simp at hm
 |cons r rs=>rw[hm]at h hs;exact .own r rs h hs
theorem ZL (l:List Ev) (e:Ev) (hk:1≤e.k∧e.k≤5) (hl:l.length≤1000000000):ZK l e:=by
 rcases(show e.k=1∨e.k=2∨e.k=3∨e.k=4∨e.k=5 by omega)with h|h|h|h|h
 · exact BP (m:=l) (by unfold kH;rw[if_pos h]) (adp l e h hl)
 · have hw:kH l e=(l.filter (bH 1 (fun _=>true) e)).filter (qR (l.filter (bH 1 (fun _=>true) e))):=by
    unfold kH
    rw[if_neg (by omega),if_pos h,yG,adr]
   cases hr:l.filter (bH 1 (fun _=>true) e)with
   |nil=>rw[hr]at hw;exact .nil hw (WC l e h hr hl)
   | cons r rs=>
     rw[hr]at hw
     cases hx:(r::rs).filter (qR (r::rs))with
     |nil=>rw[hx]at hw;exact .nil hw (WB l e h r rs hr hx hl)
     |cons x xs=>rw[hx]at hw;exact .own x xs hw (WA l e h r rs hr x xs hx hl)
 · cases hc:l.any (Ib e)with
   |false=>exact .same (by unfold kH;rw[if_neg (by omega),if_neg (by omega),if_pos h,BO,hc];rfl) (ZI l e h hc hl)
   | true=>
     have hw:kH l e=l.filter (bH 3 (fun a=>decide (a.l=e.l)) e)++[e]:=by
      unfold kH
      rw[if_neg (by omega),if_neg (by omega),if_pos h,BO,hc,if_pos rfl,yG]
      rfl
     cases hr:l.filter (bH 3 (fun a=>decide (a.l=e.l)) e)with
     |nil=>rw[hr]at hw;exact BP hw (Wq l e h hc hr hl)
     |cons r rs=>rw[hr]at hw;exact BP hw (Wv l e h hc r rs hr hl)
 · cases hc:l.any (Ib e)with
   |false=>exact .same (by unfold kH;rw[if_neg (by omega),if_neg (by omega),if_neg (by omega),if_neg (by omega),BO,hc];rfl) (ZJ l e h hc hl)
   | true=>
     have hw:kH l e=l.filter (bH 4 (fun a=>decide (a.l=e.l)&&decide (a.v=e.v)) e)++[e]:=by
      unfold kH
      rw[if_neg (by omega),if_neg (by omega),if_neg (by omega),if_neg (by omega),BO,hc,if_pos rfl,yG]
      rfl
     cases hr:l.filter (bH 4 (fun a=>decide (a.l=e.l)&&decide (a.v=e.v)) e)with
     |nil=>rw[hr]at hw;exact BP hw (Ws l e h hc hr hl)
     |cons r rs=>rw[hr]at hw;exact BP hw (Wu l e h hc r rs hr hl)
 · have hw:kH l e=l.filter (bH 4 (fun a=>decide (a.l=e.l)&&decide (a.v=e.v)) e):=by
    unfold kH
    rw[if_neg (by omega),if_neg (by omega),if_neg (by omega),if_pos h,yG]
    rfl
   cases hr:l.filter (bH 4 (fun a=>decide (a.l=e.l)&&decide (a.v=e.v)) e)with
   |nil=>rw[hr]at hw;exact .nil hw (Wy l e h hr hl)
   |cons r rs=>rw[hr]at hw;exact .own r rs hw (Wx l e h r rs hr hl)
end
end Go.Proofs.YtimhagicagdkfaaGreat
