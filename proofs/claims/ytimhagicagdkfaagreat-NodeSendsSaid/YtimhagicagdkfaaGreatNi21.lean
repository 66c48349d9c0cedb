/-
  Contracts of the walk:LvD,LvE,Ay,LvF,LvI,LvH,LvG,LvP,TxL.
-/
import Derived.Test.YtimhagicagdkfaaGreatNi19
import Derived.Test.YtimhagicagdkfaaGreatNi6
import Derived.Test.YtimhagicagdkfaaGreatNi18
import Derived.Test.YtimhagicagdkfaaGreatNi9
set_option maxHeartbeats 16000000
set_option maxRecDepth 100000
set_option linter.unusedVariables false
set_option linter.unusedSimpArgs false
namespace Go.Proofs.YtimhagicagdkfaaGreat
section
open Go.RowKit
theorem Bd (g:FuncId) (same:Ev→Bool) (kind:Int) (e:Ev) (hs: ∀a,aG Tryz.prog g [a.av] (.v (.bool (same a))) [])
  (l:List Ev) (r:Ev) (rs:List Ev) (hr:l.filter (bH kind same e)=r::rs) (hl:l.length≤1000000000):
  aW Tryz.prog 159 [(0,jI l)] [.own 0,e.av,.v (.int .i64 kind),.fn g []] (.own 1) [(1,.row 42 12 (rs.length+1) true (eG (r::rs)))]:=by
 dsimp only[Ev.av,Ev.cs]
 refine K1.M 0x20000fb2f Tryz.func159 10 ?_
 repeat' ((conv=>whnf);first|refine K1.w ?_|refine K1.u ?_|refine aJ.dR ?_|refine K1.z ?_|refine K1.y (fun _=>?_) (fun _=>?_)|fail)
 conv=>whnf
 refine aN.Bz 0 rfl ?_
 refine aN.mk (KQ (bH kind same e) l) (fun x=>match x with
   |⟨(j,[]),_⟩=>⟨[(0,.sl 12 l.length true (eG l)),(2,.v (.int .i64 kind)),(3,.fn g []),(5,.box 10 0),(9,.v (.slice none 0 0)),(12,.sl 12 l.length true (eG l)),(13,.v (.int .i64 (l.length:Int))),(14,.v (.int .i64 (j:Int)))],[(10,.box 42 e.cs)],[[(0,.sl 12 l.length true (eG l))]],11⟩
   |⟨(j,y::ys),_⟩=>⟨[(0,.sl 12 l.length true (eG l)),(2,.v (.int .i64 kind)),(3,.fn g []),(5,.box 10 0),(9,.own 90),(12,.sl 12 l.length true (eG l)),(13,.v (.int .i64 (l.length:Int))),(14,.v (.int .i64 (j:Int)))],[(10,.box 42 e.cs),(90,.row 42 12 (ys.length+1) true (eG (y::ys)))],[[(0,.sl 12 l.length true (eG l))]],91⟩) (fun x=>l.length-x.1.1) ⟨(0,[]),Nat.zero_le _,rfl⟩ _
   (dO.mk' [] _ _ _ rfl ⟨aj,aj,aj,aj,aj,aj,aT.int rfl,aT.int rfl,trivial⟩ ⟨aH rfl,trivial⟩ rfl) ?_
 rintro⟨⟨j,ys⟩,hj,hys⟩
 dsimp only at hj hys
 rcases ys with _|⟨y,ys⟩
 · dsimp only
   by_cases hjl:j<l.length
   · have hab:=hs (l.getD (j:Int).toNat default)
     have hbb:=iR (l.getD (j:Int).toNat default) e
     have hft:=dB (p:=bH kind same e) hjl
     rw[←hys,List.nil_append]at hft
     rw[show l.getD j default=l.getD (j:Int).toNat default from rfl]at hft
     have hk: ¬ (l.getD (j:Int).toNat default).k=kind→[l.getD j default]=(l.take (j+1)).filter (bH kind same e):=fun h=>by rw[hft,wO h];rfl
     have hsm:same (l.getD (j:Int).toNat default)=false→[l.getD j default]=(l.take (j+1)).filter (bH kind same e):=fun h=>by rw[hft,wP h];rfl
     have hbl:aK (l.getD (j:Int).toNat default) e=false→[l.getD j default]=(l.take (j+1)).filter (bH kind same e):=fun h=>by rw[hft,wQ h];rfl
     have hno:(l.getD (j:Int).toNat default).k=kind→same (l.getD (j:Int).toNat default)=true→aK (l.getD (j:Int).toNat default) e=true→[]=(l.take (j+1)).filter (bH kind same e):=fun h h1 h2=>by rw[hft,wR h h1 h2];simp
     clear hft
     generalize same (l.getD (j:Int).toNat default)=q1 at hab hsm hno
     generalize aK (l.getD (j:Int).toNat default) e=q2 at hbb hbl hno
     dsimp only[Ev.av,Ev.cs]at hab hbb⊢
     repeat' ((conv=>whnf);first|refine K1.w ?_|refine K1.u ?_|refine K1.P1 hab rfl ?_|refine K1.P1 hbb rfl ?_|refine aJ.dR ?_|refine K1.z ?_|refine K1.y (fun _=>?_) (fun _=>?_)|fail)
     all_goals(conv=>whnf)
     all_goals first
       |exact⟨⟨(j+1,[]),hjl,hno (by assumption) (by assumption) (by assumption)⟩,_,dO.mk' [] _ _ _ rfl ⟨aj,aj,aj,aj,aj,aj,aT.int rfl,aT.int rfl,trivial⟩ ⟨aH rfl,trivial⟩ rfl,by show l.length-(j+1)<l.length-j;omega⟩
       | (refine⟨⟨(j+1,[l.getD j default]),hjl,by first|exact hk (by assumption)|exact hsm (by assumption)|exact hbl (by assumption)⟩,_,dO.mk' [(12,90)] _ _ _ rfl ⟨aj,aj,aj,aj,aj,aj,aT.int rfl,aT.int rfl,trivial⟩ ⟨aH rfl,⟨_,rfl,cO.row rfl (fun m hm=>?_)⟩,trivial⟩ rfl,by show l.length-(j+1)<l.length-j;omega⟩
          have hm:m<1:=hm
          obtain rfl:m=0:=by omega
          rfl)
       | (refine⟨⟨(j+1,[l.getD j default]),hjl,by first|exact hk (by assumption)|exact hsm (by assumption)|exact hbl (by assumption)⟩,_,dO.mk' [(13,90)] _ _ _ rfl ⟨aj,aj,aj,aj,aj,aj,aT.int rfl,aT.int rfl,trivial⟩ ⟨aH rfl,⟨_,rfl,cO.row rfl (fun m hm=>?_)⟩,trivial⟩ rfl,by show l.length-(j+1)<l.length-j;omega⟩
          have hm:m<1:=hm
          obtain rfl:m=0:=by omega
          rfl)
       | (refine⟨⟨(j+1,[l.getD j default]),hjl,by first|exact hk (by assumption)|exact hsm (by assumption)|exact hbl (by assumption)⟩,_,dO.mk' [(14,90)] _ _ _ rfl ⟨aj,aj,aj,aj,aj,aj,aT.int rfl,aT.int rfl,trivial⟩ ⟨aH rfl,⟨_,rfl,cO.row rfl (fun m hm=>?_)⟩,trivial⟩ rfl,by show l.length-(j+1)<l.length-j;omega⟩
          have hm:m<1:=hm
          obtain rfl:m=0:=by omega
          rfl)
       | (refine⟨⟨(j+1,[l.getD j default]),hjl,by first|exact hk (by assumption)|exact hsm (by assumption)|exact hbl (by assumption)⟩,_,dO.mk' [(15,90)] _ _ _ rfl ⟨aj,aj,aj,aj,aj,aj,aT.int rfl,aT.int rfl,trivial⟩ ⟨aH rfl,⟨_,rfl,cO.row rfl (fun m hm=>?_)⟩,trivial⟩ rfl,by show l.length-(j+1)<l.length-j;omega⟩
          have hm:m<1:=hm
          obtain rfl:m=0:=by omega
          rfl)
   · have e0:l.filter (bH kind same e)=[]:=by rw[List.take_of_length_le (by omega)]at hys;exact hys.symm
     rw[hr]at e0
     cases e0
 · dsimp only
   have hyl:ys.length+1≤j:=by
    have h1:=congrArg List.length hys
    have h2:=List.length_filter_le (bH kind same e) (l.take j)
    rw[List.length_take]at h2
    rw[List.length_cons]at h1
    omega
   by_cases hjl:j<l.length
   · have hab:=hs (l.getD (j:Int).toNat default)
     have hbb:=iR (l.getD (j:Int).toNat default) e
     have hft:=dB (p:=bH kind same e) hjl
     rw[←hys]at hft
     rw[show l.getD j default=l.getD (j:Int).toNat default from rfl]at hft
     have hk: ¬ (l.getD (j:Int).toNat default).k=kind→y::(ys++[l.getD j default])=(l.take (j+1)).filter (bH kind same e):=fun h=>by rw[hft,wO h];rfl
     have hsm:same (l.getD (j:Int).toNat default)=false→y::(ys++[l.getD j default])=(l.take (j+1)).filter (bH kind same e):=fun h=>by rw[hft,wP h];rfl
     have hbl:aK (l.getD (j:Int).toNat default) e=false→y::(ys++[l.getD j default])=(l.take (j+1)).filter (bH kind same e):=fun h=>by rw[hft,wQ h];rfl
     have hno:(l.getD (j:Int).toNat default).k=kind→same (l.getD (j:Int).toNat default)=true→aK (l.getD (j:Int).toNat default) e=true→y::ys=(l.take (j+1)).filter (bH kind same e):=fun h h1 h2=>by rw[hft,wR h h1 h2];simp
     clear hft
     generalize same (l.getD (j:Int).toNat default)=q1 at hab hsm hno
     generalize aK (l.getD (j:Int).toNat default) e=q2 at hbb hbl hno
     dsimp only[Ev.av,Ev.cs]at hab hbb⊢
     repeat' ((conv=>whnf);first|refine K1.w ?_|refine K1.u ?_|refine K1.P1 hab rfl ?_|refine K1.P1 hbb rfl ?_|refine aJ.dR ?_|refine K1.z ?_|refine K1.y (fun _=>?_) (fun _=>?_)|fail)
     all_goals(conv=>whnf)
     all_goals first
       |exact⟨⟨(j+1,y::ys),hjl,hno (by assumption) (by assumption) (by assumption)⟩,_,dO.mk' [] _ _ _ rfl ⟨aj,aj,aj,aj,aj,aj,aT.int rfl,aT.int rfl,trivial⟩ ⟨aH rfl,aH rfl,trivial⟩ rfl,by show l.length-(j+1)<l.length-j;omega⟩
       | (refine⟨⟨(j+1,y::(ys++[l.getD j default])),hjl,by first|exact hk (by assumption)|exact hsm (by assumption)|exact hbl (by assumption)⟩,_,dO.mk' [(92,90)] _ _ _ rfl ⟨aj,aj,aj,aj,aj,aj,aT.int rfl,aT.int rfl,trivial⟩ ⟨aH rfl,⟨_,rfl,cO.row (by simp) (fun m hm=>?_)⟩,trivial⟩ rfl,by show l.length-(j+1)<l.length-j;omega⟩
          exact bJ (c:=Ev.cs) (l:=y::ys) rfl rfl m hm)
       | (refine⟨⟨(j+1,y::(ys++[l.getD j default])),hjl,by first|exact hk (by assumption)|exact hsm (by assumption)|exact hbl (by assumption)⟩,_,dO.mk' [(93,90)] _ _ _ rfl ⟨aj,aj,aj,aj,aj,aj,aT.int rfl,aT.int rfl,trivial⟩ ⟨aH rfl,⟨_,rfl,cO.row (by simp) (fun m hm=>?_)⟩,trivial⟩ rfl,by show l.length-(j+1)<l.length-j;omega⟩
          exact bJ (c:=Ev.cs) (l:=y::ys) rfl rfl m hm)
       | (refine⟨⟨(j+1,y::(ys++[l.getD j default])),hjl,by first|exact hk (by assumption)|exact hsm (by assumption)|exact hbl (by assumption)⟩,_,dO.mk' [(94,90)] _ _ _ rfl ⟨aj,aj,aj,aj,aj,aj,aT.int rfl,aT.int rfl,trivial⟩ ⟨aH rfl,⟨_,rfl,cO.row (by simp) (fun m hm=>?_)⟩,trivial⟩ rfl,by show l.length-(j+1)<l.length-j;omega⟩
          exact bJ (c:=Ev.cs) (l:=y::ys) rfl rfl m hm)
       | (refine⟨⟨(j+1,y::(ys++[l.getD j default])),hjl,by first|exact hk (by assumption)|exact hsm (by assumption)|exact hbl (by assumption)⟩,_,dO.mk' [(95,90)] _ _ _ rfl ⟨aj,aj,aj,aj,aj,aj,aT.int rfl,aT.int rfl,trivial⟩ ⟨aH rfl,⟨_,rfl,cO.row (by simp) (fun m hm=>?_)⟩,trivial⟩ rfl,by show l.length-(j+1)<l.length-j;omega⟩
          exact bJ (c:=Ev.cs) (l:=y::ys) rfl rfl m hm)
   · have e0:l.filter (bH kind same e)=y::ys:=by rw[List.take_of_length_le (by omega)]at hys;exact hys.symm
     rw[hr]at e0
     cases e0
     repeat' ((conv=>whnf);first|refine K1.w ?_|refine K1.u ?_|refine aJ.dR ?_|refine K1.z ?_|refine K1.y (fun _=>?_) (fun _=>?_)|fail)
     conv=>whnf
     exact⟨[(90,1)],rfl,rfl,⟨aH rfl,trivial⟩,rfl,rfl,aj⟩
theorem LQ (g:FuncId) (same:Ev→Bool) (kind:Int) (e:Ev) (hs: ∀a,aG Tryz.prog g [a.av] (.v (.bool (same a))) [])
  (l:List Ev) (hr:l.filter (bH kind same e)=[]) (hl:l.length≤1000000000):
  aW Tryz.prog 159 [(0,jI l)] [.own 0,e.av,.v (.int .i64 kind),.fn g []] (.v (.slice none 0 0)) []:=by
 dsimp only[Ev.av,Ev.cs]
 refine K1.M 0x20000fb2f Tryz.func159 10 ?_
 repeat' ((conv=>whnf);first|refine K1.w ?_|refine K1.u ?_|refine aJ.dR ?_|refine K1.z ?_|refine K1.y (fun _=>?_) (fun _=>?_)|fail)
 conv=>whnf
 refine aN.Bz 0 rfl ?_
 refine aN.mk (KQ (bH kind same e) l) (fun x=>match x with
   |⟨(j,[]),_⟩=>⟨[(0,.sl 12 l.length true (eG l)),(2,.v (.int .i64 kind)),(3,.fn g []),(5,.box 10 0),(9,.v (.slice none 0 0)),(12,.sl 12 l.length true (eG l)),(13,.v (.int .i64 (l.length:Int))),(14,.v (.int .i64 (j:Int)))],[(10,.box 42 e.cs)],[[(0,.sl 12 l.length true (eG l))]],11⟩
   |⟨(j,y::ys),_⟩=>⟨[(0,.sl 12 l.length true (eG l)),(2,.v (.int .i64 kind)),(3,.fn g []),(5,.box 10 0),(9,.own 90),(12,.sl 12 l.length true (eG l)),(13,.v (.int .i64 (l.length:Int))),(14,.v (.int .i64 (j:Int)))],[(10,.box 42 e.cs),(90,.row 42 12 (ys.length+1) true (eG (y::ys)))],[[(0,.sl 12 l.length true (eG l))]],91⟩) (fun x=>l.length-x.1.1) ⟨(0,[]),Nat.zero_le _,rfl⟩ _
   (dO.mk' [] _ _ _ rfl ⟨aj,aj,aj,aj,aj,aj,aT.int rfl,aT.int rfl,trivial⟩ ⟨aH rfl,trivial⟩ rfl) ?_
 rintro⟨⟨j,ys⟩,hj,hys⟩
 dsimp only at hj hys
 rcases ys with _|⟨y,ys⟩
 · dsimp only
   by_cases hjl:j<l.length
   · have hab:=hs (l.getD (j:Int).toNat default)
     have hbb:=iR (l.getD (j:Int).toNat default) e
     have hft:=dB (p:=bH kind same e) hjl
     rw[←hys,List.nil_append]at hft
     rw[show l.getD j default=l.getD (j:Int).toNat default from rfl]at hft
     have hk: ¬ (l.getD (j:Int).toNat default).k=kind→[l.getD j default]=(l.take (j+1)).filter (bH kind same e):=fun h=>by rw[hft,wO h];rfl
     have hsm:same (l.getD (j:Int).toNat default)=false→[l.getD j default]=(l.take (j+1)).filter (bH kind same e):=fun h=>by rw[hft,wP h];rfl
     have hbl:aK (l.getD (j:Int).toNat default) e=false→[l.getD j default]=(l.take (j+1)).filter (bH kind same e):=fun h=>by rw[hft,wQ h];rfl
     have hno:(l.getD (j:Int).toNat default).k=kind→same (l.getD (j:Int).toNat default)=true→aK (l.getD (j:Int).toNat default) e=true→[]=(l.take (j+1)).filter (bH kind same e):=fun h h1 h2=>by rw[hft,wR h h1 h2];simp
     clear hft
     generalize same (l.getD (j:Int).toNat default)=q1 at hab hsm hno
     generalize aK (l.getD (j:Int).toNat default) e=q2 at hbb hbl hno
     dsimp only[Ev.av,Ev.cs]at hab hbb⊢
     repeat' ((conv=>whnf);first|refine K1.w ?_|refine K1.u ?_|refine K1.P1 hab rfl ?_|refine K1.P1 hbb rfl ?_|refine aJ.dR ?_|refine K1.z ?_|refine K1.y (fun _=>?_) (fun _=>?_)|fail)
     all_goals(conv=>whnf)
     all_goals first
       |exact⟨⟨(j+1,[]),hjl,hno (by assumption) (by assumption) (by assumption)⟩,_,dO.mk' [] _ _ _ rfl ⟨aj,aj,aj,aj,aj,aj,aT.int rfl,aT.int rfl,trivial⟩ ⟨aH rfl,trivial⟩ rfl,by show l.length-(j+1)<l.length-j;omega⟩
       | (refine⟨⟨(j+1,[l.getD j default]),hjl,by first|exact hk (by assumption)|exact hsm (by assumption)|exact hbl (by assumption)⟩,_,dO.mk' [(12,90)] _ _ _ rfl ⟨aj,aj,aj,aj,aj,aj,aT.int rfl,aT.int rfl,trivial⟩ ⟨aH rfl,⟨_,rfl,cO.row rfl (fun m hm=>?_)⟩,trivial⟩ rfl,by show l.length-(j+1)<l.length-j;omega⟩
          have hm:m<1:=hm
          obtain rfl:m=0:=by omega
          rfl)
       | (refine⟨⟨(j+1,[l.getD j default]),hjl,by first|exact hk (by assumption)|exact hsm (by assumption)|exact hbl (by assumption)⟩,_,dO.mk' [(13,90)] _ _ _ rfl ⟨aj,aj,aj,aj,aj,aj,aT.int rfl,aT.int rfl,trivial⟩ ⟨aH rfl,⟨_,rfl,cO.row rfl (fun m hm=>?_)⟩,trivial⟩ rfl,by show l.length-(j+1)<l.length-j;omega⟩
          have hm:m<1:=hm
          obtain rfl:m=0:=by omega
          rfl)
       | (refine⟨⟨(j+1,[l.getD j default]),hjl,by first|exact hk (by assumption)|exact hsm (by assumption)|exact hbl (by assumption)⟩,_,dO.mk' [(14,90)] _ _ _ rfl ⟨aj,aj,aj,aj,aj,aj,aT.int rfl,aT.int rfl,trivial⟩ ⟨aH rfl,⟨_,rfl,cO.row rfl (fun m hm=>?_)⟩,trivial⟩ rfl,by show l.length-(j+1)<l.length-j;omega⟩
          have hm:m<1:=hm
          obtain rfl:m=0:=by omega
          rfl)
       | (refine⟨⟨(j+1,[l.getD j default]),hjl,by first|exact hk (by assumption)|exact hsm (by assumption)|exact hbl (by assumption)⟩,_,dO.mk' [(15,90)] _ _ _ rfl ⟨aj,aj,aj,aj,aj,aj,aT.int rfl,aT.int rfl,trivial⟩ ⟨aH rfl,⟨_,rfl,cO.row rfl (fun m hm=>?_)⟩,trivial⟩ rfl,by show l.length-(j+1)<l.length-j;omega⟩
          have hm:m<1:=hm
          obtain rfl:m=0:=by omega
          rfl)
   · repeat' ((conv=>whnf);first|refine K1.w ?_|refine K1.u ?_|refine aJ.dR ?_|refine K1.z ?_|refine K1.y (fun _=>?_) (fun _=>?_)|fail)
     conv=>whnf
     exact⟨[],rfl,rfl,trivial,rfl,rfl,aj⟩
 · dsimp only
   have hyl:ys.length+1≤j:=by
    have h1:=congrArg List.length hys
    have h2:=List.length_filter_le (bH kind same e) (l.take j)
    rw[List.length_take]at h2
    rw[List.length_cons]at h1
    omega
   by_cases hjl:j<l.length
   · have hab:=hs (l.getD (j:Int).toNat default)
     have hbb:=iR (l.getD (j:Int).toNat default) e
     have hft:=dB (p:=bH kind same e) hjl
     rw[←hys]at hft
     rw[show l.getD j default=l.getD (j:Int).toNat default from rfl]at hft
     have hk: ¬ (l.getD (j:Int).toNat default).k=kind→y::(ys++[l.getD j default])=(l.take (j+1)).filter (bH kind same e):=fun h=>by rw[hft,wO h];rfl
     have hsm:same (l.getD (j:Int).toNat default)=false→y::(ys++[l.getD j default])=(l.take (j+1)).filter (bH kind same e):=fun h=>by rw[hft,wP h];rfl
     have hbl:aK (l.getD (j:Int).toNat default) e=false→y::(ys++[l.getD j default])=(l.take (j+1)).filter (bH kind same e):=fun h=>by rw[hft,wQ h];rfl
     have hno:(l.getD (j:Int).toNat default).k=kind→same (l.getD (j:Int).toNat default)=true→aK (l.getD (j:Int).toNat default) e=true→y::ys=(l.take (j+1)).filter (bH kind same e):=fun h h1 h2=>by rw[hft,wR h h1 h2];simp
     clear hft
     generalize same (l.getD (j:Int).toNat default)=q1 at hab hsm hno
     generalize aK (l.getD (j:Int).toNat default) e=q2 at hbb hbl hno
     dsimp only[Ev.av,Ev.cs]at hab hbb⊢
     repeat' ((conv=>whnf);first|refine K1.w ?_|refine K1.u ?_|refine K1.P1 hab rfl ?_|refine K1.P1 hbb rfl ?_|refine aJ.dR ?_|refine K1.z ?_|refine K1.y (fun _=>?_) (fun _=>?_)|fail)
     all_goals(conv=>whnf)
     all_goals first
       |exact⟨⟨(j+1,y::ys),hjl,hno (by assumption) (by assumption) (by assumption)⟩,_,dO.mk' [] _ _ _ rfl ⟨aj,aj,aj,aj,aj,aj,aT.int rfl,aT.int rfl,trivial⟩ ⟨aH rfl,aH rfl,trivial⟩ rfl,by show l.length-(j+1)<l.length-j;omega⟩
       | (refine⟨⟨(j+1,y::(ys++[l.getD j default])),hjl,by first|exact hk (by assumption)|exact hsm (by assumption)|exact hbl (by assumption)⟩,_,dO.mk' [(92,90)] _ _ _ rfl ⟨aj,aj,aj,aj,aj,aj,aT.int rfl,aT.int rfl,trivial⟩ ⟨aH rfl,⟨_,rfl,cO.row (by simp) (fun m hm=>?_)⟩,trivial⟩ rfl,by show l.length-(j+1)<l.length-j;omega⟩
          exact bJ (c:=Ev.cs) (l:=y::ys) rfl rfl m hm)
       | (refine⟨⟨(j+1,y::(ys++[l.getD j default])),hjl,by first|exact hk (by assumption)|exact hsm (by assumption)|exact hbl (by assumption)⟩,_,dO.mk' [(93,90)] _ _ _ rfl ⟨aj,aj,aj,aj,aj,aj,aT.int rfl,aT.int rfl,trivial⟩ ⟨aH rfl,⟨_,rfl,cO.row (by simp) (fun m hm=>?_)⟩,trivial⟩ rfl,by show l.length-(j+1)<l.length-j;omega⟩
          exact bJ (c:=Ev.cs) (l:=y::ys) rfl rfl m hm)
       | (refine⟨⟨(j+1,y::(ys++[l.getD j default])),hjl,by first|exact hk (by assumption)|exact hsm (by assumption)|exact hbl (by assumption)⟩,_,dO.mk' [(94,90)] _ _ _ rfl ⟨aj,aj,aj,aj,aj,aj,aT.int rfl,aT.int rfl,trivial⟩ ⟨aH rfl,⟨_,rfl,cO.row (by simp) (fun m hm=>?_)⟩,trivial⟩ rfl,by show l.length-(j+1)<l.length-j;omega⟩
          exact bJ (c:=Ev.cs) (l:=y::ys) rfl rfl m hm)
       | (refine⟨⟨(j+1,y::(ys++[l.getD j default])),hjl,by first|exact hk (by assumption)|exact hsm (by assumption)|exact hbl (by assumption)⟩,_,dO.mk' [(95,90)] _ _ _ rfl ⟨aj,aj,aj,aj,aj,aj,aT.int rfl,aT.int rfl,trivial⟩ ⟨aH rfl,⟨_,rfl,cO.row (by simp) (fun m hm=>?_)⟩,trivial⟩ rfl,by show l.length-(j+1)<l.length-j;omega⟩
          exact bJ (c:=Ev.cs) (l:=y::ys) rfl rfl m hm)
   · have e0:l.filter (bH kind same e)=y::ys:=by rw[List.take_of_length_le (by omega)]at hys;exact hys.symm
     rw[hr]at e0
     cases e0
theorem Q5 (a:Ev):aG Tryz.prog 160 [a.av] (.v (.bool true)) []:=by
 dsimp only[Ev.av,Ev.cs]
 refine K1.E 0x5 Tryz.func160 ?_
 repeat' ((conv=>whnf);first|refine K1.w ?_|refine K1.u ?_|refine aJ.dR ?_|refine K1.z ?_|refine K1.y (fun _=>?_) (fun _=>?_)|fail)
 conv=>whnf
 exact bG.mk (aj)
theorem TM (e a:Ev):aW Tryz.prog 162 [(0,.box 42 e.cs)] [a.av,.box 0 0] (.v (.bool (decide (a.l=e.l)))) [(0,.box 42 e.cs)]:=by
 dsimp only[Ev.av,Ev.cs]
 refine K1.M 0xf Tryz.func162 10 ?_
 repeat' ((conv=>whnf);first|refine K1.w ?_|refine K1.u ?_|refine K1.z ?_|refine K1.y (fun _=>?_) (fun _=>?_)|fail)
 all_goals(conv=>whnf)
 all_goals refine⟨[],rfl,rfl,⟨aH rfl,trivial⟩,rfl,rfl, ?_⟩
 · rw[decide_eq_true (by assumption)];exact aj
 · rw[decide_eq_false (by assumption)];exact aj
theorem Ef (e a:Ev):aW Tryz.prog 163 [(0,.box 42 e.cs)] [a.av,.box 0 0] (.v (.bool (decide (a.l=e.l)&&decide (a.v=e.v)))) [(0,.box 42 e.cs)]:=by
 dsimp only[Ev.av,Ev.cs]
 refine K1.M 0xf Tryz.func163 10 ?_
 repeat' ((conv=>whnf);first|refine K1.w ?_|refine K1.u ?_|refine K1.z ?_|refine K1.y (fun _=>?_) (fun _=>?_)|fail)
 all_goals(conv=>whnf)
 all_goals refine⟨[],rfl,rfl,⟨aH rfl,trivial⟩,rfl,rfl, ?_⟩
 all_goals first
   |(rw[show(decide (a.l=e.l)&&decide (a.v=e.v))=true by simp[*]];exact aj)
   |(rw[show(decide (a.l=e.l)&&decide (a.v=e.v))=false by simp[*]];exact aj)
end
section
open Go.RowKit
theorem acV (l:List Ev) (e:Ev) (hk:e.k=1) (hl:l.length≤1000000000):
  aW Tryz.prog 132 [(0,jI l)] [.own 0,e.av] (.own 1) [(1,jI (l++[e]))]:=by
 obtain⟨er,en,ec,eh,ek,Ij,el,ev⟩:=e
 dsimp only at hk
 subst hk
 dsimp only[Ev.av,Ev.cs]
 refine K1.M 0x2020021041bb Tryz.func132 10 ?_
 repeat' ((conv=>whnf);first|refine K1.w ?_|refine K1.u ?_|refine K1.z ?_|refine K1.y (fun _=>?_) (fun _=>?_)|fail)
 conv=>whnf
 refine⟨[(12,1)],rfl,rfl,⟨⟨_,rfl,cO.row (by simp) (fun m hm=>?_)⟩,trivial⟩,rfl,rfl,aj⟩
 exact bJ (c:=Ev.cs) (l:=l) rfl rfl m hm
theorem Y8 (l:List Ev) (e:Ev) (hk:e.k=3) (hc:l.any (GK e)=false) (hl:l.length≤1000000000):
  aW Tryz.prog 132 [(0,jI l)] [.own 0,e.av] (.own 0) [(0,jI l)]:=by
 have hcr:=iL l e (by omega)
 rw[hc]at hcr
 dsimp only[Ev.av,Ev.cs]at hcr⊢
 refine K1.M 0x2020021041bb Tryz.func132 10 ?_
 repeat' ((conv=>whnf);first|refine K1.w ?_|refine K1.u ?_|refine K1.P1 hcr rfl ?_|refine K1.z ?_|refine K1.y (fun _=>?_) (fun _=>?_)|fail)
 all_goals(conv=>whnf)
 exact⟨[],rfl,rfl,⟨aH rfl,trivial⟩,rfl,rfl,aj⟩
end
section
open Go.RowKit
section
variable {P:Program} {L:Lay} {N:Nat} {st:AS}
theorem JG (lv:Nat): ∀ (l:List (Nat×AV)) (t:Nat),qK (Dy lv l) t=if J5 lv t=true then qK l t else .junk
  |[],t=>by simp[Dy,qK]
  | (k,v)::l,t=>by
    have ih:=JG lv l t
    simp only[Dy]
    cases hk:J5 lv k with
    | true=>
      simp only[cond_true,qK]
      cases hb:Nat.beq t k with
      |true=>rw[Nat.eq_of_beq_eq_true hb,hk];simp
      |false=>simpa using ih
    | false=>
      simp only[cond_false,qK]
      cases hb:Nat.beq t k with
      |true=>rw[ih,Nat.eq_of_beq_eq_true hb,hk];simp
      |false=>simpa using ih
theorem Ey.acW {st S:AS} (lv:Nat) (h:Ey (st.uZ lv) S):Ey st S:=by
 refine⟨fun t=>?_,h.hp,h.nd,h.bk⟩
 rcases h.tm t with k|k
 · exact .inl k
 · refine .inr ?_
   have e:(st.uZ lv).tmps t=if J5 lv t=true then st.tmps t else .junk:=JG lv st.sl t
   rw[e]at k
   split at k
   · exact k
   · exact fun X u _=>k X u (by trivial)
theorem iG.aeF (lv:Nat) (hL:bQ P L) {W:Walk} (hW:Hz P W) {id:Nat} {ops:Array Oper} {K:AS→Prop} (S:AS) (hm:P.follows .mixedOrders=true) (hs:Region.noSelect ops=true) (h:tY P L W N ops.toList.length ops.toList (fun st'=>nrm lv st' (fun s=>Ey s S)) ops.toList.length [] st) (hK:K S):iG P L W N id ops K st:=by
 have go: ∀ {st':AS},nrm lv st' (fun s=>Ey s S)→Ey st' S:=fun h=>by rw[J9]at h;exact h.acW lv
 have:=iG.any (P:=P) (L:=L) (N:=N) (id:=id) hL hW hm hs h
 cases this with
 | quiet hm hB hq h=>
   refine .sem fun g bs ρ a w E R hE=>?_
   refine wp_region_quiet (C:=fun w'=>w'=w.drew) hm hB rfl ?_
   have R':Rel g N bs ρ a w.drew st:=R.world (Below.refl _ _).drew
   exact vK hL (E:=fun a w=>E .normal a w) (ops:=ops.toList) (fun a w1 st R h=>hE _ _ _ _ (R.less (go h)) hK) ops.toList hq R' h
 |sem h=>exact .sem fun g bs ρ a w E R hE=>h g bs ρ a w E R fun ρ a w st R h=>hE _ _ _ _ (R.less (go h)) hK
structure ay (P:Program) (L:Lay) (W:Walk) (N:Nat) (n:Nat) (ops:List Oper) (Q:AS→Prop) (f:Nat) (done:List Nat) (st:AS):Prop where
 mk::
 h:tY P L W N n ops Q f done st
section
variable {W:Walk} {n:Nat} {ops:List Oper} {Q:AS→Prop} {f:Nat} {done:List Nat}
theorem ay.eq:ay P L W N n ops Q f done=tY P L W N n ops Q f done:=funext fun _=>propext ⟨fun k=>k.h,.mk⟩
theorem ay.fin (h1:gK n done 0 ops=[]) (h:Q st):ay P L W N n ops Q f done st:= .mk (by
 cases f with
 |zero=>simp only[tY,h1];exact h
 |succ f=>simp only[tY,h1];exact h)
theorem ay.pick (j:Nat) (o:Oper) (h2:vS L N st ops done (gK n done 0 ops)=some j) (h3:ops[j]? =some o) (h:oK P L W N ops o st (ay P L W N n ops Q f (j::done))):ay P L W N n ops Q (f+1) done st:= .mk (by
 rw[ay.eq]at h
 cases h1:gK n done 0 ops with
 |nil=>rw[h1]at h2;cases h2
 | cons i r=>
   rw[h1]at h2
   simp only[tY,h1,h2,h3]
   exact h)
theorem ay.one (i:Nat) (o:Oper) (h1:gK n done 0 ops=[i]) (h2:vS L N st ops done [i]=none) (h3:ops[i]? =some o) (h:oK P L W N ops o st (ay P L W N n ops Q f (i::done))):ay P L W N n ops Q (f+1) done st:= .mk (by
 rw[ay.eq]at h
 simp only[tY,h1,h2,UE,h3]
 exact h)
theorem ay.fork (i j:Nat) (o p:Oper) (h1:gK n done 0 ops=[i,j]) (h2:vS L N st ops done [i,j]=none) (h3:ops[i]? =some o) (h4:ops[j]? =some p)
  (h:oK P L W N ops o st (ay P L W N n ops Q f (i::done))) (k:oK P L W N ops p st (ay P L W N n ops Q f (j::done))):ay P L W N n ops Q (f+1) done st:= .mk (by
 rw[ay.eq]at h k
 simp only[tY,h1,h2,UE,h3,h4]
 exact⟨h,k⟩)
theorem ay.bZ (i j q:Nat) (o p r:Oper) (h1:gK n done 0 ops=[i,j,q]) (h2:vS L N st ops done [i,j,q]=none) (h3:ops[i]? =some o) (h4:ops[j]? =some p) (h5:ops[q]? =some r)
  (h:oK P L W N ops o st (ay P L W N n ops Q f (i::done))) (k:oK P L W N ops p st (ay P L W N n ops Q f (j::done))) (m:oK P L W N ops r st (ay P L W N n ops Q f (q::done))):ay P L W N n ops Q (f+1) done st:= .mk (by
 rw[ay.eq]at h k m
 simp only[tY,h1,h2,UE,h3,h4,h5]
 exact⟨h,k,m⟩)
theorem iG.aa4 (lv:Nat) (hL:bQ P L) (hW:Hz P W) {id:Nat} {ops:Array Oper} {K:AS→Prop} (S:AS) (hm:P.follows .mixedOrders=true) (hs:Region.noSelect ops=true) (m:Nat) (l:List Oper) (hm':ops.toList.length=m) (hl:ops.toList=l) (h:ay P L W N m l (fun st'=>nrm lv st' (fun s=>Ey s S)) m [] st) (hK:K S):iG P L W N id ops K st:=
 iG.aeF lv hL hW S hm hs (by subst hm' hl;exact h.h) hK
end
end
theorem Ey.ZL {st:AS} {l:List (Nat×AV)} {h:List (Nat×AO)} {b:Nat} {x:List (Nat×AV)} (ht:LeT st l) (hh:ZU st h) (hn:nodupB (h.map (·.1))=true) (hb:st.back=[x]):Ey st ⟨l,h,[[]],b⟩:=by
 have:=Ey.mk' (st:=st) l h ht hh hn
 exact⟨this.tm,this.hp,this.nd,by rw[hb];exact⟨fun _=> .inl rfl,trivial⟩⟩
end
section
open Go.RowKit
theorem VA (l:List Ev) (e:Ev) (hk:e.k=3)  (hc:l.any (GK e)=true) (hr:l.filter (bH 3 (fun a=>decide (a.l=e.l)) e)=[]) (hl:l.length≤1000000000):
  aW Tryz.prog 132 [(0,jI l)] [.own 0,e.av] (.own 1) [(1,jI ([]++[e]))]:=by
 have hw:=wU 162 (fun a=>decide (a.l=e.l)) 3 e (TM e) l hr hl
 have hcr:=iL l e (by omega)
 rw[hc]at hcr
 have hlf:=List.length_filter_le (bH 3 (fun a=>decide (a.l=e.l)) e) l
 rw[hr]at hlf
 simp only[List.length_nil]at hlf
 dsimp only[Ev.av,Ev.cs]at hw hcr⊢
 refine K1.M 0x2020021041bb Tryz.func132 10 ?_
 repeat' ((conv=>whnf);first|refine K1.w ?_|refine K1.u ?_|refine K1.P1 hcr rfl ?_|refine K1.C 2 [(0,_),(1,_)] (hw) rfl ?_|refine iG.aa4 16 (id:=9) dW (fM dW _) ⟨[(4,.own 13)],[(13,jI ([]++[e]))],[[]],14⟩ jA (by kernel_rfl) 8 _ rfl rfl ?_ ?_|refine ay.fin rfl ?_|refine Ey.ZL ⟨aj,trivial⟩ ⟨⟨_,rfl, ?_⟩,trivial⟩ rfl rfl|refine ay.pick 0 _ rfl rfl ?_|refine ay.pick 1 _ rfl rfl ?_|refine ay.pick 2 _ rfl rfl ?_|refine ay.pick 3 _ rfl rfl ?_|refine ay.pick 4 _ rfl rfl ?_|refine ay.pick 5 _ rfl rfl ?_|refine ay.pick 6 _ rfl rfl ?_|refine ay.pick 7 _ rfl rfl ?_|refine ay.one 0 _ rfl rfl rfl ?_|refine ay.one 1 _ rfl rfl rfl ?_|refine ay.one 2 _ rfl rfl rfl ?_|refine ay.one 3 _ rfl rfl rfl ?_|refine ay.one 4 _ rfl rfl rfl ?_|refine ay.one 5 _ rfl rfl rfl ?_|refine ay.one 6 _ rfl rfl rfl ?_|refine ay.one 7 _ rfl rfl rfl ?_|refine ay.fork 0 1 _ _ rfl rfl rfl rfl ?_ ?_|refine ay.fork 0 2 _ _ rfl rfl rfl rfl ?_ ?_|refine ay.fork 0 3 _ _ rfl rfl rfl rfl ?_ ?_|refine ay.fork 0 4 _ _ rfl rfl rfl rfl ?_ ?_|refine ay.fork 0 5 _ _ rfl rfl rfl rfl ?_ ?_|refine ay.fork 0 6 _ _ rfl rfl rfl rfl ?_ ?_|refine ay.fork 1 2 _ _ rfl rfl rfl rfl ?_ ?_|refine ay.fork 1 3 _ _ rfl rfl rfl rfl ?_ ?_|refine ay.fork 1 4 _ _ rfl rfl rfl rfl ?_ ?_|refine ay.fork 1 5 _ _ rfl rfl rfl rfl ?_ ?_|refine ay.fork 1 6 _ _ rfl rfl rfl rfl ?_ ?_|refine ay.fork 2 3 _ _ rfl rfl rfl rfl ?_ ?_|refine ay.fork 2 4 _ _ rfl rfl rfl rfl ?_ ?_|refine ay.fork 2 5 _ _ rfl rfl rfl rfl ?_ ?_|refine ay.fork 2 6 _ _ rfl rfl rfl rfl ?_ ?_|refine ay.fork 3 4 _ _ rfl rfl rfl rfl ?_ ?_|refine ay.fork 3 5 _ _ rfl rfl rfl rfl ?_ ?_|refine ay.fork 3 6 _ _ rfl rfl rfl rfl ?_ ?_|refine ay.fork 4 5 _ _ rfl rfl rfl rfl ?_ ?_|refine ay.fork 4 6 _ _ rfl rfl rfl rfl ?_ ?_|refine ay.fork 5 6 _ _ rfl rfl rfl rfl ?_ ?_|refine ay.bZ 0 1 2 _ _ _ rfl rfl rfl rfl rfl ?_ ?_ ?_|refine ay.bZ 0 1 3 _ _ _ rfl rfl rfl rfl rfl ?_ ?_ ?_|refine ay.bZ 0 1 4 _ _ _ rfl rfl rfl rfl rfl ?_ ?_ ?_|refine ay.bZ 0 1 5 _ _ _ rfl rfl rfl rfl rfl ?_ ?_ ?_|refine ay.bZ 0 2 3 _ _ _ rfl rfl rfl rfl rfl ?_ ?_ ?_|refine ay.bZ 0 2 4 _ _ _ rfl rfl rfl rfl rfl ?_ ?_ ?_|refine ay.bZ 0 2 5 _ _ _ rfl rfl rfl rfl rfl ?_ ?_ ?_|refine ay.bZ 0 3 4 _ _ _ rfl rfl rfl rfl rfl ?_ ?_ ?_|refine ay.bZ 0 3 5 _ _ _ rfl rfl rfl rfl rfl ?_ ?_ ?_|refine ay.bZ 0 4 5 _ _ _ rfl rfl rfl rfl rfl ?_ ?_ ?_|refine ay.bZ 1 2 3 _ _ _ rfl rfl rfl rfl rfl ?_ ?_ ?_|refine ay.bZ 1 2 4 _ _ _ rfl rfl rfl rfl rfl ?_ ?_ ?_|refine ay.bZ 1 2 5 _ _ _ rfl rfl rfl rfl rfl ?_ ?_ ?_|refine ay.bZ 1 3 4 _ _ _ rfl rfl rfl rfl rfl ?_ ?_ ?_|refine ay.bZ 1 3 5 _ _ _ rfl rfl rfl rfl rfl ?_ ?_ ?_|refine ay.bZ 1 4 5 _ _ _ rfl rfl rfl rfl rfl ?_ ?_ ?_|refine ay.bZ 2 3 4 _ _ _ rfl rfl rfl rfl rfl ?_ ?_ ?_|refine ay.bZ 2 3 5 _ _ _ rfl rfl rfl rfl rfl ?_ ?_ ?_|refine ay.bZ 2 4 5 _ _ _ rfl rfl rfl rfl rfl ?_ ?_ ?_|refine ay.bZ 3 4 5 _ _ _ rfl rfl rfl rfl rfl ?_ ?_ ?_|refine K1.z ?_|refine K1.y (fun _=>?_) (fun _=>?_)|fail)
 all_goals first
   |exact⟨[(13,1)],rfl,rfl,⟨aH rfl,trivial⟩,rfl,rfl,aj⟩
   | (refine cO.row rfl (fun m hm=>?_)
      have hm:m<1:=hm
      obtain rfl:m=0:=by omega
      rfl)
theorem VB (l:List Ev) (e:Ev) (hk:e.k=4)  (hc:l.any (GK e)=true) (hr:l.filter (bH 4 (fun a=>decide (a.l=e.l)&&decide (a.v=e.v)) e)=[]) (hl:l.length≤1000000000):
  aW Tryz.prog 132 [(0,jI l)] [.own 0,e.av] (.own 1) [(1,jI ([]++[e]))]:=by
 have hw:=wU 163 (fun a=>decide (a.l=e.l)&&decide (a.v=e.v)) 4 e (Ef e) l hr hl
 have hcr:=iL l e (by omega)
 rw[hc]at hcr
 have hlf:=List.length_filter_le (bH 4 (fun a=>decide (a.l=e.l)&&decide (a.v=e.v)) e) l
 rw[hr]at hlf
 simp only[List.length_nil]at hlf
 dsimp only[Ev.av,Ev.cs]at hw hcr⊢
 refine K1.M 0x2020021041bb Tryz.func132 10 ?_
 repeat' ((conv=>whnf);first|refine K1.w ?_|refine K1.u ?_|refine K1.P1 hcr rfl ?_|refine K1.C 2 [(0,_),(1,_)] (hw) rfl ?_|refine iG.aa4 16 (id:=15) dW (fM dW _) ⟨[(4,.own 13)],[(13,jI ([]++[e]))],[[]],14⟩ jA (by kernel_rfl) 8 _ rfl rfl ?_ ?_|refine ay.fin rfl ?_|refine Ey.ZL ⟨aj,trivial⟩ ⟨⟨_,rfl, ?_⟩,trivial⟩ rfl rfl|refine ay.pick 0 _ rfl rfl ?_|refine ay.pick 1 _ rfl rfl ?_|refine ay.pick 2 _ rfl rfl ?_|refine ay.pick 3 _ rfl rfl ?_|refine ay.pick 4 _ rfl rfl ?_|refine ay.pick 5 _ rfl rfl ?_|refine ay.pick 6 _ rfl rfl ?_|refine ay.pick 7 _ rfl rfl ?_|refine ay.one 0 _ rfl rfl rfl ?_|refine ay.one 1 _ rfl rfl rfl ?_|refine ay.one 2 _ rfl rfl rfl ?_|refine ay.one 3 _ rfl rfl rfl ?_|refine ay.one 4 _ rfl rfl rfl ?_|refine ay.one 5 _ rfl rfl rfl ?_|refine ay.one 6 _ rfl rfl rfl ?_|refine ay.one 7 _ rfl rfl rfl ?_|refine ay.fork 0 1 _ _ rfl rfl rfl rfl ?_ ?_|refine ay.fork 0 2 _ _ rfl rfl rfl rfl ?_ ?_|refine ay.fork 0 3 _ _ rfl rfl rfl rfl ?_ ?_|refine ay.fork 0 4 _ _ rfl rfl rfl rfl ?_ ?_|refine ay.fork 0 5 _ _ rfl rfl rfl rfl ?_ ?_|refine ay.fork 0 6 _ _ rfl rfl rfl rfl ?_ ?_|refine ay.fork 1 2 _ _ rfl rfl rfl rfl ?_ ?_|refine ay.fork 1 3 _ _ rfl rfl rfl rfl ?_ ?_|refine ay.fork 1 4 _ _ rfl rfl rfl rfl ?_ ?_|refine ay.fork 1 5 _ _ rfl rfl rfl rfl ?_ ?_|refine ay.fork 1 6 _ _ rfl rfl rfl rfl ?_ ?_|refine ay.fork 2 3 _ _ rfl rfl rfl rfl ?_ ?_|refine ay.fork 2 4 _ _ rfl rfl rfl rfl ?_ ?_|refine ay.fork 2 5 _ _ rfl rfl rfl rfl ?_ ?_|refine ay.fork 2 6 _ _ rfl rfl rfl rfl ?_ ?_|refine ay.fork 3 4 _ _ rfl rfl rfl rfl ?_ ?_|refine ay.fork 3 5 _ _ rfl rfl rfl rfl ?_ ?_|refine ay.fork 3 6 _ _ rfl rfl rfl rfl ?_ ?_|refine ay.fork 4 5 _ _ rfl rfl rfl rfl ?_ ?_|refine ay.fork 4 6 _ _ rfl rfl rfl rfl ?_ ?_|refine ay.fork 5 6 _ _ rfl rfl rfl rfl ?_ ?_|refine ay.bZ 0 1 2 _ _ _ rfl rfl rfl rfl rfl ?_ ?_ ?_|refine ay.bZ 0 1 3 _ _ _ rfl rfl rfl rfl rfl ?_ ?_ ?_|refine ay.bZ 0 1 4 _ _ _ rfl rfl rfl rfl rfl ?_ ?_ ?_|refine ay.bZ 0 1 5 _ _ _ rfl rfl rfl rfl rfl ?_ ?_ ?_|refine ay.bZ 0 2 3 _ _ _ rfl rfl rfl rfl rfl ?_ ?_ ?_|refine ay.bZ 0 2 4 _ _ _ rfl rfl rfl rfl rfl ?_ ?_ ?_|refine ay.bZ 0 2 5 _ _ _ rfl rfl rfl rfl rfl ?_ ?_ ?_|refine ay.bZ 0 3 4 _ _ _ rfl rfl rfl rfl rfl ?_ ?_ ?_|refine ay.bZ 0 3 5 _ _ _ rfl rfl rfl rfl rfl ?_ ?_ ?_|refine ay.bZ 0 4 5 _ _ _ rfl rfl rfl rfl rfl ?_ ?_ ?_|refine ay.bZ 1 2 3 _ _ _ rfl rfl rfl rfl rfl ?_ ?_ ?_|refine ay.bZ 1 2 4 _ _ _ rfl rfl rfl rfl rfl ?_ ?_ ?_|refine ay.bZ 1 2 5 _ _ _ rfl rfl rfl rfl rfl ?_ ?_ ?_|refine ay.bZ 1 3 4 _ _ _ rfl rfl rfl rfl rfl ?_ ?_ ?_|refine ay.bZ 1 3 5 _ _ _ rfl rfl rfl rfl rfl ?_ ?_ ?_|refine ay.bZ 1 4 5 _ _ _ rfl rfl rfl rfl rfl ?_ ?_ ?_|refine ay.bZ 2 3 4 _ _ _ rfl rfl rfl rfl rfl ?_ ?_ ?_|refine ay.bZ 2 3 5 _ _ _ rfl rfl rfl rfl rfl ?_ ?_ ?_|refine ay.bZ 2 4 5 _ _ _ rfl rfl rfl rfl rfl ?_ ?_ ?_|refine ay.bZ 3 4 5 _ _ _ rfl rfl rfl rfl rfl ?_ ?_ ?_|refine K1.z ?_|refine K1.y (fun _=>?_) (fun _=>?_)|fail)
 all_goals first
   |exact⟨[(13,1)],rfl,rfl,⟨aH rfl,trivial⟩,rfl,rfl,aj⟩
   | (refine cO.row rfl (fun m hm=>?_)
      have hm:m<1:=hm
      obtain rfl:m=0:=by omega
      rfl)
end
section
open Go.RowKit
theorem VD (l:List Ev) (e:Ev) (hk:e.k=4)  (hc:l.any (GK e)=true) (r:Ev) (rs:List Ev) (hr:l.filter (bH 4 (fun a=>decide (a.l=e.l)&&decide (a.v=e.v)) e)=r::rs) (hl:l.length≤1000000000):
  aW Tryz.prog 132 [(0,jI l)] [.own 0,e.av] (.own 1) [(1,jI ((r::rs)++[e]))]:=by
 have hw:=wS 163 (fun a=>decide (a.l=e.l)&&decide (a.v=e.v)) 4 e (Ef e) l r rs hr hl
 have hcr:=iL l e (by omega)
 rw[hc]at hcr
 have hlf:=List.length_filter_le (bH 4 (fun a=>decide (a.l=e.l)&&decide (a.v=e.v)) e) l
 rw[hr]at hlf
 simp only[List.length_cons]at hlf
 dsimp only[Ev.av,Ev.cs]at hw hcr⊢
 refine K1.M 0x2020021041bb Tryz.func132 10 ?_
 repeat' ((conv=>whnf);first|refine K1.w ?_|refine K1.u ?_|refine K1.P1 hcr rfl ?_|refine K1.C 2 [(0,_),(1,_)] (hw) rfl ?_|refine iG.aa4 16 (id:=15) dW (fM dW _) ⟨[(4,.own 13)],[(13,jI ((r::rs)++[e]))],[[]],14⟩ jA (by kernel_rfl) 8 _ rfl rfl ?_ ?_|refine ay.fin rfl ?_|refine Ey.ZL ⟨aj,trivial⟩ ⟨⟨_,rfl,cO.row (by simp) (fun m hm=>bJ (c:=Ev.cs) (l:=r::rs) rfl rfl m hm)⟩,trivial⟩ rfl rfl|refine ay.pick 0 _ rfl rfl ?_|refine ay.pick 1 _ rfl rfl ?_|refine ay.pick 2 _ rfl rfl ?_|refine ay.pick 3 _ rfl rfl ?_|refine ay.pick 4 _ rfl rfl ?_|refine ay.pick 5 _ rfl rfl ?_|refine ay.pick 6 _ rfl rfl ?_|refine ay.pick 7 _ rfl rfl ?_|refine ay.one 0 _ rfl rfl rfl ?_|refine ay.one 1 _ rfl rfl rfl ?_|refine ay.one 2 _ rfl rfl rfl ?_|refine ay.one 3 _ rfl rfl rfl ?_|refine ay.one 4 _ rfl rfl rfl ?_|refine ay.one 5 _ rfl rfl rfl ?_|refine ay.one 6 _ rfl rfl rfl ?_|refine ay.one 7 _ rfl rfl rfl ?_|refine ay.fork 0 1 _ _ rfl rfl rfl rfl ?_ ?_|refine ay.fork 0 2 _ _ rfl rfl rfl rfl ?_ ?_|refine ay.fork 0 3 _ _ rfl rfl rfl rfl ?_ ?_|refine ay.fork 0 4 _ _ rfl rfl rfl rfl ?_ ?_|refine ay.fork 0 5 _ _ rfl rfl rfl rfl ?_ ?_|refine ay.fork 0 6 _ _ rfl rfl rfl rfl ?_ ?_|refine ay.fork 1 2 _ _ rfl rfl rfl rfl ?_ ?_|refine ay.fork 1 3 _ _ rfl rfl rfl rfl ?_ ?_|refine ay.fork 1 4 _ _ rfl rfl rfl rfl ?_ ?_|refine ay.fork 1 5 _ _ rfl rfl rfl rfl ?_ ?_|refine ay.fork 1 6 _ _ rfl rfl rfl rfl ?_ ?_|refine ay.fork 2 3 _ _ rfl rfl rfl rfl ?_ ?_|refine ay.fork 2 4 _ _ rfl rfl rfl rfl ?_ ?_|refine ay.fork 2 5 _ _ rfl rfl rfl rfl ?_ ?_|refine ay.fork 2 6 _ _ rfl rfl rfl rfl ?_ ?_|refine ay.fork 3 4 _ _ rfl rfl rfl rfl ?_ ?_|refine ay.fork 3 5 _ _ rfl rfl rfl rfl ?_ ?_|refine ay.fork 3 6 _ _ rfl rfl rfl rfl ?_ ?_|refine ay.fork 4 5 _ _ rfl rfl rfl rfl ?_ ?_|refine ay.fork 4 6 _ _ rfl rfl rfl rfl ?_ ?_|refine ay.fork 5 6 _ _ rfl rfl rfl rfl ?_ ?_|refine ay.bZ 0 1 2 _ _ _ rfl rfl rfl rfl rfl ?_ ?_ ?_|refine ay.bZ 0 1 3 _ _ _ rfl rfl rfl rfl rfl ?_ ?_ ?_|refine ay.bZ 0 1 4 _ _ _ rfl rfl rfl rfl rfl ?_ ?_ ?_|refine ay.bZ 0 1 5 _ _ _ rfl rfl rfl rfl rfl ?_ ?_ ?_|refine ay.bZ 0 2 3 _ _ _ rfl rfl rfl rfl rfl ?_ ?_ ?_|refine ay.bZ 0 2 4 _ _ _ rfl rfl rfl rfl rfl ?_ ?_ ?_|refine ay.bZ 0 2 5 _ _ _ rfl rfl rfl rfl rfl ?_ ?_ ?_|refine ay.bZ 0 3 4 _ _ _ rfl rfl rfl rfl rfl ?_ ?_ ?_|refine ay.bZ 0 3 5 _ _ _ rfl rfl rfl rfl rfl ?_ ?_ ?_|refine ay.bZ 0 4 5 _ _ _ rfl rfl rfl rfl rfl ?_ ?_ ?_|refine ay.bZ 1 2 3 _ _ _ rfl rfl rfl rfl rfl ?_ ?_ ?_|refine ay.bZ 1 2 4 _ _ _ rfl rfl rfl rfl rfl ?_ ?_ ?_|refine ay.bZ 1 2 5 _ _ _ rfl rfl rfl rfl rfl ?_ ?_ ?_|refine ay.bZ 1 3 4 _ _ _ rfl rfl rfl rfl rfl ?_ ?_ ?_|refine ay.bZ 1 3 5 _ _ _ rfl rfl rfl rfl rfl ?_ ?_ ?_|refine ay.bZ 1 4 5 _ _ _ rfl rfl rfl rfl rfl ?_ ?_ ?_|refine ay.bZ 2 3 4 _ _ _ rfl rfl rfl rfl rfl ?_ ?_ ?_|refine ay.bZ 2 3 5 _ _ _ rfl rfl rfl rfl rfl ?_ ?_ ?_|refine ay.bZ 2 4 5 _ _ _ rfl rfl rfl rfl rfl ?_ ?_ ?_|refine ay.bZ 3 4 5 _ _ _ rfl rfl rfl rfl rfl ?_ ?_ ?_|refine K1.z ?_|refine K1.y (fun _=>?_) (fun _=>?_)|fail)
 all_goals(conv=>whnf)
 exact⟨[(13,1)],rfl,rfl,⟨aH rfl,trivial⟩,rfl,rfl,aj⟩
end
section
open Go.RowKit
theorem VE (l:List Ev) (e:Ev) (hk:e.k=3)  (hc:l.any (GK e)=true) (r:Ev) (rs:List Ev) (hr:l.filter (bH 3 (fun a=>decide (a.l=e.l)) e)=r::rs) (hl:l.length≤1000000000):
  aW Tryz.prog 132 [(0,jI l)] [.own 0,e.av] (.own 1) [(1,jI ((r::rs)++[e]))]:=by
 have hw:=wS 162 (fun a=>decide (a.l=e.l)) 3 e (TM e) l r rs hr hl
 have hcr:=iL l e (by omega)
 rw[hc]at hcr
 have hlf:=List.length_filter_le (bH 3 (fun a=>decide (a.l=e.l)) e) l
 rw[hr]at hlf
 simp only[List.length_cons]at hlf
 dsimp only[Ev.av,Ev.cs]at hw hcr⊢
 refine K1.M 0x2020021041bb Tryz.func132 10 ?_
 repeat' ((conv=>whnf);first|refine K1.w ?_|refine K1.u ?_|refine K1.P1 hcr rfl ?_|refine K1.C 2 [(0,_),(1,_)] (hw) rfl ?_|refine iG.aa4 16 (id:=9) dW (fM dW _) ⟨[(4,.own 13)],[(13,jI ((r::rs)++[e]))],[[]],14⟩ jA (by kernel_rfl) 8 _ rfl rfl ?_ ?_|refine ay.fin rfl ?_|refine Ey.ZL ⟨aj,trivial⟩ ⟨⟨_,rfl,cO.row (by simp) (fun m hm=>bJ (c:=Ev.cs) (l:=r::rs) rfl rfl m hm)⟩,trivial⟩ rfl rfl|refine ay.pick 0 _ rfl rfl ?_|refine ay.pick 1 _ rfl rfl ?_|refine ay.pick 2 _ rfl rfl ?_|refine ay.pick 3 _ rfl rfl ?_|refine ay.pick 4 _ rfl rfl ?_|refine ay.pick 5 _ rfl rfl ?_|refine ay.pick 6 _ rfl rfl ?_|refine ay.pick 7 _ rfl rfl ?_|refine ay.one 0 _ rfl rfl rfl ?_|refine ay.one 1 _ rfl rfl rfl ?_|refine ay.one 2 _ rfl rfl rfl ?_|refine ay.one 3 _ rfl rfl rfl ?_|refine ay.one 4 _ rfl rfl rfl ?_|refine ay.one 5 _ rfl rfl rfl ?_|refine ay.one 6 _ rfl rfl rfl ?_|refine ay.one 7 _ rfl rfl rfl ?_|refine ay.fork 0 1 _ _ rfl rfl rfl rfl ?_ ?_|refine ay.fork 0 2 _ _ rfl rfl rfl rfl ?_ ?_|refine ay.fork 0 3 _ _ rfl rfl rfl rfl ?_ ?_|refine ay.fork 0 4 _ _ rfl rfl rfl rfl ?_ ?_|refine ay.fork 0 5 _ _ rfl rfl rfl rfl ?_ ?_|refine ay.fork 0 6 _ _ rfl rfl rfl rfl ?_ ?_|refine ay.fork 1 2 _ _ rfl rfl rfl rfl ?_ ?_|refine ay.fork 1 3 _ _ rfl rfl rfl rfl ?_ ?_|refine ay.fork 1 4 _ _ rfl rfl rfl rfl ?_ ?_|refine ay.fork 1 5 _ _ rfl rfl rfl rfl ?_ ?_|refine ay.fork 1 6 _ _ rfl rfl rfl rfl ?_ ?_|refine ay.fork 2 3 _ _ rfl rfl rfl rfl ?_ ?_|refine ay.fork 2 4 _ _ rfl rfl rfl rfl ?_ ?_|refine ay.fork 2 5 _ _ rfl rfl rfl rfl ?_ ?_|refine ay.fork 2 6 _ _ rfl rfl rfl rfl ?_ ?_|refine ay.fork 3 4 _ _ rfl rfl rfl rfl ?_ ?_|refine ay.fork 3 5 _ _ rfl rfl rfl rfl ?_ ?_|refine ay.fork 3 6 _ _ rfl rfl rfl rfl ?_ ?_|refine ay.fork 4 5 _ _ rfl rfl rfl rfl ?_ ?_|refine ay.fork 4 6 _ _ rfl rfl rfl rfl ?_ ?_|refine ay.fork 5 6 _ _ rfl rfl rfl rfl ?_ ?_|refine ay.bZ 0 1 2 _ _ _ rfl rfl rfl rfl rfl ?_ ?_ ?_|refine ay.bZ 0 1 3 _ _ _ rfl rfl rfl rfl rfl ?_ ?_ ?_|refine ay.bZ 0 1 4 _ _ _ rfl rfl rfl rfl rfl ?_ ?_ ?_|refine ay.bZ 0 1 5 _ _ _ rfl rfl rfl rfl rfl ?_ ?_ ?_|refine ay.bZ 0 2 3 _ _ _ rfl rfl rfl rfl rfl ?_ ?_ ?_|refine ay.bZ 0 2 4 _ _ _ rfl rfl rfl rfl rfl ?_ ?_ ?_|refine ay.bZ 0 2 5 _ _ _ rfl rfl rfl rfl rfl ?_ ?_ ?_|refine ay.bZ 0 3 4 _ _ _ rfl rfl rfl rfl rfl ?_ ?_ ?_|refine ay.bZ 0 3 5 _ _ _ rfl rfl rfl rfl rfl ?_ ?_ ?_|refine ay.bZ 0 4 5 _ _ _ rfl rfl rfl rfl rfl ?_ ?_ ?_|refine ay.bZ 1 2 3 _ _ _ rfl rfl rfl rfl rfl ?_ ?_ ?_|refine ay.bZ 1 2 4 _ _ _ rfl rfl rfl rfl rfl ?_ ?_ ?_|refine ay.bZ 1 2 5 _ _ _ rfl rfl rfl rfl rfl ?_ ?_ ?_|refine ay.bZ 1 3 4 _ _ _ rfl rfl rfl rfl rfl ?_ ?_ ?_|refine ay.bZ 1 3 5 _ _ _ rfl rfl rfl rfl rfl ?_ ?_ ?_|refine ay.bZ 1 4 5 _ _ _ rfl rfl rfl rfl rfl ?_ ?_ ?_|refine ay.bZ 2 3 4 _ _ _ rfl rfl rfl rfl rfl ?_ ?_ ?_|refine ay.bZ 2 3 5 _ _ _ rfl rfl rfl rfl rfl ?_ ?_ ?_|refine ay.bZ 2 4 5 _ _ _ rfl rfl rfl rfl rfl ?_ ?_ ?_|refine ay.bZ 3 4 5 _ _ _ rfl rfl rfl rfl rfl ?_ ?_ ?_|refine K1.z ?_|refine K1.y (fun _=>?_) (fun _=>?_)|fail)
 all_goals(conv=>whnf)
 exact⟨[(13,1)],rfl,rfl,⟨aH rfl,trivial⟩,rfl,rfl,aj⟩
end
section
open Go.RowKit
theorem VF (l:List Ev) (e:Ev) (hk:e.k=5)  (r:Ev) (rs:List Ev) (hr:l.filter (bH 4 (fun a=>decide (a.l=e.l)&&decide (a.v=e.v)) e)=r::rs) (hl:l.length≤1000000000):
  aW Tryz.prog 132 [(0,jI l)] [.own 0,e.av] (.own 1) [(1,jI (r::rs))]:=by
 have hw:=wS 163 (fun a=>decide (a.l=e.l)&&decide (a.v=e.v)) 4 e (Ef e) l r rs hr hl
 have hlf:=List.length_filter_le (bH 4 (fun a=>decide (a.l=e.l)&&decide (a.v=e.v)) e) l
 rw[hr]at hlf
 simp only[List.length_cons]at hlf
 dsimp only[Ev.av,Ev.cs]at hw⊢
 refine K1.M 0x2020021041bb Tryz.func132 10 ?_
 repeat' ((conv=>whnf);first|refine K1.w ?_|refine K1.u ?_|refine K1.C 2 [(0,_),(1,_)] (hw) rfl ?_|refine K1.z ?_|refine K1.y (fun _=>?_) (fun _=>?_)|fail)
 all_goals(conv=>whnf)
 first
   |exact⟨[(11,1)],rfl,rfl,⟨aH rfl,trivial⟩,rfl,rfl,aj⟩
   |exact⟨[(12,1)],rfl,rfl,⟨aH rfl,trivial⟩,rfl,rfl,aj⟩
   |exact⟨[(13,1)],rfl,rfl,⟨aH rfl,trivial⟩,rfl,rfl,aj⟩
   |exact⟨[(14,1)],rfl,rfl,⟨aH rfl,trivial⟩,rfl,rfl,aj⟩
   |exact⟨[(15,1)],rfl,rfl,⟨aH rfl,trivial⟩,rfl,rfl,aj⟩
   |exact⟨[(16,1)],rfl,rfl,⟨aH rfl,trivial⟩,rfl,rfl,aj⟩
   |exact⟨[(17,1)],rfl,rfl,⟨aH rfl,trivial⟩,rfl,rfl,aj⟩
   |exact⟨[(18,1)],rfl,rfl,⟨aH rfl,trivial⟩,rfl,rfl,aj⟩
theorem VG (l:List Ev) (e:Ev) (hk:e.k=5)  (hr:l.filter (bH 4 (fun a=>decide (a.l=e.l)&&decide (a.v=e.v)) e)=[]) (hl:l.length≤1000000000):
  aW Tryz.prog 132 [(0,jI l)] [.own 0,e.av] (.v (.slice none 0 0)) []:=by
 have hw:=wU 163 (fun a=>decide (a.l=e.l)&&decide (a.v=e.v)) 4 e (Ef e) l hr hl
 have hlf:=List.length_filter_le (bH 4 (fun a=>decide (a.l=e.l)&&decide (a.v=e.v)) e) l
 rw[hr]at hlf
 simp only[List.length_nil]at hlf
 dsimp only[Ev.av,Ev.cs]at hw⊢
 refine K1.M 0x2020021041bb Tryz.func132 10 ?_
 repeat' ((conv=>whnf);first|refine K1.w ?_|refine K1.u ?_|refine K1.C 2 [(0,_),(1,_)] (hw) rfl ?_|refine K1.z ?_|refine K1.y (fun _=>?_) (fun _=>?_)|fail)
 all_goals(conv=>whnf)
 exact⟨[],rfl,rfl,trivial,rfl,rfl,aj⟩
theorem Y9 (l:List Ev) (e:Ev) (hk:e.k=4) (hc:l.any (GK e)=false) (hl:l.length≤1000000000):
  aW Tryz.prog 132 [(0,jI l)] [.own 0,e.av] (.own 0) [(0,jI l)]:=by
 have hcr:=iL l e (by omega)
 rw[hc]at hcr
 dsimp only[Ev.av,Ev.cs]at hcr⊢
 refine K1.M 0x2020021041bb Tryz.func132 10 ?_
 repeat' ((conv=>whnf);first|refine K1.w ?_|refine K1.u ?_|refine K1.P1 hcr rfl ?_|refine K1.z ?_|refine K1.y (fun _=>?_) (fun _=>?_)|fail)
 all_goals(conv=>whnf)
 exact⟨[],rfl,rfl,⟨aH rfl,trivial⟩,rfl,rfl,aj⟩
theorem VH (l:List Ev) (e:Ev) (hk:e.k=2) (r:Ev) (rs:List Ev) (hr:l.filter (bH 1 (fun _=>true) e)=r::rs) (x:Ev) (xs:List Ev) (hx:(r::rs).filter (qH (r::rs))=x::xs) (hl:l.length≤1000000000):
  aW Tryz.prog 132 [(0,jI l)] [.own 0,e.av] (.own 1) [(1,jI (x::xs))]:=by
 have hlf:=List.length_filter_le (bH 1 (fun _=>true) e) l
 rw[hr]at hlf
 have hw:=Bd 160 (fun _=>true) 1 e Q5 l r rs hr hl
 have hc:=fun d=>OQ d (r::rs) x xs hx (by omega)
 dsimp only[Ev.av,Ev.cs]at hw⊢
 refine K1.M 0x2020021041bb Tryz.func132 10 ?_
 repeat' ((conv=>whnf);first|refine K1.w ?_|refine K1.u ?_|refine K1.C 1 [(0,_)] (hw) rfl ?_|refine K1.F1 (hc _) rfl ?_|refine K1.z ?_|refine K1.y (fun _=>?_) (fun _=>?_)|fail)
 all_goals(conv=>whnf)
 first
   |exact⟨[(11,1)],rfl,rfl,⟨aH rfl,trivial⟩,rfl,rfl,aj⟩
   |exact⟨[(12,1)],rfl,rfl,⟨aH rfl,trivial⟩,rfl,rfl,aj⟩
   |exact⟨[(13,1)],rfl,rfl,⟨aH rfl,trivial⟩,rfl,rfl,aj⟩
   |exact⟨[(14,1)],rfl,rfl,⟨aH rfl,trivial⟩,rfl,rfl,aj⟩
   |exact⟨[(15,1)],rfl,rfl,⟨aH rfl,trivial⟩,rfl,rfl,aj⟩
   |exact⟨[(16,1)],rfl,rfl,⟨aH rfl,trivial⟩,rfl,rfl,aj⟩
   |exact⟨[(17,1)],rfl,rfl,⟨aH rfl,trivial⟩,rfl,rfl,aj⟩
   |exact⟨[(18,1)],rfl,rfl,⟨aH rfl,trivial⟩,rfl,rfl,aj⟩
theorem VI (l:List Ev) (e:Ev) (hk:e.k=2) (r:Ev) (rs:List Ev) (hr:l.filter (bH 1 (fun _=>true) e)=r::rs) (hx:(r::rs).filter (qH (r::rs))=[]) (hl:l.length≤1000000000):
  aW Tryz.prog 132 [(0,jI l)] [.own 0,e.av] (.v (.slice none 0 0)) []:=by
 have hlf:=List.length_filter_le (bH 1 (fun _=>true) e) l
 rw[hr]at hlf
 have hw:=Bd 160 (fun _=>true) 1 e Q5 l r rs hr hl
 have hc:=Dp (r::rs) hx (by omega)
 dsimp only[Ev.av,Ev.cs]at hw⊢
 refine K1.M 0x2020021041bb Tryz.func132 10 ?_
 repeat' ((conv=>whnf);first|refine K1.w ?_|refine K1.u ?_|refine K1.C 1 [(0,_)] (hw) rfl ?_|refine K1.P1 hc rfl ?_|refine K1.z ?_|refine K1.y (fun _=>?_) (fun _=>?_)|fail)
 all_goals(conv=>whnf)
 exact⟨[],rfl,rfl,trivial,rfl,rfl,aj⟩
theorem VJ (l:List Ev) (e:Ev) (hk:e.k=2) (hr:l.filter (bH 1 (fun _=>true) e)=[]) (hl:l.length≤1000000000):
  aW Tryz.prog 132 [(0,jI l)] [.own 0,e.av] (.v (.slice none 0 0)) []:=by
 have hlf:=List.length_filter_le (bH 1 (fun _=>true) e) l
 rw[hr]at hlf
 have hw:=LQ 160 (fun _=>true) 1 e Q5 l hr hl
 have hc:=Dp [] rfl (by decide)
 dsimp only[Ev.av,Ev.cs]at hw⊢
 refine K1.M 0x2020021041bb Tryz.func132 10 ?_
 repeat' ((conv=>whnf);first|refine K1.w ?_|refine K1.u ?_|refine K1.C 1 [(0,_)] (hw) rfl ?_|refine K1.P1 hc rfl ?_|refine dJ.plain _ _ hc (Dx.cons (.nil 12 true (eG []) (by decide)) .nil) rfl ?_|refine K1.z ?_|refine K1.y (fun _=>?_) (fun _=>?_)|fail)
 all_goals(conv=>whnf)
 exact⟨[],rfl,rfl,trivial,rfl,rfl,aj⟩
end
section
open Go.RowKit
inductive Za (l:List Ev) (e:Ev):Prop where
  |own (r:Ev) (rs:List Ev) (h:kD l e=r::rs) (hs:aW Tryz.prog 132 [(0,jI l)] [.own 0,e.av] (.own 1) [(1,jI (r::rs))])
  |same (h:kD l e=l) (hs:aW Tryz.prog 132 [(0,jI l)] [.own 0,e.av] (.own 0) [(0,jI l)])
  |nil (h:kD l e=[]) (hs:aW Tryz.prog 132 [(0,jI l)] [.own 0,e.av] (.v (.slice none 0 0)) [])
theorem yh (kind:Int) (same:Ev→Bool) (e:Ev) (l:List Ev):qG kind same e l=l.filter (bH kind same e):=by
 unfold qG
 refine List.filter_congr fun a _=>?_
 unfold bH
 cases decide (a.k=kind)<;>cases same a<;>cases aK a e<;>rfl
theorem Bf (l:List Ev) (e:Ev):rC l e=l.any (GK e):=by
 unfold rC
 refine any_congr fun a _=>?_
 rfl
theorem acX (l:List Ev):(l.filter fun a=>decide (a.k=1)||rC l a)=l.filter (qH l):=by
 refine List.filter_congr fun a _=>?_
 unfold qH
 rw[Bf]
theorem Bg {l:List Ev} {e:Ev} {m:List Ev} (h:kD l e=m++[e]) (hs:aW Tryz.prog 132 [(0,jI l)] [.own 0,e.av] (.own 1) [(1,jI (m++[e]))]):Za l e:=by
 cases hm:m++[e]with
 |nil=>simp at hm
 |cons r rs=>rw[hm]at h hs;exact .own r rs h hs
theorem Zb (l:List Ev) (e:Ev) (hk:1≤e.k∧e.k≤5) (hl:l.length≤1000000000):Za l e:=by
 rcases(show e.k=1∨e.k=2∨e.k=3∨e.k=4∨e.k=5 by omega)with h|h|h|h|h
 · exact Bg (m:=l) (by unfold kD;rw[if_pos h]) (acV l e h hl)
 · have hw:kD l e=(l.filter (bH 1 (fun _=>true) e)).filter (qH (l.filter (bH 1 (fun _=>true) e))):=by
    unfold kD
    rw[if_neg (by omega),if_pos h,yh,acX]
   cases hr:l.filter (bH 1 (fun _=>true) e)with
   |nil=>rw[hr]at hw;exact .nil hw (VJ l e h hr hl)
   | cons r rs=>
     rw[hr]at hw
     cases hx:(r::rs).filter (qH (r::rs))with
     |nil=>rw[hx]at hw;exact .nil hw (VI l e h r rs hr hx hl)
     |cons x xs=>rw[hx]at hw;exact .own x xs hw (VH l e h r rs hr x xs hx hl)
 · cases hc:l.any (GK e)with
   |false=>exact .same (by unfold kD;rw[if_neg (by omega),if_neg (by omega),if_pos h,Bf,hc];rfl) (Y8 l e h hc hl)
   | true=>
     have hw:kD l e=l.filter (bH 3 (fun a=>decide (a.l=e.l)) e)++[e]:=by
      unfold kD
      rw[if_neg (by omega),if_neg (by omega),if_pos h,Bf,hc,if_pos rfl,yh]
      rfl
     cases hr:l.filter (bH 3 (fun a=>decide (a.l=e.l)) e)with
     |nil=>rw[hr]at hw;exact Bg hw (VA l e h hc hr hl)
     |cons r rs=>rw[hr]at hw;exact Bg hw (VE l e h hc r rs hr hl)
 · cases hc:l.any (GK e)with
   |false=>exact .same (by unfold kD;rw[if_neg (by omega),if_neg (by omega),if_neg (by omega),if_neg (by omega),Bf,hc];rfl) (Y9 l e h hc hl)
   | true=>
     have hw:kD l e=l.filter (bH 4 (fun a=>decide (a.l=e.l)&&decide (a.v=e.v)) e)++[e]:=by
      unfold kD
      rw[if_neg (by omega),if_neg (by omega),if_neg (by omega),if_neg (by omega),Bf,hc,if_pos rfl,yh]
      rfl
     cases hr:l.filter (bH 4 (fun a=>decide (a.l=e.l)&&decide (a.v=e.v)) e)with
     |nil=>rw[hr]at hw;exact Bg hw (VB l e h hc hr hl)
     |cons r rs=>rw[hr]at hw;exact Bg hw (VD l e h hc r rs hr hl)
 · have hw:kD l e=l.filter (bH 4 (fun a=>decide (a.l=e.l)&&decide (a.v=e.v)) e):=by
    unfold kD
    rw[if_neg (by omega),if_neg (by omega),if_neg (by omega),if_pos h,yh]
    rfl
   cases hr:l.filter (bH 4 (fun a=>decide (a.l=e.l)&&decide (a.v=e.v)) e)with
   |nil=>rw[hr]at hw;exact .nil hw (VG l e h hr hl)
   |cons r rs=>rw[hr]at hw;exact .own r rs hw (VF l e h r rs hr hl)
end
end Go.Proofs.YtimhagicagdkfaaGreat
