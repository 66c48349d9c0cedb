/-
  Contracts of the walk:BkM,BkX2,LvT,LvV.
-/
import Derived.Test.YtimhagicagdkfaaGreatNh6
import Derived.Test.YtimhagicagdkfaaGreatNh8
import Derived.Test.YtimhagicagdkfaaGreatNh21
import Derived.Test.YtimhagicagdkfaaGreatNh22
import Derived.Test.YtimhagicagdkfaaGreatNh17
set_option maxHeartbeats 16000000
set_option maxRecDepth 100000
set_option linter.unusedVariables false
set_option linter.unusedSimpArgs false
namespace Go.Proofs.YtimhagicagdkfaaGreat
section
open Go.RowKit
theorem Sm (d:Nat) (l:List Ev) (hl:l.length≤1000000000) (r:Ev) (rs:List Ev) (hr:aG l=r::rs):
  aH Tryz.prog 122 [.sl 12 l.length true (dX l)] (.own d) [(d,.row 42 12 (rs.length+1) true (dX (r::rs)))]:=by
 refine K1.E 0x800f5d Tryz.func122 ?_
 repeat' ((conv=>whnf);first|refine K1.w ?_|refine K1.u ?_|refine aJ.dO ?_|refine K1.z ?_|refine K1.y (fun _=>?_) (fun _=>?_)|fail)
 conv=>whnf
 refine aN.mk (LU (bK l) l) (fun x=>match x with
   | ⟨(j,[]),_⟩=>⟨[(0,.sl 12 l.length true (dX l)),(3,.box 0 0),(4,.v (.slice none 0 0)),(8,.sl 12 l.length true (dX l)),(9,.v (.int .i64 (l.length:Int))),(10,.v (.int .i64 (j:Int)))],
      [(0,.box 215 [.v (.int .i64 2),.v (.func (.func 148) #[] #[])])],[],1⟩
   | ⟨(j,y::ys),_⟩=>⟨[(0,.sl 12 l.length true (dX l)),(3,.box 0 0),(4,.own 90),(8,.sl 12 l.length true (dX l)),(9,.v (.int .i64 (l.length:Int))),(10,.v (.int .i64 (j:Int)))],
      [(0,.box 215 [.v (.int .i64 2),.v (.func (.func 148) #[] #[])]),(90,.row 42 12 (ys.length+1) true (dX (y::ys)))],[],91⟩) (fun x=>l.length-x.1.1) ⟨(0,[]),Nat.zero_le _,rfl⟩ _
   (dL.mk' [] _ _ _ rfl ⟨aj,aj,aj,aj,aS.int rfl,aS.int rfl,trivial⟩ ⟨aF rfl,trivial⟩ rfl) ?_
 rintro⟨⟨j,ys⟩,hj,hys⟩
 dsimp only at hj hys
 rcases ys with _|⟨y,ys⟩
 · dsimp only
   by_cases hjl:j<l.length
   · have hab:=kS 2 148 eX jW l (l.getD (j:Int).toNat default) (by omega)
     have hft:=dw (p:=bK l) hjl
     rw[←hys,List.nil_append]at hft
     have hlv:bK l (l.getD j default)=(decide ((l.getD (j:Int).toNat default).k=1)&& !fB 2 eX l (l.getD (j:Int).toNat default)):=by rw[show(j:Int).toNat=j by omega];rfl
     rw[hlv]at hft
     generalize fB 2 eX l (l.getD (j:Int).toNat default)=q at hab hft
     have hk0: ¬ (l.getD (j:Int).toNat default).k=1→([]:List Ev)=(l.take (j+1)).filter (bK l):=fun h=>by rw[hft,decide_eq_false h];simp
     have hq0:q=true→([]:List Ev)=(l.take (j+1)).filter (bK l):=fun h=>by rw[hft,h];simp
     have hq1:(l.getD (j:Int).toNat default).k=1→q=false→[l.getD j default]=(l.take (j+1)).filter (bK l):=fun h h'=>by rw[hft,decide_eq_true h,h'];simp
     clear hft hlv
     dsimp only[Ev.av,Ev.cs]at hab⊢
     repeat' ((conv=>whnf);first|refine K1.w ?_|refine K1.u ?_|refine K1.P1 hab rfl ?_|refine aJ.dO ?_|refine K1.z ?_|refine K1.y (fun _=>?_) (fun _=>?_)|fail)
     all_goals(conv=>whnf)
     all_goals first
       |exact⟨⟨(j+1,[]),hjl,by first|exact hk0 (by assumption)|exact hq0 (by assumption)⟩,_,dL.mk' [] _ _ _ rfl ⟨aj,aj,aj,aj,aS.int rfl,aS.int rfl,trivial⟩ ⟨aF rfl,trivial⟩ rfl,by show l.length-(j+1)<l.length-j;omega⟩
       | (refine⟨⟨(j+1,[l.getD j default]),hjl,hq1 (by assumption) (by assumption)⟩,_,dL.mk' [(3,90)] _ _ _ rfl ⟨aj,aj,aj,aj,aS.int rfl,aS.int rfl,trivial⟩ ⟨aF rfl,⟨_,rfl,bW.row rfl (fun m hm=>?_)⟩,trivial⟩ rfl,by show l.length-(j+1)<l.length-j;omega⟩
          have hm:m<1:=hm
          obtain rfl:m=0:=by omega
          rfl)
   · have e:aG l=[]:=by rw[hys,List.take_of_length_le (by omega)];rfl
     rw[hr]at e
     cases e
 · dsimp only
   have hyl:ys.length+1≤j:=by
    have h1:=congrArg List.length hys
    have h2:=List.length_filter_le (bK l) (l.take j)
    rw[List.length_take]at h2
    rw[List.length_cons]at h1
    omega
   by_cases hjl:j<l.length
   · have hab:=kS 2 148 eX jW l (l.getD (j:Int).toNat default) (by omega)
     have hft:=dw (p:=bK l) hjl
     rw[←hys]at hft
     have hlv:bK l (l.getD j default)=(decide ((l.getD (j:Int).toNat default).k=1)&& !fB 2 eX l (l.getD (j:Int).toNat default)):=by rw[show(j:Int).toNat=j by omega];rfl
     rw[hlv]at hft
     generalize fB 2 eX l (l.getD (j:Int).toNat default)=q at hab hft
     have hk0: ¬ (l.getD (j:Int).toNat default).k=1→y::ys=(l.take (j+1)).filter (bK l):=fun h=>by rw[hft,decide_eq_false h];simp
     have hq0:q=true→y::ys=(l.take (j+1)).filter (bK l):=fun h=>by rw[hft,h];simp
     have hq1:(l.getD (j:Int).toNat default).k=1→q=false→y::(ys++[l.getD j default])=(l.take (j+1)).filter (bK l):=fun h h'=>by rw[hft,decide_eq_true h,h'];simp
     clear hft hlv
     dsimp only[Ev.av,Ev.cs]at hab⊢
     repeat' ((conv=>whnf);first|refine K1.w ?_|refine K1.u ?_|refine K1.P1 hab rfl ?_|refine aJ.dO ?_|refine K1.z ?_|refine K1.y (fun _=>?_) (fun _=>?_)|fail)
     all_goals(conv=>whnf)
     all_goals first
       |exact⟨⟨(j+1,y::ys),hjl,by first|exact hk0 (by assumption)|exact hq0 (by assumption)⟩,_,dL.mk' [] _ _ _ rfl ⟨aj,aj,aj,aj,aS.int rfl,aS.int rfl,trivial⟩ ⟨aF rfl,aF rfl,trivial⟩ rfl,by show l.length-(j+1)<l.length-j;omega⟩
       | (refine⟨⟨(j+1,y::(ys++[l.getD j default])),hjl,hq1 (by assumption) (by assumption)⟩,_,dL.mk' [(93,90)] _ _ _ rfl ⟨aj,aj,aj,aj,aS.int rfl,aS.int rfl,trivial⟩ ⟨aF rfl,⟨_,rfl,bW.row (by simp) (fun m hm=>?_)⟩,trivial⟩ rfl,by show l.length-(j+1)<l.length-j;omega⟩
          exact bJ (c:=Ev.cs) (l:=y::ys) rfl rfl m hm)
   · have e:aG l=y::ys:=by rw[hys,List.take_of_length_le (by omega)];rfl
     rw[hr]at e
     cases e
     repeat' ((conv=>whnf);first|refine K1.w ?_|refine K1.u ?_|refine aJ.oz d rfl rfl (bW.refl _) (aj)|refine K1.z ?_|refine K1.y (fun _=>?_) (fun _=>?_)|fail)
theorem Sr (l:List Ev) (hl:l.length≤1000000000) (hr:aG l=[]):
  aH Tryz.prog 122 [.sl 12 l.length true (dX l)] (.v (.slice none 0 0)) []:=by
 refine K1.E 0x800f5d Tryz.func122 ?_
 repeat' ((conv=>whnf);first|refine K1.w ?_|refine K1.u ?_|refine aJ.dO ?_|refine K1.z ?_|refine K1.y (fun _=>?_) (fun _=>?_)|fail)
 conv=>whnf
 refine aN.mk (LU (bK l) l) (fun x=>match x with
   | ⟨(j,[]),_⟩=>⟨[(0,.sl 12 l.length true (dX l)),(3,.box 0 0),(4,.v (.slice none 0 0)),(8,.sl 12 l.length true (dX l)),(9,.v (.int .i64 (l.length:Int))),(10,.v (.int .i64 (j:Int)))],
      [(0,.box 215 [.v (.int .i64 2),.v (.func (.func 148) #[] #[])])],[],1⟩
   | ⟨(j,y::ys),_⟩=>⟨[(0,.sl 12 l.length true (dX l)),(3,.box 0 0),(4,.own 90),(8,.sl 12 l.length true (dX l)),(9,.v (.int .i64 (l.length:Int))),(10,.v (.int .i64 (j:Int)))],
      [(0,.box 215 [.v (.int .i64 2),.v (.func (.func 148) #[] #[])]),(90,.row 42 12 (ys.length+1) true (dX (y::ys)))],[],91⟩) (fun x=>l.length-x.1.1) ⟨(0,[]),Nat.zero_le _,rfl⟩ _
   (dL.mk' [] _ _ _ rfl ⟨aj,aj,aj,aj,aS.int rfl,aS.int rfl,trivial⟩ ⟨aF rfl,trivial⟩ rfl) ?_
 rintro⟨⟨j,ys⟩,hj,hys⟩
 dsimp only at hj hys
 rcases ys with _|⟨y,ys⟩
 · dsimp only
   by_cases hjl:j<l.length
   · have hab:=kS 2 148 eX jW l (l.getD (j:Int).toNat default) (by omega)
     have hft:=dw (p:=bK l) hjl
     rw[←hys,List.nil_append]at hft
     have hlv:bK l (l.getD j default)=(decide ((l.getD (j:Int).toNat default).k=1)&& !fB 2 eX l (l.getD (j:Int).toNat default)):=by rw[show(j:Int).toNat=j by omega];rfl
     rw[hlv]at hft
     generalize fB 2 eX l (l.getD (j:Int).toNat default)=q at hab hft
     have hk0: ¬ (l.getD (j:Int).toNat default).k=1→([]:List Ev)=(l.take (j+1)).filter (bK l):=fun h=>by rw[hft,decide_eq_false h];simp
     have hq0:q=true→([]:List Ev)=(l.take (j+1)).filter (bK l):=fun h=>by rw[hft,h];simp
     have hq1:(l.getD (j:Int).toNat default).k=1→q=false→[l.getD j default]=(l.take (j+1)).filter (bK l):=fun h h'=>by rw[hft,decide_eq_true h,h'];simp
     clear hft hlv
     dsimp only[Ev.av,Ev.cs]at hab⊢
     repeat' ((conv=>whnf);first|refine K1.w ?_|refine K1.u ?_|refine K1.P1 hab rfl ?_|refine aJ.dO ?_|refine K1.z ?_|refine K1.y (fun _=>?_) (fun _=>?_)|fail)
     all_goals(conv=>whnf)
     all_goals first
       |exact⟨⟨(j+1,[]),hjl,by first|exact hk0 (by assumption)|exact hq0 (by assumption)⟩,_,dL.mk' [] _ _ _ rfl ⟨aj,aj,aj,aj,aS.int rfl,aS.int rfl,trivial⟩ ⟨aF rfl,trivial⟩ rfl,by show l.length-(j+1)<l.length-j;omega⟩
       | (refine⟨⟨(j+1,[l.getD j default]),hjl,hq1 (by assumption) (by assumption)⟩,_,dL.mk' [(3,90)] _ _ _ rfl ⟨aj,aj,aj,aj,aS.int rfl,aS.int rfl,trivial⟩ ⟨aF rfl,⟨_,rfl,bW.row rfl (fun m hm=>?_)⟩,trivial⟩ rfl,by show l.length-(j+1)<l.length-j;omega⟩
          have hm:m<1:=hm
          obtain rfl:m=0:=by omega
          rfl)
   · have e:aG l=[]:=by rw[hys,List.take_of_length_le (by omega)];rfl
     repeat' ((conv=>whnf);first|refine K1.w ?_|refine K1.u ?_|refine aJ.dO ?_|refine K1.z ?_|refine K1.y (fun _=>?_) (fun _=>?_)|fail)
     conv=>whnf
     exact bF.mk (aj)
 · dsimp only
   have hyl:ys.length+1≤j:=by
    have h1:=congrArg List.length hys
    have h2:=List.length_filter_le (bK l) (l.take j)
    rw[List.length_take]at h2
    rw[List.length_cons]at h1
    omega
   by_cases hjl:j<l.length
   · have hab:=kS 2 148 eX jW l (l.getD (j:Int).toNat default) (by omega)
     have hft:=dw (p:=bK l) hjl
     rw[←hys]at hft
     have hlv:bK l (l.getD j default)=(decide ((l.getD (j:Int).toNat default).k=1)&& !fB 2 eX l (l.getD (j:Int).toNat default)):=by rw[show(j:Int).toNat=j by omega];rfl
     rw[hlv]at hft
     generalize fB 2 eX l (l.getD (j:Int).toNat default)=q at hab hft
     have hk0: ¬ (l.getD (j:Int).toNat default).k=1→y::ys=(l.take (j+1)).filter (bK l):=fun h=>by rw[hft,decide_eq_false h];simp
     have hq0:q=true→y::ys=(l.take (j+1)).filter (bK l):=fun h=>by rw[hft,h];simp
     have hq1:(l.getD (j:Int).toNat default).k=1→q=false→y::(ys++[l.getD j default])=(l.take (j+1)).filter (bK l):=fun h h'=>by rw[hft,decide_eq_true h,h'];simp
     clear hft hlv
     dsimp only[Ev.av,Ev.cs]at hab⊢
     repeat' ((conv=>whnf);first|refine K1.w ?_|refine K1.u ?_|refine K1.P1 hab rfl ?_|refine aJ.dO ?_|refine K1.z ?_|refine K1.y (fun _=>?_) (fun _=>?_)|fail)
     all_goals(conv=>whnf)
     all_goals first
       |exact⟨⟨(j+1,y::ys),hjl,by first|exact hk0 (by assumption)|exact hq0 (by assumption)⟩,_,dL.mk' [] _ _ _ rfl ⟨aj,aj,aj,aj,aS.int rfl,aS.int rfl,trivial⟩ ⟨aF rfl,aF rfl,trivial⟩ rfl,by show l.length-(j+1)<l.length-j;omega⟩
       | (refine⟨⟨(j+1,y::(ys++[l.getD j default])),hjl,hq1 (by assumption) (by assumption)⟩,_,dL.mk' [(93,90)] _ _ _ rfl ⟨aj,aj,aj,aj,aS.int rfl,aS.int rfl,trivial⟩ ⟨aF rfl,⟨_,rfl,bW.row (by simp) (fun m hm=>?_)⟩,trivial⟩ rfl,by show l.length-(j+1)<l.length-j;omega⟩
          exact bJ (c:=Ev.cs) (l:=y::ys) rfl rfl m hm)
   · have e:aG l=y::ys:=by rw[hys,List.take_of_length_le (by omega)];rfl
     rw[hr]at e
     cases e
theorem MS (d:Nat) (l cr:List Ev) (hl:l.length≤1000000000) (hc:cr.length≤1000000000) (r:Ev) (rs:List Ev) (hr:bI l cr=r::rs):
  aH Tryz.prog 123 [.sl 12 l.length true (dX l),.sl 12 cr.length true (dX cr)] (.own d) [(d,.row 42 12 (rs.length+1) true (dX (r::rs)))]:=by
 refine K1.E 0x4004218f2f3 Tryz.func123 ?_
 repeat' ((conv=>whnf);first|refine K1.w ?_|refine K1.u ?_|refine aJ.dO ?_|refine K1.z ?_|refine K1.y (fun _=>?_) (fun _=>?_)|fail)
 conv=>whnf
 refine aN.mk (LU (countB l cr) l) (fun x=>match x with
   | ⟨(j,[]),_⟩=>⟨[(0,.sl 12 l.length true (dX l)),(1,.sl 12 cr.length true (dX cr)),(5,.box 0 0),(6,.box 1 0),(7,.v (.slice none 0 0)),(12,.sl 12 l.length true (dX l)),(13,.v (.int .i64 (l.length:Int))),(14,.v (.int .i64 (j:Int)))],
      [(0,.box 215 [.v (.int .i64 1),.v (.func (.func 148) #[] #[])]),(1,.box 215 [.v (.int .i64 5),.v (.func (.func 150) #[] #[])])],[],2⟩
   | ⟨(j,y::ys),_⟩=>⟨[(0,.sl 12 l.length true (dX l)),(1,.sl 12 cr.length true (dX cr)),(5,.box 0 0),(6,.box 1 0),(7,.own 90),(12,.sl 12 l.length true (dX l)),(13,.v (.int .i64 (l.length:Int))),(14,.v (.int .i64 (j:Int)))],
      [(0,.box 215 [.v (.int .i64 1),.v (.func (.func 148) #[] #[])]),(1,.box 215 [.v (.int .i64 5),.v (.func (.func 150) #[] #[])]),(90,.row 42 12 (ys.length+1) true (dX (y::ys)))],[],91⟩) (fun x=>l.length-x.1.1) ⟨(0,[]),Nat.zero_le _,rfl⟩ _
   (dL.mk' [] _ _ _ rfl ⟨aj,aj,aj,aj,aj,aj,aS.int rfl,aS.int rfl,trivial⟩ ⟨aF rfl,aF rfl,trivial⟩ rfl) ?_
 rintro⟨⟨j,ys⟩,hj,hys⟩
 dsimp only at hj hys
 rcases ys with _|⟨y,ys⟩
 · dsimp only
   by_cases hjl:j<l.length
   · have hab:=kS 5 150 jk uJ l (l.getD (j:Int).toNat default) (by omega)
     have hun:=uK 1 148 eX jW cr (l.getD (j:Int).toNat default) (by omega)
     have hft:=dw (p:=countB l cr) hjl
     rw[←hys,List.nil_append]at hft
     have hlv:countB l cr (l.getD j default)=((decide ((l.getD (j:Int).toNat default).k=3)||(decide ((l.getD (j:Int).toNat default).k=4)&& !fB 5 jk l (l.getD (j:Int).toNat default)))&&gZ 1 eX cr (l.getD (j:Int).toNat default)):=by rw[show(j:Int).toNat=j by omega];rfl
     rw[hlv]at hft
     generalize fB 5 jk l (l.getD (j:Int).toNat default)=q1 at hab hft
     generalize gZ 1 eX cr (l.getD (j:Int).toNat default)=q2 at hun hft
     have n1: ¬ (l.getD (j:Int).toNat default).k=3→ ¬ (l.getD (j:Int).toNat default).k=4→([]:List Ev)=(l.take (j+1)).filter (countB l cr):=fun h h'=>by rw[hft,decide_eq_false h,decide_eq_false h'];simp
     have n2:q2=false→([]:List Ev)=(l.take (j+1)).filter (countB l cr):=fun h=>by rw[hft,h];simp
     have n3:(l.getD (j:Int).toNat default).k=4→q1=true→([]:List Ev)=(l.take (j+1)).filter (countB l cr):=fun h h'=>by rw[hft,decide_eq_false (show¬ (l.getD (j:Int).toNat default).k=3 by omega),h'];simp
     have y1:(l.getD (j:Int).toNat default).k=3→q2=true→[l.getD j default]=(l.take (j+1)).filter (countB l cr):=fun h h'=>by rw[hft,decide_eq_true h,h'];simp
     have y2:(l.getD (j:Int).toNat default).k=4→q1=false→q2=true→[l.getD j default]=(l.take (j+1)).filter (countB l cr):=fun h h' h2=>by rw[hft,decide_eq_true h,h',h2];simp
     clear hft hlv
     dsimp only[Ev.av,Ev.cs]at hab hun⊢
     repeat' ((conv=>whnf);first|refine K1.w ?_|refine K1.u ?_|refine K1.P1 hab rfl ?_|refine K1.P1 hun rfl ?_|refine aJ.dO ?_|refine K1.z ?_|refine K1.y (fun _=>?_) (fun _=>?_)|fail)
     all_goals(conv=>whnf)
     all_goals first
       |exact⟨⟨(j+1,([]:List Ev)),hjl,by first|exact n1 (by assumption) (by assumption)|exact n2 (by assumption)|exact n3 (by assumption) (by assumption)⟩,_,dL.mk' [] _ _ _ rfl ⟨aj,aj,aj,aj,aj,aj,aS.int rfl,aS.int rfl,trivial⟩ ⟨aF rfl,aF rfl,trivial⟩ rfl,by show l.length-(j+1)<l.length-j;omega⟩
       | (refine⟨⟨(j+1,[l.getD j default]),hjl,by first|exact y1 (by assumption) (by assumption)|exact y2 (by assumption) (by assumption) (by assumption)⟩,_,dL.mk' [(4,90)] _ _ _ rfl ⟨aj,aj,aj,aj,aj,aj,aS.int rfl,aS.int rfl,trivial⟩ ⟨aF rfl,aF rfl,⟨_,rfl,bW.row (by simp) (fun m hm=>?_)⟩,trivial⟩ rfl,by show l.length-(j+1)<l.length-j;omega⟩
          have hm:m<1:=hm
          obtain rfl:m=0:=by omega
          rfl)
   · have e:bI l cr=([]:List Ev):=by rw[hys,List.take_of_length_le (by omega)];rfl
     rw[hr]at e
     cases e
 · dsimp only
   have hyl:ys.length+1≤j:=by
    have h1:=congrArg List.length hys
    have h2:=List.length_filter_le (countB l cr) (l.take j)
    rw[List.length_take]at h2
    rw[List.length_cons]at h1
    omega
   by_cases hjl:j<l.length
   · have hab:=kS 5 150 jk uJ l (l.getD (j:Int).toNat default) (by omega)
     have hun:=uK 1 148 eX jW cr (l.getD (j:Int).toNat default) (by omega)
     have hft:=dw (p:=countB l cr) hjl
     rw[←hys]at hft
     have hlv:countB l cr (l.getD j default)=((decide ((l.getD (j:Int).toNat default).k=3)||(decide ((l.getD (j:Int).toNat default).k=4)&& !fB 5 jk l (l.getD (j:Int).toNat default)))&&gZ 1 eX cr (l.getD (j:Int).toNat default)):=by rw[show(j:Int).toNat=j by omega];rfl
     rw[hlv]at hft
     generalize fB 5 jk l (l.getD (j:Int).toNat default)=q1 at hab hft
     generalize gZ 1 eX cr (l.getD (j:Int).toNat default)=q2 at hun hft
     have n1: ¬ (l.getD (j:Int).toNat default).k=3→ ¬ (l.getD (j:Int).toNat default).k=4→y::ys=(l.take (j+1)).filter (countB l cr):=fun h h'=>by rw[hft,decide_eq_false h,decide_eq_false h'];simp
     have n2:q2=false→y::ys=(l.take (j+1)).filter (countB l cr):=fun h=>by rw[hft,h];simp
     have n3:(l.getD (j:Int).toNat default).k=4→q1=true→y::ys=(l.take (j+1)).filter (countB l cr):=fun h h'=>by rw[hft,decide_eq_false (show¬ (l.getD (j:Int).toNat default).k=3 by omega),h'];simp
     have y1:(l.getD (j:Int).toNat default).k=3→q2=true→y::(ys++[l.getD j default])=(l.take (j+1)).filter (countB l cr):=fun h h'=>by rw[hft,decide_eq_true h,h'];simp
     have y2:(l.getD (j:Int).toNat default).k=4→q1=false→q2=true→y::(ys++[l.getD j default])=(l.take (j+1)).filter (countB l cr):=fun h h' h2=>by rw[hft,decide_eq_true h,h',h2];simp
     clear hft hlv
     dsimp only[Ev.av,Ev.cs]at hab hun⊢
     repeat' ((conv=>whnf);first|refine K1.w ?_|refine K1.u ?_|refine K1.P1 hab rfl ?_|refine K1.P1 hun rfl ?_|refine aJ.dO ?_|refine K1.z ?_|refine K1.y (fun _=>?_) (fun _=>?_)|fail)
     all_goals(conv=>whnf)
     all_goals first
       |exact⟨⟨(j+1,y::ys),hjl,by first|exact n1 (by assumption) (by assumption)|exact n2 (by assumption)|exact n3 (by assumption) (by assumption)⟩,_,dL.mk' [] _ _ _ rfl ⟨aj,aj,aj,aj,aj,aj,aS.int rfl,aS.int rfl,trivial⟩ ⟨aF rfl,aF rfl,aF rfl,trivial⟩ rfl,by show l.length-(j+1)<l.length-j;omega⟩
       | (refine⟨⟨(j+1,y::(ys++[l.getD j default])),hjl,by first|exact y1 (by assumption) (by assumption)|exact y2 (by assumption) (by assumption) (by assumption)⟩,_,dL.mk' [(93,90)] _ _ _ rfl ⟨aj,aj,aj,aj,aj,aj,aS.int rfl,aS.int rfl,trivial⟩ ⟨aF rfl,aF rfl,⟨_,rfl,bW.row (by simp) (fun m hm=>?_)⟩,trivial⟩ rfl,by show l.length-(j+1)<l.length-j;omega⟩
          exact bJ (c:=Ev.cs) (l:=y::ys) rfl rfl m hm)
   · have e:bI l cr=y::ys:=by rw[hys,List.take_of_length_le (by omega)];rfl
     rw[hr]at e
     cases e
     repeat' ((conv=>whnf);first|refine K1.w ?_|refine K1.u ?_|refine aJ.oz d rfl rfl (bW.refl _) (aj)|refine K1.z ?_|refine K1.y (fun _=>?_) (fun _=>?_)|fail)
theorem MV (l cr:List Ev) (hl:l.length≤1000000000) (hc:cr.length≤1000000000) (hr:bI l cr=[]):
  aH Tryz.prog 123 [.sl 12 l.length true (dX l),.sl 12 cr.length true (dX cr)] (.v (.slice none 0 0)) []:=by
 refine K1.E 0x4004218f2f3 Tryz.func123 ?_
 repeat' ((conv=>whnf);first|refine K1.w ?_|refine K1.u ?_|refine aJ.dO ?_|refine K1.z ?_|refine K1.y (fun _=>?_) (fun _=>?_)|fail)
 conv=>whnf
 refine aN.mk (LU (countB l cr) l) (fun x=>match x with
   | ⟨(j,[]),_⟩=>⟨[(0,.sl 12 l.length true (dX l)),(1,.sl 12 cr.length true (dX cr)),(5,.box 0 0),(6,.box 1 0),(7,.v (.slice none 0 0)),(12,.sl 12 l.length true (dX l)),(13,.v (.int .i64 (l.length:Int))),(14,.v (.int .i64 (j:Int)))],
      [(0,.box 215 [.v (.int .i64 1),.v (.func (.func 148) #[] #[])]),(1,.box 215 [.v (.int .i64 5),.v (.func (.func 150) #[] #[])])],[],2⟩
   | ⟨(j,y::ys),_⟩=>⟨[(0,.sl 12 l.length true (dX l)),(1,.sl 12 cr.length true (dX cr)),(5,.box 0 0),(6,.box 1 0),(7,.own 90),(12,.sl 12 l.length true (dX l)),(13,.v (.int .i64 (l.length:Int))),(14,.v (.int .i64 (j:Int)))],
      [(0,.box 215 [.v (.int .i64 1),.v (.func (.func 148) #[] #[])]),(1,.box 215 [.v (.int .i64 5),.v (.func (.func 150) #[] #[])]),(90,.row 42 12 (ys.length+1) true (dX (y::ys)))],[],91⟩) (fun x=>l.length-x.1.1) ⟨(0,[]),Nat.zero_le _,rfl⟩ _
   (dL.mk' [] _ _ _ rfl ⟨aj,aj,aj,aj,aj,aj,aS.int rfl,aS.int rfl,trivial⟩ ⟨aF rfl,aF rfl,trivial⟩ rfl) ?_
 rintro⟨⟨j,ys⟩,hj,hys⟩
 dsimp only at hj hys
 rcases ys with _|⟨y,ys⟩
 · dsimp only
   by_cases hjl:j<l.length
   · have hab:=kS 5 150 jk uJ l (l.getD (j:Int).toNat default) (by omega)
     have hun:=uK 1 148 eX jW cr (l.getD (j:Int).toNat default) (by omega)
     have hft:=dw (p:=countB l cr) hjl
     rw[←hys,List.nil_append]at hft
     have hlv:countB l cr (l.getD j default)=((decide ((l.getD (j:Int).toNat default).k=3)||(decide ((l.getD (j:Int).toNat default).k=4)&& !fB 5 jk l (l.getD (j:Int).toNat default)))&&gZ 1 eX cr (l.getD (j:Int).toNat default)):=by rw[show(j:Int).toNat=j by omega];rfl
     rw[hlv]at hft
     generalize fB 5 jk l (l.getD (j:Int).toNat default)=q1 at hab hft
     generalize gZ 1 eX cr (l.getD (j:Int).toNat default)=q2 at hun hft
     have n1: ¬ (l.getD (j:Int).toNat default).k=3→ ¬ (l.getD (j:Int).toNat default).k=4→([]:List Ev)=(l.take (j+1)).filter (countB l cr):=fun h h'=>by rw[hft,decide_eq_false h,decide_eq_false h'];simp
     have n2:q2=false→([]:List Ev)=(l.take (j+1)).filter (countB l cr):=fun h=>by rw[hft,h];simp
     have n3:(l.getD (j:Int).toNat default).k=4→q1=true→([]:List Ev)=(l.take (j+1)).filter (countB l cr):=fun h h'=>by rw[hft,decide_eq_false (show¬ (l.getD (j:Int).toNat default).k=3 by omega),h'];simp
     have y1:(l.getD (j:Int).toNat default).k=3→q2=true→[l.getD j default]=(l.take (j+1)).filter (countB l cr):=fun h h'=>by rw[hft,decide_eq_true h,h'];simp
     have y2:(l.getD (j:Int).toNat default).k=4→q1=false→q2=true→[l.getD j default]=(l.take (j+1)).filter (countB l cr):=fun h h' h2=>by rw[hft,decide_eq_true h,h',h2];simp
     clear hft hlv
     dsimp only[Ev.av,Ev.cs]at hab hun⊢
     repeat' ((conv=>whnf);first|refine K1.w ?_|refine K1.u ?_|refine K1.P1 hab rfl ?_|refine K1.P1 hun rfl ?_|refine aJ.dO ?_|refine K1.z ?_|refine K1.y (fun _=>?_) (fun _=>?_)|fail)
     all_goals(conv=>whnf)
     all_goals first
       |exact⟨⟨(j+1,([]:List Ev)),hjl,by first|exact n1 (by assumption) (by assumption)|exact n2 (by assumption)|exact n3 (by assumption) (by assumption)⟩,_,dL.mk' [] _ _ _ rfl ⟨aj,aj,aj,aj,aj,aj,aS.int rfl,aS.int rfl,trivial⟩ ⟨aF rfl,aF rfl,trivial⟩ rfl,by show l.length-(j+1)<l.length-j;omega⟩
       | (refine⟨⟨(j+1,[l.getD j default]),hjl,by first|exact y1 (by assumption) (by assumption)|exact y2 (by assumption) (by assumption) (by assumption)⟩,_,dL.mk' [(4,90)] _ _ _ rfl ⟨aj,aj,aj,aj,aj,aj,aS.int rfl,aS.int rfl,trivial⟩ ⟨aF rfl,aF rfl,⟨_,rfl,bW.row (by simp) (fun m hm=>?_)⟩,trivial⟩ rfl,by show l.length-(j+1)<l.length-j;omega⟩
          have hm:m<1:=hm
          obtain rfl:m=0:=by omega
          rfl)
   · have e:bI l cr=([]:List Ev):=by rw[hys,List.take_of_length_le (by omega)];rfl
     repeat' ((conv=>whnf);first|refine K1.w ?_|refine K1.u ?_|refine aJ.dO ?_|refine K1.z ?_|refine K1.y (fun _=>?_) (fun _=>?_)|fail)
     conv=>whnf
     exact bF.mk (aj)
 · dsimp only
   have hyl:ys.length+1≤j:=by
    have h1:=congrArg List.length hys
    have h2:=List.length_filter_le (countB l cr) (l.take j)
    rw[List.length_take]at h2
    rw[List.length_cons]at h1
    omega
   by_cases hjl:j<l.length
   · have hab:=kS 5 150 jk uJ l (l.getD (j:Int).toNat default) (by omega)
     have hun:=uK 1 148 eX jW cr (l.getD (j:Int).toNat default) (by omega)
     have hft:=dw (p:=countB l cr) hjl
     rw[←hys]at hft
     have hlv:countB l cr (l.getD j default)=((decide ((l.getD (j:Int).toNat default).k=3)||(decide ((l.getD (j:Int).toNat default).k=4)&& !fB 5 jk l (l.getD (j:Int).toNat default)))&&gZ 1 eX cr (l.getD (j:Int).toNat default)):=by rw[show(j:Int).toNat=j by omega];rfl
     rw[hlv]at hft
     generalize fB 5 jk l (l.getD (j:Int).toNat default)=q1 at hab hft
     generalize gZ 1 eX cr (l.getD (j:Int).toNat default)=q2 at hun hft
     have n1: ¬ (l.getD (j:Int).toNat default).k=3→ ¬ (l.getD (j:Int).toNat default).k=4→y::ys=(l.take (j+1)).filter (countB l cr):=fun h h'=>by rw[hft,decide_eq_false h,decide_eq_false h'];simp
     have n2:q2=false→y::ys=(l.take (j+1)).filter (countB l cr):=fun h=>by rw[hft,h];simp
     have n3:(l.getD (j:Int).toNat default).k=4→q1=true→y::ys=(l.take (j+1)).filter (countB l cr):=fun h h'=>by rw[hft,decide_eq_false (show¬ (l.getD (j:Int).toNat default).k=3 by omega),h'];simp
     have y1:(l.getD (j:Int).toNat default).k=3→q2=true→y::(ys++[l.getD j default])=(l.take (j+1)).filter (countB l cr):=fun h h'=>by rw[hft,decide_eq_true h,h'];simp
     have y2:(l.getD (j:Int).toNat default).k=4→q1=false→q2=true→y::(ys++[l.getD j default])=(l.take (j+1)).filter (countB l cr):=fun h h' h2=>by rw[hft,decide_eq_true h,h',h2];simp
     clear hft hlv
     dsimp only[Ev.av,Ev.cs]at hab hun⊢
     repeat' ((conv=>whnf);first|refine K1.w ?_|refine K1.u ?_|refine K1.P1 hab rfl ?_|refine K1.P1 hun rfl ?_|refine aJ.dO ?_|refine K1.z ?_|refine K1.y (fun _=>?_) (fun _=>?_)|fail)
     all_goals(conv=>whnf)
     all_goals first
       |exact⟨⟨(j+1,y::ys),hjl,by first|exact n1 (by assumption) (by assumption)|exact n2 (by assumption)|exact n3 (by assumption) (by assumption)⟩,_,dL.mk' [] _ _ _ rfl ⟨aj,aj,aj,aj,aj,aj,aS.int rfl,aS.int rfl,trivial⟩ ⟨aF rfl,aF rfl,aF rfl,trivial⟩ rfl,by show l.length-(j+1)<l.length-j;omega⟩
       | (refine⟨⟨(j+1,y::(ys++[l.getD j default])),hjl,by first|exact y1 (by assumption) (by assumption)|exact y2 (by assumption) (by assumption) (by assumption)⟩,_,dL.mk' [(93,90)] _ _ _ rfl ⟨aj,aj,aj,aj,aj,aj,aS.int rfl,aS.int rfl,trivial⟩ ⟨aF rfl,aF rfl,⟨_,rfl,bW.row (by simp) (fun m hm=>?_)⟩,trivial⟩ rfl,by show l.length-(j+1)<l.length-j;omega⟩
          exact bJ (c:=Ev.cs) (l:=y::ys) rfl rfl m hm)
   · have e:bI l cr=y::ys:=by rw[hys,List.take_of_length_le (by omega)];rfl
     rw[hr]at e
     cases e
end
section
open Go.RowKit
inductive Back (f:FuncId) (dn:List AV) (C:List Ev):Prop where
  |nil (h:C=[]) (hs:aH Tryz.prog f dn (.v (.slice none 0 0)) [])
  |own (h:0<C.length) (hs: ∀d,aH Tryz.prog f dn (.own d) [(d,.row 42 12 C.length true (dX C))])
theorem PV (l:List Ev) (hl:l.length≤1000000000):Back 122 [.sl 12 l.length true (dX l)] (aG l):=by
 cases h:aG l with
 |nil=>exact .nil rfl (Sr l hl h)
 |cons r rs=>exact .own (by simp) (fun d=>Sm d l hl r rs h)
theorem Ji (l C:List Ev) (hl:l.length≤1000000000) (hc:C.length≤1000000000):Back 123 [.sl 12 l.length true (dX l),.sl 12 C.length true (dX C)] (bI l C):=by
 cases h:bI l C with
 |nil=>exact .nil rfl (MV l C hl hc h)
 |cons r rs=>exact .own (by simp) (fun d=>MS d l C hl hc r rs h)
theorem Back.args {f:FuncId} {dn bvs:List AV} {C:List Ev} (h:Back f bvs C) (hc:Ch dn bvs):Back f dn C:=by
 cases h with
 |nil h hs=>exact .nil h (hs.args hc)
 |own h hs=>exact .own h fun d=>(hs d).args hc
theorem ae2 (l:List Ev) (hl:l.length≤1000000000):
  aV Tryz.prog 91 [(0,.row 42 12 l.length true (dX l))] [.own 0] (.sl 7 (nU l).length false (Rh (nU l))) [(0,.row 42 12 l.length true (dX l))]:=by
 have PW:=PV l hl
 have hcl:(aG l).length≤l.length:=List.length_filter_le ..
 have ED:=Ji l (aG l) hl (by omega)
 have hwl:(bI l (aG l)).length≤l.length:=List.length_filter_le ..
 have hof:nU l=(Lib.compact (sortL ((aG l).map fun e=>dI e.key))).map fun k=>fJ ⟨k.toArray⟩ (bI l (aG l)):=rfl
 generalize nU l=O at hof⊢
 generalize bI l (aG l)=ws at ED hwl hof
 generalize aG l=C at PW hcl ED hof
 have hcon:=fun k=>LX k ws (by omega)
 dsimp only[Cont.cs]at hcon
 have aen:C=[]→Back 123 [.sl 12 l.length true (dX l),.v (.slice none 0 0)] ws:=fun h=>by
  subst h
  exact ED.args (.same (.of (fun X u h=>C1.iP (by decide) h) .nil))
 rcases PW with⟨hC,PW⟩|⟨hC,PW⟩
 rcases aen hC with⟨hW,ED⟩|⟨hW,ED⟩
 rotate_left 2
 rcases ED with⟨hW,ED⟩|⟨hW,ED⟩
 all_goals refine K1.M 0x7800f05bd Tryz.func91 10 ?_
 all_goals first
   | (repeat' ((conv=>whnf);first|refine K1.w ?_|refine K1.u ?_|refine K1.P1 PW rfl ?_|refine K1.P1 ED rfl ?_|refine K1.z ?_|refine K1.y (fun _=>?_) (fun _=>?_)|fail)
      conv=>whnf
      refine aN.nil 16 80 42 12 (dX []) rfl (by omega) ?_
      conv=>whnf
      refine aN.CB 80 rfl ?_
      conv=>whnf
      refine aN.nil 4 82 42 12 (dX []) rfl (by omega) ?_
      conv=>whnf
      refine aN.CB 82 rfl ?_
      conv=>whnf)
   | (repeat' ((conv=>whnf);first|refine K1.w ?_|refine K1.u ?_|refine K1.P1 PW rfl ?_|refine K1.F1 (ED _) rfl ?_|refine K1.z ?_|refine K1.y (fun _=>?_) (fun _=>?_)|fail)
      conv=>whnf
      refine aN.nil 16 80 42 12 (dX []) rfl (by omega) ?_
      conv=>whnf
      refine aN.CB 80 rfl ?_
      conv=>whnf
      refine aN.CB 10 rfl ?_
      conv=>whnf)
   | (repeat' ((conv=>whnf);first|refine K1.w ?_|refine K1.u ?_|refine K1.F1 (PW _) rfl ?_|refine K1.P1 ED rfl ?_|refine K1.z ?_|refine K1.y (fun _=>?_) (fun _=>?_)|fail)
      conv=>whnf
      refine aN.CB 10 rfl ?_
      conv=>whnf
      refine aN.nil 4 82 42 12 (dX []) rfl (by omega) ?_
      conv=>whnf
      refine aN.CB 82 rfl ?_
      conv=>whnf)
   | (repeat' ((conv=>whnf);first|refine K1.w ?_|refine K1.u ?_|refine K1.F1 (PW _) rfl ?_|refine K1.F1 (ED _) rfl ?_|refine K1.z ?_|refine K1.y (fun _=>?_) (fun _=>?_)|fail)
      conv=>whnf
      refine aN.CB 10 rfl ?_
      conv=>whnf
      refine aN.CB 11 rfl ?_
      conv=>whnf)
 all_goals
  refine aN.nil 5 90 9 1 (iC []) rfl (by omega) ?_
  conv=>whnf
  refine aN.mk {j:Nat//j≤C.length} (fun j=>⟨[(4,.sl 12 ws.length true (dX ws)),(5,.own 90),(16,.sl 12 C.length true (dX C)),(17,.v (.int .i64 (C.length:Int))),(18,.v (.int .i64 (j.1:Int)))],
    [(90,.row 9 1 ((C.take j.1).map fun e=>dI e.key).length true (iC ((C.take j.1).map fun e=>dI e.key))),(0,.row 42 12 l.length true (dX l))],[[(0,.own 0)]],91⟩) (fun j=>C.length-j.1) ⟨0,Nat.zero_le _⟩ _
   (dL.mk' [] _ _ _ rfl ⟨by first|exact aj|(rw[hW];exact aj),aj,by first|exact aj|(rw[hC];exact aj),by first|exact aj|exact aS.int (by rw[hC];rfl),aS.int rfl,trivial⟩ ⟨aF rfl,aF rfl,trivial⟩ rfl) ?_
  rintro⟨j,hj⟩
  dsimp only
  have lm:((C.take j).map fun e=>dI e.key).length=j:=by rw[List.length_map,List.length_take];omega
  by_cases hjl:j<C.length
  · have hg:(C.take (j+1)).map (fun e=>dI e.key)=(C.take j).map (fun e=>dI e.key)++[dI (C.getD (j:Int).toNat default).key]:=by
     rw[show(C.getD (j:Int).toNat default)=C.getD j default from rfl,List.getD,List.getElem?_eq_getElem hjl,List.take_add_one,List.getElem?_eq_getElem hjl,List.map_append]
     rfl
    repeat' ((conv=>whnf);first|refine K1.w ?_|refine K1.u ?_|refine K1.z ?_|refine K1.y (fun _=>?_) (fun _=>?_)|fail)
    conv=>whnf
    refine⟨⟨j+1,hjl⟩,_,dL.mk' [(93,90)] _ _ _ rfl ⟨aj,aj,aj,aj,aS.int rfl,trivial⟩ ⟨⟨_,rfl,bW.row ?_ (fun m hm=>?_)⟩,aF rfl,trivial⟩ rfl,by show C.length-(j+1)<C.length-j;omega⟩
    · show _=((C.take (j+1)).map fun e=>dI e.key).length
      rw[hg,List.length_append]
      rfl
    · show _=iC ((C.take (j+1)).map fun e=>dI e.key) m
      rw[hg]
      exact qG (x:=dI (C.getD (j:Int).toNat default).key) rfl (by rw[qF];rfl) m hm
  · rw [List.take_of_length_le (show C.length≤j by omega)]at lm⊢
    generalize(C.map fun e=>dI e.key)=K at lm hof⊢
    have hso:=uM K (by omega)
    have hsl:(sortL K).length=K.length:=List.length_mergeSort ..
    have hco:=oL (sortL K) (by omega)
    have hle:=uN (sortL K)
    rw[hsl]at hco hle
    generalize Lib.compact (sortL K)=M at hco hle hof
    repeat' ((conv=>whnf);first|refine K1.w ?_|refine K1.u ?_|refine K1.C 1 [(0,_)] (hso) rfl ?_|refine K1.C 1 [(0,_)] (hco) rfl ?_|refine K1.z ?_|refine K1.y (fun _=>?_) (fun _=>?_)|fail)
    conv=>whnf
    refine aN.nil 8 190 76 7 (Rh []) rfl (by omega) ?_
    conv=>whnf
    refine aN.mk {j:Nat//j≤M.length} (fun j=>⟨[(4,.sl 12 ws.length true (dX ws)),(8,.own 190),(31,.own 92),(32,.v (.int .i64 (M.length:Int))),(33,.v (.int .i64 (j.1:Int)))],
     [(92,.row 9 1 M.length true (iC M)),(190,.row 76 7 ((M.take j.1).map fun k=>fJ ⟨k.toArray⟩ ws).length false (Rh ((M.take j.1).map fun k=>fJ ⟨k.toArray⟩ ws))),(0,.row 42 12 l.length true (dX l))],[[(0,.own 0)]],191⟩) (fun j=>M.length-j.1) ⟨0,Nat.zero_le _⟩ _
     (dL.mk' [] _ _ _ rfl ⟨aj,aj,aj,aS.int rfl,aS.int rfl,trivial⟩ ⟨aF rfl,⟨_,rfl,bW.ac2 rfl (fun i hi=>absurd hi (Nat.not_lt_zero i))⟩,aF rfl,trivial⟩ rfl) ?_
    rintro⟨j,hj⟩
    dsimp only
    have lo:((M.take j).map fun k=>fJ ⟨k.toArray⟩ ws).length=j:=by rw[List.length_map,List.length_take];omega
    by_cases hjl:j<M.length
    · have hg:(M.take (j+1)).map (fun k=>fJ ⟨k.toArray⟩ ws)=(M.take j).map (fun k=>fJ ⟨k.toArray⟩ ws)++[fJ ⟨(M.getD (j:Int).toNat []).toArray⟩ ws]:=by
       rw[show M.getD (j:Int).toNat []=M.getD j []from rfl,List.getD,List.getElem?_eq_getElem hjl,List.take_add_one,List.getElem?_eq_getElem hjl,List.map_append]
       rfl
      repeat' ((conv=>whnf);first|refine K1.w ?_|refine K1.a ?_|refine K1.b ?_|refine K1.d ?_|refine K1.P1 (hcon _) rfl ?_|refine K1.z ?_|refine K1.q ?_|refine K1.bt ?_|refine K1.bf ?_|refine K1.y (fun _=>?_) (fun _=>?_)|refine iH.dec (fun _=>?_) (fun _=>?_)|refine iH.mk (fun _=>?_) (fun _=>?_))
      rotate_left
      · exact absurd (show Nat.ble _ _=false by assumption) (by rw[Bool.not_eq_false,Nat.ble_eq];omega)
      conv=>whnf
      refine⟨⟨j+1,hjl⟩,_,dL.mk' [(192,190)] _ _ _ rfl ⟨aj,aj,aj,aS.int rfl,aS.int rfl,trivial⟩ ⟨aF rfl,⟨_,rfl,bW.row ?_ (fun m hm=>?_)⟩,aF rfl,trivial⟩ rfl,by show M.length-(j+1)<M.length-j;omega⟩
      · show _=((M.take (j+1)).map fun k=>fJ ⟨k.toArray⟩ ws).length
        rw[hg,List.length_append]
        rfl
      · show _=Rh ((M.take (j+1)).map fun k=>fJ ⟨k.toArray⟩ ws) m
        rw[hg]
        exact bJ (c:=Cont.cs) rfl rfl m hm
    · rw[List.take_of_length_le (show M.length≤j by omega)]at lo⊢
      rw[hof]
      repeat' ((conv=>whnf);first|refine K1.w ?_|refine K1.u ?_|refine K1.z ?_|refine K1.y (fun _=>?_) (fun _=>?_)|fail)
      conv=>whnf
      exact⟨[],rfl,rfl,⟨aF rfl,trivial⟩,rfl,rfl,aj⟩
end
section
open Go.RowKit Go.Maps Go.Sort Go.Shelf
structure abE (rs:List (ByteArray×RW)) (ss:List (List UInt8)):Prop where
 up:ss.Pairwise (· < ·)
 mem: ∀x∈ss,∃p∈rs,dI p.1=x
 all: ∀p∈rs,0<p.2.n→dI p.1∈ss
 len:ss.length≤rs.length
theorem abG {l:List (List UInt8)} (hn:l.Nodup):(l.mergeSort fun x y=>decide (x≤y)).Pairwise (· < ·):=by
 have tr: ∀a b c:List UInt8,leB a b=true→leB b c=true→leB a c=true:=fun a b c h1 h2=>by simp only[leB,decide_eq_true_eq]at*;exact List.le_trans h1 h2
 have to: ∀a b:List UInt8,(leB a b||leB b a)=true:=fun a b=>by simp only[leB,Bool.or_eq_true,decide_eq_true_eq];exact List.le_total a b
 have h1:=List.pairwise_mergeSort tr to l
 have h2:(l.mergeSort leB).Nodup:=(List.mergeSort_perm l leB).nodup_iff.2 hn
 refine(h1.and h2).imp fun{a b} h=>?_
 simp only[leB,decide_eq_true_eq]at h
 rcases Decidable.em (a<b)with h'|h'
 · exact h'
 · exact absurd (List.le_antisymm h.1 (List.not_lt.1 h')) h.2
def Ei:Value→Option (DataW Unit×List MemPlace):=fun _=>some (.nil,[])
def UE (v:Value):List UInt8:=match v with| .string b=>dI b|_=>[]
theorem adt {X:CX} {i:Nat} {t:TypeId} {rs:List (ByteArray×RW)} (h:bn X i (.mp t [] rs)) (hky: ∀p∈rs,p.1.size≤9223372036854775807) (hl:rs.length≤9223372036854775807):
  ∃b hs D0,X.ρ i= .tuple (.map (some b):: .map (some b)::hs).toArray∧X.w.ownsMap Tryz.prog 9 Ei b rs.length D0∧Maps.size D0≤rs.length∧(strKeys D0).length≤rs.length∧(strKeys D0).Nodup∧(∀x∈strKeys D0,∃p∈rs,dI p.1=x)∧ ∀p∈rs,0<p.2.n→dI p.1∈strKeys D0:=by
 obtain⟨b,es,c,vs,hs,e,hh,hi,hr,hp,hn,hst⟩:=h
 have hvs:vs=[]:=hi
 subst hvs
 simp only[List.map_nil,List.nil_append]at hp hn
 have hent: ∀x∈es.toList,∃p∈rs,x.key= .string p.1:=fun x hx=>by
  have:(x.key,x.val)∈lG (rs.map (·.1)) hs:=hp.mem_iff.1 (List.mem_map.2 ⟨x,hx,rfl⟩)
  obtain⟨j,k,v,h1,_,h3,_⟩:=vV this
  obtain⟨p,hp',rfl⟩:=List.mem_map.1 (List.mem_of_getElem? h1)
  exact⟨p,hp',congrArg Prod.fst h3⟩
 have hsz:es.size≤rs.length:=by
  have h1:=hp.length_eq
  have h2: ∀ (ks:List ByteArray) (vs:List Value),(lG ks vs).length≤ks.length:=by
   intro ks
   induction ks with
   |nil=>intro vs;simp[lG]
   | cons k ks ih=>
     intro vs
     cases vs with
     |nil=>simp[lG]
     | cons v vs=>
       rw[kJ,List.length_append,List.length_cons]
       have:=ih vs
       have:(Et k v).length≤1:=by unfold Et;split<;>simp
       omega
  have:=h2 (rs.map (·.1)) hs
  simp at h1 this
  omega
 have hkey: ∀x∈es.toList,WideElems.rd Tryz.prog 9 Ei x=some (.string (UE x.key),.nil):=fun x hx=>by
  obtain⟨p,hp',hk⟩:=hent x hx
  have:=WideMaps.keyOf_string_mk (P:=Tryz.prog) Tryz.underlying9 (hky p hp')
  unfold WideElems.rd
  rw[hk]
  simp[this,Ei,UE,dI]
 have F:WideElems.Fit Tryz.prog 9 Ei es c:=⟨Nat.le_trans hsz hl,hst,fun x hx=>⟨_,hkey x hx⟩⟩
 have hmap:es.toList.map (WideElems.rg Tryz.prog 9 Ei)=es.toList.map fun x=>(Lit.string (UE x.key),DataW.nil):=List.map_congr_left fun x hx=>WideElems.rg_of (hkey x hx)
 have hperm:(strKeys (.map ((es.toList.map (WideElems.rg Tryz.prog 9 Ei)).foldr DataW.insert []):DataW Unit)).Perm (es.toList.map fun x=>UE x.key):=by
  show(((es.toList.map (WideElems.rg Tryz.prog 9 Ei)).foldr DataW.insert []).map fun p=>strOf p.1).Perm _
  refine((WideShapes.sorted_perm _).map _).trans (.of_eq ?_)
  rw[hmap,List.map_map]
  rfl
 have hinj: ∀a b:ByteArray,dI a=dI b→a=b:=fun a b h=>by
  have:a.data=b.data:=Array.toList_inj.1 h
  cases a;cases b;simp at this;rw[this]
 refine⟨b,hs,_,e,⟨es,c,hh,F,hsz,rfl⟩, ?_,by rw[hperm.length_eq];simpa using hsz,hperm.nodup_iff.2 ?_,fun x hx=>?_,fun p hp' hpos=>?_⟩
 · show((es.toList.map (WideElems.rg Tryz.prog 9 Ei)).foldr DataW.insert []).length≤_
   rw[(WideShapes.sorted_perm _).length_eq];simpa using hsz
 · refine List.pairwise_map.2 (((MapKept.stamped_iff es c).1 hst).2.2.imp_of_mem fun{x y} hx hy hne he=>hne ?_)
   obtain⟨p,_,h1⟩:=hent x hx
   obtain⟨q,_,h2⟩:=hent y hy
   rw[h1,h2]at he⊢
   exact congrArg Value.string (hinj _ _ he)
 · obtain⟨y,hy,rfl⟩:=List.mem_map.1 (hperm.mem_iff.1 hx)
   obtain⟨p,hp',hk⟩:=hent y hy
   exact⟨p,hp',by rw[hk];rfl⟩
 · obtain⟨j,hj⟩:=List.getElem?_of_mem hp'
   obtain⟨v,hv,hpos'⟩: ∃v,hs[j]? =some v∧ ∀a b,v≠ .slice none a b:=by
    have key: ∀ (rs:List (ByteArray×RW)) (hs:List Value) (j:Nat),jv X rs hs→rs[j]? =some p→ ∃v,hs[j]? =some v∧ ∀a b,v≠ .slice none a b:=by
     intro rs
     induction rs with
     |nil=>intro hs j _ h;simp at h
     | cons q rs ih=>
       rintro hs j ⟨v,q',e,hrow,hq⟩ h
       subst e
       cases j with
       | zero=>
         simp at h
         subst h
         refine⟨v,rfl,fun a b hv=>?_⟩
         obtain⟨us,hown,_⟩:=hrow
         rcases hown.2 with⟨_,hz⟩|⟨g,cap,cur,hv',_⟩
         · omega
         · rw[hv']at hv;cases hv
       |succ j=>exact ih q' j hq (by simpa using h)
    exact key _ _ _ hr hj
   have hin:=Le (ks:=rs.map (·.1)) (k:=p.1) (i:=j) (by rw[List.getElem?_map,hj];rfl) hv hpos'
   obtain⟨x,hx,hxe⟩:=List.mem_map.1 (hp.mem_iff.2 hin)
   refine hperm.mem_iff.2 (List.mem_map.2 ⟨x,hx, ?_⟩)
   rw[show x.key= .string p.1 from congrArg Prod.fst hxe]
   rfl
end
section
open Go.RowKit Go.Maps Go.Sort Go.Shelf
theorem abH {X:CX} {base:Nat} {v:Value} {l:List (List UInt8)} (h:X.w.ownsRow base 9 1 v l.length (l.map encStr)):oQ X v 9 1 l.length true (iC l):=by
 refine⟨l.map encStr,⟨h.1,h.2.imp id fun⟨g,cap,cur,h1,_,h2⟩=>⟨g,cap,cur,h1,Nat.zero_le _,h2⟩⟩,by omega,fun _ _=>rfl,fun _ x hx=>?_,Yw l⟩
 rw[wJ]at hx
 obtain⟨y,_,rfl⟩:=List.mem_map.1 hx
 exact⟨_,rfl⟩
theorem Rel.strRow {g:Base} {N:Nat} {bs:List (Array Value)} {ρ:Nat→Value} {a:Act} {w w':World} {st:AS} (R:Rel g N bs ρ a w st) (d:Nat) {v:Value} {l:List (List UInt8)} (h:w'.ownsRow w.heap.size 9 1 v l.length (l.map encStr)) (hb:Below w.heap.size w w'):
  Rel g N bs (dD ρ d v) a w' (st.obj d d (.row 9 1 l.length true (iC l)))∧eP v=v:=by
 have hv: ∀X:CX,X.w=w'→oQ X v 9 1 l.length true (iC l):=fun X hX=>abH (base:=w.heap.size) (by rw[hX];exact h)
 have hh:eP v=v:=by
  obtain⟨us,ho,_⟩:=hv ⟨w',fun _=>False,fun _=>undef⟩ rfl
  exact gu ho
 refine⟨R.obj d d (R.below.then hb R.below.size) hb.size (fun b hlt _=>hb.block b hlt) (fun b hbl=>?_) (fun _=>?_) ?_,hh⟩
 · rcases h.2 with⟨rfl,_⟩|⟨g,cap,cur,rfl,hge,_⟩
   · simp[blks,jm]at hbl
   · simp[blks,jm]at hbl
     subst hbl
     exact .inl hge
 · show oQ _ (dD ρ d v d) _ _ _ _ _
   rw[show dD ρ d v d=v by simp[dD]]
   exact hv _ rfl
 · rcases h.2 with⟨rfl,_⟩|⟨g,cap,cur,rfl,hge,_⟩<;>simp[blks,jm]
theorem PX {X:CX} {h:List (Nat×AO)} {ib b:Nat} {t:TypeId} {cs:List AV} {args:List Value} {f:FuncId} (_ho: ∀p∈h,bn X p.1 p.2) (_hb:aP ib h=some (.box t cs)) (e:X.ρ ib= .pointer (some ⟨b,0,none⟩)) (hargs:aI (C2 X) [.fn f [.box ib 0]] args):args=[.func (.func f) #[] #[.pointer (some ⟨b,0,none⟩)]]:=by
 cases args with
 |nil=>have:=hargs.1;simp at this
 | cons a0 tl=>
   cases tl with
   |cons=>have:=hargs.1;simp at this
   | nil =>
     obtain⟨cs,h0,hcs⟩: ∃us:List Value,a0= .func (.func f) #[] us.toArray∧aI (C0 X) [.box ib 0] us:=hargs.2 0 _ _ rfl rfl
     subst h0
     cases cs with
     |nil=>have:=hcs.1;simp at this
     | cons p tl=>
       cases tl with
       |cons=>have:=hcs.1;simp at this
       | nil=>
         obtain⟨b0,h1,h2⟩: ∃b0,eP (X.ρ ib)= .pointer (some ⟨b0,0,none⟩)∧p= .pointer (some ⟨b0,0,none⟩):=hcs.2 0 _ _ rfl rfl
         rw[e]at h1
         cases h1
         subst h2
         rfl
theorem dK.sorted {L:Lay} {W:Walk} {d:Nat} {st:AS} {K:AV→AS→Prop} (j ib id:Nat) {t mt:TypeId} {rs:List (ByteArray×RW)} (hb:aP ib st.heap=some (.box t [.own id])) (hf:aP id st.heap=some (.mp mt [] rs)) (hky: ∀p∈rs,p.1.size≤9223372036854775807) (hl:rs.length≤1000000000)
  (hK: ∀ss,abE rs ss→K (.own j) (st.obj j j (.row 9 1 ss.length true (iC ss)))):
  dK Tryz.prog L W d 89 [.fn 121 [.box ib 0]] st K:=by
 refine .sem ⟨_,_,Tryz.func89,rfl,rfl⟩ fun g N bs ρ a w args R hargs=>?_
 obtain⟨b,us,e,hh,hc⟩:=R.objs _ (ay hb)
 obtain⟨bm,hs,D0,em,hown,hsz,hlk,hnd,hmem,hall⟩:=adt (R.objs _ (ay hf)) hky (by omega)
 have e:ρ ib=_:=e
 have em:ρ id=_:=em
 have hh:w.heap[b]? =_:=hh
 have hown:w.ownsMap _ _ _ _ _ _:=hown
 obtain⟨u,hu,hxu⟩:=hc.get (i:=0) rfl
 have hxu:u=eP (ρ id):=hxu
 rw[em]at hxu
 have hxu:u= .map (some bm):=hxu
 subst hxu
 have hcell:w.cell? ⟨b,0,none⟩=some (.map (some bm)):=(nP (i:=0) hh).1.trans hu
 have hlt:b<w.heap.size:=by
  rcases Nat.lt_or_ge b w.heap.size with h'|h'
  · exact h'
  · rw[Array.getElem?_eq_none h']at hh;cases hh
 obtain rfl:=PX R.objs hb e hargs
 have hseq:SeqGives Fence.wide 2 Tryz.prog 121 #[.pointer (some ⟨b,0,none⟩)] encStr (fun ss=>ss.Perm (strKeys D0)) (Maps.size D0) w:=
  AnyZ.keys_gives (ρ:=Tryz.keys90_ren) {Tryz.keys90 with} Fence.wide _ trivial rfl (by omega) b bm rs.length D0 w hlt hcell hown
 have hso:=AnyZ.sorted_in Tryz.sorted89 Fence.wide 5 trivial trivial trivial trivial rfl (by omega) (Tryz.sorts89 _) (enters_of Tryz.func120 (by kernel_rfl) rfl) 121 #[.pointer (some ⟨b,0,none⟩)] trivial (enters_of Tryz.func121 (by kernel_rfl) rfl) _ _ (Nat.le_trans hsz (by unfold maxLen;omega)) (by omega) w hseq
 refine(callsIn_wide.1 hso).mono ?_
 rintro e0 w' ⟨v,ss,rfl,hS,hrow,_,hbel⟩
 have hlen:(ss.mergeSort fun x y=>decide (x≤y)).length=ss.length:=List.length_mergeSort ..
 rw[←hlen]at hrow
 obtain⟨R',hv⟩:=R.strRow j hrow hbel
 have hp:(ss.mergeSort fun x y=>decide (x≤y)).Perm (strKeys D0):=(List.mergeSort_perm _ _).trans hS
 refine⟨v,_,_,_,rfl,hK _ ⟨abG (hS.nodup_iff.2 hnd),fun x hx=>hmem x (hp.mem_iff.1 hx),fun p hp' hpos=>hp.mem_iff.2 (hall p hp' hpos),by rw[hp.length_eq];exact hlk⟩,R', ?_⟩
 show v=eP (dD ρ j v j)
 rw[show dD ρ j v j=v by simp[dD],hv]
theorem dK.abI {L:Lay} {W:Walk} {d:Nat} {st:AS} {K:AV→AS→Prop} (j ib:Nat) {t:TypeId} (hb:aP ib st.heap=some (.box t [.v (.map none)]))
  (hK:K (.own j) (st.obj j j (.row 9 1 0 true (iC [])))):
  dK Tryz.prog L W d 89 [.fn 121 [.box ib 0]] st K:=by
 refine .sem ⟨_,_,Tryz.func89,rfl,rfl⟩ fun g N bs ρ a w args R hargs=>?_
 obtain⟨b,us,e,hh,hc⟩:=R.objs _ (ay hb)
 have e:ρ ib=_:=e
 have hh:w.heap[b]? =_:=hh
 obtain⟨u,hu,hxu⟩:=hc.get (i:=0) rfl
 have hxu:u= .map none:=hxu
 subst hxu
 have hcell:w.cell? ⟨b,0,none⟩=some (.map none):=(nP (i:=0) hh).1.trans hu
 have hlt:b<w.heap.size:=by
  rcases Nat.lt_or_ge b w.heap.size with h'|h'
  · exact h'
  · rw[Array.getElem?_eq_none h']at hh;cases hh
 obtain rfl:=PX R.objs hb e hargs
 have hseq:SeqGives Fence.wide 2 Tryz.prog 121 #[.pointer (some ⟨b,0,none⟩)] encStr (fun ss:List (List UInt8)=>ss=[]) 0 w:=
  AnyZ.keys_gives_nil (ρ:=Tryz.keys90_ren) {Tryz.keys90 with} Fence.wide _ trivial rfl b w hlt hcell
 have hso:=AnyZ.sorted_in Tryz.sorted89 Fence.wide 5 trivial trivial trivial trivial rfl (by omega) (Tryz.sorts89 _) (enters_of Tryz.func120 (by kernel_rfl) rfl) 121 #[.pointer (some ⟨b,0,none⟩)] trivial (enters_of Tryz.func121 (by kernel_rfl) rfl) _ 0 (Nat.zero_le _) (by omega) w hseq
 refine(callsIn_wide.1 hso).mono ?_
 rintro e0 w' ⟨v,ss,rfl,rfl,hrow,_,hbel⟩
 rw[List.mergeSort_nil]at hrow
 have hrow:w'.ownsRow w.heap.size 9 1 v ([]:List (List UInt8)).length (([]:List (List UInt8)).map encStr):=hrow
 obtain⟨R',hv⟩:=R.strRow (l:=[]) j hrow hbel
 refine⟨v,_,_,_,rfl,hK,R', ?_⟩
 show v=eP (dD ρ j v j)
 rw[show dD ρ j v j=v by simp[dD],hv]
end
end Go.Proofs.YtimhagicagdkfaaGreat
