/-
  Contracts of the walk:BkM,BkX2,LvT,LvV.
-/
import Derived.Test.YtimhagicagdkfaaGreatNi6
import Derived.Test.YtimhagicagdkfaaGreatNi8
import Derived.Test.YtimhagicagdkfaaGreatNi22
import Derived.Test.YtimhagicagdkfaaGreatNi23
import Derived.Test.YtimhagicagdkfaaGreatNi18
set_option maxHeartbeats 16000000
set_option maxRecDepth 100000
set_option linter.unusedVariables false
set_option linter.unusedSimpArgs false
namespace Go.Proofs.YtimhagicagdkfaaGreat
section
open Go.RowKit
theorem Q8 (d:Nat) (l:List Ev) (hl:l.length≤1000000000) (r:Ev) (rs:List Ev) (hr:aC l=r::rs):
  aG Tryz.prog 122 [.sl 12 l.length true (eG l)] (.own d) [(d,.row 42 12 (rs.length+1) true (eG (r::rs)))]:=by
 refine K1.E 0x800f5d Tryz.func122 ?_
 repeat' ((conv=>whnf);first|refine K1.w ?_|refine K1.u ?_|refine aJ.dR ?_|refine K1.z ?_|refine K1.y (fun _=>?_) (fun _=>?_)|fail)
 conv=>whnf
 refine aN.mk (KQ (bK l) l) (fun x=>match x with
   | ⟨(j,[]),_⟩=>⟨[(0,.sl 12 l.length true (eG l)),(3,.box 0 0),(4,.v (.slice none 0 0)),(8,.sl 12 l.length true (eG l)),(9,.v (.int .i64 (l.length:Int))),(10,.v (.int .i64 (j:Int)))],
      [(0,.box 215 [.v (.int .i64 2),.v (.func (.func 148) #[] #[])])],[],1⟩
   | ⟨(j,y::ys),_⟩=>⟨[(0,.sl 12 l.length true (eG l)),(3,.box 0 0),(4,.own 90),(8,.sl 12 l.length true (eG l)),(9,.v (.int .i64 (l.length:Int))),(10,.v (.int .i64 (j:Int)))],
      [(0,.box 215 [.v (.int .i64 2),.v (.func (.func 148) #[] #[])]),(90,.row 42 12 (ys.length+1) true (eG (y::ys)))],[],91⟩) (fun x=>l.length-x.1.1) ⟨(0,[]),Nat.zero_le _,rfl⟩ _
   (dO.mk' [] _ _ _ rfl ⟨aj,aj,aj,aj,aT.int rfl,aT.int rfl,trivial⟩ ⟨aH rfl,trivial⟩ rfl) ?_
 rintro⟨⟨j,ys⟩,hj,hys⟩
 dsimp only at hj hys
 rcases ys with _|⟨y,ys⟩
 · dsimp only
   by_cases hjl:j<l.length
   · have hab:=kN 2 148 eU jT l (l.getD (j:Int).toNat default) (by omega)
     have hft:=dB (p:=bK l) hjl
     rw[←hys,List.nil_append]at hft
     have hlv:bK l (l.getD j default)=(decide ((l.getD (j:Int).toNat default).k=1)&& !fC 2 eU l (l.getD (j:Int).toNat default)):=by rw[show(j:Int).toNat=j by omega];rfl
     rw[hlv]at hft
     generalize fC 2 eU l (l.getD (j:Int).toNat default)=q at hab hft
     have hk0: ¬ (l.getD (j:Int).toNat default).k=1→([]:List Ev)=(l.take (j+1)).filter (bK l):=fun h=>by rw[hft,decide_eq_false h];simp
     have hq0:q=true→([]:List Ev)=(l.take (j+1)).filter (bK l):=fun h=>by rw[hft,h];simp
     have hq1:(l.getD (j:Int).toNat default).k=1→q=false→[l.getD j default]=(l.take (j+1)).filter (bK l):=fun h h'=>by rw[hft,decide_eq_true h,h'];simp
     clear hft hlv
     dsimp only[Ev.av,Ev.cs]at hab⊢
     repeat' ((conv=>whnf);first|refine K1.w ?_|refine K1.u ?_|refine K1.P1 hab rfl ?_|refine aJ.dR ?_|refine K1.z ?_|refine K1.y (fun _=>?_) (fun _=>?_)|fail)
     all_goals(conv=>whnf)
     all_goals first
       |exact⟨⟨(j+1,[]),hjl,by first|exact hk0 (by assumption)|exact hq0 (by assumption)⟩,_,dO.mk' [] _ _ _ rfl ⟨aj,aj,aj,aj,aT.int rfl,aT.int rfl,trivial⟩ ⟨aH rfl,trivial⟩ rfl,by show l.length-(j+1)<l.length-j;omega⟩
       | (refine⟨⟨(j+1,[l.getD j default]),hjl,hq1 (by assumption) (by assumption)⟩,_,dO.mk' [(3,90)] _ _ _ rfl ⟨aj,aj,aj,aj,aT.int rfl,aT.int rfl,trivial⟩ ⟨aH rfl,⟨_,rfl,cO.row rfl (fun m hm=>?_)⟩,trivial⟩ rfl,by show l.length-(j+1)<l.length-j;omega⟩
          have hm:m<1:=hm
          obtain rfl:m=0:=by omega
          rfl)
   · have e:aC l=[]:=by rw[hys,List.take_of_length_le (by omega)];rfl
     rw[hr]at e
     cases e
 · dsimp only
   have hyl:ys.length+1≤j:=by
    have h1:=congrArg List.length hys
    have h2:=List.length_filter_le (bK l) (l.take j)
    rw[List.length_take]at h2
    rw[List.length_cons]at h1
    omega
   by_cases hjl:j<l.length
   · have hab:=kN 2 148 eU jT l (l.getD (j:Int).toNat default) (by omega)
     have hft:=dB (p:=bK l) hjl
     rw[←hys]at hft
     have hlv:bK l (l.getD j default)=(decide ((l.getD (j:Int).toNat default).k=1)&& !fC 2 eU l (l.getD (j:Int).toNat default)):=by rw[show(j:Int).toNat=j by omega];rfl
     rw[hlv]at hft
     generalize fC 2 eU l (l.getD (j:Int).toNat default)=q at hab hft
     have hk0: ¬ (l.getD (j:Int).toNat default).k=1→y::ys=(l.take (j+1)).filter (bK l):=fun h=>by rw[hft,decide_eq_false h];simp
     have hq0:q=true→y::ys=(l.take (j+1)).filter (bK l):=fun h=>by rw[hft,h];simp
     have hq1:(l.getD (j:Int).toNat default).k=1→q=false→y::(ys++[l.getD j default])=(l.take (j+1)).filter (bK l):=fun h h'=>by rw[hft,decide_eq_true h,h'];simp
     clear hft hlv
     dsimp only[Ev.av,Ev.cs]at hab⊢
     repeat' ((conv=>whnf);first|refine K1.w ?_|refine K1.u ?_|refine K1.P1 hab rfl ?_|refine aJ.dR ?_|refine K1.z ?_|refine K1.y (fun _=>?_) (fun _=>?_)|fail)
     all_goals(conv=>whnf)
     all_goals first
       |exact⟨⟨(j+1,y::ys),hjl,by first|exact hk0 (by assumption)|exact hq0 (by assumption)⟩,_,dO.mk' [] _ _ _ rfl ⟨aj,aj,aj,aj,aT.int rfl,aT.int rfl,trivial⟩ ⟨aH rfl,aH rfl,trivial⟩ rfl,by show l.length-(j+1)<l.length-j;omega⟩
       | (refine⟨⟨(j+1,y::(ys++[l.getD j default])),hjl,hq1 (by assumption) (by assumption)⟩,_,dO.mk' [(93,90)] _ _ _ rfl ⟨aj,aj,aj,aj,aT.int rfl,aT.int rfl,trivial⟩ ⟨aH rfl,⟨_,rfl,cO.row (by simp) (fun m hm=>?_)⟩,trivial⟩ rfl,by show l.length-(j+1)<l.length-j;omega⟩
          exact bJ (c:=Ev.cs) (l:=y::ys) rfl rfl m hm)
   · have e:aC l=y::ys:=by rw[hys,List.take_of_length_le (by omega)];rfl
     rw[hr]at e
     cases e
     repeat' ((conv=>whnf);first|refine K1.w ?_|refine K1.u ?_|refine aJ.qo d rfl rfl (cO.refl _) (aj)|refine K1.z ?_|refine K1.y (fun _=>?_) (fun _=>?_)|fail)
theorem Q9 (l:List Ev) (hl:l.length≤1000000000) (hr:aC l=[]):
  aG Tryz.prog 122 [.sl 12 l.length true (eG l)] (.v (.slice none 0 0)) []:=by
 refine K1.E 0x800f5d Tryz.func122 ?_
 repeat' ((conv=>whnf);first|refine K1.w ?_|refine K1.u ?_|refine aJ.dR ?_|refine K1.z ?_|refine K1.y (fun _=>?_) (fun _=>?_)|fail)
 conv=>whnf
 refine aN.mk (KQ (bK l) l) (fun x=>match x with
   | ⟨(j,[]),_⟩=>⟨[(0,.sl 12 l.length true (eG l)),(3,.box 0 0),(4,.v (.slice none 0 0)),(8,.sl 12 l.length true (eG l)),(9,.v (.int .i64 (l.length:Int))),(10,.v (.int .i64 (j:Int)))],
      [(0,.box 215 [.v (.int .i64 2),.v (.func (.func 148) #[] #[])])],[],1⟩
   | ⟨(j,y::ys),_⟩=>⟨[(0,.sl 12 l.length true (eG l)),(3,.box 0 0),(4,.own 90),(8,.sl 12 l.length true (eG l)),(9,.v (.int .i64 (l.length:Int))),(10,.v (.int .i64 (j:Int)))],
      [(0,.box 215 [.v (.int .i64 2),.v (.func (.func 148) #[] #[])]),(90,.row 42 12 (ys.length+1) true (eG (y::ys)))],[],91⟩) (fun x=>l.length-x.1.1) ⟨(0,[]),Nat.zero_le _,rfl⟩ _
   (dO.mk' [] _ _ _ rfl ⟨aj,aj,aj,aj,aT.int rfl,aT.int rfl,trivial⟩ ⟨aH rfl,trivial⟩ rfl) ?_
 rintro⟨⟨j,ys⟩,hj,hys⟩
 dsimp only at hj hys
 rcases ys with _|⟨y,ys⟩
 · dsimp only
   by_cases hjl:j<l.length
   · have hab:=kN 2 148 eU jT l (l.getD (j:Int).toNat default) (by omega)
     have hft:=dB (p:=bK l) hjl
     rw[←hys,List.nil_append]at hft
     have hlv:bK l (l.getD j default)=(decide ((l.getD (j:Int).toNat default).k=1)&& !fC 2 eU l (l.getD (j:Int).toNat default)):=by rw[show(j:Int).toNat=j by omega];rfl
     rw[hlv]at hft
     generalize fC 2 eU l (l.getD (j:Int).toNat default)=q at hab hft
     have hk0: ¬ (l.getD (j:Int).toNat default).k=1→([]:List Ev)=(l.take (j+1)).filter (bK l):=fun h=>by rw[hft,decide_eq_false h];simp
     have hq0:q=true→([]:List Ev)=(l.take (j+1)).filter (bK l):=fun h=>by rw[hft,h];simp
     have hq1:(l.getD (j:Int).toNat default).k=1→q=false→[l.getD j default]=(l.take (j+1)).filter (bK l):=fun h h'=>by rw[hft,decide_eq_true h,h'];simp
     clear hft hlv
     dsimp only[Ev.av,Ev.cs]at hab⊢
     repeat' ((conv=>whnf);first|refine K1.w ?_|refine K1.u ?_|refine K1.P1 hab rfl ?_|refine aJ.dR ?_|refine K1.z ?_|refine K1.y (fun _=>?_) (fun _=>?_)|fail)
     all_goals(conv=>whnf)
     all_goals first
       |exact⟨⟨(j+1,[]),hjl,by first|exact hk0 (by assumption)|exact hq0 (by assumption)⟩,_,dO.mk' [] _ _ _ rfl ⟨aj,aj,aj,aj,aT.int rfl,aT.int rfl,trivial⟩ ⟨aH rfl,trivial⟩ rfl,by show l.length-(j+1)<l.length-j;omega⟩
       | (refine⟨⟨(j+1,[l.getD j default]),hjl,hq1 (by assumption) (by assumption)⟩,_,dO.mk' [(3,90)] _ _ _ rfl ⟨aj,aj,aj,aj,aT.int rfl,aT.int rfl,trivial⟩ ⟨aH rfl,⟨_,rfl,cO.row rfl (fun m hm=>?_)⟩,trivial⟩ rfl,by show l.length-(j+1)<l.length-j;omega⟩
          have hm:m<1:=hm
          obtain rfl:m=0:=by omega
          rfl)
   · have e:aC l=[]:=by rw[hys,List.take_of_length_le (by omega)];rfl
     repeat' ((conv=>whnf);first|refine K1.w ?_|refine K1.u ?_|refine aJ.dR ?_|refine K1.z ?_|refine K1.y (fun _=>?_) (fun _=>?_)|fail)
     conv=>whnf
     exact bG.mk (aj)
 · dsimp only
   have hyl:ys.length+1≤j:=by
    have h1:=congrArg List.length hys
    have h2:=List.length_filter_le (bK l) (l.take j)
    rw[List.length_take]at h2
    rw[List.length_cons]at h1
    omega
   by_cases hjl:j<l.length
   · have hab:=kN 2 148 eU jT l (l.getD (j:Int).toNat default) (by omega)
     have hft:=dB (p:=bK l) hjl
     rw[←hys]at hft
     have hlv:bK l (l.getD j default)=(decide ((l.getD (j:Int).toNat default).k=1)&& !fC 2 eU l (l.getD (j:Int).toNat default)):=by rw[show(j:Int).toNat=j by omega];rfl
     rw[hlv]at hft
     generalize fC 2 eU l (l.getD (j:Int).toNat default)=q at hab hft
     have hk0: ¬ (l.getD (j:Int).toNat default).k=1→y::ys=(l.take (j+1)).filter (bK l):=fun h=>by rw[hft,decide_eq_false h];simp
     have hq0:q=true→y::ys=(l.take (j+1)).filter (bK l):=fun h=>by rw[hft,h];simp
     have hq1:(l.getD (j:Int).toNat default).k=1→q=false→y::(ys++[l.getD j default])=(l.take (j+1)).filter (bK l):=fun h h'=>by rw[hft,decide_eq_true h,h'];simp
     clear hft hlv
     dsimp only[Ev.av,Ev.cs]at hab⊢
     repeat' ((conv=>whnf);first|refine K1.w ?_|refine K1.u ?_|refine K1.P1 hab rfl ?_|refine aJ.dR ?_|refine K1.z ?_|refine K1.y (fun _=>?_) (fun _=>?_)|fail)
     all_goals(conv=>whnf)
     all_goals first
       |exact⟨⟨(j+1,y::ys),hjl,by first|exact hk0 (by assumption)|exact hq0 (by assumption)⟩,_,dO.mk' [] _ _ _ rfl ⟨aj,aj,aj,aj,aT.int rfl,aT.int rfl,trivial⟩ ⟨aH rfl,aH rfl,trivial⟩ rfl,by show l.length-(j+1)<l.length-j;omega⟩
       | (refine⟨⟨(j+1,y::(ys++[l.getD j default])),hjl,hq1 (by assumption) (by assumption)⟩,_,dO.mk' [(93,90)] _ _ _ rfl ⟨aj,aj,aj,aj,aT.int rfl,aT.int rfl,trivial⟩ ⟨aH rfl,⟨_,rfl,cO.row (by simp) (fun m hm=>?_)⟩,trivial⟩ rfl,by show l.length-(j+1)<l.length-j;omega⟩
          exact bJ (c:=Ev.cs) (l:=y::ys) rfl rfl m hm)
   · have e:aC l=y::ys:=by rw[hys,List.take_of_length_le (by omega)];rfl
     rw[hr]at e
     cases e
theorem LV (d:Nat) (l cr:List Ev) (hl:l.length≤1000000000) (hc:cr.length≤1000000000) (r:Ev) (rs:List Ev) (hr:bI l cr=r::rs):
  aG Tryz.prog 123 [.sl 12 l.length true (eG l),.sl 12 cr.length true (eG cr)] (.own d) [(d,.row 42 12 (rs.length+1) true (eG (r::rs)))]:=by
 refine K1.E 0x4004218f2f3 Tryz.func123 ?_
 repeat' ((conv=>whnf);first|refine K1.w ?_|refine K1.u ?_|refine aJ.dR ?_|refine K1.z ?_|refine K1.y (fun _=>?_) (fun _=>?_)|fail)
 conv=>whnf
 refine aN.mk (KQ (countB l cr) l) (fun x=>match x with
   | ⟨(j,[]),_⟩=>⟨[(0,.sl 12 l.length true (eG l)),(1,.sl 12 cr.length true (eG cr)),(5,.box 0 0),(6,.box 1 0),(7,.v (.slice none 0 0)),(12,.sl 12 l.length true (eG l)),(13,.v (.int .i64 (l.length:Int))),(14,.v (.int .i64 (j:Int)))],
      [(0,.box 215 [.v (.int .i64 1),.v (.func (.func 148) #[] #[])]),(1,.box 215 [.v (.int .i64 5),.v (.func (.func 150) #[] #[])])],[],2⟩
   | ⟨(j,y::ys),_⟩=>⟨[(0,.sl 12 l.length true (eG l)),(1,.sl 12 cr.length true (eG cr)),(5,.box 0 0),(6,.box 1 0),(7,.own 90),(12,.sl 12 l.length true (eG l)),(13,.v (.int .i64 (l.length:Int))),(14,.v (.int .i64 (j:Int)))],
      [(0,.box 215 [.v (.int .i64 1),.v (.func (.func 148) #[] #[])]),(1,.box 215 [.v (.int .i64 5),.v (.func (.func 150) #[] #[])]),(90,.row 42 12 (ys.length+1) true (eG (y::ys)))],[],91⟩) (fun x=>l.length-x.1.1) ⟨(0,[]),Nat.zero_le _,rfl⟩ _
   (dO.mk' [] _ _ _ rfl ⟨aj,aj,aj,aj,aj,aj,aT.int rfl,aT.int rfl,trivial⟩ ⟨aH rfl,aH rfl,trivial⟩ rfl) ?_
 rintro⟨⟨j,ys⟩,hj,hys⟩
 dsimp only at hj hys
 rcases ys with _|⟨y,ys⟩
 · dsimp only
   by_cases hjl:j<l.length
   · have hab:=kN 5 150 jd uh l (l.getD (j:Int).toNat default) (by omega)
     have hun:=uj 1 148 eU jT cr (l.getD (j:Int).toNat default) (by omega)
     have hft:=dB (p:=countB l cr) hjl
     rw[←hys,List.nil_append]at hft
     have hlv:countB l cr (l.getD j default)=((decide ((l.getD (j:Int).toNat default).k=3)||(decide ((l.getD (j:Int).toNat default).k=4)&& !fC 5 jd l (l.getD (j:Int).toNat default)))&&gY 1 eU cr (l.getD (j:Int).toNat default)):=by rw[show(j:Int).toNat=j by omega];rfl
     rw[hlv]at hft
     generalize fC 5 jd l (l.getD (j:Int).toNat default)=q1 at hab hft
     generalize gY 1 eU cr (l.getD (j:Int).toNat default)=q2 at hun hft
     have n1: ¬ (l.getD (j:Int).toNat default).k=3→ ¬ (l.getD (j:Int).toNat default).k=4→([]:List Ev)=(l.take (j+1)).filter (countB l cr):=fun h h'=>by rw[hft,decide_eq_false h,decide_eq_false h'];simp
     have n2:q2=false→([]:List Ev)=(l.take (j+1)).filter (countB l cr):=fun h=>by rw[hft,h];simp
     have n3:(l.getD (j:Int).toNat default).k=4→q1=true→([]:List Ev)=(l.take (j+1)).filter (countB l cr):=fun h h'=>by rw[hft,decide_eq_false (show¬ (l.getD (j:Int).toNat default).k=3 by omega),h'];simp
     have y1:(l.getD (j:Int).toNat default).k=3→q2=true→[l.getD j default]=(l.take (j+1)).filter (countB l cr):=fun h h'=>by rw[hft,decide_eq_true h,h'];simp
     have y2:(l.getD (j:Int).toNat default).k=4→q1=false→q2=true→[l.getD j default]=(l.take (j+1)).filter (countB l cr):=fun h h' h2=>by rw[hft,decide_eq_true h,h',h2];simp
     clear hft hlv
     dsimp only[Ev.av,Ev.cs]at hab hun⊢
     repeat' ((conv=>whnf);first|refine K1.w ?_|refine K1.u ?_|refine K1.P1 hab rfl ?_|refine K1.P1 hun rfl ?_|refine aJ.dR ?_|refine K1.z ?_|refine K1.y (fun _=>?_) (fun _=>?_)|fail)
     all_goals(conv=>whnf)
     all_goals first
       |exact⟨⟨(j+1,([]:List Ev)),hjl,by first|exact n1 (by assumption) (by assumption)|exact n2 (by assumption)|exact n3 (by assumption) (by assumption)⟩,_,dO.mk' [] _ _ _ rfl ⟨aj,aj,aj,aj,aj,aj,aT.int rfl,aT.int rfl,trivial⟩ ⟨aH rfl,aH rfl,trivial⟩ rfl,by show l.length-(j+1)<l.length-j;omega⟩
       | (refine⟨⟨(j+1,[l.getD j default]),hjl,by first|exact y1 (by assumption) (by assumption)|exact y2 (by assumption) (by assumption) (by assumption)⟩,_,dO.mk' [(4,90)] _ _ _ rfl ⟨aj,aj,aj,aj,aj,aj,aT.int rfl,aT.int rfl,trivial⟩ ⟨aH rfl,aH rfl,⟨_,rfl,cO.row (by simp) (fun m hm=>?_)⟩,trivial⟩ rfl,by show l.length-(j+1)<l.length-j;omega⟩
          have hm:m<1:=hm
          obtain rfl:m=0:=by omega
          rfl)
   · have e:bI l cr=([]:List Ev):=by rw[hys,List.take_of_length_le (by omega)];rfl
     rw[hr]at e
     cases e
 · dsimp only
   have hyl:ys.length+1≤j:=by
    have h1:=congrArg List.length hys
    have h2:=List.length_filter_le (countB l cr) (l.take j)
    rw[List.length_take]at h2
    rw[List.length_cons]at h1
    omega
   by_cases hjl:j<l.length
   · have hab:=kN 5 150 jd uh l (l.getD (j:Int).toNat default) (by omega)
     have hun:=uj 1 148 eU jT cr (l.getD (j:Int).toNat default) (by omega)
     have hft:=dB (p:=countB l cr) hjl
     rw[←hys]at hft
     have hlv:countB l cr (l.getD j default)=((decide ((l.getD (j:Int).toNat default).k=3)||(decide ((l.getD (j:Int).toNat default).k=4)&& !fC 5 jd l (l.getD (j:Int).toNat default)))&&gY 1 eU cr (l.getD (j:Int).toNat default)):=by rw[show(j:Int).toNat=j by omega];rfl
     rw[hlv]at hft
     generalize fC 5 jd l (l.getD (j:Int).toNat default)=q1 at hab hft
     generalize gY 1 eU cr (l.getD (j:Int).toNat default)=q2 at hun hft
     have n1: ¬ (l.getD (j:Int).toNat default).k=3→ ¬ (l.getD (j:Int).toNat default).k=4→y::ys=(l.take (j+1)).filter (countB l cr):=fun h h'=>by rw[hft,decide_eq_false h,decide_eq_false h'];simp
     have n2:q2=false→y::ys=(l.take (j+1)).filter (countB l cr):=fun h=>by rw[hft,h];simp
     have n3:(l.getD (j:Int).toNat default).k=4→q1=true→y::ys=(l.take (j+1)).filter (countB l cr):=fun h h'=>by rw[hft,decide_eq_false (show¬ (l.getD (j:Int).toNat default).k=3 by omega),h'];simp
     have y1:(l.getD (j:Int).toNat default).k=3→q2=true→y::(ys++[l.getD j default])=(l.take (j+1)).filter (countB l cr):=fun h h'=>by rw[hft,decide_eq_true h,h'];simp
     have y2:(l.getD (j:Int).toNat default).k=4→q1=false→q2=true→y::(ys++[l.getD j default])=(l.take (j+1)).filter (countB l cr):=fun h h' h2=>by rw[hft,decide_eq_true h,h',h2];simp
     clear hft hlv
     dsimp only[Ev.av,Ev.cs]at hab hun⊢
     repeat' ((conv=>whnf);first|refine K1.w ?_|refine K1.u ?_|refine K1.P1 hab rfl ?_|refine K1.P1 hun rfl ?_|refine aJ.dR ?_|refine K1.z ?_|refine K1.y (fun _=>?_) (fun _=>?_)|fail)
     all_goals(conv=>whnf)
     all_goals first
       |exact⟨⟨(j+1,y::ys),hjl,by first|exact n1 (by assumption) (by assumption)|exact n2 (by assumption)|exact n3 (by assumption) (by assumption)⟩,_,dO.mk' [] _ _ _ rfl ⟨aj,aj,aj,aj,aj,aj,aT.int rfl,aT.int rfl,trivial⟩ ⟨aH rfl,aH rfl,aH rfl,trivial⟩ rfl,by show l.length-(j+1)<l.length-j;omega⟩
       | (refine⟨⟨(j+1,y::(ys++[l.getD j default])),hjl,by first|exact y1 (by assumption) (by assumption)|exact y2 (by assumption) (by assumption) (by assumption)⟩,_,dO.mk' [(93,90)] _ _ _ rfl ⟨aj,aj,aj,aj,aj,aj,aT.int rfl,aT.int rfl,trivial⟩ ⟨aH rfl,aH rfl,⟨_,rfl,cO.row (by simp) (fun m hm=>?_)⟩,trivial⟩ rfl,by show l.length-(j+1)<l.length-j;omega⟩
          exact bJ (c:=Ev.cs) (l:=y::ys) rfl rfl m hm)
   · have e:bI l cr=y::ys:=by rw[hys,List.take_of_length_le (by omega)];rfl
     rw[hr]at e
     cases e
     repeat' ((conv=>whnf);first|refine K1.w ?_|refine K1.u ?_|refine aJ.qo d rfl rfl (cO.refl _) (aj)|refine K1.z ?_|refine K1.y (fun _=>?_) (fun _=>?_)|fail)
theorem LW (l cr:List Ev) (hl:l.length≤1000000000) (hc:cr.length≤1000000000) (hr:bI l cr=[]):
  aG Tryz.prog 123 [.sl 12 l.length true (eG l),.sl 12 cr.length true (eG cr)] (.v (.slice none 0 0)) []:=by
 refine K1.E 0x4004218f2f3 Tryz.func123 ?_
 repeat' ((conv=>whnf);first|refine K1.w ?_|refine K1.u ?_|refine aJ.dR ?_|refine K1.z ?_|refine K1.y (fun _=>?_) (fun _=>?_)|fail)
 conv=>whnf
 refine aN.mk (KQ (countB l cr) l) (fun x=>match x with
   | ⟨(j,[]),_⟩=>⟨[(0,.sl 12 l.length true (eG l)),(1,.sl 12 cr.length true (eG cr)),(5,.box 0 0),(6,.box 1 0),(7,.v (.slice none 0 0)),(12,.sl 12 l.length true (eG l)),(13,.v (.int .i64 (l.length:Int))),(14,.v (.int .i64 (j:Int)))],
      [(0,.box 215 [.v (.int .i64 1),.v (.func (.func 148) #[] #[])]),(1,.box 215 [.v (.int .i64 5),.v (.func (.func 150) #[] #[])])],[],2⟩
   | ⟨(j,y::ys),_⟩=>⟨[(0,.sl 12 l.length true (eG l)),(1,.sl 12 cr.length true (eG cr)),(5,.box 0 0),(6,.box 1 0),(7,.own 90),(12,.sl 12 l.length true (eG l)),(13,.v (.int .i64 (l.length:Int))),(14,.v (.int .i64 (j:Int)))],
      [(0,.box 215 [.v (.int .i64 1),.v (.func (.func 148) #[] #[])]),(1,.box 215 [.v (.int .i64 5),.v (.func (.func 150) #[] #[])]),(90,.row 42 12 (ys.length+1) true (eG (y::ys)))],[],91⟩) (fun x=>l.length-x.1.1) ⟨(0,[]),Nat.zero_le _,rfl⟩ _
   (dO.mk' [] _ _ _ rfl ⟨aj,aj,aj,aj,aj,aj,aT.int rfl,aT.int rfl,trivial⟩ ⟨aH rfl,aH rfl,trivial⟩ rfl) ?_
 rintro⟨⟨j,ys⟩,hj,hys⟩
 dsimp only at hj hys
 rcases ys with _|⟨y,ys⟩
 · dsimp only
   by_cases hjl:j<l.length
   · have hab:=kN 5 150 jd uh l (l.getD (j:Int).toNat default) (by omega)
     have hun:=uj 1 148 eU jT cr (l.getD (j:Int).toNat default) (by omega)
     have hft:=dB (p:=countB l cr) hjl
     rw[←hys,List.nil_append]at hft
     have hlv:countB l cr (l.getD j default)=((decide ((l.getD (j:Int).toNat default).k=3)||(decide ((l.getD (j:Int).toNat default).k=4)&& !fC 5 jd l (l.getD (j:Int).toNat default)))&&gY 1 eU cr (l.getD (j:Int).toNat default)):=by rw[show(j:Int).toNat=j by omega];rfl
     rw[hlv]at hft
     generalize fC 5 jd l (l.getD (j:Int).toNat default)=q1 at hab hft
     generalize gY 1 eU cr (l.getD (j:Int).toNat default)=q2 at hun hft
     have n1: ¬ (l.getD (j:Int).toNat default).k=3→ ¬ (l.getD (j:Int).toNat default).k=4→([]:List Ev)=(l.take (j+1)).filter (countB l cr):=fun h h'=>by rw[hft,decide_eq_false h,decide_eq_false h'];simp
     have n2:q2=false→([]:List Ev)=(l.take (j+1)).filter (countB l cr):=fun h=>by rw[hft,h];simp
     have n3:(l.getD (j:Int).toNat default).k=4→q1=true→([]:List Ev)=(l.take (j+1)).filter (countB l cr):=fun h h'=>by rw[hft,decide_eq_false (show¬ (l.getD (j:Int).toNat default).k=3 by omega),h'];simp
     have y1:(l.getD (j:Int).toNat default).k=3→q2=true→[l.getD j default]=(l.take (j+1)).filter (countB l cr):=fun h h'=>by rw[hft,decide_eq_true h,h'];simp
     have y2:(l.getD (j:Int).toNat default).k=4→q1=false→q2=true→[l.getD j default]=(l.take (j+1)).filter (countB l cr):=fun h h' h2=>by rw[hft,decide_eq_true h,h',h2];simp
     clear hft hlv
     dsimp only[Ev.av,Ev.cs]at hab hun⊢
     repeat' ((conv=>whnf);first|refine K1.w ?_|refine K1.u ?_|refine K1.P1 hab rfl ?_|refine K1.P1 hun rfl ?_|refine aJ.dR ?_|refine K1.z ?_|refine K1.y (fun _=>?_) (fun _=>?_)|fail)
     all_goals(conv=>whnf)
     all_goals first
       |exact⟨⟨(j+1,([]:List Ev)),hjl,by first|exact n1 (by assumption) (by assumption)|exact n2 (by assumption)|exact n3 (by assumption) (by assumption)⟩,_,dO.mk' [] _ _ _ rfl ⟨aj,aj,aj,aj,aj,aj,aT.int rfl,aT.int rfl,trivial⟩ ⟨aH rfl,aH rfl,trivial⟩ rfl,by show l.length-(j+1)<l.length-j;omega⟩
       | (refine⟨⟨(j+1,[l.getD j default]),hjl,by first|exact y1 (by assumption) (by assumption)|exact y2 (by assumption) (by assumption) (by assumption)⟩,_,dO.mk' [(4,90)] _ _ _ rfl ⟨aj,aj,aj,aj,aj,aj,aT.int rfl,aT.int rfl,trivial⟩ ⟨aH rfl,aH rfl,⟨_,rfl,cO.row (by simp) (fun m hm=>?_)⟩,trivial⟩ rfl,by show l.length-(j+1)<l.length-j;omega⟩
          have hm:m<1:=hm
          obtain rfl:m=0:=by omega
          rfl)
   · have e:bI l cr=([]:List Ev):=by rw[hys,List.take_of_length_le (by omega)];rfl
     repeat' ((conv=>whnf);first|refine K1.w ?_|refine K1.u ?_|refine aJ.dR ?_|refine K1.z ?_|refine K1.y (fun _=>?_) (fun _=>?_)|fail)
     conv=>whnf
     exact bG.mk (aj)
 · dsimp only
   have hyl:ys.length+1≤j:=by
    have h1:=congrArg List.length hys
    have h2:=List.length_filter_le (countB l cr) (l.take j)
    rw[List.length_take]at h2
    rw[List.length_cons]at h1
    omega
   by_cases hjl:j<l.length
   · have hab:=kN 5 150 jd uh l (l.getD (j:Int).toNat default) (by omega)
     have hun:=uj 1 148 eU jT cr (l.getD (j:Int).toNat default) (by omega)
     have hft:=dB (p:=countB l cr) hjl
     rw[←hys]at hft
     have hlv:countB l cr (l.getD j default)=((decide ((l.getD (j:Int).toNat default).k=3)||(decide ((l.getD (j:Int).toNat default).k=4)&& !fC 5 jd l (l.getD (j:Int).toNat default)))&&gY 1 eU cr (l.getD (j:Int).toNat default)):=by rw[show(j:Int).toNat=j by omega];rfl
     rw[hlv]at hft
     generalize fC 5 jd l (l.getD (j:Int).toNat default)=q1 at hab hft
     generalize gY 1 eU cr (l.getD (j:Int).toNat default)=q2 at hun hft
     have n1: ¬ (l.getD (j:Int).toNat default).k=3→ ¬ (l.getD (j:Int).toNat default).k=4→y::ys=(l.take (j+1)).filter (countB l cr):=fun h h'=>by rw[hft,decide_eq_false h,decide_eq_false h'];simp
     have n2:q2=false→y::ys=(l.take (j+1)).filter (countB l cr):=fun h=>by rw[hft,h];simp
     have n3:(l.getD (j:Int).toNat default).k=4→q1=true→y::ys=(l.take (j+1)).filter (countB l cr):=fun h h'=>by rw[hft,decide_eq_false (show¬ (l.getD (j:Int).toNat default).k=3 by omega),h'];simp
     have y1:(l.getD (j:Int).toNat default).k=3→q2=true→y::(ys++[l.getD j default])=(l.take (j+1)).filter (countB l cr):=fun h h'=>by rw[hft,decide_eq_true h,h'];simp
     have y2:(l.getD (j:Int).toNat default).k=4→q1=false→q2=true→y::(ys++[l.getD j default])=(l.take (j+1)).filter (countB l cr):=fun h h' h2=>by rw[hft,decide_eq_true h,h',h2];simp
     clear hft hlv
     dsimp only[Ev.av,Ev.cs]at hab hun⊢
     repeat' ((conv=>whnf);first|refine K1.w ?_|refine K1.u ?_|refine K1.P1 hab rfl ?_|refine K1.P1 hun rfl ?_|refine aJ.dR ?_|refine K1.z ?_|refine K1.y (fun _=>?_) (fun _=>?_)|fail)
     all_goals(conv=>whnf)
     all_goals first
       |exact⟨⟨(j+1,y::ys),hjl,by first|exact n1 (by assumption) (by assumption)|exact n2 (by assumption)|exact n3 (by assumption) (by assumption)⟩,_,dO.mk' [] _ _ _ rfl ⟨aj,aj,aj,aj,aj,aj,aT.int rfl,aT.int rfl,trivial⟩ ⟨aH rfl,aH rfl,aH rfl,trivial⟩ rfl,by show l.length-(j+1)<l.length-j;omega⟩
       | (refine⟨⟨(j+1,y::(ys++[l.getD j default])),hjl,by first|exact y1 (by assumption) (by assumption)|exact y2 (by assumption) (by assumption) (by assumption)⟩,_,dO.mk' [(93,90)] _ _ _ rfl ⟨aj,aj,aj,aj,aj,aj,aT.int rfl,aT.int rfl,trivial⟩ ⟨aH rfl,aH rfl,⟨_,rfl,cO.row (by simp) (fun m hm=>?_)⟩,trivial⟩ rfl,by show l.length-(j+1)<l.length-j;omega⟩
          exact bJ (c:=Ev.cs) (l:=y::ys) rfl rfl m hm)
   · have e:bI l cr=y::ys:=by rw[hys,List.take_of_length_le (by omega)];rfl
     rw[hr]at e
     cases e
end
section
open Go.RowKit
inductive Back (f:FuncId) (cu:List AV) (C:List Ev):Prop where
  |nil (h:C=[]) (hs:aG Tryz.prog f cu (.v (.slice none 0 0)) [])
  |own (h:0<C.length) (hs: ∀d,aG Tryz.prog f cu (.own d) [(d,.row 42 12 C.length true (eG C))])
theorem OY (l:List Ev) (hl:l.length≤1000000000):Back 122 [.sl 12 l.length true (eG l)] (aC l):=by
 cases h:aC l with
 |nil=>exact .nil rfl (Q9 l hl h)
 |cons r rs=>exact .own (by simp) (fun d=>Q8 d l hl r rs h)
theorem Io (l C:List Ev) (hl:l.length≤1000000000) (hc:C.length≤1000000000):Back 123 [.sl 12 l.length true (eG l),.sl 12 C.length true (eG C)] (bI l C):=by
 cases h:bI l C with
 |nil=>exact .nil rfl (LW l C hl hc h)
 |cons r rs=>exact .own (by simp) (fun d=>LV d l C hl hc r rs h)
theorem Back.args {f:FuncId} {cu bvs:List AV} {C:List Ev} (h:Back f bvs C) (hc:Ch cu bvs):Back f cu C:=by
 cases h with
 |nil h hs=>exact .nil h (hs.args hc)
 |own h hs=>exact .own h fun d=>(hs d).args hc
theorem aeG (l:List Ev) (hl:l.length≤1000000000):
  aW Tryz.prog 91 [(0,.row 42 12 l.length true (eG l))] [.own 0] (.sl 7 (oU l).length false (Qx (oU l))) [(0,.row 42 12 l.length true (eG l))]:=by
 have OZ:=OY l hl
 have hcl:(aC l).length≤l.length:=List.length_filter_le ..
 have DN:=Io l (aC l) hl (by omega)
 have hwl:(bI l (aC l)).length≤l.length:=List.length_filter_le ..
 have hof:oU l=(Lib.compact (sortL ((aC l).map fun e=>dN e.key))).map fun k=>fH ⟨k.toArray⟩ (bI l (aC l)):=rfl
 generalize oU l=O at hof⊢
 generalize bI l (aC l)=ws at DN hwl hof
 generalize aC l=C at OZ hcl DN hof
 have hcon:=fun k=>KU k ws (by omega)
 dsimp only[Cont.cs]at hcon
 have adZ:C=[]→Back 123 [.sl 12 l.length true (eG l),.v (.slice none 0 0)] ws:=fun h=>by
  subst h
  exact DN.args (.same (.of (fun X u h=>C1.kM (by decide) h) .nil))
 rcases OZ with⟨hC,OZ⟩|⟨hC,OZ⟩
 rcases adZ hC with⟨hW,DN⟩|⟨hW,DN⟩
 rotate_left 2
 rcases DN with⟨hW,DN⟩|⟨hW,DN⟩
 all_goals refine K1.M 0x7800f05bd Tryz.func91 10 ?_
 all_goals first
   | (repeat' ((conv=>whnf);first|refine K1.w ?_|refine K1.u ?_|refine K1.P1 OZ rfl ?_|refine K1.P1 DN rfl ?_|refine K1.z ?_|refine K1.y (fun _=>?_) (fun _=>?_)|fail)
      conv=>whnf
      refine aN.nil 16 80 42 12 (eG []) rfl (by omega) ?_
      conv=>whnf
      refine aN.Bz 80 rfl ?_
      conv=>whnf
      refine aN.nil 4 82 42 12 (eG []) rfl (by omega) ?_
      conv=>whnf
      refine aN.Bz 82 rfl ?_
      conv=>whnf)
   | (repeat' ((conv=>whnf);first|refine K1.w ?_|refine K1.u ?_|refine K1.P1 OZ rfl ?_|refine K1.F1 (DN _) rfl ?_|refine K1.z ?_|refine K1.y (fun _=>?_) (fun _=>?_)|fail)
      conv=>whnf
      refine aN.nil 16 80 42 12 (eG []) rfl (by omega) ?_
      conv=>whnf
      refine aN.Bz 80 rfl ?_
      conv=>whnf
      refine aN.Bz 10 rfl ?_
      conv=>whnf)
   | (repeat' ((conv=>whnf);first|refine K1.w ?_|refine K1.u ?_|refine K1.F1 (OZ _) rfl ?_|refine K1.P1 DN rfl ?_|refine K1.z ?_|refine K1.y (fun _=>?_) (fun _=>?_)|fail)
      conv=>whnf
      refine aN.Bz 10 rfl ?_
      conv=>whnf
      refine aN.nil 4 82 42 12 (eG []) rfl (by omega) ?_
      conv=>whnf
      refine aN.Bz 82 rfl ?_
      conv=>whnf)
   | (repeat' ((conv=>whnf);first|refine K1.w ?_|refine K1.u ?_|refine K1.F1 (OZ _) rfl ?_|refine K1.F1 (DN _) rfl ?_|refine K1.z ?_|refine K1.y (fun _=>?_) (fun _=>?_)|fail)
      conv=>whnf
      refine aN.Bz 10 rfl ?_
      conv=>whnf
      refine aN.Bz 11 rfl ?_
      conv=>whnf)
 all_goals
  refine aN.nil 5 90 9 1 (iy []) rfl (by omega) ?_
  conv=>whnf
  refine aN.mk {j:Nat//j≤C.length} (fun j=>⟨[(4,.sl 12 ws.length true (eG ws)),(5,.own 90),(16,.sl 12 C.length true (eG C)),(17,.v (.int .i64 (C.length:Int))),(18,.v (.int .i64 (j.1:Int)))],
    [(90,.row 9 1 ((C.take j.1).map fun e=>dN e.key).length true (iy ((C.take j.1).map fun e=>dN e.key))),(0,.row 42 12 l.length true (eG l))],[[(0,.own 0)]],91⟩) (fun j=>C.length-j.1) ⟨0,Nat.zero_le _⟩ _
   (dO.mk' [] _ _ _ rfl ⟨by first|exact aj|(rw[hW];exact aj),aj,by first|exact aj|(rw[hC];exact aj),by first|exact aj|exact aT.int (by rw[hC];rfl),aT.int rfl,trivial⟩ ⟨aH rfl,aH rfl,trivial⟩ rfl) ?_
  rintro⟨j,hj⟩
  dsimp only
  have lm:((C.take j).map fun e=>dN e.key).length=j:=by rw[List.length_map,List.length_take];omega
  by_cases hjl:j<C.length
  · have hg:(C.take (j+1)).map (fun e=>dN e.key)=(C.take j).map (fun e=>dN e.key)++[dN (C.getD (j:Int).toNat default).key]:=by
     rw[show(C.getD (j:Int).toNat default)=C.getD j default from rfl,List.getD,List.getElem?_eq_getElem hjl,List.take_add_one,List.getElem?_eq_getElem hjl,List.map_append]
     rfl
    repeat' ((conv=>whnf);first|refine K1.w ?_|refine K1.u ?_|refine K1.z ?_|refine K1.y (fun _=>?_) (fun _=>?_)|fail)
    conv=>whnf
    refine⟨⟨j+1,hjl⟩,_,dO.mk' [(93,90)] _ _ _ rfl ⟨aj,aj,aj,aj,aT.int rfl,trivial⟩ ⟨⟨_,rfl,cO.row ?_ (fun m hm=>?_)⟩,aH rfl,trivial⟩ rfl,by show C.length-(j+1)<C.length-j;omega⟩
    · show _=((C.take (j+1)).map fun e=>dN e.key).length
      rw[hg,List.length_append]
      rfl
    · show _=iy ((C.take (j+1)).map fun e=>dN e.key) m
      rw[hg]
      exact qw (x:=dN (C.getD (j:Int).toNat default).key) rfl (by rw[qp];rfl) m hm
  · rw [List.take_of_length_le (show C.length≤j by omega)]at lm⊢
    generalize(C.map fun e=>dN e.key)=K at lm hof⊢
    have hso:=um K (by omega)
    have hsl:(sortL K).length=K.length:=List.length_mergeSort ..
    have hco:=nZ (sortL K) (by omega)
    have hle:=uo (sortL K)
    rw[hsl]at hco hle
    generalize Lib.compact (sortL K)=M at hco hle hof
    repeat' ((conv=>whnf);first|refine K1.w ?_|refine K1.u ?_|refine K1.C 1 [(0,_)] (hso) rfl ?_|refine K1.C 1 [(0,_)] (hco) rfl ?_|refine K1.z ?_|refine K1.y (fun _=>?_) (fun _=>?_)|fail)
    conv=>whnf
    refine aN.nil 8 190 76 7 (Qx []) rfl (by omega) ?_
    conv=>whnf
    refine aN.mk {j:Nat//j≤M.length} (fun j=>⟨[(4,.sl 12 ws.length true (eG ws)),(8,.own 190),(31,.own 92),(32,.v (.int .i64 (M.length:Int))),(33,.v (.int .i64 (j.1:Int)))],
     [(92,.row 9 1 M.length true (iy M)),(190,.row 76 7 ((M.take j.1).map fun k=>fH ⟨k.toArray⟩ ws).length false (Qx ((M.take j.1).map fun k=>fH ⟨k.toArray⟩ ws))),(0,.row 42 12 l.length true (eG l))],[[(0,.own 0)]],191⟩) (fun j=>M.length-j.1) ⟨0,Nat.zero_le _⟩ _
     (dO.mk' [] _ _ _ rfl ⟨aj,aj,aj,aT.int rfl,aT.int rfl,trivial⟩ ⟨aH rfl,⟨_,rfl,cO.acy rfl (fun i hi=>absurd hi (Nat.not_lt_zero i))⟩,aH rfl,trivial⟩ rfl) ?_
    rintro⟨j,hj⟩
    dsimp only
    have lo:((M.take j).map fun k=>fH ⟨k.toArray⟩ ws).length=j:=by rw[List.length_map,List.length_take];omega
    by_cases hjl:j<M.length
    · have hg:(M.take (j+1)).map (fun k=>fH ⟨k.toArray⟩ ws)=(M.take j).map (fun k=>fH ⟨k.toArray⟩ ws)++[fH ⟨(M.getD (j:Int).toNat []).toArray⟩ ws]:=by
       rw[show M.getD (j:Int).toNat []=M.getD j []from rfl,List.getD,List.getElem?_eq_getElem hjl,List.take_add_one,List.getElem?_eq_getElem hjl,List.map_append]
       rfl
      repeat' ((conv=>whnf);first|refine K1.w ?_|refine K1.a ?_|refine K1.b ?_|refine K1.d ?_|refine K1.P1 (hcon _) rfl ?_|refine K1.z ?_|refine K1.q ?_|refine K1.bt ?_|refine K1.bf ?_|refine K1.y (fun _=>?_) (fun _=>?_)|refine iD.dec (fun _=>?_) (fun _=>?_)|refine iD.mk (fun _=>?_) (fun _=>?_))
      rotate_left
      · exact absurd (show Nat.ble _ _=false by assumption) (by rw[Bool.not_eq_false,Nat.ble_eq];omega)
      conv=>whnf
      refine⟨⟨j+1,hjl⟩,_,dO.mk' [(192,190)] _ _ _ rfl ⟨aj,aj,aj,aT.int rfl,aT.int rfl,trivial⟩ ⟨aH rfl,⟨_,rfl,cO.row ?_ (fun m hm=>?_)⟩,aH rfl,trivial⟩ rfl,by show M.length-(j+1)<M.length-j;omega⟩
      · show _=((M.take (j+1)).map fun k=>fH ⟨k.toArray⟩ ws).length
        rw[hg,List.length_append]
        rfl
      · show _=Qx ((M.take (j+1)).map fun k=>fH ⟨k.toArray⟩ ws) m
        rw[hg]
        exact bJ (c:=Cont.cs) rfl rfl m hm
    · rw[List.take_of_length_le (show M.length≤j by omega)]at lo⊢
      rw[hof]
      repeat' ((conv=>whnf);first|refine K1.w ?_|refine K1.u ?_|refine K1.z ?_|refine K1.y (fun _=>?_) (fun _=>?_)|fail)
      conv=>whnf
      exact⟨[],rfl,rfl,⟨aH rfl,trivial⟩,rfl,rfl,aj⟩
end
section
open Go.RowKit Go.Maps Go.Sort Go.Shelf
structure aa8 (rs:List (ByteArray×RW)) (ss:List (List UInt8)):Prop where
 up:ss.Pairwise (· < ·)
 mem: ∀x∈ss,∃p∈rs,dN p.1=x
 all: ∀p∈rs,0<p.2.n→dN p.1∈ss
 len:ss.length≤rs.length
theorem aa9 {l:List (List UInt8)} (hn:l.Nodup):(l.mergeSort fun x y=>decide (x≤y)).Pairwise (· < ·):=by
 have tr: ∀a b c:List UInt8,leB a b=true→leB b c=true→leB a c=true:=fun a b c h1 h2=>by simp only[leB,decide_eq_true_eq]at*;exact List.le_trans h1 h2
 have to: ∀a b:List UInt8,(leB a b||leB b a)=true:=fun a b=>by simp only[leB,Bool.or_eq_true,decide_eq_true_eq];exact List.le_total a b
 have h1:=List.pairwise_mergeSort tr to l
 have h2:(l.mergeSort leB).Nodup:=(List.mergeSort_perm l leB).nodup_iff.2 hn
 refine(h1.and h2).imp fun{a b} h=>?_
 simp only[leB,decide_eq_true_eq]at h
 rcases Decidable.em (a<b)with h'|h'
 · exact h'
 · exact absurd (List.le_antisymm h.1 (List.not_lt.1 h')) h.2
def Dt:Value→Option (DataW Unit×List MemPlace):=fun _=>some (.nil,[])
def TN (v:Value):List UInt8:=match v with| .string b=>dN b|_=>[]
theorem acZ {X:CX} {i:Nat} {t:TypeId} {rs:List (ByteArray×RW)} (h:aZ X i (.mp t [] rs)) (hky: ∀p∈rs,p.1.size≤9223372036854775807) (hl:rs.length≤9223372036854775807):
  ∃b hs D0,X.ρ i= .tuple (.map (some b):: .map (some b)::hs).toArray∧X.w.ownsMap Tryz.prog 9 Dt b rs.length D0∧Maps.size D0≤rs.length∧(strKeys D0).length≤rs.length∧(strKeys D0).Nodup∧(∀x∈strKeys D0,∃p∈rs,dN p.1=x)∧ ∀p∈rs,0<p.2.n→dN p.1∈strKeys D0:=by
 obtain⟨b,es,c,vs,hs,e,hh,hi,hr,hp,hn,hst⟩:=h
 have hvs:vs=[]:=hi
 subst hvs
 simp only[List.map_nil,List.nil_append]at hp hn
 have hent: ∀x∈es.toList,∃p∈rs,x.key= .string p.1:=fun x hx=>by
  have:(x.key,x.val)∈lq (rs.map (·.1)) hs:=hp.mem_iff.1 (List.mem_map.2 ⟨x,hx,rfl⟩)
  obtain⟨j,k,v,h1,_,h3,_⟩:=vF this
  obtain⟨p,hp',rfl⟩:=List.mem_map.1 (List.mem_of_getElem? h1)
  exact⟨p,hp',congrArg Prod.fst h3⟩
 have hsz:es.size≤rs.length:=by
  have h1:=hp.length_eq
  have h2: ∀ (ks:List ByteArray) (vs:List Value),(lq ks vs).length≤ks.length:=by
   intro ks
   induction ks with
   |nil=>intro vs;simp[lq]
   | cons k ks ih=>
     intro vs
     cases vs with
     |nil=>simp[lq]
     | cons v vs=>
       rw[kE,List.length_append,List.length_cons]
       have:=ih vs
       have:(DC k v).length≤1:=by unfold DC;split<;>simp
       omega
  have:=h2 (rs.map (·.1)) hs
  simp at h1 this
  omega
 have hkey: ∀x∈es.toList,WideElems.rd Tryz.prog 9 Dt x=some (.string (TN x.key),.nil):=fun x hx=>by
  obtain⟨p,hp',hk⟩:=hent x hx
  have:=WideMaps.keyOf_string_mk (P:=Tryz.prog) Tryz.underlying9 (hky p hp')
  unfold WideElems.rd
  rw[hk]
  simp[this,Dt,TN,dN]
 have F:WideElems.Fit Tryz.prog 9 Dt es c:=⟨Nat.le_trans hsz hl,hst,fun x hx=>⟨_,hkey x hx⟩⟩
 have hmap:es.toList.map (WideElems.rg Tryz.prog 9 Dt)=es.toList.map fun x=>(Lit.string (TN x.key),DataW.nil):=List.map_congr_left fun x hx=>WideElems.rg_of (hkey x hx)
 have hperm:(strKeys (.map ((es.toList.map (WideElems.rg Tryz.prog 9 Dt)).foldr DataW.insert []):DataW Unit)).Perm (es.toList.map fun x=>TN x.key):=by
  show(((es.toList.map (WideElems.rg Tryz.prog 9 Dt)).foldr DataW.insert []).map fun p=>strOf p.1).Perm _
  refine((WideShapes.sorted_perm _).map _).trans (.of_eq ?_)
  rw[hmap,List.map_map]
  rfl
 have hinj: ∀a b:ByteArray,dN a=dN b→a=b:=fun a b h=>by
  have:a.data=b.data:=Array.toList_inj.1 h
  cases a;cases b;simp at this;rw[this]
 refine⟨b,hs,_,e,⟨es,c,hh,F,hsz,rfl⟩, ?_,by rw[hperm.length_eq];simpa using hsz,hperm.nodup_iff.2 ?_,fun x hx=>?_,fun p hp' hpos=>?_⟩
 · show((es.toList.map (WideElems.rg Tryz.prog 9 Dt)).foldr DataW.insert []).length≤_
   rw[(WideShapes.sorted_perm _).length_eq];simpa using hsz
 · refine List.pairwise_map.2 (((MapKept.stamped_iff es c).1 hst).2.2.imp_of_mem fun{x y} hx hy hne he=>hne ?_)
   obtain⟨p,_,h1⟩:=hent x hx
   obtain⟨q,_,h2⟩:=hent y hy
   rw[h1,h2]at he⊢
   exact congrArg Value.string (hinj _ _ he)
 · obtain⟨y,hy,rfl⟩:=List.mem_map.1 (hperm.mem_iff.1 hx)
   obtain⟨p,hp',hk⟩:=hent y hy
   exact⟨p,hp',by rw[hk];rfl⟩
 · obtain⟨j,hj⟩:=List.getElem?_of_mem hp'
   obtain⟨v,hv,hpos'⟩: ∃v,hs[j]? =some v∧ ∀a b,v≠ .slice none a b:=by
    have key: ∀ (rs:List (ByteArray×RW)) (hs:List Value) (j:Nat),jl X rs hs→rs[j]? =some p→ ∃v,hs[j]? =some v∧ ∀a b,v≠ .slice none a b:=by
     intro rs
     induction rs with
     |nil=>intro hs j _ h;simp at h
     | cons q rs ih=>
       rintro hs j ⟨v,q',e,hrow,hq⟩ h
       subst e
       cases j with
       | zero=>
         simp at h
         subst h
         refine⟨v,rfl,fun a b hv=>?_⟩
         obtain⟨us,hown,_⟩:=hrow
         rcases hown.2 with⟨_,hz⟩|⟨g,cap,cur,hv',_⟩
         · omega
         · rw[hv']at hv;cases hv
       |succ j=>exact ih q' j hq (by simpa using h)
    exact key _ _ _ hr hj
   have hin:=Ku (ks:=rs.map (·.1)) (k:=p.1) (i:=j) (by rw[List.getElem?_map,hj];rfl) hv hpos'
   obtain⟨x,hx,hxe⟩:=List.mem_map.1 (hp.mem_iff.2 hin)
   refine hperm.mem_iff.2 (List.mem_map.2 ⟨x,hx, ?_⟩)
   rw[show x.key= .string p.1 from congrArg Prod.fst hxe]
   rfl
end
section
open Go.RowKit Go.Maps Go.Sort Go.Shelf
theorem aa' {X:CX} {base:Nat} {v:Value} {l:List (List UInt8)} (h:X.w.ownsRow base 9 1 v l.length (l.map encStr)):oC X v 9 1 l.length true (iy l):=by
 refine⟨l.map encStr,⟨h.1,h.2.imp id fun⟨g,cap,cur,h1,_,h2⟩=>⟨g,cap,cur,h1,Nat.zero_le _,h2⟩⟩,by omega,fun _ _=>rfl,fun _ x hx=>?_,XT l⟩
 rw[vX]at hx
 obtain⟨y,_,rfl⟩:=List.mem_map.1 hx
 exact⟨_,rfl⟩
theorem Rel.strRow {g:Base} {N:Nat} {bs:List (Array Value)} {ρ:Nat→Value} {a:Act} {w w':World} {st:AS} (R:Rel g N bs ρ a w st) (d:Nat) {v:Value} {l:List (List UInt8)} (h:w'.ownsRow w.heap.size 9 1 v l.length (l.map encStr)) (hb:Below w.heap.size w w'):
  Rel g N bs (dF ρ d v) a w' (st.obj d d (.row 9 1 l.length true (iy l)))∧dZ v=v:=by
 have hv: ∀X:CX,X.w=w'→oC X v 9 1 l.length true (iy l):=fun X hX=>aa' (base:=w.heap.size) (by rw[hX];exact h)
 have hh:dZ v=v:=by
  obtain⟨us,ho,_⟩:=hv ⟨w',fun _=>False,fun _=>undef⟩ rfl
  exact fQ ho
 refine⟨R.obj d d (R.below.then hb R.below.size) hb.size (fun b hlt _=>hb.block b hlt) (fun b hbl=>?_) (fun _=>?_) ?_,hh⟩
 · rcases h.2 with⟨rfl,_⟩|⟨g,cap,cur,rfl,hge,_⟩
   · simp[blks,jg]at hbl
   · simp[blks,jg]at hbl
     subst hbl
     exact .inl hge
 · show oC _ (dF ρ d v d) _ _ _ _ _
   rw[show dF ρ d v d=v by simp[dF]]
   exact hv _ rfl
 · rcases h.2 with⟨rfl,_⟩|⟨g,cap,cur,rfl,hge,_⟩<;>simp[blks,jg]
theorem O4 {X:CX} {h:List (Nat×AO)} {ib b:Nat} {t:TypeId} {cs:List AV} {args:List Value} {f:FuncId} (_ho: ∀p∈h,aZ X p.1 p.2) (_hb:aP ib h=some (.box t cs)) (e:X.ρ ib= .pointer (some ⟨b,0,none⟩)) (hargs:aF (C2 X) [.fn f [.box ib 0]] args):args=[.func (.func f) #[] #[.pointer (some ⟨b,0,none⟩)]]:=by
 cases args with
 |nil=>have:=hargs.1;simp at this
 | cons a0 tl=>
   cases tl with
   |cons=>have:=hargs.1;simp at this
   | nil =>
     obtain⟨cs,h0,hcs⟩: ∃us:List Value,a0= .func (.func f) #[] us.toArray∧aF (C0 X) [.box ib 0] us:=hargs.2 0 _ _ rfl rfl
     subst h0
     cases cs with
     |nil=>have:=hcs.1;simp at this
     | cons p tl=>
       cases tl with
       |cons=>have:=hcs.1;simp at this
       | nil=>
         obtain⟨b0,h1,h2⟩: ∃b0,dZ (X.ρ ib)= .pointer (some ⟨b0,0,none⟩)∧p= .pointer (some ⟨b0,0,none⟩):=hcs.2 0 _ _ rfl rfl
         rw[e]at h1
         cases h1
         subst h2
         rfl
theorem dJ.sorted {L:Lay} {W:Walk} {d:Nat} {st:AS} {K:AV→AS→Prop} (j ib id:Nat) {t mt:TypeId} {rs:List (ByteArray×RW)} (hb:aP ib st.heap=some (.box t [.own id])) (hf:aP id st.heap=some (.mp mt [] rs)) (hky: ∀p∈rs,p.1.size≤9223372036854775807) (hl:rs.length≤1000000000)
  (hK: ∀ss,aa8 rs ss→K (.own j) (st.obj j j (.row 9 1 ss.length true (iy ss)))):
  dJ Tryz.prog L W d 89 [.fn 121 [.box ib 0]] st K:=by
 refine .sem ⟨_,_,Tryz.func89,rfl,rfl⟩ fun g N bs ρ a w args R hargs=>?_
 obtain⟨b,us,e,hh,hc⟩:=R.objs _ (au hb)
 obtain⟨bm,hs,D0,em,hown,hsz,hlk,hnd,hmem,hall⟩:=acZ (R.objs _ (au hf)) hky (by omega)
 have e:ρ ib=_:=e
 have em:ρ id=_:=em
 have hh:w.heap[b]? =_:=hh
 have hown:w.ownsMap _ _ _ _ _ _:=hown
 obtain⟨u,hu,hxu⟩:=hc.get (i:=0) rfl
 have hxu:u=dZ (ρ id):=hxu
 rw[em]at hxu
 have hxu:u= .map (some bm):=hxu
 subst hxu
 have hcell:w.cell? ⟨b,0,none⟩=some (.map (some bm)):=(nC (i:=0) hh).1.trans hu
 have hlt:b<w.heap.size:=by
  rcases Nat.lt_or_ge b w.heap.size with h'|h'
  · exact h'
  · rw[Array.getElem?_eq_none h']at hh;cases hh
 obtain rfl:=O4 R.objs hb e hargs
 have hseq:SeqGives Fence.wide 2 Tryz.prog 121 #[.pointer (some ⟨b,0,none⟩)] encStr (fun ss=>ss.Perm (strKeys D0)) (Maps.size D0) w:=
  AnyZ.keys_gives (ρ:=Tryz.keys90_ren) {Tryz.keys90 with} Fence.wide _ trivial rfl (by omega) b bm rs.length D0 w hlt hcell hown
 have hso:=AnyZ.sorted_in Tryz.sorted89 Fence.wide 5 trivial trivial trivial trivial rfl (by omega) (Tryz.sorts89 _) (enters_of Tryz.func120 (by kernel_rfl) rfl) 121 #[.pointer (some ⟨b,0,none⟩)] trivial (enters_of Tryz.func121 (by kernel_rfl) rfl) _ _ (Nat.le_trans hsz (by unfold maxLen;omega)) (by omega) w hseq
 refine(callsIn_wide.1 hso).mono ?_
 rintro e0 w' ⟨v,ss,rfl,hS,hrow,_,hbel⟩
 have hlen:(ss.mergeSort fun x y=>decide (x≤y)).length=ss.length:=List.length_mergeSort ..
 rw[←hlen]at hrow
 obtain⟨R',hv⟩:=R.strRow j hrow hbel
 have hp:(ss.mergeSort fun x y=>decide (x≤y)).Perm (strKeys D0):=(List.mergeSort_perm _ _).trans hS
 refine⟨v,_,_,_,rfl,hK _ ⟨aa9 (hS.nodup_iff.2 hnd),fun x hx=>hmem x (hp.mem_iff.1 hx),fun p hp' hpos=>hp.mem_iff.2 (hall p hp' hpos),by rw[hp.length_eq];exact hlk⟩,R', ?_⟩
 show v=dZ (dF ρ j v j)
 rw[show dF ρ j v j=v by simp[dF],hv]
theorem dJ.abb {L:Lay} {W:Walk} {d:Nat} {st:AS} {K:AV→AS→Prop} (j ib:Nat) {t:TypeId} (hb:aP ib st.heap=some (.box t [.v (.map none)]))
  (hK:K (.own j) (st.obj j j (.row 9 1 0 true (iy [])))):
  dJ Tryz.prog L W d 89 [.fn 121 [.box ib 0]] st K:=by
 refine .sem ⟨_,_,Tryz.func89,rfl,rfl⟩ fun g N bs ρ a w args R hargs=>?_
 obtain⟨b,us,e,hh,hc⟩:=R.objs _ (au hb)
 have e:ρ ib=_:=e
 have hh:w.heap[b]? =_:=hh
 obtain⟨u,hu,hxu⟩:=hc.get (i:=0) rfl
 have hxu:u= .map none:=hxu
 subst hxu
 have hcell:w.cell? ⟨b,0,none⟩=some (.map none):=(nC (i:=0) hh).1.trans hu
 have hlt:b<w.heap.size:=by
  rcases Nat.lt_or_ge b w.heap.size with h'|h'
  · exact h'
  · rw[Array.getElem?_eq_none h']at hh;cases hh
 obtain rfl:=O4 R.objs hb e hargs
 have hseq:SeqGives Fence.wide 2 Tryz.prog 121 #[.pointer (some ⟨b,0,none⟩)] encStr (fun ss:List (List UInt8)=>ss=[]) 0 w:=
  AnyZ.keys_gives_nil (ρ:=Tryz.keys90_ren) {Tryz.keys90 with} Fence.wide _ trivial rfl b w hlt hcell
 have hso:=AnyZ.sorted_in Tryz.sorted89 Fence.wide 5 trivial trivial trivial trivial rfl (by omega) (Tryz.sorts89 _) (enters_of Tryz.func120 (by kernel_rfl) rfl) 121 #[.pointer (some ⟨b,0,none⟩)] trivial (enters_of Tryz.func121 (by kernel_rfl) rfl) _ 0 (Nat.zero_le _) (by omega) w hseq
 refine(callsIn_wide.1 hso).mono ?_
 rintro e0 w' ⟨v,ss,rfl,rfl,hrow,_,hbel⟩
 rw[List.mergeSort_nil]at hrow
 have hrow:w'.ownsRow w.heap.size 9 1 v ([]:List (List UInt8)).length (([]:List (List UInt8)).map encStr):=hrow
 obtain⟨R',hv⟩:=R.strRow (l:=[]) j hrow hbel
 refine⟨v,_,_,_,rfl,hK,R', ?_⟩
 show v=dZ (dF ρ j v j)
 rw[show dF ρ j v j=v by simp[dF],hv]
end
end Go.Proofs.YtimhagicagdkfaaGreat
