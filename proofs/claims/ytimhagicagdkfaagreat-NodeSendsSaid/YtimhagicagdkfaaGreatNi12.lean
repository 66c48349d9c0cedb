/-
  Contracts of the walk:NdE,RcD,Tk,Crc,Vin,EvW,Rec,FitP.
-/
import Derived.Test.YtimhagicagdkfaaGreatNi11
import Derived.Test.YtimhagicagdkfaaGreatNi8
import Derived.Test.YtimhagicagdkfaaGreatNi9
import Derived.Test.YtimhagicagdkfaaGreatNi6
import Derived.Laws.BitsAllLaws
import Derived.Laws.StructEq
import Derived.Laws.Cover2
set_option maxHeartbeats 16000000
set_option maxRecDepth 100000
set_option linter.unusedVariables false
set_option linter.unusedSimpArgs false
namespace Go.Proofs.YtimhagicagdkfaaGreat
section
open Go.RowKit
theorem Ch.evs {n:Nat} {F:Nat→List AV} {l:List Ev} (hn:n=l.length) (hF: ∀i,i<n→F i=eG l i) {xs ys:List AV} (h:Ch xs ys):Ch (.sl 12 n true F::xs) (.sl 12 l.length true (eG l)::ys):= .of (fun X u hu=>aT.sl hn hF X u hu) h
theorem UZ (c:bn) (l:List Ev) (hc: ∀r,0≤c.at r∧c.at r≤1000000) (hl:l.length≤1000000) {d w:List Ev} {c':bn} (hd:wu c l=(d,w,c')) {n:Nat} {F:Nat→List AV} (hn:n=l.length) (hF: ∀i,i<n→F i=eG l i):
  aG Tryz.prog 129 [c.av,.sl 12 n true F] (.dL [.sl 12 d.length true (eG d),.sl 12 w.length true (eG w),c'.av]) []:=(QE c l hc hl hd).args (.same (Ch.evs hn hF .nil))
def Ji (most:Int) (c:bn) (h:AV):AO:= .box 118 [.v (.int .i64 most),.v (.int .i64 c.c0),.v (.int .i64 c.c1),.v (.int .i64 c.c2),.v (.int .i64 c.c3),.v (.int .i64 c.c4),h]
def zi (most batch sent:Int) (m:AV):AO:= .box 132 [.v (.int .i64 most),.v (.int .i64 batch),.v (.int .i64 sent),m]
def kM:AV:= .v (.slice none 0 0)
theorem Og (most:Int) (c:bn):aW Tryz.prog 102 [] [.v (.int .i64 most),c.av] (.box 0 0) [(0,Ji most c kM)]:=by
 dsimp only[bn.av,bn.cs,Ji,kM]
 refine K1.M 0x1b Tryz.func102 40 ?_
 repeat' ((conv=>whnf);first|refine K1.w ?_|refine K1.u ?_|refine K1.z ?_|refine K1.y (fun _=>?_) (fun _=>?_)|fail)
 all_goals(conv=>whnf)
 exact⟨[(41,0)],rfl,rfl,⟨aH rfl,trivial⟩,rfl,rfl,aj⟩
theorem Oh (most batch sent:Int):aW Tryz.prog 101 [] [.v (.int .i64 most),.v (.int .i64 batch),.v (.int .i64 sent)] (.box 0 0) [(0,zi most batch sent kM)]:=by
 dsimp only[zi,kM]
 refine K1.M 0x47 Tryz.func101 40 ?_
 repeat' ((conv=>whnf);first|refine K1.w ?_|refine K1.u ?_|refine K1.z ?_|refine K1.y (fun _=>?_) (fun _=>?_)|fail)
 all_goals(conv=>whnf)
 exact⟨[(40,0)],rfl,rfl,⟨aH rfl,trivial⟩,rfl,rfl,aj⟩
theorem Yl (most:Int) (c:bn) (h:AV) (hh:h=kM∨ ∃n F,h= .sl 12 n true F) (e:Ev) (hc: ∀r,0≤c.at r∧c.at r≤1000000) {d w:List Ev} {c':bn} (hd:wu c [e]=(d,w,c')):
  aW Tryz.prog 55 [(0,Ji most c h)] [.box 0 0,e.av] (.v (.int .i64 (if d.length=0 then 20 else 0))) [(0,Ji most (if d.length=0 then c else c') h)]:=by
 have hdr:=UZ c [e] hc (by simp) hd (n:=1) (F:=chunk 12 e.cs) rfl fun i hi=>by
  obtain rfl:i=0:=by omega
  rfl
 dsimp only[bn.av,bn.cs,Ev.av,Ev.cs,Ji]at hdr⊢
 rcases hh with rfl|⟨n,F,rfl⟩
 all_goals
  try dsimp only[kM]
  by_cases h0:d.length=0
  · rw[if_pos h0,if_pos h0]
    refine K1.M 0x400bb Tryz.func55 40 ?_
    repeat' ((conv=>whnf);first|refine K1.w ?_|refine K1.u ?_|refine K1.P1 hdr rfl ?_|refine K1.I 0x73 Tryz.func95 ?_|refine K1.z ?_|refine K1.y (fun _=>?_) (fun _=>?_)|fail)
    all_goals(conv=>whnf)
    exact⟨[],rfl,rfl,⟨aH rfl,trivial⟩,rfl,rfl,aj⟩
  · rw[if_neg h0,if_neg h0]
    refine K1.M 0x400bb Tryz.func55 40 ?_
    repeat' ((conv=>whnf);first|refine K1.w ?_|refine K1.u ?_|refine K1.P1 hdr rfl ?_|refine K1.I 0x73 Tryz.func95 ?_|refine K1.z ?_|refine K1.y (fun _=>?_) (fun _=>?_)|fail)
    all_goals(conv=>whnf)
    exact⟨[],rfl,rfl,⟨aH rfl,trivial⟩,rfl,rfl,aj⟩
theorem lU (most:Int) (c:bn) (h:AV) (hh:h=kM∨ ∃n F,h= .sl 12 n true F):aW Tryz.prog 29 [(0,Ji most c h)] [.box 0 0] c.av [(0,Ji most c h)]:=by
 dsimp only[bn.av,bn.cs,Ji]
 rcases hh with rfl|⟨n,F,rfl⟩
 all_goals
  try dsimp only[kM]
  refine K1.M 0x5 Tryz.func29 40 ?_
  repeat' ((conv=>whnf);first|refine K1.w ?_|refine K1.u ?_|refine K1.z ?_|refine K1.y (fun _=>?_) (fun _=>?_)|fail)
  all_goals(conv=>whnf)
  exact⟨[],rfl,rfl,⟨aH rfl,trivial⟩,rfl,rfl,aj⟩
def Tf (c:bn) (r:Nat):bn:=if c.at r<1048576 then c.inc r else dS
theorem FZ (c:bn) (r:Nat) (hr:r<5) (hc:0≤c.at r):aG Tryz.prog 52 [c.av,.v (.int .i64 (r:Int))] (.dL [(Tf c r).av,.v (.int .i64 (if c.at r<1048576 then 0 else 25))]) []:=by
 unfold Tf
 by_cases h:c.at r<1048576
 · rw[if_pos h,if_pos h]
   rcases(show r=0∨r=1∨r=2∨r=3∨r=4 by omega)with rfl|rfl|rfl|rfl|rfl
   all_goals
    simp only[bn.at]at h hc
    simp only[bn.av,bn.cs,bn.inc]
    refine K1.E 0x10837 Tryz.func52 ?_
    repeat' ((conv=>whnf);first|refine K1.w ?_|refine K1.u ?_|refine qM.mk (by decide) ?_|refine aJ.dR ?_|refine K1.z ?_|refine K1.y (fun _=>?_) (fun _=>?_)|fail)
    all_goals(conv=>whnf)
    exact bG.mk (aj)
 · rw[if_neg h,if_neg h]
   rcases(show r=0∨r=1∨r=2∨r=3∨r=4 by omega)with rfl|rfl|rfl|rfl|rfl
   all_goals
    simp only[bn.at]at h hc
    simp only[bn.av,bn.cs,dS]
    refine K1.E 0x10837 Tryz.func52 ?_
    repeat' ((conv=>whnf);first|refine K1.w ?_|refine K1.u ?_|refine qM.mk (by decide) ?_|refine aJ.dR ?_|refine K1.z ?_|refine K1.y (fun _=>?_) (fun _=>?_)|fail)
    all_goals(conv=>whnf)
    exact bG.mk (aj)
theorem AA (l:List Ev) (c:bn) (hl:l.length≤1000000000) (hh: ∀e∈l,0≤e.h∧e.h≤1000000000):
  aG Tryz.prog 53 [.sl 12 l.length true (eG l),c.av] (.v (.int .i64 (hgt l c))) []:=by
 dsimp only[bn.av,bn.cs]
 refine K1.E 0x40001f7b Tryz.func53 ?_
 repeat' ((conv=>whnf);first|refine K1.w ?_|refine K1.u ?_|refine aJ.dR ?_|refine K1.z ?_|refine K1.y (fun _=>?_) (fun _=>?_)|fail)
 conv=>whnf
 refine aN.mk {x:Nat×(Int×Bool)//x.1≤l.length∧x.2=FP c (l.take x.1)} (fun x=>⟨[(9,.sl 12 l.length true (eG l)),(10,.v (.int .i64 (l.length:Int))),(3,.box 0 0),(5,.v (.int .i64 x.1.2.1)),(6,.v (.bool x.1.2.2)),(11,.v (.int .i64 (x.1.1:Int)))],
   [(0,.box 31 c.cs)],[],1⟩) (fun x=>l.length-x.1.1) ⟨(0,(0,false)),Nat.zero_le _,rfl⟩ _
  (dO.mk' [] _ _ _ rfl ⟨aj,aj,aj,aj,aj,aT.int rfl,trivial⟩ ⟨aH rfl,trivial⟩ rfl) ?_
 rintro⟨⟨j,s⟩,hj,hs⟩
 dsimp only at hj hs⊢
 have hb:=FQ (c:=c) (M:=1000000000) (by omega) (l.take j) (fun e he=>hh e (List.mem_of_mem_take he)) (0,false) (by simp)
 have hs':s=(l.take j).foldl (oZ c) (0,false):=hs
 rw[←hs']at hb
 by_cases hjl:j<l.length
 · have hhas:=FH c (l.getD (j:Int).toNat default).r (l.getD (j:Int).toNat default).n
   have hft:FP c (l.take (j+1))=oZ c s (l.getD (j:Int).toNat default):=by rw[hs];exact pV hjl
   have hst:oZ c s (l.getD (j:Int).toNat default)=if(hasB c (l.getD (j:Int).toNat default).r (l.getD (j:Int).toNat default).n&&(!s.2||decide (s.1<(l.getD (j:Int).toNat default).h)))=true then((l.getD (j:Int).toNat default).h,true)else s:=rfl
   rw[hst]at hft
   generalize hasB c (l.getD (j:Int).toNat default).r (l.getD (j:Int).toNat default).n=q at hhas hft
   clear hs' hst hs hh
   obtain⟨s1,s2⟩:=s
   dsimp only at hb hft⊢
   have k1:q=true→s2=false→((l.getD (j:Int).toNat default).h,true)=FP c (l.take (j+1)):=fun h1 h2=>by rw[hft,h1,h2];simp
   have k2:q=true→s1<(l.getD (j:Int).toNat default).h→((l.getD (j:Int).toNat default).h,true)=FP c (l.take (j+1)):=fun h1 h2=>by rw[hft,h1,decide_eq_true h2];simp
   have k3:q=false→(s1,s2)=FP c (l.take (j+1)):=fun h1=>by rw[hft,h1];simp
   have k4:s2=true→ ¬s1<(l.getD (j:Int).toNat default).h→(s1,s2)=FP c (l.take (j+1)):=fun h1 h2=>by rw[hft,h1,decide_eq_false h2];simp
   clear hft
   dsimp only[bn.av,bn.cs]at hhas⊢
   repeat' ((conv=>whnf);first|refine K1.w ?_|refine K1.u ?_|refine K1.P1 hhas rfl ?_|refine aJ.dR ?_|refine K1.z ?_|refine K1.y (fun _=>?_) (fun _=>?_)|fail)
   all_goals(conv=>whnf)
   all_goals first
     |exact⟨⟨(j+1,(_,true)),hjl,by first|exact k1 (by assumption) (by assumption)|exact k2 (by assumption) (by omega)⟩,_,dO.mk' [] _ _ _ rfl ⟨aj,aj,aj,aj,aj,aT.int rfl,trivial⟩ ⟨aH rfl,trivial⟩ rfl,Nat.sub_succ_lt_self _ _ hjl⟩
     |exact⟨⟨(j+1,(s1,s2)),hjl,by first|exact k3 (by assumption)|exact k4 (by assumption) (by omega)⟩,_,dO.mk' [] _ _ _ rfl ⟨aj,aj,aj,aj,aj,aT.int rfl,trivial⟩ ⟨aH rfl,trivial⟩ rfl,Nat.sub_succ_lt_self _ _ hjl⟩
 · rw[List.take_of_length_le (show l.length≤j by omega)]at hs
   have hR:hgt l c=s.1+1:=by rw[hs];rfl
   rw[hR]
   repeat' ((conv=>whnf);first|refine K1.w ?_|refine K1.u ?_|refine aJ.dR ?_|refine K1.z ?_|refine K1.y (fun _=>?_) (fun _=>?_)|fail)
   conv=>whnf
   exact bG.mk (aj)
theorem U0 {n:Nat} {F:Nat→List AV} (hl:n≤1000000000):aG Tryz.prog 65 [.sl 12 n true F] (.sl 12 n true F) []:=by
 refine K1.E 0x15 Tryz.func65 ?_
 repeat' ((conv=>whnf);first|refine K1.w ?_|refine K1.u ?_|refine aJ.dR ?_|refine K1.z ?_|refine K1.y (fun _=>?_) (fun _=>?_)|fail)
 all_goals(conv=>whnf)
 · obtain rfl:n=0:=by assumption
   exact bG.mk fun X u h=>C1.kM (by decide) h
 · exact bG.mk (aT.sl (Nat.zero_add _) fun i _=>rfl)
def xR (sent:Int) (w:List Ev):Int:=if w.length=0 then sent else(w.getD (w.length-1) default).n
def Ld (most sent:Int) (w:List Ev) (e:Ev):List Ev×Int:=if most≤(w.length:Int)then(w,17)else if e.n=xR sent w+1 then(w++[e],0)else(w,20)
theorem Oi (most batch sent:Int) (w w':List Ev) (e:Ev) (x:Int) (hl:w.length≤1000000) (hs:0≤sent∧sent≤1000000000) (hn: ∀j,0≤(w.getD j default).n∧(w.getD j default).n≤1000000000) (h:Ld most sent w e=(w',x)):
  aW Tryz.prog 56 [(0,zi most batch sent (.own 1)),(1,fK w)] [.box 0 0,e.av] (.v (.int .i64 x)) [(0,zi most batch sent (.own 2)),(2,fK w')]:=by
 have hlast:=hn ((w.length:Int)-1).toNat
 have hl1:w.length≠0→xR sent w=(w.getD ((w.length:Int)-1).toNat default).n:=fun h=>by unfold xR;rw[if_neg h,show((w.length:Int)-1).toNat=w.length-1 by omega]
 have hl0:w.length=0→xR sent w=sent:=fun h=>by unfold xR;rw[if_pos h]
 have F5:w.length≠0→Nat.ble (((w.length:Int)-1).toNat+1) w.length=true:=fun h=>Nat.ble_eq_true_of_le (by omega)
 unfold Ld at h
 dsimp only[zi,fK,Ev.av,Ev.cs]
 clear hn
 by_cases hm:most≤(w.length:Int)
 · rw[if_pos hm]at h
   cases h
   refine K1.M 0x40010027b Tryz.func56 40 ?_
   repeat' ((conv=>whnf);first|refine K1.w ?_|refine K1.u ?_|refine K1.I 0x5 Tryz.func51 ?_|refine K1.o (id:=9) [(0,none),(1,none),(2,none),(3,none),(4,none),(5,none),(6,some [5]),(7,some [5,4,2]),(8,none),(9,none),(10,some [5,4,2,8])] [(3,[2]),(4,[2]),(6,[5]),(7,[5,4,2]),(8,[5,4,2]),(9,[5,4,2,8]),(10,[5,4,2,8])] ?_|refine K1.z ?_|refine K1.y (fun _=>?_) (fun _=>?_)|fail)
   all_goals(conv=>whnf)
   exact⟨[(1,2)],rfl,rfl,⟨aH rfl,aH rfl,trivial⟩,rfl,rfl,aj⟩
 · rw [if_neg hm]at h
   by_cases h0:w.length=0
   · rw[hl0 h0]at h
     clear hl0 hl1 F5
     by_cases he:e.n=sent+1
     · rw[if_pos he]at h
       cases h
       refine K1.M 0x40010027b Tryz.func56 40 ?_
       repeat' ((conv=>whnf);first|refine K1.w ?_|refine K1.u ?_|refine K1.I 0x5 Tryz.func51 ?_|refine K1.o (id:=9) [(0,none),(1,none),(2,none),(3,none),(4,none),(5,none),(6,some [5]),(7,some [5,4,2]),(8,none),(9,none),(10,some [5,4,2,8])] [(3,[2]),(4,[2]),(6,[5]),(7,[5,4,2]),(8,[5,4,2]),(9,[5,4,2,8]),(10,[5,4,2,8])] ?_|refine K1.z ?_|refine K1.y (fun _=>?_) (fun _=>?_)|fail)
       all_goals(conv=>whnf)
       exact⟨[(42,2)],rfl,rfl,⟨aH rfl,⟨_,rfl,cO.row (by simp) fun m hm=>bJ (c:=Ev.cs) (l:=w) rfl rfl m hm⟩,trivial⟩,rfl,rfl,aj⟩
     · rw[if_neg he]at h
       cases h
       refine K1.M 0x40010027b Tryz.func56 40 ?_
       repeat' ((conv=>whnf);first|refine K1.w ?_|refine K1.u ?_|refine K1.I 0x5 Tryz.func51 ?_|refine K1.o (id:=9) [(0,none),(1,none),(2,none),(3,none),(4,none),(5,none),(6,some [5]),(7,some [5,4,2]),(8,none),(9,none),(10,some [5,4,2,8])] [(3,[2]),(4,[2]),(6,[5]),(7,[5,4,2]),(8,[5,4,2]),(9,[5,4,2,8]),(10,[5,4,2,8])] ?_|refine K1.z ?_|refine K1.y (fun _=>?_) (fun _=>?_)|fail)
       all_goals(conv=>whnf)
       exact⟨[(1,2)],rfl,rfl,⟨aH rfl,aH rfl,trivial⟩,rfl,rfl,aj⟩
   · rw[hl1 h0]at h
     have F5:=F5 h0
     clear hl0 hl1
     by_cases he:e.n=(w.getD ((w.length:Int)-1).toNat default).n+1
     · rw[if_pos he]at h
       cases h
       refine K1.M 0x40010027b Tryz.func56 40 ?_
       repeat' ((conv=>whnf);first|refine K1.w ?_|refine K1.u ?_|refine K1.I 0x5 Tryz.func51 ?_|refine iD.yes F5 ?_|refine K1.o (id:=9) [(0,none),(1,none),(2,none),(3,none),(4,none),(5,none),(6,some [5]),(7,some [5,4,2]),(8,none),(9,none),(10,some [5,4,2,8])] [(3,[2]),(4,[2]),(6,[5]),(7,[5,4,2]),(8,[5,4,2]),(9,[5,4,2,8]),(10,[5,4,2,8])] ?_|refine K1.z ?_|refine K1.y (fun _=>?_) (fun _=>?_)|fail)
       all_goals(conv=>whnf)
       exact⟨[(42,2)],rfl,rfl,⟨aH rfl,⟨_,rfl,cO.row (by simp) fun m hm=>bJ (c:=Ev.cs) (l:=w) rfl rfl m hm⟩,trivial⟩,rfl,rfl,aj⟩
     · rw[if_neg he]at h
       cases h
       refine K1.M 0x40010027b Tryz.func56 40 ?_
       repeat' ((conv=>whnf);first|refine K1.w ?_|refine K1.u ?_|refine K1.I 0x5 Tryz.func51 ?_|refine iD.yes F5 ?_|refine K1.o (id:=9) [(0,none),(1,none),(2,none),(3,none),(4,none),(5,none),(6,some [5]),(7,some [5,4,2]),(8,none),(9,none),(10,some [5,4,2,8])] [(3,[2]),(4,[2]),(6,[5]),(7,[5,4,2]),(8,[5,4,2]),(9,[5,4,2,8]),(10,[5,4,2,8])] ?_|refine K1.z ?_|refine K1.y (fun _=>?_) (fun _=>?_)|fail)
       all_goals(conv=>whnf)
       exact⟨[(1,2)],rfl,rfl,⟨aH rfl,aH rfl,trivial⟩,rfl,rfl,aj⟩
end
section
open Go.RowKit
structure Rc where
 (k r u:Int) (c:bn) (ev:List Ev)
def Rc.cs (x:Rc):List AV:=[.v (.int .i64 x.k),.v (.int .i64 x.r),.v (.int .i64 x.u),.v (.int .i64 x.c.c0),.v (.int .i64 x.c.c1),.v (.int .i64 x.c.c2),.v (.int .i64 x.c.c3),.v (.int .i64 x.c.c4),.sl 12 x.ev.length true (eG x.ev)]
def Rc.av (x:Rc):AV:= .agg x.cs
def F6 (k:Int):Bool:=k==3||k==4
def F7 (k:Int):Bool:=k==1||k==2||k==5||k==4
def F8 (k:Int):Bool:=k==6
def rcK (k:Int):Bool:=decide (1≤k∧k≤6)
def PG (c:bn):Bool:=nG c.c0&&nG c.c1&&nG c.c2&&nG c.c3&&nG c.c4
def Le (c:bn):Bool:=decide (c.c0=0∧c.c1=0∧c.c2=0∧c.c3=0∧c.c4=0)
theorem jq (c:bn):Le c=true↔c=dS:=by
 obtain⟨a,b,d,e,f⟩:=c
 simp[Le,dS]
def lC (x:Rc):Bool:=
 rcK x.k&&decide (0≤x.r)&&decide (x.r<5)&&nG x.u&&decide (x.ev.length≤4096)&&PG x.c&&(F6 x.k||decide (x.u=0))&&(F8 x.k||Le x.c)&&(F7 x.k||decide (x.ev.length=0))&&
  x.ev.all (fun e=>decide (fB e=0))&&(decide (x.k≠1)||decide (x.ev.length=1))
end
section
open Go.RowKit
theorem bD.drop {F:Nat→List AV} {l:List UInt8} (h:bD F l) (k:Nat):bD (fun i=>F (k+i)) (l.drop k):=by
 intro i hi
 rw[List.length_drop]at hi
 show F (k+i)=bC ((l.drop k).getD i default)
 rw[h (k+i) (by omega)]
 show bC (l.getD (k+i) default)=_
 congr 1
 simp
theorem bD.take {F:Nat→List AV} {l:List UInt8} (h:bD F l) (k:Nat):bD F (l.take k):=by
 intro i hi
 rw[List.length_take]at hi
 show F i=bC ((l.take k).getD i default)
 rw[h i (by omega)]
 show bC (l.getD i default)=_
 congr 1
 simp[show i<k by omega]
theorem aT.pF {n:Nat} {sc:Bool} {F:Nat→List AV} {l:List UInt8} (h:bD F l) (hn:n=l.length):aT (.sl 1 n sc F) (.sl 1 l.length sc (aV l)):=aT.sl hn fun i hi=>h i (by omega)
theorem F9: ∀l:List UInt8,flat l.length (aV l)=l.map fun b=> .v (.int .u8 (b.toNat:Int))
  |[]=>rfl
  | b::l=>by
    show aV (b::l) 0++flat l.length (fun i=>aV (b::l) (i+1))=_
    rw[List.map_cons,←F9 l]
    rfl
theorem aF.vals {R:AV→Value→Prop} (hR: ∀x u,R (.v x) u→u=x): ∀ {xs us:List Value},aF R (xs.map .v) us→us=xs
  | [],us,h=>by
    have:=h.1
    simp at this
    exact List.eq_nil_of_length_eq_zero this.symm
  |x::xs,[],h=>by have:=h.1;simp at this
  | x::xs,u::us,h=>by
    have h0:u=x:=hR x u (h.2 0 _ _ rfl rfl)
    have:=aF.vals hR (xs:=xs) (us:=us) ⟨by simpa using h.1,fun i a b ha hb=>h.2 (i+1) a b (by simpa using ha) (by simpa using hb)⟩
    rw[h0,this]
theorem Bs.of {n:Nat} {F:Nat→List AV} {K:List UInt8→Prop} (l:List UInt8) (hF:bD F l) (hn:n=l.length) (h:K l):Bs n F K:= .mk l hn (fun i hi=>hF i (by omega)) h
theorem aev:(default:UInt8)=0:=rfl
theorem QF {P:Program} {f:FuncId} {r:AV} {l:List UInt8} (he:Enters P f) (h: ∀ (A:Option Addr) (n c:Nat) (w:World),Rd w w.heap.size 1 A n (l.map bV)→n=l.length→n≤c→
  Calls P f #[.slice A n c] w fun e w'=> ∃u,e= .returned u∧Below w.heap.size w w'∧ ∀X,C2 X r u) {n:Nat} {F:Nat→List AV} (hF:bD F l) (hn:n=l.length):aG P f [.sl 1 n true F] r []:=by
 refine⟨he,fun w keep args hkeep hargs=>?_⟩
 obtain⟨u,rfl,hu⟩:=qR hargs
 have hu:PC w keep (.sl 1 l.length true (aV l)) u:=aT.pF hF hn ⟨w,keep,fun _=>undef⟩ u hu
 cases hu with
 | sl _ _ _ _ A c us hs hnc hc hl hf hsc hpc hr=>
   have hall:aF (PC w keep) (flat l.length (aV l)) us:=⟨by rw[hl];exact mJ hf,hpc⟩
   have e1:flat l.length (aV l)=(l.map bV).map .v:=by rw[F9,List.map_map];rfl
   rw[e1]at hall
   have e2:us=l.map bV:=aF.vals (fun x u h=>by cases h;rfl) hall
   subst e2
   have hRd:Rd w w.heap.size 1 A l.length (l.map bV):=by
    refine⟨by simp,fun hpos=>?_⟩
    rcases hr with h0|⟨b,o,hA,hk,hcell⟩
    · omega
    · exact⟨b,o,hA,hkeep b hk,hcell⟩
   refine(h A l.length c w hRd rfl hnc).mono ?_
   rintro e w' ⟨v,h1,h2,h3⟩
   exact⟨v,fun _=>undef,h1,h2,h3 _,(fun p hp=>by cases hp),by simp[ah],(fun b hb=>by simp[ah]at hb)⟩
theorem C2.aew (X:CX) (a b c:Value):C2 X (.dL [.v a,.v b,.v c]) (.tuple #[a,b,c]):=⟨[a,b,c],rfl,aF.cons (R:=C1 X) (show C1 X (.v a) a from rfl) (aF.cons (R:=C1 X) (show C1 X (.v b) b from rfl) (aF.cons (R:=C1 X) (show C1 X (.v c) c from rfl) aF.nil))⟩
theorem iV {n:Nat} {F:Nat→List AV} (l:List UInt8) (hF:bD F l) (hn:n=l.length):aG Tryz.prog 80 [.sl 1 n true F] (.dL [.v (.int .u64 ((dG l).1:Int)),.v (.int .i64 ((dG l).2.1:Int)),.v (.int .i64 (dG l).2.2)]) []:=
 QF ⟨_,_,Tryz.func80,rfl,rfl⟩ (fun A n c w h h1 h2=>(UL A n c l w h h1 h2).mono fun e w' ⟨h3,h4⟩=>⟨_,h3,by rw[h4];exact Below.refl _ _,fun X=>C2.aew X _ _ _⟩) hF hn
def eT (x:Int):AO:= .box 26 [.v (.int .i64 x)]
def iT (u:Nat):AO:= .box 3 [.v (.int .i64 (u:Int))]
def bT (bs:List UInt8):AO:= .box 49 [.sl 1 bs.length true (aV bs)]
theorem Ym (bs:List UInt8) (u:Nat) (x lo hi:Int) (hl:bs.length≤1000000000):
  aW Tryz.prog 141 [(0,eT x),(1,iT u),(2,bT bs)] [.v (.int .i64 lo),.v (.int .i64 hi),.box 0 0,.box 1 0,.box 2 0]
   (.v (.int .i64 (fJ bs lo hi (u,x)).1)) [(0,eT (fJ bs lo hi (u,x)).2.2),(1,iT (fJ bs lo hi (u,x)).2.1),(2,bT bs)]:=by
 unfold eT iT bT
 refine K1.M 0x4005019f Tryz.func141 10 ?_
 repeat' ((conv=>whnf);first|refine K1.w ?_|refine K1.u ?_|refine K1.P1 (vY _ _ _) rfl ?_|refine K1.z ?_|refine K1.y (fun _=>?_) (fun _=>?_)|fail)
 all_goals(conv=>whnf)
 all_goals(refine KE.auto rfl rfl ⟨⟨_,rfl,cO.box1 ?_⟩,⟨_,rfl,cO.box1 ?_⟩,aH rfl,trivial⟩ rfl rfl (aT.int ?_))
 all_goals(unfold fJ;simp only[aev,Int.toNat_natCast]at*;grind)
theorem U1 (bs:List UInt8) (u:Nat) (x lo hi:Int) (hu:u≤bs.length) (hl:bs.length≤1000000000) (h0:0≤lo) (h1:lo≤hi) (h2:hi≤16777216):
  aW Tryz.prog 142 [(0,eT x),(1,iT u),(2,bT bs)] [.v (.int .i64 lo),.v (.int .i64 hi),.box 0 0,.box 2 0,.box 1 0]
   (.v (.int .i64 (eY bs lo hi (u,x)).1)) [(0,eT (eY bs lo hi (u,x)).2.2),(1,iT (eY bs lo hi (u,x)).2.1),(2,bT bs)]:=by
 unfold eT iT bT
 have hv:=vZ (bs.drop u)
 rw[List.length_drop]at hv
 refine K1.M 0x140000179f Tryz.func142 10 ?_
 repeat' ((conv=>whnf);first|refine K1.w ?_|refine K1.u ?_|refine K1.P1 (iV (bs.drop u) ((bD.bytes bs).drop _) (by simp)) rfl ?_|refine K1.z ?_|refine K1.y (fun _=>?_) (fun _=>?_)|fail)
 all_goals(conv=>whnf)
 all_goals(refine KE.auto rfl rfl ⟨⟨_,rfl,cO.box1 ?_⟩,⟨_,rfl,cO.box1 ?_⟩,aH rfl,trivial⟩ rfl rfl (aT.int ?_))
 all_goals(unfold eY;grind)
theorem U2 (bs:List UInt8) (u:Nat) (x sz:Int) (hu:u≤bs.length) (hl:bs.length≤1000000000) (h0:0≤sz) (h2:sz≤16777216):
  aW Tryz.prog 143 [(0,eT x),(1,iT u),(2,bT bs)] [.v (.int .i64 sz),.fn 115 [],.box 0 0,.box 2 0,.box 1 0]
   (.v (.string (fU bs sz keyE (u,x)).1)) [(0,eT (fU bs sz keyE (u,x)).2.2),(1,iT (fU bs sz keyE (u,x)).2.1),(2,bT bs)]:=by
 unfold eT iT bT
 obtain⟨z,rfl⟩:=Int.eq_ofNat_of_zero_le h0
 refine K1.M 0x40014019f Tryz.func143 10 ?_
 repeat' ((conv=>whnf);first|refine K1.w ?_|refine K1.u ?_|refine K1.P1 (NS _) rfl ?_|refine Bs.of ((bs.drop u).take z) (((bD.bytes bs).drop _).take _) (by simp;omega) ?_|refine K1.z ?_|refine K1.y (fun _=>?_) (fun _=>?_)|fail)
 all_goals(conv=>whnf)
 all_goals(refine KE.auto rfl rfl ⟨⟨_,rfl,cO.box1 ?_⟩,⟨_,rfl,cO.box1 ?_⟩,aH rfl,trivial⟩ rfl rfl (aT.str ?_))
 all_goals(unfold fU;first|(simp only[H8,Int.toNat_natCast]at*;grind)|grind)
theorem U3 (bs:List UInt8) (u:Nat) (x sz:Int) (hu:u≤bs.length) (hl:bs.length≤1000000000) (h0:0≤sz) (h2:sz≤16777216):
  aW Tryz.prog 143 [(0,eT x),(1,iT u),(2,bT bs)] [.v (.int .i64 sz),.fn 117 [],.box 0 0,.box 2 0,.box 1 0]
   (.v (.string (fU bs sz fA (u,x)).1)) [(0,eT (fU bs sz fA (u,x)).2.2),(1,iT (fU bs sz fA (u,x)).2.1),(2,bT bs)]:=by
 unfold eT iT bT
 obtain⟨z,rfl⟩:=Int.eq_ofNat_of_zero_le h0
 refine K1.M 0x40014019f Tryz.func143 10 ?_
 repeat' ((conv=>whnf);first|refine K1.w ?_|refine K1.u ?_|refine K1.P1 (FI _) rfl ?_|refine Bs.of ((bs.drop u).take z) (((bD.bytes bs).drop _).take _) (by simp;omega) ?_|refine K1.z ?_|refine K1.y (fun _=>?_) (fun _=>?_)|fail)
 all_goals(conv=>whnf)
 all_goals(refine KE.auto rfl rfl ⟨⟨_,rfl,cO.box1 ?_⟩,⟨_,rfl,cO.box1 ?_⟩,aH rfl,trivial⟩ rfl rfl (aT.str ?_))
 all_goals(unfold fU;first|(simp only[H8,Int.toNat_natCast]at*;grind)|grind)
theorem aaF {bs:List UInt8} {lo hi:Int} {s:Sq} (h:s.1≤bs.length):(eY bs lo hi s).2.1≤bs.length:=by
 have hv:=vZ (bs.drop s.1)
 rw[List.length_drop]at hv
 unfold eY
 grind
theorem Yn {bs:List UInt8} {sz:Int} {may:ByteArray→Int} {s:Sq} (h:s.1≤bs.length):(fU bs sz may s).2.1≤bs.length:=by unfold fU;grind
theorem acF {bs:List UInt8} {lo hi:Int} {s:Sq}:0≤(fJ bs lo hi s).1∧(fJ bs lo hi s).1≤255:=by
 unfold fJ
 have:=UInt8.toNat_lt (bs.getD s.1 0)
 grind
theorem gB (bs:List UInt8) (s s':Sq) (lo hi c:Int) (h:fJ bs lo hi s=(c,s')) (hl:bs.length≤1000000000):
  aW Tryz.prog 141 [(0,eT s.2),(1,iT s.1),(2,bT bs)] [.v (.int .i64 lo),.v (.int .i64 hi),.box 0 0,.box 1 0,.box 2 0]
   (.v (.int .i64 c)) [(0,eT s'.2),(1,iT s'.1),(2,bT bs)]:=by
 have:=Ym bs s.1 s.2 lo hi hl
 rw[show(s.1,s.2)=s from rfl,h]at this
 exact this
theorem dV (bs:List UInt8) (s s':Sq) (lo hi c:Int) (h:eY bs lo hi s=(c,s')) (hu:s.1≤bs.length) (hl:bs.length≤1000000000) (h0:0≤lo) (h1:lo≤hi) (h2:hi≤16777216):
  aW Tryz.prog 142 [(0,eT s.2),(1,iT s.1),(2,bT bs)] [.v (.int .i64 lo),.v (.int .i64 hi),.box 0 0,.box 2 0,.box 1 0]
   (.v (.int .i64 c)) [(0,eT s'.2),(1,iT s'.1),(2,bT bs)]:=by
 have:=U1 bs s.1 s.2 lo hi hu hl h0 h1 h2
 rw[show(s.1,s.2)=s from rfl,h]at this
 exact this
theorem wz (bs:List UInt8) (s s':Sq) (sz:Int) (c:ByteArray) (h:fU bs sz keyE s=(c,s')) (hu:s.1≤bs.length) (hl:bs.length≤1000000000) (h0:0≤sz∧sz≤255):
  aW Tryz.prog 143 [(0,eT s.2),(1,iT s.1),(2,bT bs)] [.v (.int .i64 sz),.fn 115 [],.box 0 0,.box 2 0,.box 1 0]
   (.v (.string c)) [(0,eT s'.2),(1,iT s'.1),(2,bT bs)]:=by
 have:=U2 bs s.1 s.2 sz hu hl h0.1 (by omega)
 rw[show(s.1,s.2)=s from rfl,h]at this
 exact this
theorem wB (bs:List UInt8) (s s':Sq) (sz:Int) (c:ByteArray) (h:fU bs sz fA s=(c,s')) (hu:s.1≤bs.length) (hl:bs.length≤1000000000) (h0:0≤sz∧sz≤255):
  aW Tryz.prog 143 [(0,eT s.2),(1,iT s.1),(2,bT bs)] [.v (.int .i64 sz),.fn 117 [],.box 0 0,.box 2 0,.box 1 0]
   (.v (.string c)) [(0,eT s'.2),(1,iT s'.1),(2,bT bs)]:=by
 have:=U3 bs s.1 s.2 sz hu hl h0.1 (by omega)
 rw[show(s.1,s.2)=s from rfl,h]at this
 exact this
end
section
open Go.RowKit
def mW (r:Nat):Nat:=if r%2=1 then(r/2)^^^3988292384 else r/2
def AB (r:Nat):Nat→Nat
  |0=>r
  |j+1=>mW (AB r j)
def xU (r:Nat) (c:UInt8):Nat:=AB (r^^^c.toNat) 8
def mX (l:List UInt8):Nat:=l.foldl xU 4294967295
def jU (l:List UInt8):Nat:=4294967295^^^mX l
def pJ (l:List UInt8):List UInt8:=[UInt8.ofNat (jU l),UInt8.ofNat (jU l/256),UInt8.ofNat (jU l/65536),UInt8.ofNat (jU l/16777216)]
def eX (l:List UInt8):List UInt8:=l++pJ l
theorem QG {r:Nat} (h:r<4294967296):mW r<4294967296:=by
 unfold mW
 split
 · exact Nat.xor_lt_two_pow (n:=32) (by omega) (by omega)
 · omega
theorem AL {r:Nat} (h:r<4294967296): ∀j,AB r j<4294967296
  |0=>h
  |j+1=>QG (AL h j)
theorem QH {r:Nat} (h:r<4294967296) (c:UInt8):xU r c<4294967296:=by
 have:=UInt8.toNat_lt c
 exact AL (Nat.xor_lt_two_pow (n:=32) (by omega) (by omega)) 8
theorem Oj: ∀ (l:List UInt8) (r:Nat),r<4294967296→l.foldl xU r<4294967296
  |[],_,h=>h
  |c::l,_,h=>Oj l _ (QH h c)
theorem BQ (l:List UInt8):mX l<4294967296:=Oj l _ (by omega)
theorem Jj (l:List UInt8):jU l<4294967296:=Nat.xor_lt_two_pow (n:=32) (by omega) (BQ l)
theorem eH (l:List UInt8):(eX l).length=l.length+4:=by simp[eX,pJ]
theorem Ol {a b:Nat} (ha:a<4294967296) (hb:b<4294967296):IntKind.u32.wrap ((BitVec.ofInt IntKind.u32.bits (a:Int)^^^BitVec.ofInt IntKind.u32.bits (b:Int)).toNat:Int)=((a^^^b:Nat):Int):=
 u32_xor_nat a b ha hb
theorem and1 {a:Nat} (ha:a<4294967296):IntKind.u32.wrap ((BitVec.ofInt IntKind.u32.bits (a:Int)&&&BitVec.ofInt IntKind.u32.bits (1:Int)).toNat:Int)=((a%2:Nat):Int):=by
 have h:IntKind.u32.wrap ((BitVec.ofInt IntKind.u32.bits (a:Int)&&&BitVec.ofInt IntKind.u32.bits ((1:Nat):Int)).toNat:Int)=((a&&&1:Nat):Int):=u32_and_nat a 1 ha (by omega)
 rw[Nat.and_one_is_mod]at h
 exact h
theorem yj.and1 {a:Nat} (ha:a<4294967296) {A B:Prop} (h1:a%2=1→A) (h2: ¬a%2=1→B):yj (IntKind.u32.wrap ((BitVec.ofInt IntKind.u32.bits (a:Int)&&&BitVec.ofInt IntKind.u32.bits (1:Int)).toNat:Int)=1) A B:=by
 have e:=_root_.Go.Proofs.YtimhagicagdkfaaGreat.and1 ha
 rw[e]
 refine⟨fun h=>h1 (by omega),fun h=>h2 (by omega)⟩
theorem adJ (a:Nat):(a:Int).fdiv (2^min (Int.toNat 1) IntKind.u32.bits)=((a/2:Nat):Int):=by
 show(a:Int).fdiv (2:Int)=_
 rw[Int.fdiv_eq_ediv_of_nonneg _ (by omega)]
 omega
theorem U4 (r:Nat) (hr:r<4294967296) (c:UInt8):aG Tryz.prog 140 [.v (.int .u32 (r:Int)),.v (.int .u8 (c.toNat:Int))] (.v (.int .u32 (xU r c:Int))) []:=by
 have hc:=UInt8.toNat_lt c
 have h0:r^^^c.toNat<4294967296:=Nat.xor_lt_two_pow (n:=32) (by omega) (by omega)
 refine K1.E 0x2613 Tryz.func140 ?_
 repeat' ((conv=>whnf);first|refine K1.w ?_|refine K1.u ?_|refine K1.z ?_|refine K1.y (fun _=>?_) (fun _=>?_)|fail)
 conv=>whnf
 refine aN.mk {j:Nat//j≤8} (fun j=>⟨[(0,.v (.int .u32 (AB (r^^^c.toNat) j.1:Int))),(9,.v (.int .i64 (j.1:Int)))],[],[],0⟩) (fun j=>8-j.1) ⟨0,Nat.zero_le _⟩ _
  (dO.mk' [] _ _ _ rfl ⟨aT.int (Ol hr (by omega)),aT.int rfl,trivial⟩ trivial rfl) ?_
 rintro⟨j,hj⟩
 dsimp only
 have hj2:=AL h0 j
 repeat' ((conv=>whnf);first|refine K1.w ?_|refine K1.u ?_|refine yj.and1 hj2 (fun _=>?_) (fun _=>?_)|refine aJ.dR ?_|refine K1.z ?_|refine K1.y (fun _=>?_) (fun _=>?_)|fail)
 · rename_i h1
   refine⟨⟨j+1,by omega⟩,_,dO.mk' [] _ _ _ rfl ⟨aT.int ?_,aT.int rfl,trivial⟩ trivial rfl,by show 8-(j+1)<8-j;omega⟩
   show _=((mW (AB (r^^^c.toNat) j):Nat):Int)
   unfold mW
   rw[if_pos h1,←Ol (by omega) (by omega),←adJ]
   rfl
 · rename_i h1
   refine⟨⟨j+1,by omega⟩,_,dO.mk' [] _ _ _ rfl ⟨aT.int ?_,aT.int rfl,trivial⟩ trivial rfl,by show 8-(j+1)<8-j;omega⟩
   show _=((mW (AB (r^^^c.toNat) j):Nat):Int)
   unfold mW
   rw[if_neg h1]
   exact adJ _
 · conv=>whnf
   have:j=8:=by omega
   subst this
   exact bG.mk (aj)
theorem Dc {l:List UInt8} {j:Nat} (h:j<l.length):mX (l.take (j+1))=xU (mX (l.take j)) (l.getD j 0):=by
 rw[List.take_add_one,List.getElem?_eq_getElem h,List.getD,List.getElem?_eq_getElem h,mX,List.foldl_append]
 rfl
theorem Wr.aex {s:Nat} {m:Int} {K:Int→Prop} (h:K (IntKind.u8.wrap ((s:Int).fdiv m))):Wr ((s:Int).fdiv m) K .u8:= .raw .u8 h
theorem Yo {n:Nat} {F:Nat→List AV} (l:List UInt8) (hF:bD F l) (hn:n=l.length) (hl:l.length≤140737488355328):aG Tryz.prog 113 [.sl 1 n true F] (.v (.int .u32 (jU l:Int))) []:=by
 refine aG.args (bvs:=[.sl 1 l.length true (aV l)]) ?_ (.of (fun X u hu=>aT.pF (sc:=true) hF hn X u hu) .nil)
 have Yp (j:Nat):mX (l.take j)<4294967296:=BQ _
 have hs (j:Nat) (c:UInt8):=U4 (mX (l.take j)) (Yp j) c
 refine K1.E 0x3ed Tryz.func113 ?_
 repeat' ((conv=>whnf);first|refine K1.w ?_|refine K1.u ?_|refine K1.z ?_|refine K1.y (fun _=>?_) (fun _=>?_)|fail)
 conv=>whnf
 refine aN.mk {j:Nat//j≤l.length} (fun j=>⟨[(3,.v (.int .u32 (mX (l.take j.1):Int))),(6,.sl 1 l.length true (aV l)),(7,.v (.int .i64 (l.length:Int))),(8,.v (.int .i64 (j.1:Int)))],[],[],0⟩) (fun j=>l.length-j.1) ⟨0,Nat.zero_le _⟩ _
  (dO.mk' [] _ _ _ rfl ⟨aT.int rfl,aj,aj,aT.int rfl,trivial⟩ trivial rfl) ?_
 rintro⟨j,hj⟩
 dsimp only
 repeat' ((conv=>whnf);first|refine K1.w ?_|refine K1.u ?_|refine K1.P1 (hs j _) rfl ?_|refine aJ.dR ?_|refine K1.z ?_|refine K1.y (fun _=>?_) (fun _=>?_)|fail)
 · refine⟨⟨j+1,by omega⟩,_,dO.mk' [] _ _ _ rfl ⟨aT.int ?_,aj,aj,aT.int rfl,trivial⟩ trivial rfl,by show l.length-(j+1)<l.length-j;omega⟩
   show _=((mX (l.take (j+1)):Nat):Int)
   rw[Dc (by omega)]
   rfl
 · conv=>whnf
   refine bG.mk (aT.int ?_)
   show IntKind.u32.wrap ((BitVec.ofInt IntKind.u32.bits ((4294967295:Nat):Int)^^^BitVec.ofInt IntKind.u32.bits (mX (l.take j):Int)).toNat:Int)=_
   rw[Ol (by omega) (Yp j),List.take_of_length_le (by omega)]
   rfl
def u8C (n:Nat):AV:= .v (.int .u8 ((UInt8.ofNat n).toNat:Int))
def QI (s:Nat):List AV:=[u8C s,u8C (s/256),u8C (s/65536),u8C (s/16777216)]
theorem acG (n:Nat) (m:Nat):IntKind.u8.wrap ((n:Int).fdiv ((m:Nat):Int))=((UInt8.ofNat (n/m)).toNat:Int):=by
 rw[IntKind.wrap_u8,Int.fdiv_eq_ediv_of_nonneg _ (Int.natCast_nonneg m),UInt8.toNat_ofNat']
 simp
theorem u8V (n:Nat) (m:Nat):AV.v (.int .u8 (IntKind.u8.wrap ((n:Int).fdiv ((m:Nat):Int))))=u8C (n/m):=by rw[acG];rfl
theorem BR {n:Nat} {F:Nat→List AV} (l:List UInt8) (hF:bD F l) (hn:n=l.length) (hl:l.length≤140737488355328):aG Tryz.prog 79 [.sl 1 n true F] (.agg (QI (jU l))) []:=by
 have hs:=Jj l
 have hss:=Yo l hF hn hl
 generalize jU l=s at hs hss
 refine K1.E 0x33d Tryz.func79 ?_
 repeat' ((conv=>whnf);first|refine K1.w ?_|refine K1.u ?_|refine K1.P1 hss rfl ?_|refine aN.rounds 5 ?_|refine aJ.dR ?_|refine Wr.aex ?_|refine K1.z ?_|refine K1.y (fun _=>?_) (fun _=>?_)|fail)
 conv=>whnf
 refine bG.mk (aT.of (congrArg AV.agg ?_))
 unfold QI
 rw[←u8V s 256,←u8V s 65536,←u8V s 16777216,show u8C s=AV.v (.int .u8 (IntKind.u8.wrap ((s:Int).fdiv ((1:Nat):Int)))) by rw[u8V,Nat.div_one]]
 rfl
theorem Ti (a0 a1 a2 a3 b0 b1 b2 b3:Int):Ep Tryz.prog 137 [.int .u8 a0,.int .u8 a1,.int .u8 a2,.int .u8 a3] [.int .u8 b0,.int .u8 b1,.int .u8 b2,.int .u8 b3] (a0=b0∧a1=b1∧a2=b2∧a3=b3):=by
 refine⟨by kernel_rfl,fun w=>⟨decide (a0=b0∧a1=b1∧a2=b2∧a3=b3),by rw[decide_eq_true_eq], ?_⟩⟩
 show(Op.equalIn 10000 137 (.agg #[.int .u8 a0,.int .u8 a1,.int .u8 a2,.int .u8 a3]) (.agg #[.int .u8 b0,.int .u8 b1,.int .u8 b2,.int .u8 b3])).run Tryz.prog w=_
 rw[show(10000:Nat)=9999+1 from rfl,Op.equalIn]
 simp only[Sem.run_bind,run_underlying Tryz.underlying137,Result.andThen_ok]
 simp only[Std.Legacy.Range.forIn_eq_forIn_range',Std.Legacy.Range.size,Nat.sub_zero,Nat.add_sub_cancel,Nat.div_one,List.range'_succ,List.range'_zero,List.forIn_cons,List.forIn_nil]
 have u3:=Tryz.underlying5
 have a3':=Tryz.isAgg5
 have z3:=Tryz.sizeOf5
 go_simp
 repeat' split
 all_goals simp_all
theorem Yq (l:List UInt8):bD (chunk 1 (QI (jU l))) (pJ l):=by
 intro i hi
 have:i=0∨i=1∨i=2∨i=3:=by simp[pJ]at hi;omega
 rcases this with rfl|rfl|rfl|rfl<;>rfl
theorem nT (d:Nat) {n:Nat} {F:Nat→List AV} (l:List UInt8) (hF:bD F l) (hn:n=l.length) (hl:l.length≤1000000000):
  aG Tryz.prog 78 [.sl 1 n true F] (.own d) [(d,.row 5 1 (eX l).length true (aV (eX l)))]:=by
 refine aG.args (bvs:=[.sl 1 l.length true (aV l)]) ?_ (.of (fun X u hu=>aT.pF (sc:=true) hF hn X u hu) .nil)
 have ht:=BR l (bD.bytes l) rfl (by omega)
 refine K1.E 0x1d Tryz.func78 ?_
 repeat' ((conv=>whnf);first|refine K1.w ?_|refine K1.u ?_|refine K1.P1 ht rfl ?_|refine AMk.none rfl (by omega) (by dsimp only;omega) (by omega) ?_|refine K1.z ?_|refine K1.y (fun _=>?_) (fun _=>?_)|fail)
 conv=>whnf
 refine aJ.qo d rfl rfl ?_ (aj)
 apply cO.pF (l:=[]++l++pJ l)
 · exact bD.app (bD.app (bD.nil _) (bD.bytes _) rfl) (Yq l) (by simp)
 · simp[pJ]
 · rfl
theorem AP (m:List UInt8) (k:Nat) (hk:k=m.length) (i:Nat):(((eX m).getD (k+i) default).toNat:Int)=(((pJ m).getD i default).toNat:Int):=by
 subst hk
 unfold eX
 rw[List.getD,List.getElem?_append_right (by omega),Nat.add_sub_cancel_left,List.getD]
def rW (l:List UInt8):Prop:=4≤l.length∧l=eX (l.take (l.length-4))
theorem Jk (d:Nat) {n:Nat} {F:Nat→List AV} (m:List UInt8) (hF:bD F (eX m)) (hn:n=(eX m).length) (hl:m.length≤1000000000):
  aG Tryz.prog 44 [.sl 1 n true F] (.dL [.own d,.v (.bool true)]) [(d,.row 5 1 m.length true (aV m))]:=by
 refine aG.args (bvs:=[.sl 1 (eX m).length true (aV (eX m))]) ?_ (.of (fun X u hu=>aT.pF (sc:=true) hF hn X u hu) .nil)
 have hlen:=eH m
 have htk:(eX m).take m.length=m:=by simp[eX]
 have hFm:bD (aV (eX m)) m:=fun i hi=>by have:=(bD.bytes (eX m)).take m.length i;rw[htk]at this;exact this hi
 refine K1.E 0x20001d Tryz.func44 ?_
 repeat' ((conv=>whnf);first|refine K1.w ?_|refine K1.u ?_|refine K1.P1 (BR m hFm (by omega) (by omega)) rfl ?_|refine PD.mk [.int .u8 _,.int .u8 _,.int .u8 _,.int .u8 _] [.int .u8 _,.int .u8 _,.int .u8 _,.int .u8 _] _ rfl rfl (Ti _ _ _ _ _ _ _ _) (yj.yes ⟨AP m _ (by omega) 0,AP m _ (by omega) 1,AP m _ (by omega) 2,AP m _ (by omega) 3⟩ ?_)|refine K1.o (id:=2) [(0,none),(1,none),(2,none),(3,none),(4,none),(5,none),(6,none),(7,none),(8,none),(9,none),(10,none),(11,some [1]),(12,none),(13,none)] [(2,[1]),(3,[1]),(4,[1]),(5,[1]),(6,[1]),(7,[1]),(8,[1]),(9,[1]),(10,[1]),(11,[1]),(12,[1]),(13,[1])] ?_|refine K1.z ?_|refine K1.y (fun _=>?_) (fun _=>?_)|fail)
 conv=>whnf
 refine aJ.qo d rfl rfl ?_ (aj)
 apply cO.pF (l:=[]++m)
 · exact bD.app (bD.nil _) hFm rfl
 · simp
   omega
 · rfl
theorem Lh {a b:UInt8} (h:(a.toNat:Int)=(b.toNat:Int)):a=b:=UInt8.toNat_inj.1 (by omega)
theorem adK {l:List UInt8} {k:Nat} (h:l.length=k+4):l.drop k=[l.getD (k+0) default,l.getD (k+1) default,l.getD (k+2) default,l.getD (k+3) default]:=by
 apply List.ext_getElem
 · simp[h]
 · intro i h1 h2
   have hi:i<4:=by simpa using h2
   rw[List.getElem_drop]
   rcases(show i=0∨i=1∨i=2∨i=3 by omega)with rfl|rfl|rfl|rfl<;>simp[List.getD,h]
theorem aaG {l:List UInt8} {k:Nat} (h:l.length=k+4) (e:((l.getD (k+0) default).toNat:Int)=((UInt8.ofNat (jU (l.take k))).toNat:Int)∧((l.getD (k+1) default).toNat:Int)=((UInt8.ofNat (jU (l.take k)/256)).toNat:Int)∧
  ((l.getD (k+2) default).toNat:Int)=((UInt8.ofNat (jU (l.take k)/65536)).toNat:Int)∧((l.getD (k+3) default).toNat:Int)=((UInt8.ofNat (jU (l.take k)/16777216)).toNat:Int)):rW l:=by
 obtain⟨e0,e1,e2,e3⟩:=e
 refine⟨by omega, ?_⟩
 rw[show l.length-4=k by omega]
 unfold eX pJ
 conv=>lhs;rw[←List.take_append_drop k l,adK h]
 rw[Lh e0,Lh e1,Lh e2,Lh e3]
theorem Tj {n:Nat} {F:Nat→List AV} (l:List UInt8) (h: ¬rW l) (hF:bD F l) (hn:n=l.length) (hl:l.length≤1000000000):
  aG Tryz.prog 44 [.sl 1 n true F] (.dL [.v (.slice none 0 0),.v (.bool false)]) []:=by
 refine aG.args (bvs:=[.sl 1 l.length true (aV l)]) ?_ (.of (fun X u hu=>aT.pF (sc:=true) hF hn X u hu) .nil)
 have hso (k:Nat) (hk:l.length=k+4):=fun e=>h (aaG (k:=k) hk e)
 refine K1.E 0x20001d Tryz.func44 ?_
 repeat' ((conv=>whnf);first|refine K1.w ?_|refine K1.u ?_|refine K1.P1 (BR (l.take (l.length-4)) ((bD.bytes l).take _) (by rw[List.length_take];omega) (by rw[List.length_take];omega)) rfl ?_|refine PD.mk [.int .u8 _,.int .u8 _,.int .u8 _,.int .u8 _] [.int .u8 _,.int .u8 _,.int .u8 _,.int .u8 _] _ rfl rfl (Ti _ _ _ _ _ _ _ _) (yj.no (fun e=>?_) ?_)|refine aJ.dR ?_|refine K1.o (id:=2) [(0,none),(1,none),(2,none),(3,none),(4,none),(5,none),(6,none),(7,none),(8,none),(9,none),(10,none),(11,some [1]),(12,none),(13,none)] [(2,[1]),(3,[1]),(4,[1]),(5,[1]),(6,[1]),(7,[1]),(8,[1]),(9,[1]),(10,[1]),(11,[1]),(12,[1]),(13,[1])] ?_|refine K1.z ?_|refine K1.y (fun _=>?_) (fun _=>?_)|fail)
 · conv=>whnf
   exact bG.mk (aj)
 · have hk:((l.length:Int)-4).toNat=l.length-4:=by omega
   rw[hk]at e
   exact hso (l.length-4) (by omega) e
 · conv=>whnf
   exact bG.mk (aj)
end
section
open Go.RowKit
theorem AQ {n:Nat} (h:n<256):((UInt8.ofNat n).toNat:Int)=n:=by
 rw[UInt8.toNat_ofNat',Nat.mod_eq_of_lt (by omega)]
theorem eP (d n:Nat) (h1:n≤4294967296):aG Tryz.prog 77 [.v (.int .u64 (n:Int))] (.own d) [(d,.row 5 1 (aA n).length true (aV (aA n)))]:=by
 have hst:=Qu n h1
 refine K1.E 0x2d Tryz.func77 ?_
 repeat' ((conv=>whnf);first|refine K1.w ?_|refine K1.u ?_|refine K1.z ?_|refine K1.y (fun _=>?_) (fun _=>?_)|fail)
 refine aN.nil 3 90 5 1 (aV []) rfl (by omega) ?_
 refine aN.mk {x:List UInt8×Nat×Nat//x.1++gJ x.2.2 x.2.1=aA n∧x.2.1<128^(x.2.2+1)∧x.1.length≤10∧x.2.1≤4294967296}
  (fun x=>⟨[(0,.v (.int .u64 (x.1.2.1:Int))),(3,.own 90)],[(90,.row 5 1 x.1.1.length true (aV x.1.1))],[],91⟩) (fun x=>x.1.2.1)
  ⟨([],n,9),hst.1,hst.2,by simp,h1⟩ _ (dO.auto _ _ _ rfl ⟨aj,aj,trivial⟩ ⟨aH rfl,trivial⟩ rfl) ?_
 rintro⟨⟨acc,m,f⟩,i1,i2,i3,i4⟩
 dsimp only at i1 i2 i3 i4⊢
 have hl:acc.length+(gJ f m).length≤10:=by
  have:=congrArg List.length i1
  have:=bU 9 n
  simp only[List.length_append,aA]at*
  omega
 have hp:=xM f m
 repeat' ((conv=>whnf);first|refine K1.w ?_|refine K1.u ?_|refine K1.z ?_|refine K1.y (fun _=>?_) (fun _=>?_)|fail)
 · obtain⟨f',k1,k2⟩:=FD i1 i2 (by omega)
   refine⟨⟨(acc++[UInt8.ofNat (m%128+128)],m/128,f'),k1,k2,by simp;omega,by dsimp only;omega⟩,_,dO.auto _ _ _ rfl ⟨aT.int (by dsimp only;omega),aj,trivial⟩ ⟨⟨_,rfl,cO.row (by simp) (bJ rfl ?_)⟩,trivial⟩ rfl,by show m/128<m;omega⟩
   simp only[chunk,bC,AQ (show m%128+128<256 by omega)]
   rfl
 · have e:=IY i1 (by omega)
   refine aJ.qo d rfl rfl (cO.row ?_ ?_) (aj)
   · rw[←e];simp
   · rw[←e]
     refine bJ rfl ?_
     simp only[chunk,bC,AQ (show m<256 by omega)]
     rfl
end
section
open Go.RowKit
theorem uz (d:Nat) (e:Ev) (h:fB e=0):aG Tryz.prog 76 [e.av] (.dL [.own d,.v (.int .i64 0)]) [(d,.row 5 1 (aS e).length true (aV (aS e)))]:=by
 have m:=xO h
 have g:=qy m.ed
 obtain⟨r,n,⟨c0,c1,c2,c3,c4⟩,hh,k,key,l,v⟩:=e
 obtain⟨r0,r4,n1,n2,h1,h2,a0,a1,a2,a3,a4,own,ed⟩:=m
 dsimp only[Ev.ed]at r0 r4 n1 n2 h1 h2 a0 a1 a2 a3 a4 g
 obtain⟨g1,g2,g3,g4,g5,g6,g7⟩:=g
 have g8:v.size≤12∧0≤l∧l≤1:=by
  cases hl:dM k with
  |true=>have:=g6 hl;omega
  |false=>have:=g7 hl;omega
 clear own ed
 obtain⟨n,rfl⟩:=Int.eq_ofNat_of_zero_le (show 0≤n by omega)
 obtain⟨hh,rfl⟩:=Int.eq_ofNat_of_zero_le (show 0≤hh by omega)
 obtain⟨c0,rfl⟩:=Int.eq_ofNat_of_zero_le a0.1
 obtain⟨c1,rfl⟩:=Int.eq_ofNat_of_zero_le a1.1
 obtain⟨c2,rfl⟩:=Int.eq_ofNat_of_zero_le a2.1
 obtain⟨c3,rfl⟩:=Int.eq_ofNat_of_zero_le a3.1
 obtain⟨c4,rfl⟩:=Int.eq_ofNat_of_zero_le a4.1
 have q (x:Nat):(aA x).length≤10:=bU 9 x
 have q0:=q n
 have q1:=q hh
 have q2:=q c0
 have q3:=q c1
 have q4:=q c2
 have q5:=q c3
 have q6:=q c4
 clear q
 dsimp only[Ev.av,Ev.cs]
 rcases(show r=0∨r=1∨r=2∨r=3∨r=4 by omega)with rfl|rfl|rfl|rfl|rfl
 all_goals
  refine K1.E 0x100020e00023ff Tryz.func76 ?_
  repeat' ((conv=>whnf);first|refine K1.w ?_|refine K1.u ?_|refine K1.P1 (lG ⟨_,(n:Int),⟨(c0:Int),(c1:Int),(c2:Int),(c3:Int),(c4:Int)⟩,(hh:Int),k,key,l,v⟩) rfl ?_|refine K1.F1 (eP _ _ (by omega)) rfl ?_|refine K1.P1 (lX _) rfl ?_|refine aN.rounds 6 ?_|refine K1.I 0x3 Tryz.func110 ?_|refine K1.I 0x3 Tryz.func111 ?_|refine K1.o (id:=0) [(0,none),(1,none),(2,none),(3,some [2]),(4,some [2,0]),(5,some [2,0])] [(3,[2]),(4,[2,0]),(5,[2,0])] ?_|refine K1.z ?_|refine K1.y (fun _=>?_) (fun _=>?_)|fail)
  all_goals(refine aJ.qo d rfl rfl ?_ (aj);apply cO.pF)
  all_goals(try(repeat' (first|exact bD.bytes _|exact bD.str _|exact bD.one (by omega) (by omega)|exact bD.two (by omega) (by omega) (by omega) (by omega)|apply bD.app)))
  all_goals first
    |(simp only[List.length_append,List.length_cons,List.length_nil,qV];try omega;done)
    |(simp[aS,others,words,iM,byteOf,byteOf', *];done)
end
section
open Go.RowKit
theorem gW (k:Int):aG Tryz.prog 127 [.v (.int .i64 k)] (.dL [.v (.bool (F6 k)),.v (.bool (F7 k)),.v (.bool (F8 k)),.v (.bool (rcK k))]) []:=by
 refine K1.E 0xa8fd Tryz.func127 ?_
 repeat' ((conv=>whnf);first|refine K1.w ?_|refine K1.u ?_|refine aJ.dR ?_|refine K1.z ?_|refine K1.y (fun _=>?_) (fun _=>?_)|fail)
 all_goals(conv=>whnf)
 all_goals(refine bG.mk (aT.of ?_))
 all_goals first|(subst_vars;rfl)|(simp[F6,F7,F8,rcK, *];omega)
theorem Lj (n:Int):aG Tryz.prog 153 [.v (.int .i64 n)] (.v (.bool (nG n))) []:=by
 refine K1.E 0x5 Tryz.func153 ?_
 repeat' ((conv=>whnf);first|refine K1.w ?_|refine K1.u ?_|refine aJ.dR ?_|refine K1.z ?_|refine K1.y (fun _=>?_) (fun _=>?_)|fail)
 all_goals(conv=>whnf)
 all_goals(refine bG.mk (aT.of ?_))
 all_goals simp[nG,gu, *]
theorem Yr {l:List Ev} {j:Nat} (hj:j<l.length) (h: ¬fB (l.getD j default)=0):l.all (fun e=>decide (fB e=0))=false:=by
 rw[List.all_eq_false]
 refine⟨l[j],List.getElem_mem hj, ?_⟩
 rw[List.getD,List.getElem?_eq_getElem hj]at h
 simpa using h
theorem Tm {l:List Ev} (h: ∀i,i<l.length→fB (l.getD i default)=0):l.all (fun e=>decide (fB e=0))=true:=by
 rw[List.all_eq_true]
 intro e he
 obtain⟨i,hi,rfl⟩:=List.mem_iff_getElem.1 he
 have:=h i hi
 rw[List.getD,List.getElem?_eq_getElem hi]at this
 simpa using this
theorem Df (k:Int) (h: ¬ (1≤k∧k≤6)):aG Tryz.prog 127 [.v (.int .i64 k)] (.dL [.v (.bool false),.v (.bool false),.v (.bool false),.v (.bool false)]) []:=by
 have:=gW k
 rw[show F6 k=false by simp[F6];omega,show F7 k=false by simp[F7];omega,show F8 k=false by simp[F8];omega,show rcK k=false by simp[rcK];omega]at this
 exact this
theorem qB (x:Rc) (hl:x.ev.length≤140737488355328):aG Tryz.prog 126 [x.av] (.v (.bool (lC x))) []:=by
 obtain⟨k,r,u,⟨c0,c1,c2,c3,c4⟩,ev⟩:=x
 dsimp only at hl
 rcases(show k=1∨k=2∨k=3∨k=4∨k=5∨k=6∨ ¬ (1≤k∧k≤6) by omega)with rfl|rfl|rfl|rfl|rfl|rfl|hk
 all_goals dsimp only[Rc.av,Rc.cs]
 all_goals
  refine K1.E 0x10f4000000474000000057f Tryz.func126 ?_
  repeat' ((conv=>whnf);first|refine K1.w ?_|refine K1.u ?_|refine K1.P1 (Df _ hk) rfl ?_|refine K1.P1 (gW _) rfl ?_|refine K1.P1 (Lj _) rfl ?_|refine aN.sO 45 6 rfl ?_|refine PD.mk (bn.vs ⟨c0,c1,c2,c3,c4⟩) (bn.vs dS) (bn.mk c0 c1 c2 c3 c4=dS) rfl rfl (uy _ _) ?_|refine aJ.dR ?_|refine K1.z ?_|refine K1.y (fun _=>?_) (fun _=>?_)|fail)
  all_goals(conv=>whnf)
  all_goals first
    |refine bG.mk (aT.of ?_)
    |refine aN.mk {j:Nat//j≤ev.length∧ ∀i,i<j→fB (ev.getD i default)=0} (fun j=>⟨[(1,.box 0 0),(80,.sl 12 ev.length true (eG ev)),(81,.v (.int .i64 (ev.length:Int))),(82,.v (.int .i64 (j.1:Int)))],
       [(0,.box 59 [.v (.int .i64 _),.v (.int .i64 r),.v (.int .i64 u),.v (.int .i64 c0),.v (.int .i64 c1),.v (.int .i64 c2),.v (.int .i64 c3),.v (.int .i64 c4),.sl 12 ev.length true (eG ev)])],[],4⟩) (fun j=>ev.length-j.1) ⟨0,Nat.zero_le _,fun i h=>absurd h (Nat.not_lt_zero i)⟩ _
       (dO.mk' [] _ _ _ rfl ⟨aj,aj,aj,aT.int rfl,trivial⟩ ⟨aH rfl,trivial⟩ rfl) ?_
  all_goals try(simp[lC,rcK,F6,F7,F8,PG,jq,-List.length_eq_zero_iff, *]<;>omega;done)
  all_goals(rintro⟨j,hj,hall⟩;dsimp only)
  all_goals repeat' ((conv=>whnf);first|refine K1.w ?_|refine K1.u ?_|refine K1.P1 (lG (ev.getD (j:Int).toNat default)) rfl ?_|refine aJ.dR ?_|refine K1.z ?_|refine K1.y (fun _=>?_) (fun _=>?_)|fail)
  all_goals first
    | (conv=>whnf
       refine⟨⟨j+1,by omega,fun i hi=>?_⟩,_,dO.mk' [] _ _ _ rfl ⟨aj,aj,aj,aT.int rfl,trivial⟩ ⟨aH rfl,trivial⟩ rfl,by show ev.length-(j+1)<ev.length-j;omega⟩
       rcases Nat.lt_or_ge i j with h|h
       · exact hall i h
       · rw[show i=j by omega]
         exact ‹fB (ev.getD (j:Int).toNat default)=0›)
    | (conv=>whnf
       refine bG.mk (aT.of ?_)
       have hno:=Yr (l:=ev) (j:=j) (by omega) ‹¬fB (ev.getD (j:Int).toNat default)=0›
       simp[lC,hno])
    | (conv=>whnf
       refine bG.mk (aT.of ?_)
       have hyes:=Tm (l:=ev) (fun i hi=>hall i (by omega))
       simp[lC,show nG 0=true from rfl,rcK,F6,F7,F8,PG,jq,-List.length_eq_zero_iff, *]<;>omega)
def fZ (l:List Ev):List UInt8:=l.flatMap aS
def zk (c:bn):List UInt8:=iM c.c0++iM c.c1++iM c.c2++iM c.c3++iM c.c4
def fO (x:Rc):List UInt8:=
 [byteOf x.k,byteOf x.r]++(if F6 x.k then iM x.u else [])++(if F8 x.k then zk x.c else [])++(if F7 x.k then aA x.ev.length++fZ x.ev else [])
def aQ (x:Rc):List UInt8:=aA (eX (fO x)).length++eX (fO x)
theorem Yt (x:Rc) (hl:x.ev.length≤140737488355328) (h:lC x=false):aG Tryz.prog 93 [x.av] (.dL [.v (.slice none 0 0),.v (.int .i64 1)]) []:=by
 have hm:=qB x hl
 rw[h]at hm
 refine K1.E 0x403c0203a040004f57f Tryz.func93 ?_
 repeat' ((conv=>whnf);first|refine K1.w ?_|refine K1.u ?_|refine K1.P1 hm rfl ?_|refine aJ.dR ?_|refine K1.z ?_|refine K1.y (fun _=>?_) (fun _=>?_)|fail)
 conv=>whnf
 exact bG.mk (aj)
end
theorem Yu (x:Int):0≤m5 x∧m5 x≤4:=by unfold m5;omega
theorem Yv (n:Nat):keyE (ks3 n)=0:=by unfold ks3;split;decide;split<;>decide
theorem acH (n:Nat):fA (vs4 n)=0:=by unfold vs4;split;decide;split;decide;split<;>decide
theorem Om (e:Ed):jF (lY e)=0:=by
 have hm:=Yu e.k
 have ha:=X4 e.l
 unfold lY
 split
 · unfold jF
   simp only[Yv,acH]
   rw[if_neg (by omega),if_neg (by simp),if_neg (by omega),if_neg (by unfold lT;simp;omega)]
 · unfold jF
   simp only[Yv]
   rw[if_neg (by omega),if_neg (by simp),if_pos (by omega)]
   rfl
theorem BU: ∀ (f n k:Nat),n<128^(k+1)→(gJ f n).length≤k+1
  |0,n,k,_=>by simp[gJ]
  | f + 1,n,k,h=>by
    unfold gJ
    split
    · simp
    · cases k with
      |zero=>simp at h;omega
      | succ k=>
        have:=BU f (n/128) k (by rw[Nat.pow_succ]at h;exact Nat.div_lt_of_lt_mul (by rw[Nat.mul_comm];exact h))
        simp only[List.length_cons]
        omega
theorem adL {n:Nat} (h:n≤1048576):(aA n).length≤3:=BU 9 n 2 (by omega)
theorem adM {n:Nat} (h:n≤16777216):(aA n).length≤4:=BU 9 n 3 (by omega)
theorem BX {n:Int} (h:n≤1048576):(iM n).length≤3:=adL (by omega)
theorem acI {n:Int} (h:n≤16777216):(iM n).length≤4:=adM (by omega)
theorem Jl (s:ByteArray):(words s).length=1+s.size:=by
 unfold words
 rw[List.length_cons,Array.length_toList]
 show s.size+1=_
 omega
theorem oM {e:Ev} (h:fB e=0):(aS e).length≤44:=by
 have m:=xO h
 obtain⟨k1,k2,s1,s2,_,hl,hs⟩:=qy m.ed
 have hn:=BX (n:=e.n) (by have:=m.n2;omega)
 have hh:=acI (n:=e.h) (by have:=m.h2;omega)
 have c0:=BX m.a0.2
 have c1:=BX m.a1.2
 have c2:=BX m.a2.2
 have c3:=BX m.a3.2
 have c4:=BX m.a4.2
 have r0:=m.r0
 have r4:=m.r4
 have hv:(if dM e.k then byteOf e.l::words e.v else []).length≤14:=by
  split
  · rename_i h
    have:=hl h
    simp only[List.length_cons,Jl,Ev.ed]at this⊢
    omega
  · simp
 have ho:((others e).flatMap iM).length≤12:=by
  unfold others
  rcases(show e.r=0∨e.r=1∨e.r=2∨e.r=3∨e.r=4 by omega)with h|h|h|h|h<;>simp[h]<;>omega
 unfold aS
 simp only[List.length_append,List.length_cons,List.length_nil,Jl]
 have:e.key.size≤8:=s2
 omega
end Go.Proofs.YtimhagicagdkfaaGreat
