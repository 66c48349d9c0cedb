/-
  Contracts of the walk:Frm,FrmP,TkE,TkLaw.
-/
import Derived.Test.YtimhagicagdkfaaGreatNf13
import Derived.Test.YtimhagicagdkfaaGreatNf12
import Derived.Test.YtimhagicagdkfaaGreatNf9
import Derived.Test.YtimhagicagdkfaaGreatNf8
set_option linter.unusedVariables false
set_option linter.unusedSimpArgs false
set_option maxHeartbeats 16000000
set_option maxRecDepth 100000
namespace Go.Proofs.YtimhagicagdkfaaGreat
section
open Go.RowKit
theorem OH (k:Int) (h: ¬ (1≤k∧k≤5)):aH Tryz.prog 75 [.v (.int .i64 k)] (.dM [.agg [.v (.bool false),.v (.bool false),.v (.bool false)],.v (.bool false)]) []:=by
 have:=kS k
 rw[show wG k=false by simp[wG];omega,show wH k=false by simp[wH];omega,show wI k=false by simp[wI];omega,show Jy k=false by simp[Jy];omega]at this
 exact this
theorem LP (n:Int):aH Tryz.prog 108 [.v (.int .i64 n)] (.v (.bool (oJ n))) []:=by
 refine K1.E 0x5 Tryz.func108 ?_
 repeat' ((conv=>whnf);first|refine K1.w ?_|refine K1.u ?_|refine aG.cO ?_|refine K1.z ?_|refine K1.y (fun _=> ?_) (fun _=> ?_)|fail)
 all_goals(conv=>whnf)
 all_goals(refine aW.mk (aj.of ?_))
 all_goals simp[oJ,gG, *]
def qL (k r:Int) (e:Ev):Bool:=decide (eG e=0)&&(decide (k≠1)||decide (e.r=r))
theorem YC {k r:Int} {e:Ev} (h: ¬eG e=0):qL k r e=false:=by simp[qL,h]
theorem YD {k r:Int} {e:Ev} (hk:k=1) (h: ¬e.r=r):qL k r e=false:=by simp[qL,h,hk]
theorem Jz {k r:Int} {e:Ev} (h:eG e=0) (hk:k≠1):qL k r e=true:=by simp[qL,h,hk]
theorem JA {k r:Int} {e:Ev} (h:eG e=0) (hr:e.r=r):qL k r e=true:=by simp[qL,h,hr]
def kE (x:Rc):Bool:=
 Jy x.k&&decide (0≤x.r)&&decide (x.r<5)&&oJ x.u&&(wH x.k||decide (x.u=0))&&(wI x.k||Ij x.c)&&(wG x.k||decide (x.ev.length=0))&&ML x.c&&decide (x.ev.length≤20)&&(decide (x.k≠1)||decide (x.ev.length≠0))&&
  x.ev.all (qL x.k x.r)
theorem LQ {p:Ev→Bool} {l:List Ev} {j:Nat} (hj:j<l.length) (h:p (l.getD j default)=false):l.all p=false:=by
 rw[List.all_eq_false]
 refine⟨l[j],List.getElem_mem hj, ?_⟩
 rw[List.getD,List.getElem?_eq_getElem hj]at h
 simpa using h
theorem OI {p:Ev→Bool} {l:List Ev} (h: ∀i,i<l.length→p (l.getD i default)=true):l.all p=true:=by
 rw[List.all_eq_true]
 intro e he
 obtain⟨i,hi,rfl⟩:=List.mem_iff_getElem.1 he
 have:=h i hi
 rw[List.getD,List.getElem?_eq_getElem hi]at this
 exact this
theorem uH (x:Rc) (hl:x.ev.length≤140737488355328):aH Tryz.prog 74 [x.av] (.v (.bool (kE x))) []:=by
 obtain⟨k,r,u,⟨c0,c1,c2,c3,c4⟩,ev⟩:=x
 dsimp only at hl
 obtain⟨kk,hkk⟩: ∃kk,kk=k:=⟨_,rfl⟩
 rcases(show k=1∨k=2∨k=3∨k=4∨k=5∨ ¬ (1≤k∧k≤5) by omega)with rfl|rfl|rfl|rfl|rfl|hk
 all_goals dsimp only[Rc.av,Rc.cs]
 all_goals
  refine K1.E 0x10000f400047400000010000015f Tryz.func74 ?_
  repeat' ((conv=>whnf);first|refine K1.w ?_|refine K1.u ?_|refine K1.P1 (OH _ hk) rfl ?_|refine K1.P1 (kS _) rfl ?_|refine K1.P1 (LP _) rfl ?_|refine aJ.rP 65 6 rfl ?_|refine IC.mk (aZ.vs ⟨c0,c1,c2,c3,c4⟩) (aZ.vs dX) (aZ.mk c0 c1 c2 c3 c4=dX) rfl rfl (nU _ _) ?_|refine aG.cO ?_|refine K1.z ?_|refine K1.y (fun _=> ?_) (fun _=> ?_)|fail)
  all_goals(conv=>whnf)
  all_goals first
    |refine aW.mk (aj.of ?_)
    |refine aJ.mk {j:Nat//j≤ev.length∧ ∀i,i<j→qL kk r (ev.getD i default)=true} (fun j=>⟨[(1,.box 0 0),(88,.sl 12 ev.length true (dV ev)),(89,.v (.int .i64 (ev.length:Int))),(90,.v (.int .i64 (j.1:Int)))],
       [(0,.box 47 [.v (.int .i64 _),.v (.int .i64 r),.v (.int .i64 u),.v (.int .i64 c0),.v (.int .i64 c1),.v (.int .i64 c2),.v (.int .i64 c3),.v (.int .i64 c4),.sl 12 ev.length true (dV ev)])],[],4⟩) (fun j=>ev.length-j.1) ⟨0,Nat.zero_le _,fun i h=>absurd h (Nat.not_lt_zero i)⟩ _
       (dB.mk' [] _ _ _ rfl ⟨aj.refl _,aj.refl _,aj.refl _,aj.int rfl,trivial⟩ ⟨⟨_,rfl,au.refl _⟩,trivial⟩ rfl) ?_
  all_goals try(simp[kE,Jy,wH,wG,wI,ML,jo,-List.length_eq_zero_iff, *]<;>omega;done)
  all_goals(rintro⟨j,hj,hall⟩;dsimp only)
  all_goals repeat' ((conv=>whnf);first|refine K1.w ?_|refine K1.u ?_|refine K1.P1 (lH (ev.getD (j:Int).toNat default)) rfl ?_|refine aG.cO ?_|refine K1.z ?_|refine K1.y (fun _=> ?_) (fun _=> ?_)|fail)
  all_goals first
    | (conv=>whnf
       refine⟨⟨j+1,by omega,fun i hi=> ?_⟩,_,dB.mk' [] _ _ _ rfl ⟨aj.refl _,aj.refl _,aj.refl _,aj.int rfl,trivial⟩ ⟨⟨_,rfl,au.refl _⟩,trivial⟩ rfl,by show ev.length-(j+1)<ev.length-j;omega⟩
       rcases Nat.lt_or_ge i j with h|h
       · exact hall i h
       · obtain rfl:i=j:=by omega
         have h0:eG (ev.getD i default)=0:= ‹eG (ev.getD (i:Int).toNat default)=0›
         first
           |exact Jz h0 (by omega)
           |exact JA h0 ‹(ev.getD (i:Int).toNat default).r=r›)
    | (conv=>whnf
       refine aW.mk (aj.of ?_)
       have hno:=LQ (p:=qL kk r) (l:=ev) (j:=j) (by omega) (YC ‹¬eG (ev.getD (j:Int).toNat default)=0›)
       rw[hkk]at hno
       simp[kE,hno])
    | (conv=>whnf
       refine aW.mk (aj.of ?_)
       have hno:=LQ (p:=qL kk r) (l:=ev) (j:=j) (by omega) (YD hkk ‹¬ (ev.getD (j:Int).toNat default).r=r›)
       rw[hkk]at hno
       simp[kE,hno])
    | (conv=>whnf
       refine aW.mk (aj.of ?_)
       have hyes:=OI (p:=qL kk r) (l:=ev) (fun i hi=>hall i (by omega))
       rw[hkk]at hyes
       simp[kE,show oJ 0=true from rfl,Jy,wH,wG,wI,ML,jo,-List.length_eq_zero_iff, *]<;>omega)
end
section
open Go.RowKit
def jV (x:Rc):List UInt8:=
 [byteOf x.k,byteOf x.r]++(if wG x.k then UInt8.ofNat x.ev.length::fQ x.ev else [])++(if wH x.k then iL x.u else [])++(if wI x.k then zy x.c else [])
def dS (x:Rc):List UInt8:=eP (aB (jV x).length++jV x)
structure aev (x:Rc):Prop where
 k:1≤x.k∧x.k≤5
 r:0≤x.r∧x.r<5
 u:oJ x.u=true
 u0:wH x.k=true∨x.u=0
 c0:wI x.k=true∨x.c=dX
 e0:wG x.k=true∨x.ev.length=0
 c:oJ x.c.c0=true∧oJ x.c.c1=true∧oJ x.c.c2=true∧oJ x.c.c3=true∧oJ x.c.c4=true
 l:x.ev.length≤20
 one:x.k≠1∨x.ev.length≠0
 ev:x.ev.all (qL x.k x.r)=true
theorem ng {x:Rc} (h:kE x=true):aev x:=by
 simp only[kE,Bool.and_eq_true,Bool.or_eq_true,decide_eq_true_eq,jo,ML,Jy]at h
 obtain⟨⟨⟨⟨⟨⟨⟨⟨⟨⟨h1,h2⟩,h3⟩,h4⟩,h5⟩,h6⟩,h7⟩,⟨⟨⟨h8,h9⟩,h10⟩,h11⟩,h12⟩,h13⟩,h14⟩,h15⟩:=h
 exact⟨h1,⟨h2,h3⟩,h4,h5,h6,h7,⟨h8,h9,h10,h11,h12⟩,h13,h14,h15⟩
theorem AZ {k r:Int} {l:List Ev} (h:l.all (qL k r)=true):l.all (fun e=>decide (eG e=0))=true:=by
 rw[List.all_eq_true]at h⊢
 intro e he
 have:=h e he
 simp only[qL,Bool.and_eq_true]at this
 exact this.1
theorem YE (x:Rc) (hl:x.ev.length≤140737488355328) (h:kE x=false):aH Tryz.prog 41 [x.av] (.dM [.v (.slice none 0 0),.v (.int .i64 1)]) []:=by
 have hm:=uH x hl
 rw[h]at hm
 refine K1.E 0x3a020807804000975f Tryz.func41 ?_
 repeat' ((conv=>whnf);first|refine K1.w ?_|refine K1.u ?_|refine K1.P1 (hm) rfl ?_|refine aG.cO ?_|refine K1.z ?_|refine K1.y (fun _=> ?_) (fun _=> ?_)|fail)
 conv=>whnf
 exact aW.mk (aj.refl _)
theorem TF (d:Nat) (x:Rc) (h:kE x=true) (hk:x.k=1∨x.k=4):
  aH Tryz.prog 41 [x.av] (.dM [.own d,.v (.int .i64 0)]) [(d,.row 5 1 (dS x).length true (aX (dS x)))]:=by
 have m:=ng h
 have hm:=uH x (by have:=m.l;omega)
 rw[h]at hm
 obtain⟨k,r,u,c,ev⟩:=x
 obtain⟨mk,mr,mu,wF,uQ,me0,mc,ml,m1,yF⟩:=m
 dsimp only at mk mr mu ml mc wF uQ me0 yF m1 hk
 have Gn:=AZ yF
 have hat: ∀j,j<ev.length→eG (ev.getD j default)=0:=fun j hj=>LJ Gn hj
 have h44: ∀j,j<ev.length→(aQ (ev.getD j default)).length≤44:=fun j hj=>oL (hat j hj)
 have hlen: ∀j,(fQ (ev.take j)).length≤44*j:=fun j=>Nat.le_trans (sV fun e he=>pJ Gn e (List.mem_of_mem_take he)) (Nat.mul_le_mul_left _ (by rw[List.length_take];omega))
 obtain⟨kk,hkk⟩: ∃kk,kk=k:=⟨_,rfl⟩
 have hmore: ∀j,(([byteOf' kk,byteOf' r]++[byteOf' (ev.length:Int)])++fQ (ev.take j)).length=3+(fQ (ev.take j)).length:=fun j=>by simp;omega
 rcases hk with rfl|rfl
 all_goals
  dsimp only[Rc.av,Rc.cs]at hm⊢
  refine K1.E 0x3a020807804000975f Tryz.func41 ?_
  repeat' ((conv=>whnf);first|refine K1.w ?_|refine K1.u ?_|refine K1.P1 (hm) rfl ?_|refine K1.P1 (kS _) rfl ?_|refine K1.z ?_|refine K1.y (fun _=> ?_) (fun _=> ?_)|fail)
  conv=>whnf
  refine aJ.mk {j:Nat//j≤ev.length} (fun j=>⟨[(1,.box 0 0),(4,.box 1 0),(6,.own 90),(39,.sl 12 ev.length true (dV ev)),(40,.v (.int .i64 (ev.length:Int))),(41,.v (.int .i64 (j.1:Int)))],
    [(1,.box 134 [.v (.bool true),.v (.bool false),.v (.bool false)]),(90,.row 5 1 (([byteOf' kk,byteOf' r]++[byteOf' (ev.length:Int)])++fQ (ev.take j.1)).length true (aX (([byteOf' kk,byteOf' r]++[byteOf' (ev.length:Int)])++fQ (ev.take j.1))))],[],91⟩) (fun j=>ev.length-j.1) ⟨0,Nat.zero_le _⟩ _
    (dB.mk' [(4,90)] _ _ _ rfl ⟨aj.refl _,aj.refl _,aj.refl _,aj.refl _,aj.refl _,aj.int rfl,trivial⟩ ⟨⟨_,rfl,au.refl _⟩,⟨_,rfl,au.pz (bF.app (bF.two (by omega) (by omega) (by omega) (by omega)) (bF.one (by omega) (by omega)) rfl) (by simp<;>omega) (by simp[fQ,hkk])⟩,trivial⟩ rfl) ?_
  rintro⟨j,hj⟩
  dsimp only
  have acI:=h44 (j:Int).toNat
  have hmj:=hmore j
  have hlj:=hlen j
  have hsl:=dY (aB (([byteOf' kk,byteOf' r]++[byteOf' (ev.length:Int)])++fQ (ev.take j)).length++(([byteOf' kk,byteOf' r]++[byteOf' (ev.length:Int)])++fQ (ev.take j)))
  have hvs:(aB (([byteOf' kk,byteOf' r]++[byteOf' (ev.length:Int)])++fQ (ev.take j)).length).length≤10:=bQ 9 _
  repeat' ((conv=>whnf);first|refine K1.w ?_|refine K1.u ?_|refine K1.F1 (uF _ (ev.getD (j:Int).toNat default) (hat _ (by omega))) rfl ?_|refine K1.F1 (dZ _ (([byteOf' kk,byteOf' r]++[byteOf' (ev.length:Int)])++fQ (ev.take j)).length (by omega)) rfl ?_|refine K1.F1 (nV _ (aB (([byteOf' kk,byteOf' r]++[byteOf' (ev.length:Int)])++fQ (ev.take j)).length++(([byteOf' kk,byteOf' r]++[byteOf' (ev.length:Int)])++fQ (ev.take j))) (bF.app (bF.bytes _) (bF.bytes _) rfl) List.length_append.symm (by rw[List.length_append];omega)) rfl ?_|refine K1.z ?_|refine K1.y (fun _=> ?_) (fun _=> ?_)|fail)
  · conv=>whnf
    refine⟨⟨j+1,by omega⟩,_,dB.mk' [(93,90)] _ _ _ rfl ⟨aj.refl _,aj.refl _,aj.refl _,aj.refl _,aj.refl _,aj.int rfl,trivial⟩ ⟨⟨_,rfl,au.refl _⟩,⟨_,rfl,au.pz (bF.app (bF.bytes _) (bF.bytes _) rfl) List.length_append.symm ?_⟩,trivial⟩ rfl,by show ev.length-(j+1)<ev.length-j;omega⟩
    rw[yg (by omega),List.append_assoc]
    rfl
  · conv=>whnf
    refine aG.qJ d rfl rfl ?_ (aj.refl _)
    refine au.pz (bF.bytes _) rfl ?_
    rw[List.take_of_length_le (by omega)]
    unfold dS jV
    simp[hkk,wG,wH,wI,byteOf,byteOf']
theorem aaK (d:Nat) (x:Rc) (h:kE x=true) (hk:x.k=2):
  aH Tryz.prog 41 [x.av] (.dM [.own d,.v (.int .i64 0)]) [(d,.row 5 1 (dS x).length true (aX (dS x)))]:=by
 have m:=ng h
 have hm:=uH x (by have:=m.l;omega)
 rw[h]at hm
 obtain⟨k,r,u,c,ev⟩:=x
 obtain⟨mk,mr,mu,wF,uQ,me0,mc,ml,m1,yF⟩:=m
 dsimp only at mk mr mu ml mc wF uQ me0 yF m1 hk
 obtain⟨kk,hkk⟩: ∃kk,kk=k:=⟨_,rfl⟩
 obtain⟨un,rfl,hun⟩:=fU mu
 have hvu:(aB un).length≤10:=bQ 9 _
 have hmore:([byteOf' kk,byteOf' r]++aB un).length=2+(aB un).length:=by simp;omega
 have hsl:=dY (aB (2+(aB un).length)++([byteOf' kk,byteOf' r]++aB un))
 have hvs:(aB (2+(aB un).length)).length≤10:=bQ 9 _
 subst hk
 have hP:bF (qh 2 (chunk 1 [.v (.int .u8 2),.v (.int .u8 r)]) (aX (aB un))) ([byteOf' kk,byteOf' r]++aB un):=hkk▸bF.app (bF.two (by omega) (by omega) (by omega) (by omega)) (bF.bytes _) rfl
 have hn:2+(aB un).length=([byteOf' kk,byteOf' r]++aB un).length:=by omega
 dsimp only[Rc.av,Rc.cs]at hm⊢
 refine K1.E 0x3a020807804000975f Tryz.func41 ?_
 repeat' ((conv=>whnf);first|refine K1.w ?_|refine K1.u ?_|refine K1.P1 (hm) rfl ?_|refine K1.P1 (kS _) rfl ?_|refine K1.F1 (dZ _ un (by omega)) rfl ?_|refine K1.F1 (dZ _ (2+(aB un).length) (by omega)) rfl ?_|refine K1.F1 (nV _ (aB (2+(aB un).length)++([byteOf' kk,byteOf' r]++aB un)) (bF.app (bF.bytes _) hP rfl) (by rw[List.length_append,←hn]) (by rw[List.length_append,←hn];omega)) rfl ?_|refine K1.z ?_|refine K1.y (fun _=> ?_) (fun _=> ?_)|fail)
 conv=>whnf
 refine aG.qJ d rfl rfl ?_ (aj.refl _)
 refine au.pz (bF.bytes _) rfl ?_
 rw[hn]
 unfold dS jV
 simp[hkk,wG,wH,wI,byteOf,byteOf',iL]
theorem TG (d:Nat) (x:Rc) (h:kE x=true) (hk:x.k=3∨x.k=5):
  aH Tryz.prog 41 [x.av] (.dM [.own d,.v (.int .i64 0)]) [(d,.row 5 1 (dS x).length true (aX (dS x)))]:=by
 have m:=ng h
 have hm:=uH x (by have:=m.l;omega)
 rw[h]at hm
 obtain⟨k,r,u,⟨c0,c1,c2,c3,c4⟩,ev⟩:=x
 obtain⟨mk,mr,mu,wF,uQ,me0,⟨m0,m1,m2,m3,m4⟩,ml,LM,yF⟩:=m
 dsimp only at mk mr mu ml m0 m1 m2 m3 m4 wF uQ me0 yF LM hk
 obtain⟨kk,hkk⟩: ∃kk,kk=k:=⟨_,rfl⟩
 obtain⟨c0,rfl,hc0⟩:=fU m0
 obtain⟨c1,rfl,hc1⟩:=fU m1
 obtain⟨c2,rfl,hc2⟩:=fU m2
 obtain⟨c3,rfl,hc3⟩:=fU m3
 obtain⟨c4,rfl,hc4⟩:=fU m4
 have q0:(aB c0).length≤10:=bQ 9 _
 have q1:(aB c1).length≤10:=bQ 9 _
 have q2:(aB c2).length≤10:=bQ 9 _
 have q3:(aB c3).length≤10:=bQ 9 _
 have q4:(aB c4).length≤10:=bQ 9 _
 obtain⟨n,hn0⟩: ∃n,n=2+(aB c0).length+(aB c1).length+(aB c2).length+(aB c3).length+(aB c4).length:=⟨_,rfl⟩
 have hn:n=([byteOf' kk,byteOf' r]++aB c0++aB c1++aB c2++aB c3++aB c4).length:=by rw[hn0];simp;omega
 have hvs:(aB (2+(aB c0).length+(aB c1).length+(aB c2).length+(aB c3).length+(aB c4).length)).length≤10:=bQ 9 _
 have hsl:=dY (aB (2+(aB c0).length+(aB c1).length+(aB c2).length+(aB c3).length+(aB c4).length)++([byteOf' kk,byteOf' r]++aB c0++aB c1++aB c2++aB c3++aB c4))
 rcases hk with rfl|rfl
 all_goals
  have hP:=bF.app (bF.app (bF.app (bF.app (bF.app (bF.two (x:=kk) (y:=r) (by omega) (by omega) (by omega) (by omega)) (bF.bytes (aB c0)) rfl) (bF.bytes (aB c1)) (n:=2+(aB c0).length) (by simp<;>omega)) (bF.bytes (aB c2)) (n:=2+(aB c0).length+(aB c1).length) (by simp<;>omega)) (bF.bytes (aB c3)) (n:=2+(aB c0).length+(aB c1).length+(aB c2).length) (by simp<;>omega)) (bF.bytes (aB c4)) (n:=2+(aB c0).length+(aB c1).length+(aB c2).length+(aB c3).length) (by simp<;>omega)
  rw[hkk]at hP hn
  dsimp only[Rc.av,Rc.cs]at hm⊢
  refine K1.E 0x3a020807804000975f Tryz.func41 ?_
  repeat' ((conv=>whnf);first|refine K1.w ?_|refine K1.u ?_|refine K1.P1 (hm) rfl ?_|refine K1.P1 (kS _) rfl ?_|refine K1.F1 (dZ _ c0 (by omega)) rfl ?_|refine K1.F1 (dZ _ c1 (by omega)) rfl ?_|refine K1.F1 (dZ _ c2 (by omega)) rfl ?_|refine K1.F1 (dZ _ c3 (by omega)) rfl ?_|refine K1.F1 (dZ _ c4 (by omega)) rfl ?_|refine K1.F1 (dZ _ (2+(aB c0).length+(aB c1).length+(aB c2).length+(aB c3).length+(aB c4).length) (by omega)) rfl ?_|refine K1.F1 (nV _ (aB (2+(aB c0).length+(aB c1).length+(aB c2).length+(aB c3).length+(aB c4).length)++([byteOf' _,byteOf' r]++aB c0++aB c1++aB c2++aB c3++aB c4)) (bF.app (bF.bytes _) hP rfl) (by rw[List.length_append,←hn,hn0]) (by rw[List.length_append,←hn,hn0];omega)) rfl ?_|refine aJ.rP 68 6 rfl ?_|refine K1.z ?_|refine K1.y (fun _=> ?_) (fun _=> ?_)|fail)
  conv=>whnf
  refine aG.qJ d rfl rfl ?_ (aj.refl _)
  refine au.pz (bF.bytes _) rfl ?_
  rw[←hn0,hn]
  unfold dS jV
  simp[wG,wH,wI,byteOf,byteOf',iL,zy]
theorem Vb (d:Nat) (x:Rc) (h:kE x=true):
  aH Tryz.prog 41 [x.av] (.dM [.own d,.v (.int .i64 0)]) [(d,.row 5 1 (dS x).length true (aX (dS x)))]:=by
 have m:=(ng h).k
 rcases(show x.k=1∨x.k=2∨x.k=3∨x.k=4∨x.k=5 by omega)with hk|hk|hk|hk|hk
 · exact TF d x h (.inl hk)
 · exact aaK d x h hk
 · exact TG d x h (.inl hk)
 · exact TF d x h (.inr hk)
 · exact TG d x h (.inr hk)
end
section
open Go.RowKit
def LU:Ev:=⟨0,0,⟨0,0,0,0,0⟩,0,0,⟨#[]⟩,0,⟨#[]⟩⟩
def ni (bs:List UInt8):Ev×Nat×Int:=if(dH bs (0,0)).2.2≠0 then(LU,0,(dH bs (0,0)).2.2)else((dH bs (0,0)).1,(dH bs (0,0)).2.1,0)
def tkR (t:Ev×Nat×Int):AV:= .dM [t.1.av,.v (.int .i64 (t.2.1:Int)),.v (.int .i64 t.2.2)]
theorem lJ {bs:List UInt8} {e:Ev} {s:Sq} (h:dH bs (0,0)=(e,s)) (h0:s.2=0):tkR (e,s.1,0)=tkR (ni bs):=by
 unfold ni;rw[h,if_neg (fun k=>k h0)]
theorem lK {bs:List UInt8} {e:Ev} {s:Sq} (h:dH bs (0,0)=(e,s)) (h0: ¬s.2=0):tkR (LU,0,s.2)=tkR (ni bs):=by
 unfold ni;rw[h,if_pos h0]
theorem acL {bs:List UInt8} {lo hi:Int} {s:Sq} (_h0:0≤lo) (h1:0≤hi):0≤(eU bs lo hi s).1∧(eU bs lo hi s).1≤hi:=by
 unfold eU
 split
 · exact⟨Int.le_refl _,h1⟩
 · split
   · exact⟨Int.le_refl _,h1⟩
   · split
     · rename_i h;exact⟨by omega,h.2⟩
     · exact⟨Int.le_refl _,h1⟩
theorem jq {bs:List UInt8} {lo hi c:Int} {s s':Sq} (h:fG bs lo hi s=(c,s')) (hu:s.1≤bs.length):s'.1≤bs.length∧(0≤c∧c≤255):=by
 have h1:=aav (lo:=lo) (hi:=hi) hu
 have h2:=acE (bs:=bs) (lo:=lo) (hi:=hi) (s:=s)
 rw[h]at h1 h2
 exact⟨h1,h2⟩
theorem fP {bs:List UInt8} {lo hi c:Int} {s s':Sq} (h:eU bs lo hi s=(c,s')) (hu:s.1≤bs.length) (h0:0≤lo) (h1:0≤hi):s'.1≤bs.length∧(0≤c∧c≤hi):=by
 have h3:=aaF (lo:=lo) (hi:=hi) hu
 have h2:=acL (bs:=bs) (lo:=lo) (hi:=hi) (s:=s) h0 h1
 rw[h]at h3 h2
 exact⟨h3,h2⟩
theorem wK {bs:List UInt8} {sz:Int} {may:ByteArray→Int} {c:ByteArray} {s s':Sq} (h:fO bs sz may s=(c,s')) (hu:s.1≤bs.length):s'.1≤bs.length:=by
 have h1:=Yr (sz:=sz) (may:=may) hu
 rw[h]at h1
 exact h1
theorem Vd (bs:List UInt8) (hl:bs.length≤1000000000):aH Tryz.prog 114 [.sl 1 bs.length true (aX bs)] (.dM [(ni bs).1.av,.v (.int .i64 ((ni bs).2.1:Int)),.v (.int .i64 (ni bs).2.2)]) []:=by
 obtain⟨⟨k,s1⟩,e1⟩: ∃p,fG bs 1 5 (0,0)=p:=⟨_,rfl⟩
 obtain⟨q1,g1⟩:=jq e1 (Nat.zero_le _)
 obtain⟨⟨R,s2⟩,e2⟩: ∃p,fG bs 0 4 s1=p:=⟨_,rfl⟩
 have hR0:=FP (bs:=bs) (lo:=0) (hi:=4) (s:=s1)
 rw[e2]at hR0
 obtain⟨q2,g2⟩:=jq e2 q1
 obtain⟨⟨N,s3⟩,e3⟩: ∃p,eU bs 1 1048576 s2=p:=⟨_,rfl⟩
 obtain⟨q3,g3⟩:=fP e3 q2 (by omega) (by omega)
 rcases(show R=0∨R=1∨R=2∨R=3∨R=4 by simp only at hR0;omega)with rfl|rfl|rfl|rfl|rfl
 · obtain⟨⟨c1,t2⟩,f1⟩: ∃p,eU bs 0 1048576 s3=p:=⟨_,rfl⟩
   obtain⟨p1,_⟩:=fP f1 q3 (by omega) (by omega)
   obtain⟨⟨c2,t3⟩,f2⟩: ∃p,eU bs 0 1048576 t2=p:=⟨_,rfl⟩
   obtain⟨p2,_⟩:=fP f2 p1 (by omega) (by omega)
   obtain⟨⟨c3,t4⟩,f3⟩: ∃p,eU bs 0 1048576 t3=p:=⟨_,rfl⟩
   obtain⟨p3,_⟩:=fP f3 p2 (by omega) (by omega)
   obtain⟨⟨c4,t5⟩,f4⟩: ∃p,eU bs 0 1048576 t4=p:=⟨_,rfl⟩
   obtain⟨p4,_⟩:=fP f4 p3 (by omega) (by omega)
   obtain⟨⟨H,s5⟩,e5⟩: ∃p,eU bs 1 16777216 t5=p:=⟨_,rfl⟩
   obtain⟨q5,g5⟩:=fP e5 p4 (by omega) (by omega)
   obtain⟨⟨ks,s6⟩,e6⟩: ∃p,fG bs 1 8 s5=p:=⟨_,rfl⟩
   obtain⟨q6,g6⟩:=jq e6 q5
   obtain⟨⟨key,s7⟩,e7⟩: ∃p,fO bs ks keyE s6=p:=⟨_,rfl⟩
   have q7:=wK e7 q6
   obtain⟨⟨l,s8⟩,e8⟩: ∃p,fG bs 0 1 s7=p:=⟨_,rfl⟩
   obtain⟨q8,g8⟩:=jq e8 q7
   obtain⟨⟨vs,s9⟩,e9⟩: ∃p,fG bs 1 12 s8=p:=⟨_,rfl⟩
   obtain⟨q9,g9⟩:=jq e9 q8
   obtain⟨⟨v,s10⟩,e10⟩: ∃p,fO bs vs eX s9=p:=⟨_,rfl⟩
   have hF:dH bs (0,0)=if dK k then(⟨0,N,⟨N-1,c1,c2,c3,c4⟩,H,k,key,l,v⟩,s10)else(⟨0,N,⟨N-1,c1,c2,c3,c4⟩,H,k,key,0,⟨#[]⟩⟩,s7):=by
    simp[dH,iR,ku,kN,aZ.rQ,aZ.put,e1,e2,e3,f1,f2,f3,f4,e5,e6,e7,e8,e9,e10]
   have hL:dK k=true→dH bs (0,0)=(⟨0,N,⟨N-1,c1,c2,c3,c4⟩,H,k,key,l,v⟩,s10):=fun h=>hF.trans (if_pos h)
   have hS:dK k=false→dH bs (0,0)=(⟨0,N,⟨N-1,c1,c2,c3,c4⟩,H,k,key,0,⟨#[]⟩⟩,s7):=fun h=>hF.trans (if_neg (by rw[h];exact Bool.false_ne_true))
   clear hF
   refine K1.E 0x100ff Tryz.func114 ?_
   repeat' ((conv=>whnf);first|refine K1.w ?_|refine K1.u ?_|refine K1.C 3 [(0,_),(1,_),(2,_)] (fZ bs _ _ _ _ _ e1 hl) rfl ?_|refine K1.C 3 [(0,_),(1,_),(2,_)] (fZ bs _ _ _ _ _ e2 hl) rfl ?_|refine K1.C 3 [(0,_),(1,_),(2,_)] (dP bs _ _ _ _ _ e3 (by assumption) hl (by omega) (by omega) (by omega)) rfl ?_|refine K1.C 3 [(0,_),(1,_),(2,_)] (dP bs _ _ _ _ _ f1 (by assumption) hl (by omega) (by omega) (by omega)) rfl ?_|refine K1.C 3 [(0,_),(1,_),(2,_)] (dP bs _ _ _ _ _ f2 (by assumption) hl (by omega) (by omega) (by omega)) rfl ?_|refine K1.C 3 [(0,_),(1,_),(2,_)] (dP bs _ _ _ _ _ f3 (by assumption) hl (by omega) (by omega) (by omega)) rfl ?_|refine K1.C 3 [(0,_),(1,_),(2,_)] (dP bs _ _ _ _ _ f4 (by assumption) hl (by omega) (by omega) (by omega)) rfl ?_|refine K1.C 3 [(0,_),(1,_),(2,_)] (dP bs _ _ _ _ _ e5 (by assumption) hl (by omega) (by omega) (by omega)) rfl ?_|refine K1.C 3 [(0,_),(1,_),(2,_)] (fZ bs _ _ _ _ _ e6 hl) rfl ?_|refine K1.C 3 [(0,_),(1,_),(2,_)] (wC bs _ _ _ _ e7 (by assumption) hl (by assumption)) rfl ?_|refine K1.C 3 [(0,_),(1,_),(2,_)] (fZ bs _ _ _ _ _ e8 hl) rfl ?_|refine K1.C 3 [(0,_),(1,_),(2,_)] (fZ bs _ _ _ _ _ e9 hl) rfl ?_|refine K1.C 3 [(0,_),(1,_),(2,_)] (wE bs _ _ _ _ e10 (by assumption) hl (by assumption)) rfl ?_|refine K1.P1 (lY _) rfl ?_|refine aJ.rounds 6 ?_|refine K1.I 0x4000004301c7 Tryz.func144 ?_|refine K1.o (id:=6) [(0,none),(1,none),(2,some []),(3,some []),(4,some [1])] [(2,[]),(3,[]),(4,[1])] ?_|refine K1.o (id:=7) [(0,none),(1,none),(2,some [0]),(3,some [0,1]),(4,some [0,1])] [(2,[0]),(3,[0,1]),(4,[0,1])] ?_|refine K1.z ?_|refine K1.y (fun _=> ?_) (fun _=> ?_)|fail)
   all_goals refine aG.cO ?_
   all_goals(conv=>whnf)
   all_goals refine aW.mk (aj.of ?_)
   all_goals first|exact lJ (hL ‹_›) ‹_› |exact lK (hL ‹_›) ‹_› |exact lJ (hS ‹_›) ‹_› |exact lK (hS ‹_›) ‹_›
 · obtain⟨⟨c0,t1⟩,f0⟩: ∃p,eU bs 0 1048576 s3=p:=⟨_,rfl⟩
   obtain⟨p0,_⟩:=fP f0 q3 (by omega) (by omega)
   obtain⟨⟨c2,t3⟩,f2⟩: ∃p,eU bs 0 1048576 t1=p:=⟨_,rfl⟩
   obtain⟨p2,_⟩:=fP f2 p0 (by omega) (by omega)
   obtain⟨⟨c3,t4⟩,f3⟩: ∃p,eU bs 0 1048576 t3=p:=⟨_,rfl⟩
   obtain⟨p3,_⟩:=fP f3 p2 (by omega) (by omega)
   obtain⟨⟨c4,t5⟩,f4⟩: ∃p,eU bs 0 1048576 t4=p:=⟨_,rfl⟩
   obtain⟨p4,_⟩:=fP f4 p3 (by omega) (by omega)
   obtain⟨⟨H,s5⟩,e5⟩: ∃p,eU bs 1 16777216 t5=p:=⟨_,rfl⟩
   obtain⟨q5,g5⟩:=fP e5 p4 (by omega) (by omega)
   obtain⟨⟨ks,s6⟩,e6⟩: ∃p,fG bs 1 8 s5=p:=⟨_,rfl⟩
   obtain⟨q6,g6⟩:=jq e6 q5
   obtain⟨⟨key,s7⟩,e7⟩: ∃p,fO bs ks keyE s6=p:=⟨_,rfl⟩
   have q7:=wK e7 q6
   obtain⟨⟨l,s8⟩,e8⟩: ∃p,fG bs 0 1 s7=p:=⟨_,rfl⟩
   obtain⟨q8,g8⟩:=jq e8 q7
   obtain⟨⟨vs,s9⟩,e9⟩: ∃p,fG bs 1 12 s8=p:=⟨_,rfl⟩
   obtain⟨q9,g9⟩:=jq e9 q8
   obtain⟨⟨v,s10⟩,e10⟩: ∃p,fO bs vs eX s9=p:=⟨_,rfl⟩
   have hF:dH bs (0,0)=if dK k then(⟨1,N,⟨c0,N-1,c2,c3,c4⟩,H,k,key,l,v⟩,s10)else(⟨1,N,⟨c0,N-1,c2,c3,c4⟩,H,k,key,0,⟨#[]⟩⟩,s7):=by
    simp[dH,iR,ku,kN,aZ.rQ,aZ.put,e1,e2,e3,f0,f2,f3,f4,e5,e6,e7,e8,e9,e10]
   have hL:dK k=true→dH bs (0,0)=(⟨1,N,⟨c0,N-1,c2,c3,c4⟩,H,k,key,l,v⟩,s10):=fun h=>hF.trans (if_pos h)
   have hS:dK k=false→dH bs (0,0)=(⟨1,N,⟨c0,N-1,c2,c3,c4⟩,H,k,key,0,⟨#[]⟩⟩,s7):=fun h=>hF.trans (if_neg (by rw[h];exact Bool.false_ne_true))
   clear hF
   refine K1.E 0x100ff Tryz.func114 ?_
   repeat' ((conv=>whnf);first|refine K1.w ?_|refine K1.u ?_|refine K1.C 3 [(0,_),(1,_),(2,_)] (fZ bs _ _ _ _ _ e1 hl) rfl ?_|refine K1.C 3 [(0,_),(1,_),(2,_)] (fZ bs _ _ _ _ _ e2 hl) rfl ?_|refine K1.C 3 [(0,_),(1,_),(2,_)] (dP bs _ _ _ _ _ e3 (by assumption) hl (by omega) (by omega) (by omega)) rfl ?_|refine K1.C 3 [(0,_),(1,_),(2,_)] (dP bs _ _ _ _ _ f0 (by assumption) hl (by omega) (by omega) (by omega)) rfl ?_|refine K1.C 3 [(0,_),(1,_),(2,_)] (dP bs _ _ _ _ _ f2 (by assumption) hl (by omega) (by omega) (by omega)) rfl ?_|refine K1.C 3 [(0,_),(1,_),(2,_)] (dP bs _ _ _ _ _ f3 (by assumption) hl (by omega) (by omega) (by omega)) rfl ?_|refine K1.C 3 [(0,_),(1,_),(2,_)] (dP bs _ _ _ _ _ f4 (by assumption) hl (by omega) (by omega) (by omega)) rfl ?_|refine K1.C 3 [(0,_),(1,_),(2,_)] (dP bs _ _ _ _ _ e5 (by assumption) hl (by omega) (by omega) (by omega)) rfl ?_|refine K1.C 3 [(0,_),(1,_),(2,_)] (fZ bs _ _ _ _ _ e6 hl) rfl ?_|refine K1.C 3 [(0,_),(1,_),(2,_)] (wC bs _ _ _ _ e7 (by assumption) hl (by assumption)) rfl ?_|refine K1.C 3 [(0,_),(1,_),(2,_)] (fZ bs _ _ _ _ _ e8 hl) rfl ?_|refine K1.C 3 [(0,_),(1,_),(2,_)] (fZ bs _ _ _ _ _ e9 hl) rfl ?_|refine K1.C 3 [(0,_),(1,_),(2,_)] (wE bs _ _ _ _ e10 (by assumption) hl (by assumption)) rfl ?_|refine K1.P1 (lY _) rfl ?_|refine aJ.rounds 6 ?_|refine K1.I 0x4000004301c7 Tryz.func144 ?_|refine K1.o (id:=6) [(0,none),(1,none),(2,some []),(3,some []),(4,some [1])] [(2,[]),(3,[]),(4,[1])] ?_|refine K1.o (id:=7) [(0,none),(1,none),(2,some [0]),(3,some [0,1]),(4,some [0,1])] [(2,[0]),(3,[0,1]),(4,[0,1])] ?_|refine K1.z ?_|refine K1.y (fun _=> ?_) (fun _=> ?_)|fail)
   all_goals refine aG.cO ?_
   all_goals(conv=>whnf)
   all_goals refine aW.mk (aj.of ?_)
   all_goals first|exact lJ (hL ‹_›) ‹_› |exact lK (hL ‹_›) ‹_› |exact lJ (hS ‹_›) ‹_› |exact lK (hS ‹_›) ‹_›
 · obtain⟨⟨c0,t1⟩,f0⟩: ∃p,eU bs 0 1048576 s3=p:=⟨_,rfl⟩
   obtain⟨p0,_⟩:=fP f0 q3 (by omega) (by omega)
   obtain⟨⟨c1,t2⟩,f1⟩: ∃p,eU bs 0 1048576 t1=p:=⟨_,rfl⟩
   obtain⟨p1,_⟩:=fP f1 p0 (by omega) (by omega)
   obtain⟨⟨c3,t4⟩,f3⟩: ∃p,eU bs 0 1048576 t2=p:=⟨_,rfl⟩
   obtain⟨p3,_⟩:=fP f3 p1 (by omega) (by omega)
   obtain⟨⟨c4,t5⟩,f4⟩: ∃p,eU bs 0 1048576 t4=p:=⟨_,rfl⟩
   obtain⟨p4,_⟩:=fP f4 p3 (by omega) (by omega)
   obtain⟨⟨H,s5⟩,e5⟩: ∃p,eU bs 1 16777216 t5=p:=⟨_,rfl⟩
   obtain⟨q5,g5⟩:=fP e5 p4 (by omega) (by omega)
   obtain⟨⟨ks,s6⟩,e6⟩: ∃p,fG bs 1 8 s5=p:=⟨_,rfl⟩
   obtain⟨q6,g6⟩:=jq e6 q5
   obtain⟨⟨key,s7⟩,e7⟩: ∃p,fO bs ks keyE s6=p:=⟨_,rfl⟩
   have q7:=wK e7 q6
   obtain⟨⟨l,s8⟩,e8⟩: ∃p,fG bs 0 1 s7=p:=⟨_,rfl⟩
   obtain⟨q8,g8⟩:=jq e8 q7
   obtain⟨⟨vs,s9⟩,e9⟩: ∃p,fG bs 1 12 s8=p:=⟨_,rfl⟩
   obtain⟨q9,g9⟩:=jq e9 q8
   obtain⟨⟨v,s10⟩,e10⟩: ∃p,fO bs vs eX s9=p:=⟨_,rfl⟩
   have hF:dH bs (0,0)=if dK k then(⟨2,N,⟨c0,c1,N-1,c3,c4⟩,H,k,key,l,v⟩,s10)else(⟨2,N,⟨c0,c1,N-1,c3,c4⟩,H,k,key,0,⟨#[]⟩⟩,s7):=by
    simp[dH,iR,ku,kN,aZ.rQ,aZ.put,e1,e2,e3,f0,f1,f3,f4,e5,e6,e7,e8,e9,e10]
   have hL:dK k=true→dH bs (0,0)=(⟨2,N,⟨c0,c1,N-1,c3,c4⟩,H,k,key,l,v⟩,s10):=fun h=>hF.trans (if_pos h)
   have hS:dK k=false→dH bs (0,0)=(⟨2,N,⟨c0,c1,N-1,c3,c4⟩,H,k,key,0,⟨#[]⟩⟩,s7):=fun h=>hF.trans (if_neg (by rw[h];exact Bool.false_ne_true))
   clear hF
   refine K1.E 0x100ff Tryz.func114 ?_
   repeat' ((conv=>whnf);first|refine K1.w ?_|refine K1.u ?_|refine K1.C 3 [(0,_),(1,_),(2,_)] (fZ bs _ _ _ _ _ e1 hl) rfl ?_|refine K1.C 3 [(0,_),(1,_),(2,_)] (fZ bs _ _ _ _ _ e2 hl) rfl ?_|refine K1.C 3 [(0,_),(1,_),(2,_)] (dP bs _ _ _ _ _ e3 (by assumption) hl (by omega) (by omega) (by omega)) rfl ?_|refine K1.C 3 [(0,_),(1,_),(2,_)] (dP bs _ _ _ _ _ f0 (by assumption) hl (by omega) (by omega) (by omega)) rfl ?_|refine K1.C 3 [(0,_),(1,_),(2,_)] (dP bs _ _ _ _ _ f1 (by assumption) hl (by omega) (by omega) (by omega)) rfl ?_|refine K1.C 3 [(0,_),(1,_),(2,_)] (dP bs _ _ _ _ _ f3 (by assumption) hl (by omega) (by omega) (by omega)) rfl ?_|refine K1.C 3 [(0,_),(1,_),(2,_)] (dP bs _ _ _ _ _ f4 (by assumption) hl (by omega) (by omega) (by omega)) rfl ?_|refine K1.C 3 [(0,_),(1,_),(2,_)] (dP bs _ _ _ _ _ e5 (by assumption) hl (by omega) (by omega) (by omega)) rfl ?_|refine K1.C 3 [(0,_),(1,_),(2,_)] (fZ bs _ _ _ _ _ e6 hl) rfl ?_|refine K1.C 3 [(0,_),(1,_),(2,_)] (wC bs _ _ _ _ e7 (by assumption) hl (by assumption)) rfl ?_|refine K1.C 3 [(0,_),(1,_),(2,_)] (fZ bs _ _ _ _ _ e8 hl) rfl ?_|refine K1.C 3 [(0,_),(1,_),(2,_)] (fZ bs _ _ _ _ _ e9 hl) rfl ?_|refine K1.C 3 [(0,_),(1,_),(2,_)] (wE bs _ _ _ _ e10 (by assumption) hl (by assumption)) rfl ?_|refine K1.P1 (lY _) rfl ?_|refine aJ.rounds 6 ?_|refine K1.I 0x4000004301c7 Tryz.func144 ?_|refine K1.o (id:=6) [(0,none),(1,none),(2,some []),(3,some []),(4,some [1])] [(2,[]),(3,[]),(4,[1])] ?_|refine K1.o (id:=7) [(0,none),(1,none),(2,some [0]),(3,some [0,1]),(4,some [0,1])] [(2,[0]),(3,[0,1]),(4,[0,1])] ?_|refine K1.z ?_|refine K1.y (fun _=> ?_) (fun _=> ?_)|fail)
   all_goals refine aG.cO ?_
   all_goals(conv=>whnf)
   all_goals refine aW.mk (aj.of ?_)
   all_goals first|exact lJ (hL ‹_›) ‹_› |exact lK (hL ‹_›) ‹_› |exact lJ (hS ‹_›) ‹_› |exact lK (hS ‹_›) ‹_›
 · obtain⟨⟨c0,t1⟩,f0⟩: ∃p,eU bs 0 1048576 s3=p:=⟨_,rfl⟩
   obtain⟨p0,_⟩:=fP f0 q3 (by omega) (by omega)
   obtain⟨⟨c1,t2⟩,f1⟩: ∃p,eU bs 0 1048576 t1=p:=⟨_,rfl⟩
   obtain⟨p1,_⟩:=fP f1 p0 (by omega) (by omega)
   obtain⟨⟨c2,t3⟩,f2⟩: ∃p,eU bs 0 1048576 t2=p:=⟨_,rfl⟩
   obtain⟨p2,_⟩:=fP f2 p1 (by omega) (by omega)
   obtain⟨⟨c4,t5⟩,f4⟩: ∃p,eU bs 0 1048576 t3=p:=⟨_,rfl⟩
   obtain⟨p4,_⟩:=fP f4 p2 (by omega) (by omega)
   obtain⟨⟨H,s5⟩,e5⟩: ∃p,eU bs 1 16777216 t5=p:=⟨_,rfl⟩
   obtain⟨q5,g5⟩:=fP e5 p4 (by omega) (by omega)
   obtain⟨⟨ks,s6⟩,e6⟩: ∃p,fG bs 1 8 s5=p:=⟨_,rfl⟩
   obtain⟨q6,g6⟩:=jq e6 q5
   obtain⟨⟨key,s7⟩,e7⟩: ∃p,fO bs ks keyE s6=p:=⟨_,rfl⟩
   have q7:=wK e7 q6
   obtain⟨⟨l,s8⟩,e8⟩: ∃p,fG bs 0 1 s7=p:=⟨_,rfl⟩
   obtain⟨q8,g8⟩:=jq e8 q7
   obtain⟨⟨vs,s9⟩,e9⟩: ∃p,fG bs 1 12 s8=p:=⟨_,rfl⟩
   obtain⟨q9,g9⟩:=jq e9 q8
   obtain⟨⟨v,s10⟩,e10⟩: ∃p,fO bs vs eX s9=p:=⟨_,rfl⟩
   have hF:dH bs (0,0)=if dK k then(⟨3,N,⟨c0,c1,c2,N-1,c4⟩,H,k,key,l,v⟩,s10)else(⟨3,N,⟨c0,c1,c2,N-1,c4⟩,H,k,key,0,⟨#[]⟩⟩,s7):=by
    simp[dH,iR,ku,kN,aZ.rQ,aZ.put,e1,e2,e3,f0,f1,f2,f4,e5,e6,e7,e8,e9,e10]
   have hL:dK k=true→dH bs (0,0)=(⟨3,N,⟨c0,c1,c2,N-1,c4⟩,H,k,key,l,v⟩,s10):=fun h=>hF.trans (if_pos h)
   have hS:dK k=false→dH bs (0,0)=(⟨3,N,⟨c0,c1,c2,N-1,c4⟩,H,k,key,0,⟨#[]⟩⟩,s7):=fun h=>hF.trans (if_neg (by rw[h];exact Bool.false_ne_true))
   clear hF
   refine K1.E 0x100ff Tryz.func114 ?_
   repeat' ((conv=>whnf);first|refine K1.w ?_|refine K1.u ?_|refine K1.C 3 [(0,_),(1,_),(2,_)] (fZ bs _ _ _ _ _ e1 hl) rfl ?_|refine K1.C 3 [(0,_),(1,_),(2,_)] (fZ bs _ _ _ _ _ e2 hl) rfl ?_|refine K1.C 3 [(0,_),(1,_),(2,_)] (dP bs _ _ _ _ _ e3 (by assumption) hl (by omega) (by omega) (by omega)) rfl ?_|refine K1.C 3 [(0,_),(1,_),(2,_)] (dP bs _ _ _ _ _ f0 (by assumption) hl (by omega) (by omega) (by omega)) rfl ?_|refine K1.C 3 [(0,_),(1,_),(2,_)] (dP bs _ _ _ _ _ f1 (by assumption) hl (by omega) (by omega) (by omega)) rfl ?_|refine K1.C 3 [(0,_),(1,_),(2,_)] (dP bs _ _ _ _ _ f2 (by assumption) hl (by omega) (by omega) (by omega)) rfl ?_|refine K1.C 3 [(0,_),(1,_),(2,_)] (dP bs _ _ _ _ _ f4 (by assumption) hl (by omega) (by omega) (by omega)) rfl ?_|refine K1.C 3 [(0,_),(1,_),(2,_)] (dP bs _ _ _ _ _ e5 (by assumption) hl (by omega) (by omega) (by omega)) rfl ?_|refine K1.C 3 [(0,_),(1,_),(2,_)] (fZ bs _ _ _ _ _ e6 hl) rfl ?_|refine K1.C 3 [(0,_),(1,_),(2,_)] (wC bs _ _ _ _ e7 (by assumption) hl (by assumption)) rfl ?_|refine K1.C 3 [(0,_),(1,_),(2,_)] (fZ bs _ _ _ _ _ e8 hl) rfl ?_|refine K1.C 3 [(0,_),(1,_),(2,_)] (fZ bs _ _ _ _ _ e9 hl) rfl ?_|refine K1.C 3 [(0,_),(1,_),(2,_)] (wE bs _ _ _ _ e10 (by assumption) hl (by assumption)) rfl ?_|refine K1.P1 (lY _) rfl ?_|refine aJ.rounds 6 ?_|refine K1.I 0x4000004301c7 Tryz.func144 ?_|refine K1.o (id:=6) [(0,none),(1,none),(2,some []),(3,some []),(4,some [1])] [(2,[]),(3,[]),(4,[1])] ?_|refine K1.o (id:=7) [(0,none),(1,none),(2,some [0]),(3,some [0,1]),(4,some [0,1])] [(2,[0]),(3,[0,1]),(4,[0,1])] ?_|refine K1.z ?_|refine K1.y (fun _=> ?_) (fun _=> ?_)|fail)
   all_goals refine aG.cO ?_
   all_goals(conv=>whnf)
   all_goals refine aW.mk (aj.of ?_)
   all_goals first|exact lJ (hL ‹_›) ‹_› |exact lK (hL ‹_›) ‹_› |exact lJ (hS ‹_›) ‹_› |exact lK (hS ‹_›) ‹_›
 · obtain⟨⟨c0,t1⟩,f0⟩: ∃p,eU bs 0 1048576 s3=p:=⟨_,rfl⟩
   obtain⟨p0,_⟩:=fP f0 q3 (by omega) (by omega)
   obtain⟨⟨c1,t2⟩,f1⟩: ∃p,eU bs 0 1048576 t1=p:=⟨_,rfl⟩
   obtain⟨p1,_⟩:=fP f1 p0 (by omega) (by omega)
   obtain⟨⟨c2,t3⟩,f2⟩: ∃p,eU bs 0 1048576 t2=p:=⟨_,rfl⟩
   obtain⟨p2,_⟩:=fP f2 p1 (by omega) (by omega)
   obtain⟨⟨c3,t4⟩,f3⟩: ∃p,eU bs 0 1048576 t3=p:=⟨_,rfl⟩
   obtain⟨p3,_⟩:=fP f3 p2 (by omega) (by omega)
   obtain⟨⟨H,s5⟩,e5⟩: ∃p,eU bs 1 16777216 t4=p:=⟨_,rfl⟩
   obtain⟨q5,g5⟩:=fP e5 p3 (by omega) (by omega)
   obtain⟨⟨ks,s6⟩,e6⟩: ∃p,fG bs 1 8 s5=p:=⟨_,rfl⟩
   obtain⟨q6,g6⟩:=jq e6 q5
   obtain⟨⟨key,s7⟩,e7⟩: ∃p,fO bs ks keyE s6=p:=⟨_,rfl⟩
   have q7:=wK e7 q6
   obtain⟨⟨l,s8⟩,e8⟩: ∃p,fG bs 0 1 s7=p:=⟨_,rfl⟩
   obtain⟨q8,g8⟩:=jq e8 q7
   obtain⟨⟨vs,s9⟩,e9⟩: ∃p,fG bs 1 12 s8=p:=⟨_,rfl⟩
   obtain⟨q9,g9⟩:=jq e9 q8
   obtain⟨⟨v,s10⟩,e10⟩: ∃p,fO bs vs eX s9=p:=⟨_,rfl⟩
   have hF:dH bs (0,0)=if dK k then(⟨4,N,⟨c0,c1,c2,c3,N-1⟩,H,k,key,l,v⟩,s10)else(⟨4,N,⟨c0,c1,c2,c3,N-1⟩,H,k,key,0,⟨#[]⟩⟩,s7):=by
    simp[dH,iR,ku,kN,aZ.rQ,aZ.put,e1,e2,e3,f0,f1,f2,f3,e5,e6,e7,e8,e9,e10]
   have hL:dK k=true→dH bs (0,0)=(⟨4,N,⟨c0,c1,c2,c3,N-1⟩,H,k,key,l,v⟩,s10):=fun h=>hF.trans (if_pos h)
   have hS:dK k=false→dH bs (0,0)=(⟨4,N,⟨c0,c1,c2,c3,N-1⟩,H,k,key,0,⟨#[]⟩⟩,s7):=fun h=>hF.trans (if_neg (by rw[h];exact Bool.false_ne_true))
   clear hF
   refine K1.E 0x100ff Tryz.func114 ?_
   repeat' ((conv=>whnf);first|refine K1.w ?_|refine K1.u ?_|refine K1.C 3 [(0,_),(1,_),(2,_)] (fZ bs _ _ _ _ _ e1 hl) rfl ?_|refine K1.C 3 [(0,_),(1,_),(2,_)] (fZ bs _ _ _ _ _ e2 hl) rfl ?_|refine K1.C 3 [(0,_),(1,_),(2,_)] (dP bs _ _ _ _ _ e3 (by assumption) hl (by omega) (by omega) (by omega)) rfl ?_|refine K1.C 3 [(0,_),(1,_),(2,_)] (dP bs _ _ _ _ _ f0 (by assumption) hl (by omega) (by omega) (by omega)) rfl ?_|refine K1.C 3 [(0,_),(1,_),(2,_)] (dP bs _ _ _ _ _ f1 (by assumption) hl (by omega) (by omega) (by omega)) rfl ?_|refine K1.C 3 [(0,_),(1,_),(2,_)] (dP bs _ _ _ _ _ f2 (by assumption) hl (by omega) (by omega) (by omega)) rfl ?_|refine K1.C 3 [(0,_),(1,_),(2,_)] (dP bs _ _ _ _ _ f3 (by assumption) hl (by omega) (by omega) (by omega)) rfl ?_|refine K1.C 3 [(0,_),(1,_),(2,_)] (dP bs _ _ _ _ _ e5 (by assumption) hl (by omega) (by omega) (by omega)) rfl ?_|refine K1.C 3 [(0,_),(1,_),(2,_)] (fZ bs _ _ _ _ _ e6 hl) rfl ?_|refine K1.C 3 [(0,_),(1,_),(2,_)] (wC bs _ _ _ _ e7 (by assumption) hl (by assumption)) rfl ?_|refine K1.C 3 [(0,_),(1,_),(2,_)] (fZ bs _ _ _ _ _ e8 hl) rfl ?_|refine K1.C 3 [(0,_),(1,_),(2,_)] (fZ bs _ _ _ _ _ e9 hl) rfl ?_|refine K1.C 3 [(0,_),(1,_),(2,_)] (wE bs _ _ _ _ e10 (by assumption) hl (by assumption)) rfl ?_|refine K1.P1 (lY _) rfl ?_|refine aJ.rounds 6 ?_|refine K1.I 0x4000004301c7 Tryz.func144 ?_|refine K1.o (id:=6) [(0,none),(1,none),(2,some []),(3,some []),(4,some [1])] [(2,[]),(3,[]),(4,[1])] ?_|refine K1.o (id:=7) [(0,none),(1,none),(2,some [0]),(3,some [0,1]),(4,some [0,1])] [(2,[0]),(3,[0,1]),(4,[0,1])] ?_|refine K1.z ?_|refine K1.y (fun _=> ?_) (fun _=> ?_)|fail)
   all_goals refine aG.cO ?_
   all_goals(conv=>whnf)
   all_goals refine aW.mk (aj.of ?_)
   all_goals first|exact lJ (hL ‹_›) ‹_› |exact lK (hL ‹_›) ‹_› |exact lJ (hS ‹_›) ‹_› |exact lK (hS ‹_›) ‹_›
end
theorem OJ {n:Nat} (h:n<256):(UInt8.ofNat n).toNat=n:=by
 rw[UInt8.toNat_ofNat',Nat.mod_eq_of_lt (by omega)]
theorem abL {a b:UInt8} (h:a.toNat=b.toNat):a=b:=UInt8.toNat_inj.1 h
theorem Gp (t:List UInt8): ∀ (f i n acc:Nat),i+f=9→n*128^i≤4294967296→(0<i→n≠0)→n<128^(f+1)→
  gW ((gy f n++t).take (10-i)) i acc=(acc+n*128^i,i+(gy f n).length,0)
  | 0,i,n,acc,hi,hn,h0,_=>by
    have:i=9:=by omega
    subst this
    exfalso
    have:n=0∨1≤n:=by omega
    rcases this with h|h
    · exact h0 (by omega) h
    · have h2:128^9=9223372036854775808:=by decide
      rw[h2]at hn
      omega
  | f + 1,i,n,acc,hi,hn,h0,hlt=>by
    have h10:10-i=(10-(i+1))+1:=by omega
    by_cases h:n<128
    · simp only[gy,if_pos h,List.cons_append,List.nil_append,h10,List.take_succ_cons,gW,OJ (show n<256 by omega)]
      rw[if_neg (by omega),if_neg]
      · simp
      · rintro(⟨h1,h2⟩|⟨h1,h2⟩)
        · exact h0 h1 h2
        · omega
    · have hq:n%128+128<256:=by omega
      have e:n/128*128^(i+1)+n%128*128^i=n*128^i:=by
       rw[Nat.pow_succ,Nat.mul_comm (128^i) 128,←Nat.mul_assoc,←Nat.add_mul]
       congr 1
       omega
      have ih:=Gp t f (i+1) (n/128) (acc+(n%128)*128^i) (by omega) (by omega) (fun _=>by omega) (by
       rw[Nat.pow_succ]at hlt
       exact Nat.div_lt_of_lt_mul (by omega))
      simp only[gy,if_neg h,List.cons_append,h10,List.take_succ_cons,gW,OJ hq]
      rw[if_pos (by omega),show n%128+128-128=n%128 by omega,ih]
      simp only[List.length_cons,Prod.mk.injEq,and_true]
      exact⟨by omega,by omega⟩
theorem sZ (n:Nat) (t:List UInt8) (h:n≤4294967296):dF (aB n++t)=(n,(aB n).length,0):=by
 have:=Gp t 9 0 n 0 rfl (by simpa using h) (fun h=>absurd h (by omega)) (by
  have:128^(9+1)=1180591620717411303424:=by decide
  omega)
 simpa[dF,aB]using this
theorem JB: ∀ (l:List UInt8) (i acc m k:Nat),i+l.length≤10→gW l i acc=(m,k,0)→ ∃n,m=acc+n*128^i∧k=i+(gy (9-i) n).length∧k≤i+l.length∧l.take (k-i)=gy (9-i) n∧(0<i→n≠0)
  | [],i,acc,m,k,hl,h=>by
    simp only[gW]at h
    split at h<;>cases h
  | c :: r,i,acc,m,k,hl,h=>by
    simp only[gW]at h
    simp only[List.length_cons]at hl
    have hc:=UInt8.toNat_lt c
    by_cases h1:128≤c.toNat
    · rw [if_pos h1]at h
      obtain⟨n,e1,e2,e3,e4,e5⟩:=JB r (i+1) _ m k (by omega) h
      have hn:=e5 (by omega)
      have h9:9-i=(9-(i+1))+1:=by
       have:1≤r.length:=by
        cases r with
        | nil=>
          simp only[gW]at h
          split at h<;>cases h
        |cons=>simp
       omega
      refine⟨n*128+(c.toNat-128), ?_, ?_,by simp only[List.length_cons];omega, ?_,fun _=>by omega⟩
      · rw[e1,Nat.pow_succ,Nat.add_mul]
        have:n*(128^i*128)=n*128*128^i:=by rw[Nat.mul_comm (128^i) 128,Nat.mul_assoc]
        omega
      · rw[h9,gy,if_neg (by omega),List.length_cons,show(n*128+(c.toNat-128))/128=n by omega]
        omega
      · have hk:k-i=(k-(i+1))+1:=by
         have:=xU (9-(i+1)) n
         omega
        rw[hk,List.take_succ_cons,e4,h9,gy,if_neg (by omega),show(n*128+(c.toNat-128))/128=n by omega]
        have hcc:UInt8.ofNat ((n*128+(c.toNat-128))%128+128)=c:=abL (by rw[OJ (by omega)];omega)
        rw[hcc]
    · rw [if_neg h1]at h
      split at h
      · cases h
      · rename_i h2
        simp only[Prod.mk.injEq,and_true]at h
        obtain⟨h3,h4⟩:=h
        refine⟨c.toNat,h3.symm, ?_,by simp only[List.length_cons];omega, ?_,fun hi e=>h2 (.inl ⟨hi,e⟩)⟩
        all_goals subst h4
        · cases h9:9-i with
          |zero=>simp[gy]
          |succ f=>simp[gy,show c.toNat<128 by omega]
        · rw[show i+1-i=0+1 by omega,List.take_succ_cons,List.take_zero]
          have:UInt8.ofNat c.toNat=c:=by simp
          cases h9:9-i with
          |zero=>simp[gy,this]
          |succ f=>simp[gy,show c.toNat<128 by omega,this]
theorem YF {l:List UInt8} {m k:Nat} (h:dF l=(m,k,0)):k=(aB m).length∧k≤l.length∧l.take k=aB m:=by
 obtain⟨n,e1,e2,e3,e4,_⟩:=JB (l.take 10) 0 0 m k (by rw[List.length_take];omega) h
 simp only[Nat.pow_zero,Nat.mul_one,Nat.zero_add,Nat.sub_zero]at e1 e2 e3 e4
 subst e1
 rw[List.length_take]at e3
 refine⟨e2,by omega, ?_⟩
 rw[List.take_take,Nat.min_eq_left (by omega)]at e4
 exact e4
theorem Gq: ∀ (l:List UInt8) (i acc:Nat),(gW l i acc).2.2=0∨(gW l i acc).2.2=2∨(gW l i acc).2.2=3
  |[],i,acc=>by simp only[gW];split<;>simp
  | c::r,i,acc=>by
    simp only[gW]
    split
    · exact Gq r _ _
    · split<;>simp
theorem Gs: ∀ (f i n acc j:Nat),i+f≤9→j<(gy f n).length→gW ((gy f n).take j) i acc=(0,0,2)
  |f,i,n,acc,0,hi,_=>by simp[gW];omega
  |0,i,n,acc,j+1,hi,hj=>by simp[gy]at hj
  | f +1,i,n,acc,j+1,hi,hj=>by
    by_cases h:n<128
    · simp[gy,h]at hj
    · have hq:n%128+128<256:=by omega
      simp only[gy,if_neg h,List.length_cons]at hj
      simp only[gy,if_neg h,List.take_succ_cons,gW,OJ hq]
      rw[if_pos (by omega)]
      exact Gs f (i+1) (n/128) _ j (by omega) (by omega)
theorem Ve {n j:Nat} (hj:j<(aB n).length):dF ((aB n).take j)=(0,0,2):=by
 have:=bQ 9 n
 unfold dF
 rw[List.take_take,Nat.min_eq_right (by unfold aB at hj;omega)]
 exact Gs 9 0 n 0 j (by omega) hj
end Go.Proofs.YtimhagicagdkfaaGreat
