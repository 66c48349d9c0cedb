/-
  Contracts of the walk:NdS,OpenE,NdT,FrV.
-/
import Derived.Test.YtimhagicagdkfaaGreatNf26
import Derived.Test.YtimhagicagdkfaaGreatNf16
set_option linter.unusedVariables false
set_option linter.unusedSimpArgs false
set_option maxHeartbeats 16000000
set_option maxRecDepth 100000
namespace Go.Proofs.YtimhagicagdkfaaGreat
section
open Go.RowKit
theorem abn (c:kZ) {r:Nat} (hr:r<5) (hq:0≤c.q) (l:List Ed) (hl: ∀e∈l,e.rng) (hn:l.length≤140737488355328):
  aY Tryz.prog 13 [(0,.obs (oU (yH c r [])))] [.box 0 0,.sl 4 l.length true (edF l)] (.own 3) [(0,.obs (oU (yH c r (xq c r (l.take 30))))),(3,jd (xq c r (l.take 30)))]:=by
 have hown:=Hl (c:=c) (r:=r) hq l
 have hsn:=fun i=>J7 c r (l:=l) (i:=i)
 have hfit: ∀i,i<l.length→aH Tryz.prog 32 [(l.getD i default).av] (kC (l.getD i default)).av []:=fun i hi=>by
  have:=hl (l.getD i default) (by simp[List.getD,hi])
  exact FT _ this.1 this.2
 have hed: ∀i,i<l.length→i<30→ ∀ {L' v x},Bq c r (xq c r (l.take i)) (kC (l.getD i default))=(L',v,x)→aY Tryz.prog 22 [(0,.obs (oU (yH c r (xq c r (l.take i)))))] [.box 0 0,(kC (l.getD i default)).av] (.dM [v.av,.v (.int .i64 x)]) [(0,.obs (oU (yH c r L')))]:=fun i hi h30 L' v x hs=>
  Zy hr (hown i (by omega)).1 (by have:=(hown i (by omega)).2.1;omega) (Gl _) hs
 have hcs:=fun i=>Dy c r (xq c r (l.take i)) (kC (l.getD i default))
 have hle:=fun i (h:i≤l.length)=>(hown i h).2.1
 have h30: ∀i,¬i<l.length∨ ¬i<30→i≤l.length→i≤30→xq c r (l.take 30)=xq c r (l.take i):=fun i h h1 h2=>by
  congr 1
  rcases h with h|h
  · rw[List.take_of_length_le (by omega),List.take_of_length_le (by omega)]
  · rw[show i=30 by omega]
 have hz:xq c r (l.take 0)=[]:=rfl
 clear hl hown
 generalize xq c r=R at*
 generalize yH c r=S at*
 clear hr hq
 generalize Bq c r=T at*
 refine K1.M 0x800201f3 Tryz.func13 40 ?_
 repeat' ((conv=>whnf);first|refine K1.w ?_|refine K1.u ?_|refine K1.z ?_|refine K1.y (fun _=> ?_) (fun _=> ?_)|fail)
 conv=>whnf
 refine aJ.mk {j:Nat//j≤l.length∧j≤30} (fun j=>⟨[(0,.box 0 0),(1,.sl 4 l.length true (edF l)),(5,.own 40),(6,.v (.int .i64 (j.1:Int)))],[(40,jd (R (l.take j.1))),(0,.obs (oU (S (R (l.take j.1)))))],[[(0,.own 0)]],41⟩) (fun j=>l.length-j.1) ⟨0,Nat.zero_le _,Nat.zero_le _⟩ _
  (dB.mk' [] _ _ _ rfl ⟨aj.refl _,aj.refl _,aj.refl _,aj.int rfl,trivial⟩ ⟨⟨_,rfl,au.row (by rw[hz];rfl) fun i hi=>absurd hi (Nat.not_lt_zero i)⟩,⟨_,rfl,by rw[hz];exact au.refl _⟩,trivial⟩ rfl) ?_
 rintro⟨j,hj,hj3⟩
 dsimp only[jd]
 by_cases hjl:j<l.length
 · by_cases Zz:j<30
   · have hf:=hfit j hjl
     have hlen:=hle j hj
     rcases hcs j with⟨e,_⟩|⟨x,hx,e⟩
     · have hd:=hed j hjl Zz e
       have hn:=hsn j hjl
       rw[e]at hn
       dsimp only at hn
       clear hfit hed hcs hle h30 hsn e
       generalize R (l.take j)=L at*
       generalize lu r L.length (kC (l.getD j default))=v at*
       generalize kC (l.getD j default)=fe at*
       dsimp only[Ed.av,Ev.av,Ev.cs]at hf hd
       repeat' ((conv=>whnf);first|refine K1.w ?_|refine K1.u ?_|refine K1.P1 (hf) rfl ?_|refine K1.C 1 [(0,_)] (hd) rfl ?_|refine K1.z ?_|refine K1.y (fun _=> ?_) (fun _=> ?_)|fail)
       all_goals(conv=>whnf)
       exact⟨⟨j+1,hjl,Zz⟩,_,dB.mk' [(44,40)] _ _ _ rfl ⟨aj.refl _,aj.refl _,aj.refl _,aj.int rfl,trivial⟩ ⟨⟨_,rfl,by rw[hn];exact au.row (by simp) fun m hm=>bn (c:=Ev.cs) (l:=L) rfl rfl m hm⟩,⟨_,rfl,by rw[hn];exact au.refl _⟩,trivial⟩ rfl,by show l.length-(j+1)<l.length-j;omega⟩
     · have hd:=hed j hjl Zz e
       have hn:=hsn j hjl
       rw[e]at hn
       dsimp only at hn
       clear hfit hed hcs hle h30 hsn e
       generalize R (l.take j)=L at*
       generalize kC (l.getD j default)=fe at*
       dsimp only[Ed.av,Ev.av,Ev.cs]at hf hd
       repeat' ((conv=>whnf);first|refine K1.w ?_|refine K1.u ?_|refine K1.P1 (hf) rfl ?_|refine K1.C 1 [(0,_)] (hd) rfl ?_|refine K1.z ?_|refine K1.y (fun _=> ?_) (fun _=> ?_)|fail)
       all_goals(conv=>whnf)
       exact⟨⟨j+1,hjl,Zz⟩,_,dB.mk' [] _ _ _ rfl ⟨aj.refl _,aj.refl _,aj.refl _,aj.int rfl,trivial⟩ ⟨⟨_,rfl,by rw[hn];exact au.refl _⟩,⟨_,rfl,by rw[hn];exact au.refl _⟩,trivial⟩ rfl,by show l.length-(j+1)<l.length-j;omega⟩
   · rw[h30 j (.inr Zz) hj hj3]
     repeat' ((conv=>whnf);first|refine K1.w ?_|refine K1.u ?_|refine K1.z ?_|refine K1.y (fun _=> ?_) (fun _=> ?_)|fail)
     all_goals(conv=>whnf)
     exact⟨[(40,3)],rfl,rfl,⟨⟨_,rfl,au.refl _⟩,⟨_,rfl,au.refl _⟩,trivial⟩,rfl,rfl,aj.refl _⟩
 · rw[h30 j (.inl hjl) hj hj3]
   repeat' ((conv=>whnf);first|refine K1.w ?_|refine K1.u ?_|refine K1.z ?_|refine K1.y (fun _=> ?_) (fun _=> ?_)|fail)
   all_goals(conv=>whnf)
   exact⟨[(40,3)],rfl,rfl,⟨⟨_,rfl,au.refl _⟩,⟨_,rfl,au.refl _⟩,trivial⟩,rfl,rfl,aj.refl _⟩
end
section
open Go.ChangeShapes Go.WideShapes Go.ChangeAt Go.RowKit
theorem ac9:Sh 64 (fun bP=> ∃e:Ed,bP=e.cs∧e.rng):=
 (xZ Tryz.underlying64 (by kernel_rfl) rfl (.cons (kK Tryz.underlying3) (.cons (xY Tryz.underlying9) (.cons (kK Tryz.underlying3) (.cons (xY Tryz.underlying9) .nil))))).imp fun bP h=>by
  obtain⟨_,_,rfl,⟨a,rfl,ha⟩,_,_,rfl,⟨b,rfl,hb⟩,_,_,rfl,⟨c,rfl,hc⟩,_,_,rfl,⟨d,rfl,hd⟩,rfl⟩:=h
  exact⟨⟨a,b,c,d⟩,rfl,hb,hd⟩
theorem ZA:Sh 37 (fun bP=> ∃l:List Ed,bP=[.sl 4 l.length true (edF l)]∧(∀e∈l,e.rng)∧l.length≤140737488355328):=
 Oi (s:=4) (c:=Ed.cs) (good:=Ed.rng) true Tryz.underlying37 (by kernel_rfl) (by omega) (of_decide_eq_true (by kernel_rfl)) (fun _=>rfl)
  (fun _ a x hx=>by
   simp only[Ed.cs,List.mem_cons,List.not_mem_nil,or_false]at hx
   rcases hx with rfl|rfl|rfl|rfl<;>exact⟨_,rfl⟩) ac9
section
variable {H:Type} {enc:TypeId×Value→H} {w:World} {spare:Nat→Bool} {held:Bool} {v:Value} {d:DataW H} {p:List MemPlace} {r:Reach} {b0:Nat}
theorem V8 (hv:Value.okWide Tryz.prog w r b0 37 v) (h:DataW.Trod enc Tryz.prog w 0 spare held 37 v d p) (hw: ∀n∈d.weights Tryz.prog 37,n≤reachBytes): ∃l:List Ed,(∀e∈l,e.rng)∧l.length≤140737488355328∧C1 ⟨w,allOf w,fun _=>undef⟩ (.sl 4 l.length true (edF l)) v:=by
 obtain⟨a,n,c,rfl⟩:=okWide_slice Tryz.underlying37 hv
 obtain⟨x,⟨l,e,hl,hm⟩,hc⟩:=S9 ZA (fun _ ⟨l,e,_⟩=>by rw[e];rfl) h hw rfl
 cases e
 exact⟨l,hl,hm,hc⟩
end
end
section
open Go.RowKit
theorem mark_eq (a b a' b':Int):Ep Tryz.prog 44 [.int .i64 a,.int .i64 b] [.int .i64 a',.int .i64 b'] (a=a'∧b=b'):=
 ⟨QL,fun w=>⟨_,by rw[decide_eq_true_eq],Jq a b a' b' w⟩⟩
theorem Ho (c:kZ) (r:Int) (l:List Ed) (_:c.rng) (hr:0≤r∧r≤255) (hl: ∀e∈l,e.rng) (hln:l.length≤140737488355328):aH Tryz.prog 4 [c.av,.v (.int .u8 r),.sl 4 l.length true (edF l)] (.v (.bool true)) []:=by
 have hsh:=uO
 have hfc:=FX c
 have hmc:=Jm c
 generalize Oj c=d at hfc hmc
 obtain⟨N,hN,hN1,hN5⟩:=Yb hmc
 have hk0:=Int.emod_nonneg r (show(N:Int)≠0 by omega)
 have hk1:=Int.emod_lt_of_pos r (show(0:Int)<N by omega)
 obtain⟨k,hk⟩: ∃k:Nat,r%(N:Int)=(k:Int):=⟨(r%N).toNat,by omega⟩
 have hk5:k<5:=by omega
 have hq:0≤d.q:=by
  simp only[zu,Bool.and_eq_true]at hmc
  have:=(Lu.1 hmc.1.1.1.2).1
  omega
 have hn:=Bl d k hmc (by rw[hN];omega)
 rw[←ad3 d hk5]at hn
 have he:=abn d hk5 hq l hl hln
 obtain⟨ho,hle,hlq⟩:=Hl (c:=d) (r:=k) hq (l.take 30) (l.take 30).length (Nat.le_refl _)
 rw[List.take_length]at ho hle hlq
 rw[List.length_take]at hle
 generalize xq d k (l.take 30)=L at*
 have hs:=CO (yH d k L) (by show L.length≤1000000;omega) (Nat.zero_le _)
 have hat: ∀j,j<L.length→L.getD j default=lu k j (L.getD j default).ed:=ho.at_
 clear ho hmc hk0 hk1
 generalize oU (yH d k [])=O at*
 generalize hO2:oU (yH d k L)=O2 at*
 obtain⟨dn,dw,dq,dh,dl,dp⟩:=d
 obtain⟨cn,cw,cq,ch,cl,cp⟩:=c
 dsimp only at hN hlq hq
 subst hN
 dsimp only[JW,yH,kZ.av,kZ.cs,jd,cond_true]at*
 have hck:=Ej hk5 (L.length:Int)
 generalize lW k (L.length:Int)=C at hs hck
 obtain⟨c0,c1,c2,c3,c4⟩:=C
 rcases(show k=0∨k=1∨k=2∨k=3∨k=4 by omega)with rfl|rfl|rfl|rfl|rfl
 all_goals
  simp only[aZ.at]at hck
  refine K1.E 0x400000000001100000001000001ffcf Tryz.func4 ?_
  repeat' ((conv=>whnf);first|refine K1.w ?_|refine K1.u ?_|refine K1.P1 (hsh) rfl ?_|refine K1.P1 (hfc) rfl ?_|refine K1.C 0 [] (hn) rfl ?_|refine K1.C 3 [(0,_)] (he) rfl ?_|refine K1.C 1 [(0,_)] (hs) rfl ?_|refine Rm.is (by omega) (by omega) hk ?_|refine qM.mk (by decide) ?_|refine K1.z ?_|refine K1.y (fun _=> ?_) (fun _=> ?_)|fail)
  all_goals(conv=>whnf)
  refine aJ.mk {j:Nat//j≤L.length} (fun j=>⟨[(9,.v (.int .i64 _)),(12,.own 3),(13,.box 5 0),(14,.v (.int .i64 (j.1:Int)))],[(5,.box 34 [.v (.bool true),.v (.int .i64 c0),.v (.int .i64 c1),.v (.int .i64 c2),.v (.int .i64 c3),.v (.int .i64 c4),.v (.int .i64 0),.sl 2 0 true (WE []),.sl 2 L.length true (WE L)]),(3,jd L)],[],6⟩) (fun j=>L.length-j.1) ⟨0,Nat.zero_le _⟩ _
   (dB.mk' [] _ _ _ rfl ⟨aj.refl _,aj.refl _,aj.refl _,aj.int rfl,trivial⟩ ⟨⟨_,rfl,au.refl _⟩,⟨_,rfl,au.refl _⟩,trivial⟩ rfl) ?_
  rintro⟨j,hj⟩
  dsimp only[jd]
  by_cases hjl:j<L.length
  · have he:=hat j hjl
    have e1:(L.getD (j:Int).toNat default).r=_:=congrArg Ev.r he
    have e2:(L.getD (j:Int).toNat default).n=_:=congrArg Ev.n he
    have e3:(L.getD (j:Int).toNat default).c=_:=congrArg Ev.c he
    have e4:(L.getD (j:Int).toNat default).h=_:=congrArg Ev.h he
    dsimp only[lu]at e1 e2 e3 e4
    have e5:(L.getD (j:Int).toNat default).r=_∧(L.getD (j:Int).toNat default).n=(j:Int)+1:=⟨e1,e2⟩
    have Gf:Nat.ble ((j:Int).toNat+1) L.length=true:=Nat.ble_eq_true_of_le (by omega)
    clear he hat
    repeat' ((conv=>whnf);first|refine K1.w ?_|refine K1.u ?_|refine qM.mk (by decide) ?_|refine IC.mk (aZ.vs (L.getD (j:Int).toNat default).c) (aZ.vs (lW 0 (j:Int))) _ rfl rfl (nU _ _) ?_|refine IC.mk (aZ.vs (L.getD (j:Int).toNat default).c) (aZ.vs (lW 1 (j:Int))) _ rfl rfl (nU _ _) ?_|refine IC.mk (aZ.vs (L.getD (j:Int).toNat default).c) (aZ.vs (lW 2 (j:Int))) _ rfl rfl (nU _ _) ?_|refine IC.mk (aZ.vs (L.getD (j:Int).toNat default).c) (aZ.vs (lW 3 (j:Int))) _ rfl rfl (nU _ _) ?_|refine IC.mk (aZ.vs (L.getD (j:Int).toNat default).c) (aZ.vs (lW 4 (j:Int))) _ rfl rfl (nU _ _) ?_|refine IC.mk [.int .i64 (L.getD (j:Int).toNat default).r,.int .i64 (L.getD (j:Int).toNat default).n] [.int .i64 _,.int .i64 ((j:Int)+1)] _ rfl rfl (mark_eq _ _ _ _) ?_|refine iC.yes Gf ?_|refine yC.yes e3 ?_|refine yC.yes e5 ?_|refine K1.z ?_|refine K1.y (fun _=> ?_) (fun _=> ?_)|fail)
    all_goals(conv=>whnf)
    exact⟨⟨j+1,hjl⟩,_,dB.mk' [] _ _ _ rfl ⟨aj.refl _,aj.refl _,aj.refl _,aj.int rfl,trivial⟩ ⟨⟨_,rfl,au.refl _⟩,⟨_,rfl,au.refl _⟩,trivial⟩ rfl,by show L.length-(j+1)<L.length-j;omega⟩
  · repeat' ((conv=>whnf);first|refine K1.w ?_|refine K1.u ?_|refine aG.cO ?_|refine K1.z ?_|refine K1.y (fun _=> ?_) (fun _=> ?_)|fail)
    all_goals(conv=>whnf)
    exact aW.mk (aj.refl _)
end
section
open Go.RowKit
theorem PE (k:Int) (h:k=1∨k=4):aH Tryz.prog 75 [.v (.int .i64 k)] (.dM [.agg [.v (.bool true),.v (.bool false),.v (.bool false)],.v (.bool true)]) []:=by
 have:=kS k
 rcases h with rfl|rfl<;>exact this
theorem PG (k:Int) (h:k=2):aH Tryz.prog 75 [.v (.int .i64 k)] (.dM [.agg [.v (.bool false),.v (.bool true),.v (.bool false)],.v (.bool true)]) []:=by
 have:=kS k
 rcases h with rfl
 exact this
theorem qc (k:Int) (h:k=3∨k=5):aH Tryz.prog 75 [.v (.int .i64 k)] (.dM [.agg [.v (.bool false),.v (.bool false),.v (.bool true)],.v (.bool true)]) []:=by
 have:=kS k
 rcases h with rfl|rfl<;>exact this
theorem abo (b:List UInt8) (hl:b.length≤1000000000) (h:(dF b).2.2≠0∨b.length<(dF b).2.1+2):aH Tryz.prog 45 [.sl 1 b.length true (aX b)] (.dM [(jr b).1.av,.v (.bool (jr b).2)]) []:=by
 have hs:=iU b (bF.bytes b) rfl
 have hle:=wu b
 rw[show jr b=(YI,false) by unfold jr;rw[if_pos h]]
 obtain⟨⟨v,u,e⟩,hv⟩: ∃p,dF b=p:=⟨_,rfl⟩
 rw[hv]at hs h hle
 dsimp only at hs h hle
 refine K1.E 0x830100200000020007ed Tryz.func45 ?_
 repeat' ((conv=>whnf);first|refine K1.w ?_|refine K1.u ?_|refine K1.P1 (hs) rfl ?_|refine aG.cO ?_|refine K1.o (id:=4) [(0,none),(1,none),(2,none),(3,none),(4,none),(5,none),(6,none),(7,none),(8,none),(9,none),(10,none),(11,none),(12,some []),(13,some [10,9,7,4,3])] [(4,[3]),(8,[7]),(9,[7]),(10,[9,7]),(11,[10,9,7,4,3]),(12,[]),(13,[10,9,7,4,3])] ?_|refine K1.z ?_|refine K1.y (fun _=> ?_) (fun _=> ?_)|fail)
 all_goals(conv=>whnf)
 all_goals first
   |exact aW.mk (aj.gX _)
   |(exfalso;omega)
theorem abp (b:List UInt8) (hl:b.length≤1000000000) {v u:Nat} (hv:dF b=(v,u,0)) (hu:u+2≤b.length) (hk:((b.getD u default).toNat:Int)=1∨((b.getD u default).toNat:Int)=4):
  aH Tryz.prog 45 [.sl 1 b.length true (aX b)] (.dM [(jr b).1.av,.v (.bool (jr b).2)]) []:=by
 have hs:=iU b (bF.bytes b) rfl
 rw[hv]at hs
 dsimp only at hs
 have hr:jr b=rdB ((b.getD u default).toNat:Int) ((b.getD (u+1) default).toNat:Int) (b.drop (u+2)):=by
  unfold jr
  rw[hv,if_neg (by dsimp only;omega)]
 rw[hr]
 unfold rdB
 rw[if_pos hk]
 have he:=OO (n:=b.length-(u+2)) (b.drop (u+2)) (bF.drop (bF.bytes b) (u+2)) (by simp) (by simp;omega)
 cases hE:Il (b.drop (u+2))with
 | none=>
   rw[hE]at he
   dsimp only[Io]at he
   dsimp only[Rc.av,Rc.cs]
   refine K1.E 0x830100200000020007ed Tryz.func45 ?_
   repeat' ((conv=>whnf);first|refine K1.w ?_|refine K1.u ?_|refine K1.P1 (hs) rfl ?_|refine K1.P1 (PE _ hk) rfl ?_|refine K1.P1 (he) rfl ?_|refine aJ.rP 72 6 rfl ?_|refine aG.cO ?_|refine K1.o (id:=4) [(0,none),(1,none),(2,none),(3,none),(4,none),(5,none),(6,none),(7,none),(8,none),(9,none),(10,none),(11,none),(12,some []),(13,some [10,9,7,4,3])] [(4,[3]),(8,[7]),(9,[7]),(10,[9,7]),(11,[10,9,7,4,3]),(12,[]),(13,[10,9,7,4,3])] ?_|refine K1.z ?_|refine K1.y (fun _=> ?_) (fun _=> ?_)|fail)
   all_goals(conv=>whnf)
   exact aW.mk (aj.gX _)
 | some l=>
   rw[hE]at he
   dsimp only[Io]at he
   dsimp only[Rc.av,Rc.cs]
   refine K1.E 0x830100200000020007ed Tryz.func45 ?_
   repeat' ((conv=>whnf);first|refine K1.w ?_|refine K1.u ?_|refine K1.P1 (hs) rfl ?_|refine K1.P1 (PE _ hk) rfl ?_|refine K1.P1 (he) rfl ?_|refine aJ.rP 72 6 rfl ?_|refine aG.cO ?_|refine K1.o (id:=4) [(0,none),(1,none),(2,none),(3,none),(4,none),(5,none),(6,none),(7,none),(8,none),(9,none),(10,none),(11,none),(12,some []),(13,some [10,9,7,4,3])] [(4,[3]),(8,[7]),(9,[7]),(10,[9,7]),(11,[10,9,7,4,3]),(12,[]),(13,[10,9,7,4,3])] ?_|refine K1.z ?_|refine K1.y (fun _=> ?_) (fun _=> ?_)|fail)
   all_goals(conv=>whnf)
   exact aW.mk (aj.refl _)
theorem Hq {b:List UInt8} {v u:Nat} (hv:dF b=(v,u,0)) (hu:u+2≤b.length):jr b=rdB ((b.getD u default).toNat:Int) ((b.getD (u+1) default).toNat:Int) (b.drop (u+2)):=by
 unfold jr
 rw[hv,if_neg (by dsimp only;omega)]
theorem abq (b:List UInt8) (hl:b.length≤1000000000) {v u:Nat} (hv:dF b=(v,u,0)) (hu:u+2≤b.length) (hk:((b.getD u default).toNat:Int)=2):
  aH Tryz.prog 45 [.sl 1 b.length true (aX b)] (.dM [(jr b).1.av,.v (.bool (jr b).2)]) []:=by
 have hs:=iU b (bF.bytes b) rfl
 rw[hv]at hs
 dsimp only at hs
 rw[Hq hv hu]
 unfold rdB
 rw[if_neg (by omega),if_pos hk]
 cases hE:kT (b.drop (u+2))with
 | none=>
   have he:=pY (n:=b.length-(u+2)) (b.drop (u+2)) hE (bF.drop (bF.bytes b) (u+2)) (by simp)
   dsimp only[Rc.av,Rc.cs]
   refine K1.E 0x830100200000020007ed Tryz.func45 ?_
   repeat' ((conv=>whnf);first|refine K1.w ?_|refine K1.u ?_|refine K1.P1 (hs) rfl ?_|refine K1.P1 (PG _ hk) rfl ?_|refine K1.P1 (he) rfl ?_|refine aJ.rP 72 6 rfl ?_|refine aG.cO ?_|refine K1.o (id:=4) [(0,none),(1,none),(2,none),(3,none),(4,none),(5,none),(6,none),(7,none),(8,none),(9,none),(10,none),(11,none),(12,some []),(13,some [10,9,7,4,3])] [(4,[3]),(8,[7]),(9,[7]),(10,[9,7]),(11,[10,9,7,4,3]),(12,[]),(13,[10,9,7,4,3])] ?_|refine K1.z ?_|refine K1.y (fun _=> ?_) (fun _=> ?_)|fail)
   all_goals(conv=>whnf)
   exact aW.mk (aj.gX _)
 | some p=>
   obtain⟨m,k⟩:=p
   have he:=pX (n:=b.length-(u+2)) (b.drop (u+2)) hE (bF.drop (bF.bytes b) (u+2)) (by simp)
   dsimp only[Rc.av,Rc.cs]
   refine K1.E 0x830100200000020007ed Tryz.func45 ?_
   repeat' ((conv=>whnf);first|refine K1.w ?_|refine K1.u ?_|refine K1.P1 (hs) rfl ?_|refine K1.P1 (PG _ hk) rfl ?_|refine K1.P1 (he) rfl ?_|refine aJ.rP 72 6 rfl ?_|refine aG.cO ?_|refine K1.o (id:=4) [(0,none),(1,none),(2,none),(3,none),(4,none),(5,none),(6,none),(7,none),(8,none),(9,none),(10,none),(11,none),(12,some []),(13,some [10,9,7,4,3])] [(4,[3]),(8,[7]),(9,[7]),(10,[9,7]),(11,[10,9,7,4,3]),(12,[]),(13,[10,9,7,4,3])] ?_|refine K1.z ?_|refine K1.y (fun _=> ?_) (fun _=> ?_)|fail)
   all_goals(conv=>whnf)
   exact aW.mk (aj.gX _)
theorem ac' {k:Int} (h: ¬ (k=1∨k=4)∧ ¬k=2∧ ¬ (k=3∨k=5)): ¬ (1≤k∧k≤5):=by omega
theorem V9 (b:List UInt8) (hl:b.length≤1000000000) {v u:Nat} (hv:dF b=(v,u,0)) (hu:u+2≤b.length) (hk: ¬ (((b.getD u default).toNat:Int)=1∨((b.getD u default).toNat:Int)=4)∧ ¬ ((b.getD u default).toNat:Int)=2∧ ¬ (((b.getD u default).toNat:Int)=3∨((b.getD u default).toNat:Int)=5)):
  aH Tryz.prog 45 [.sl 1 b.length true (aX b)] (.dM [(jr b).1.av,.v (.bool (jr b).2)]) []:=by
 have hs:=iU b (bF.bytes b) rfl
 rw[hv]at hs
 dsimp only at hs
 rw[Hq hv hu]
 unfold rdB
 rw[if_neg hk.1,if_neg hk.2.1,if_neg hk.2.2]
 have hk5:=ac' hk
 dsimp only[Rc.av,Rc.cs]
 refine K1.E 0x830100200000020007ed Tryz.func45 ?_
 repeat' ((conv=>whnf);first|refine K1.w ?_|refine K1.u ?_|refine K1.P1 (hs) rfl ?_|refine K1.P1 (OH _ hk5) rfl ?_|refine aJ.rP 72 6 rfl ?_|refine aG.cO ?_|refine K1.o (id:=4) [(0,none),(1,none),(2,none),(3,none),(4,none),(5,none),(6,none),(7,none),(8,none),(9,none),(10,none),(11,none),(12,some []),(13,some [10,9,7,4,3])] [(4,[3]),(8,[7]),(9,[7]),(10,[9,7]),(11,[10,9,7,4,3]),(12,[]),(13,[10,9,7,4,3])] ?_|refine K1.z ?_|refine K1.y (fun _=> ?_) (fun _=> ?_)|fail)
 all_goals(conv=>whnf)
 exact aW.mk (aj.gX _)
theorem ZB (b:List UInt8) (hl:b.length≤1000000000) {v u:Nat} (hv:dF b=(v,u,0)) (hu:u+2≤b.length) (hk:((b.getD u default).toNat:Int)=3∨((b.getD u default).toNat:Int)=5):
  aH Tryz.prog 45 [.sl 1 b.length true (aX b)] (.dM [(jr b).1.av,.v (.bool (jr b).2)]) []:=by
 have hs:=iU b (bF.bytes b) rfl
 rw[hv]at hs
 dsimp only at hs
 rw[Hq hv hu]
 unfold rdB
 rw[if_neg (by omega),if_neg (by omega),if_pos hk]
 have hF:=bF.drop (bF.bytes b) (u+2)
 have hn:b.length-(u+2)=(b.drop (u+2)).length:=by simp
 cases g0:kT (b.drop (u+2))with
 | none=>
   have e0:=pY (n:=b.length-(u+2)) (b.drop (u+2)) g0 hF hn
   have hr:zI (b.drop (u+2))=(⟨0,0,0,0,0⟩,false):=by unfold zI;simp only[g0]
   rw[hr]
   dsimp only[Rc.av,Rc.cs]
   refine K1.E 0x830100200000020007ed Tryz.func45 ?_
   repeat' ((conv=>whnf);first|refine K1.w ?_|refine K1.u ?_|refine K1.P1 (hs) rfl ?_|refine K1.P1 (qc _ hk) rfl ?_|refine K1.P1 (e0) rfl ?_|refine aJ.rP 72 6 rfl ?_|refine aG.cO ?_|refine K1.o (id:=4) [(0,none),(1,none),(2,none),(3,none),(4,none),(5,none),(6,none),(7,none),(8,none),(9,none),(10,none),(11,none),(12,some []),(13,some [10,9,7,4,3])] [(4,[3]),(8,[7]),(9,[7]),(10,[9,7]),(11,[10,9,7,4,3]),(12,[]),(13,[10,9,7,4,3])] ?_|refine K1.z ?_|refine K1.y (fun _=> ?_) (fun _=> ?_)|fail)
   all_goals(conv=>whnf)
   exact aW.mk (aj.gX _)
 | some p0 =>
   obtain⟨m0,k0⟩:=p0
   have l0:=uM g0
   rw[←hn]at l0
   have e0:=pX (n:=b.length-(u+2)) (b.drop (u+2)) g0 hF hn
   have n1:(b.length-(u+2)-k0)=((b.drop (u+2)).drop k0).length:=by simp;omega
   cases g1:kT ((b.drop (u+2)).drop k0)with
   | none=>
     have e1:=pY (n:=(b.length-(u+2)-k0)) ((b.drop (u+2)).drop k0) g1 (bF.drop hF k0) (by simp;omega)
     have hr:zI (b.drop (u+2))=(⟨m0,0,0,0,0⟩,false):=by unfold zI;simp only[g0,g1]
     rw[hr]
     dsimp only[Rc.av,Rc.cs]
     refine K1.E 0x830100200000020007ed Tryz.func45 ?_
     repeat' ((conv=>whnf);first|refine K1.w ?_|refine K1.u ?_|refine K1.P1 (hs) rfl ?_|refine K1.P1 (qc _ hk) rfl ?_|refine K1.P1 (e0) rfl ?_|refine K1.P1 (e1) rfl ?_|refine aJ.rP 72 6 rfl ?_|refine aG.cO ?_|refine K1.o (id:=4) [(0,none),(1,none),(2,none),(3,none),(4,none),(5,none),(6,none),(7,none),(8,none),(9,none),(10,none),(11,none),(12,some []),(13,some [10,9,7,4,3])] [(4,[3]),(8,[7]),(9,[7]),(10,[9,7]),(11,[10,9,7,4,3]),(12,[]),(13,[10,9,7,4,3])] ?_|refine K1.z ?_|refine K1.y (fun _=> ?_) (fun _=> ?_)|fail)
     all_goals(conv=>whnf)
     exact aW.mk (aj.gX _)
   | some p1=>
     obtain⟨m1,k1⟩:=p1
     have l1:=uM g1
     rw[←n1]at l1
     have e1:=pX (n:=(b.length-(u+2)-k0)) ((b.drop (u+2)).drop k0) g1 (bF.drop hF k0) (by simp;omega)
     have n2:((b.length-(u+2)-k0)-k1)=(((b.drop (u+2)).drop k0).drop k1).length:=by simp;omega
     cases g2:kT (((b.drop (u+2)).drop k0).drop k1)with
     | none=>
       have e2:=pY (n:=((b.length-(u+2)-k0)-k1)) (((b.drop (u+2)).drop k0).drop k1) g2 (bF.drop (bF.drop hF k0) k1) (by simp;omega)
       have hr:zI (b.drop (u+2))=(⟨m0,m1,0,0,0⟩,false):=by unfold zI;simp only[g0,g1,g2]
       rw[hr]
       dsimp only[Rc.av,Rc.cs]
       refine K1.E 0x830100200000020007ed Tryz.func45 ?_
       repeat' ((conv=>whnf);first|refine K1.w ?_|refine K1.u ?_|refine K1.P1 (hs) rfl ?_|refine K1.P1 (qc _ hk) rfl ?_|refine K1.P1 (e0) rfl ?_|refine K1.P1 (e1) rfl ?_|refine K1.P1 (e2) rfl ?_|refine aJ.rP 72 6 rfl ?_|refine aG.cO ?_|refine K1.o (id:=4) [(0,none),(1,none),(2,none),(3,none),(4,none),(5,none),(6,none),(7,none),(8,none),(9,none),(10,none),(11,none),(12,some []),(13,some [10,9,7,4,3])] [(4,[3]),(8,[7]),(9,[7]),(10,[9,7]),(11,[10,9,7,4,3]),(12,[]),(13,[10,9,7,4,3])] ?_|refine K1.z ?_|refine K1.y (fun _=> ?_) (fun _=> ?_)|fail)
       all_goals(conv=>whnf)
       exact aW.mk (aj.gX _)
     | some p2=>
       obtain⟨m2,k2⟩:=p2
       have l2:=uM g2
       rw[←n2]at l2
       have e2:=pX (n:=((b.length-(u+2)-k0)-k1)) (((b.drop (u+2)).drop k0).drop k1) g2 (bF.drop (bF.drop hF k0) k1) (by simp;omega)
       have n3:(((b.length-(u+2)-k0)-k1)-k2)=((((b.drop (u+2)).drop k0).drop k1).drop k2).length:=by simp;omega
       cases g3:kT ((((b.drop (u+2)).drop k0).drop k1).drop k2)with
       | none=>
         have e3:=pY (n:=(((b.length-(u+2)-k0)-k1)-k2)) ((((b.drop (u+2)).drop k0).drop k1).drop k2) g3 (bF.drop (bF.drop (bF.drop hF k0) k1) k2) (by simp;omega)
         have hr:zI (b.drop (u+2))=(⟨m0,m1,m2,0,0⟩,false):=by unfold zI;simp only[g0,g1,g2,g3]
         rw[hr]
         dsimp only[Rc.av,Rc.cs]
         refine K1.E 0x830100200000020007ed Tryz.func45 ?_
         repeat' ((conv=>whnf);first|refine K1.w ?_|refine K1.u ?_|refine K1.P1 (hs) rfl ?_|refine K1.P1 (qc _ hk) rfl ?_|refine K1.P1 (e0) rfl ?_|refine K1.P1 (e1) rfl ?_|refine K1.P1 (e2) rfl ?_|refine K1.P1 (e3) rfl ?_|refine aJ.rP 72 6 rfl ?_|refine aG.cO ?_|refine K1.o (id:=4) [(0,none),(1,none),(2,none),(3,none),(4,none),(5,none),(6,none),(7,none),(8,none),(9,none),(10,none),(11,none),(12,some []),(13,some [10,9,7,4,3])] [(4,[3]),(8,[7]),(9,[7]),(10,[9,7]),(11,[10,9,7,4,3]),(12,[]),(13,[10,9,7,4,3])] ?_|refine K1.z ?_|refine K1.y (fun _=> ?_) (fun _=> ?_)|fail)
         all_goals(conv=>whnf)
         exact aW.mk (aj.gX _)
       | some p3=>
         obtain⟨m3,k3⟩:=p3
         have l3:=uM g3
         rw[←n3]at l3
         have e3:=pX (n:=(((b.length-(u+2)-k0)-k1)-k2)) ((((b.drop (u+2)).drop k0).drop k1).drop k2) g3 (bF.drop (bF.drop (bF.drop hF k0) k1) k2) (by simp;omega)
         have n4:((((b.length-(u+2)-k0)-k1)-k2)-k3)=(((((b.drop (u+2)).drop k0).drop k1).drop k2).drop k3).length:=by simp;omega
         cases g4:kT (((((b.drop (u+2)).drop k0).drop k1).drop k2).drop k3)with
         | none=>
           have e4:=pY (n:=((((b.length-(u+2)-k0)-k1)-k2)-k3)) (((((b.drop (u+2)).drop k0).drop k1).drop k2).drop k3) g4 (bF.drop (bF.drop (bF.drop (bF.drop hF k0) k1) k2) k3) (by simp;omega)
           have hr:zI (b.drop (u+2))=(⟨m0,m1,m2,m3,0⟩,false):=by unfold zI;simp only[g0,g1,g2,g3,g4]
           rw[hr]
           dsimp only[Rc.av,Rc.cs]
           refine K1.E 0x830100200000020007ed Tryz.func45 ?_
           repeat' ((conv=>whnf);first|refine K1.w ?_|refine K1.u ?_|refine K1.P1 (hs) rfl ?_|refine K1.P1 (qc _ hk) rfl ?_|refine K1.P1 (e0) rfl ?_|refine K1.P1 (e1) rfl ?_|refine K1.P1 (e2) rfl ?_|refine K1.P1 (e3) rfl ?_|refine K1.P1 (e4) rfl ?_|refine aJ.rP 72 6 rfl ?_|refine aG.cO ?_|refine K1.o (id:=4) [(0,none),(1,none),(2,none),(3,none),(4,none),(5,none),(6,none),(7,none),(8,none),(9,none),(10,none),(11,none),(12,some []),(13,some [10,9,7,4,3])] [(4,[3]),(8,[7]),(9,[7]),(10,[9,7]),(11,[10,9,7,4,3]),(12,[]),(13,[10,9,7,4,3])] ?_|refine K1.z ?_|refine K1.y (fun _=> ?_) (fun _=> ?_)|fail)
           all_goals(conv=>whnf)
           exact aW.mk (aj.gX _)
         | some p4=>
           obtain⟨m4,k4⟩:=p4
           have l4:=uM g4
           rw[←n4]at l4
           have e4:=pX (n:=((((b.length-(u+2)-k0)-k1)-k2)-k3)) (((((b.drop (u+2)).drop k0).drop k1).drop k2).drop k3) g4 (bF.drop (bF.drop (bF.drop (bF.drop hF k0) k1) k2) k3) (by simp;omega)
           have hr:zI (b.drop (u+2))=(⟨m0,m1,m2,m3,m4⟩,true):=by unfold zI;simp only[g0,g1,g2,g3,g4]
           rw[hr]
           dsimp only[Rc.av,Rc.cs]
           refine K1.E 0x830100200000020007ed Tryz.func45 ?_
           repeat' ((conv=>whnf);first|refine K1.w ?_|refine K1.u ?_|refine K1.P1 (hs) rfl ?_|refine K1.P1 (qc _ hk) rfl ?_|refine K1.P1 (e0) rfl ?_|refine K1.P1 (e1) rfl ?_|refine K1.P1 (e2) rfl ?_|refine K1.P1 (e3) rfl ?_|refine K1.P1 (e4) rfl ?_|refine aJ.rP 72 6 rfl ?_|refine aG.cO ?_|refine K1.o (id:=4) [(0,none),(1,none),(2,none),(3,none),(4,none),(5,none),(6,none),(7,none),(8,none),(9,none),(10,none),(11,none),(12,some []),(13,some [10,9,7,4,3])] [(4,[3]),(8,[7]),(9,[7]),(10,[9,7]),(11,[10,9,7,4,3]),(12,[]),(13,[10,9,7,4,3])] ?_|refine K1.z ?_|refine K1.y (fun _=> ?_) (fun _=> ?_)|fail)
           all_goals(conv=>whnf)
           exact aW.mk (aj.gX _)
theorem ada (b:List UInt8) (hl:b.length≤1000000000):aH Tryz.prog 45 [.sl 1 b.length true (aX b)] (.dM [(jr b).1.av,.v (.bool (jr b).2)]) []:=by
 by_cases h:(dF b).2.2≠0∨b.length<(dF b).2.1+2
 · exact abo b hl h
 · obtain⟨⟨v,u,e⟩,hv⟩: ∃p,dF b=p:=⟨_,rfl⟩
   rw[hv]at h
   dsimp only at h
   obtain rfl:e=0:=by omega
   have hu:u+2≤b.length:=by omega
   by_cases h1:((b.getD u default).toNat:Int)=1∨((b.getD u default).toNat:Int)=4
   · exact abp b hl hv hu h1
   · by_cases h2:((b.getD u default).toNat:Int)=2
     · exact abq b hl hv hu h2
     · by_cases h3:((b.getD u default).toNat:Int)=3∨((b.getD u default).toNat:Int)=5
       · exact ZB b hl hv hu h3
       · exact V9 b hl hv hu ⟨h1,h2,h3⟩
theorem Wh {n:Nat} {F:Nat→List AV} (b:List UInt8) (hF:bF F b) (hn:n=b.length) (hl:b.length≤1000000000):aH Tryz.prog 45 [.sl 1 n true F] (.dM [(jr b).1.av,.v (.bool (jr b).2)]) []:=
 (ada b hl).args (Ch.pz hF hn .nil)
end
end Go.Proofs.YtimhagicagdkfaaGreat
