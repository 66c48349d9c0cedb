/-
  Contracts of the walk:OpenH,OpenE,NeS.
-/
import Derived.Test.YtimhagicagdkfaaGreatNi28
import Derived.Test.YtimhagicagdkfaaGreatNi10
import Derived.Test.YtimhagicagdkfaaGreatNi26
import Derived.Test.YtimhagicagdkfaaGreatNi27
set_option maxHeartbeats 16000000
set_option maxRecDepth 100000
set_option linter.unusedVariables false
set_option linter.unusedSimpArgs false
namespace Go.Proofs.YtimhagicagdkfaaGreat
section
open Go.ChangeShapes Go.WideShapes Go.ChangeAt Go.RowKit
def Pz (n:Int):Prop:= -9223372036854775808≤n∧n≤9223372036854775807
theorem tH {n:Int} (h:(Lit.int .i64 n).wf=true):Pz n:=by
 simpa[Pz,Lit.wf,IntKind.min,IntKind.max,IntKind.signed,IntKind.bits]using h
structure nJ.rng (c:nJ):Prop where
 n:Pz c.n
 w:Pz c.w
 q:Pz c.q
 h:Pz c.h
 l:Pz c.l
 p:Pz c.p
theorem adf:Sh 23 (fun cu=> ∃c:nJ,cu=c.cs∧c.rng):=
 (Jb Tryz.underlying23 (by kernel_rfl) rfl (.cons (uq Tryz.underlying3) (.cons (uq Tryz.underlying3) (.cons (uq Tryz.underlying3) (.cons (uq Tryz.underlying3) (.cons (uq Tryz.underlying3) (.cons (uq Tryz.underlying3) .nil))))))).imp fun cu h=>by
  obtain⟨_,_,rfl,⟨a,rfl,ha⟩,_,_,rfl,⟨b,rfl,hb⟩,_,_,rfl,⟨c,rfl,hc⟩,_,_,rfl,⟨d,rfl,hd⟩,_,_,rfl,⟨e,rfl,he⟩,_,_,rfl,⟨f,rfl,hf⟩,rfl⟩:=h
  exact⟨⟨a,b,c,d,e,f⟩,rfl,tH ha,tH hb,tH hc,tH hd,tH he,tH hf⟩
section
variable {H:Type} {enc:TypeId×Value→H} {w:World} {spare:Nat→Bool} {held:Bool} {v:Value} {d:DataW H} {p:List MemPlace} {r:Reach} {b0:Nat}
theorem abx (hv:Value.okWide Tryz.prog w r b0 23 v) (h:DataW.Trod enc Tryz.prog w 0 spare held 23 v d p) (hw: ∀n∈d.weights Tryz.prog 23,n≤reachBytes): ∃c:nJ,c.rng∧C1 ⟨w,allOf w,fun _=>undef⟩ c.av v:=by
 obtain⟨cs,rfl,_⟩:=okWide_struct Tryz.underlying23 hv
 obtain⟨xs,⟨e,rfl,he⟩,hc⟩:=aat adf h hw ⟨_,rfl⟩
 exact⟨e,he,hc⟩
end
end
section
open Go.ChangeShapes Go.WideShapes Go.ChangeAt Go.RowKit
theorem adg:Sh 64 (fun cu=> ∃e:Ed,cu=e.cs∧e.rng):=
 (Jb Tryz.underlying64 (by kernel_rfl) rfl (.cons (uq Tryz.underlying3) (.cons (I8 Tryz.underlying9) (.cons (uq Tryz.underlying3) (.cons (I8 Tryz.underlying9) .nil))))).imp fun cu h=>by
  obtain⟨_,_,rfl,⟨a,rfl,ha⟩,_,_,rfl,⟨b,rfl,hb⟩,_,_,rfl,⟨c,rfl,hc⟩,_,_,rfl,⟨d,rfl,hd⟩,rfl⟩:=h
  exact⟨⟨a,b,c,d⟩,rfl,hb,hd⟩
theorem ZH:Sh 37 (fun cu=> ∃l:List Ed,cu=[.sl 4 l.length true (edF l)]∧(∀e∈l,e.rng)∧l.length≤140737488355328):=
 X6 (s:=4) (c:=Ed.cs) (good:=Ed.rng) true Tryz.underlying37 (by kernel_rfl) (by omega) (of_decide_eq_true (by kernel_rfl)) (fun _=>rfl)
  (fun _ a x hx=>by
   simp only[Ed.cs,List.mem_cons,List.not_mem_nil,or_false]at hx
   rcases hx with rfl|rfl|rfl|rfl<;>exact⟨_,rfl⟩) adg
section
variable {H:Type} {enc:TypeId×Value→H} {w:World} {spare:Nat→Bool} {held:Bool} {v:Value} {d:DataW H} {p:List MemPlace} {r:Reach} {b0:Nat}
theorem Ws (hv:Value.okWide Tryz.prog w r b0 37 v) (h:DataW.Trod enc Tryz.prog w 0 spare held 37 v d p) (hw: ∀n∈d.weights Tryz.prog 37,n≤reachBytes): ∃l:List Ed,(∀e∈l,e.rng)∧l.length≤140737488355328∧C1 ⟨w,allOf w,fun _=>undef⟩ (.sl 4 l.length true (edF l)) v:=by
 obtain⟨a,n,c,rfl⟩:=okWide_slice Tryz.underlying37 hv
 obtain⟨x,⟨l,e,hl,hm⟩,hc⟩:=SL ZH (fun _ ⟨l,e,_⟩=>by rw[e];rfl) h hw rfl
 cases e
 exact⟨l,hl,hm,hc⟩
end
end
section
open Go.RowKit
def Hl (c:nJ) (r:Nat) (L:List Ev) (d:Dk) (m:Nat):Nd:=⟨c,r,true,d,L,m,jK r L.length,[],L.drop m⟩
theorem RD (c:nJ) {r:Nat} (hr:r<5) {L:List Ev} (ho:Own r L) (hL:L.length≤30) {u:Int} (hu:0≤u∧u≤65535) {M:Nat} (hM:(M:Int)=if(L.length:Int)<u then(L.length:Int)else u):
  ∃d:Dk,aW Tryz.prog 16 [(0,.obs (lM (nH c r L)))] [.box 0 0,.sl 1 (bg ⟨2,r,u,dS,[]⟩).length true (aV (bg ⟨2,r,u,dS,[]⟩))] (.v (.int .i64 0)) [(0,.obs (lM (Hl c r L d M)))]:=by
 have hx:iK ⟨2,(r:Int),u,dS,[]⟩=true:=ZB (by omega) (by omega) (by omega)
 have ht:=xX _ hx
 have hsn:G8 (nH c r L) u=(M:Int):=by
  unfold G8 nH
  dsimp only
  rw[Ej hr,hM]
  split<;>split<;>omega
 by_cases h0:M=0
 · refine⟨(nH c r L).d, ?_⟩
   have h:=G9 (nH c r L) rfl _ ht hr rfl rfl rfl (by show G8 (nH c r L) u=0;rw[hsn,h0];rfl) (bD.bytes _) rfl
   rw[show Hl c r L (nH c r L).d M=nH c r L by rw[h0];rfl]
   exact h
 · have hbs:=GZ hr (G5 hr ho (by omega))
   have hml:M≤L.length:=by omega
   refine⟨⟨CJ r L++aQ (Zz (nH c r L) M),false,false,0⟩, ?_⟩
   have h:=L8 (nH c r L) rfl _ ht hr rfl rfl rfl hsn (by show(M:Int)≠0;omega) ⟨Int.le_refl _,(by decide:(0:Int)≤1000000)⟩ (by omega) (by show L.length≤_;omega) (by show(CJ r L).length≤_;omega) (adb (by show(0:Int)≤r;omega) (by show(r:Int)<5;omega) (by omega)) ⟨CJ r L++aQ (Zz (nH c r L) M),false,false,0⟩ (by unfold oV;rfl) (bD.bytes _) rfl
   have hk:wW 0 (M:Int) L.length=M:=by unfold wW;rw[if_neg (by omega)];omega
   have e:(⟨(nH c r L).c,(nH c r L).r,true,⟨CJ r L++aQ (Zz (nH c r L) M),false,false,0⟩,(nH c r L).log,(nH c r L).sent+(wW (nH c r L).sent (M:Int) (nH c r L).wait.length:Int),(nH c r L).ic,(nH c r L).held,(nH c r L).wait.drop (wW (nH c r L).sent (M:Int) (nH c r L).wait.length)⟩:Nd)=Hl c r L ⟨CJ r L++aQ (Zz (nH c r L) M),false,false,0⟩ M:=by
    unfold nH Hl
    dsimp only
    rw[hk,show(0:Int)+(M:Int)=M by omega]
   rw[e]at h
   exact h
theorem Ho (c:nJ) (l:List Ed) (u:Int) (_:c.rng) (hl: ∀e∈l,e.rng) (hln:l.length≤140737488355328) (hu:0≤u∧u≤65535):aG Tryz.prog 6 [c.av,.sl 4 l.length true (edF l),.v (.int .u16 u)] (.v (.bool true)) []:=by
 have hsh:=L9
 have hfc:=QB c
 have hmc:=UO c
 generalize SN c=d at hfc hmc
 obtain⟨N,hN,hN1,hN5⟩:=acz hmc
 have hW:1≤d.w∧d.w≤4:=by
  simp only[La,Bool.and_eq_true]at hmc
  exact Eb.1 hmc.1.1.1.1.2
 have hq:0≤d.q:=by
  simp only[La,Bool.and_eq_true]at hmc
  have:=(Eb.1 hmc.1.1.1.2).1
  omega
 have hn:=O5 d 0 hmc (by rw[hN];omega)
 rw[←ad1 d (r:=0) (by decide)]at hn
 have he:=abn d (r:=0) (by decide) hq l hl hln
 obtain⟨ho,hle,_⟩:=G6 (c:=d) (r:=0) hq (l.take 30) (l.take 30).length (Nat.le_refl _)
 rw[List.take_length]at ho hle
 rw[List.length_take]at hle
 generalize wV d 0 (l.take 30)=L at*
 obtain⟨M,hM⟩: ∃M:Nat,(M:Int)=if(L.length:Int)<u then(L.length:Int)else u:=⟨(if(L.length:Int)<u then(L.length:Int)else u).toNat,by split<;>omega⟩
 obtain⟨dk,htk⟩:=RD d (r:=0) (by decide) ho (by omega) hu hM
 have hp:=abw ⟨2,((0:Nat):Int),u,dS,[]⟩ (ZB (by decide) (by decide) (by omega)) rfl
 have hcb: ∀q,0≤(jK 0 (L.length:Int)).at q∧(jK 0 (L.length:Int)).at q≤1048576:=fun q=>by have:=O9 (r:=0) (x:=L.length) (by omega) q;omega
 have hml:M≤L.length:=by omega
 have hs:=VQ (Hl d 0 L dk M) (by show L.length≤1000000;omega) (Nat.zero_le _)
 have m3:iK ⟨3,((0:Nat):Int),0,jK 0 (L.length:Int),[]⟩=true:=ZA (.inl rfl) (by decide) (by decide) hcb
 have m5:iK ⟨5,((0:Nat):Int),0,jK 0 (L.length:Int),[]⟩=true:=ZA (.inr rfl) (by decide) (by decide) hcb
 have h3:=Rt (Hl d 0 L dk M) rfl m3
 have h5:=Zv (Hl d 0 L dk M) rfl m5
 have t3:=qJ _ (xX _ m3) (bD.bytes _) rfl
 have t5:=qJ _ (xX _ m5) (bD.bytes _) rfl
 by_cases hML:M=L.length
 · have h1:=Rq (Hl d 0 L dk M) 24 (.inr ⟨rfl,by show(L.drop M).length=0;rw[List.length_drop];omega,rfl⟩)
   generalize bg ⟨2,((0:Nat):Int),u,dS,[]⟩=B2 at*
   rw[show bg ⟨3,(Hl d 0 L dk M).r,0,(Hl d 0 L dk M).ic,[]⟩=bg ⟨3,((0:Nat):Int),0,jK 0 (L.length:Int),[]⟩from rfl]at h3
   rw[show bg ⟨5,(Hl d 0 L dk M).r,0,(Hl d 0 L dk M).ic,[]⟩=bg ⟨5,((0:Nat):Int),0,jK 0 (L.length:Int),[]⟩from rfl]at h5
   have hcR:jK 0 (L.length:Int)=⟨(L.length:Int),0,0,0,0⟩:=rfl
   generalize bg ⟨3,((0:Nat):Int),0,jK 0 (L.length:Int),[]⟩=B3 at*
   generalize bg ⟨5,((0:Nat):Int),0,jK 0 (L.length:Int),[]⟩=B5 at*
   generalize lM (nH d 0 [])=O0 at*
   generalize lM (nH d 0 L)=O1 at*
   generalize lM (Hl d 0 L dk M)=O2 at*
   have hat: ∀j,j<L.length→L.getD j default=kZ 0 j (L.getD j default).ed:=ho.at_
   clear m3 m5 ho hmc hcb
   obtain⟨dn,dw,dq,dh,dl,dp⟩:=d
   obtain⟨cn,cw,cq,ch,cl,cp⟩:=c
   dsimp only at hN hW hq
   subst hN
   dsimp only[O6,Hl,nJ.av,nJ.cs,Rc.av,Rc.cs,fK,cond_true,kM,dS]at*
   rw[hcR]at t3 t5 hs
   dsimp only at t3 t5 hs
   refine K1.E 0x8002100000000008800000004000000000000000040001fffdfcf Tryz.func6 ?_
   repeat' ((conv=>whnf);first|refine K1.w ?_|refine K1.u ?_|refine K1.P1 hsh rfl ?_|refine K1.P1 hfc rfl ?_|refine K1.C 0 [] (hn) rfl ?_|refine K1.C 3 [(0,_)] (he) rfl ?_|refine K1.P1 hp rfl ?_|refine K1.C 1 [(0,_)] (htk) rfl ?_|refine K1.C 1 [(0,_)] (h1) rfl ?_|refine K1.C 1 [(0,_)] (h3) rfl ?_|refine K1.C 1 [(0,_)] (h5) rfl ?_|refine K1.P1 t3 rfl ?_|refine K1.P1 t5 rfl ?_|refine K1.C 1 [(0,_)] (hs) rfl ?_|refine PD.mk (bn.vs ⟨(L.length:Int),0,0,0,0⟩) (bn.vs ⟨(L.length:Int),0,0,0,0⟩) _ rfl rfl (uy _ _) ?_|refine yj.yes rfl ?_|refine aJ.dR ?_|refine K1.z ?_|refine K1.y (fun _=>?_) (fun _=>?_)|fail)
   all_goals(conv=>whnf)
   exact bG.mk (aj)
 · obtain⟨K,hK⟩: ∃K,(min (max d.w 0) ((L.drop M).length:Int)).toNat=K:=⟨_,rfl⟩
   have hKl:K=((L.drop M).take K).length:=by rw[List.length_take];omega
   have hdl:(L.drop M).length=L.length-M:=List.length_drop
   have m1:iK ⟨1,((0:Nat):Int),0,dS,(L.drop M).take K⟩=true:=ada (.inl ⟨rfl,by omega,fun e he=>by
    obtain⟨i,_,h,_⟩:=lQ ho (List.mem_of_mem_drop (List.mem_of_mem_take he))
    rw[h];rfl⟩) (by decide) (by decide) (by omega) fun e he=>G5 (by decide) ho (by omega) e (List.mem_of_mem_drop (List.mem_of_mem_take he))
   have h1:=V6 (Hl d 0 L dk M) rfl (by show 0<(L.drop M).length;omega) (by show(L.drop M).length≤_;omega) hK m1
   have t1:=qJ _ (xX _ m1) (bD.bytes _) rfl
   generalize bg ⟨2,((0:Nat):Int),u,dS,[]⟩=B2 at*
   rw[show bg ⟨3,(Hl d 0 L dk M).r,0,(Hl d 0 L dk M).ic,[]⟩=bg ⟨3,((0:Nat):Int),0,jK 0 (L.length:Int),[]⟩from rfl]at h3
   rw[show bg ⟨5,(Hl d 0 L dk M).r,0,(Hl d 0 L dk M).ic,[]⟩=bg ⟨5,((0:Nat):Int),0,jK 0 (L.length:Int),[]⟩from rfl]at h5
   have hcR:jK 0 (L.length:Int)=⟨(L.length:Int),0,0,0,0⟩:=rfl
   generalize bg ⟨3,((0:Nat):Int),0,jK 0 (L.length:Int),[]⟩=B3 at*
   generalize bg ⟨5,((0:Nat):Int),0,jK 0 (L.length:Int),[]⟩=B5 at*
   rw[show bg ⟨1,(Hl d 0 L dk M).r,0,dS,(Hl d 0 L dk M).wait.take K⟩=bg ⟨1,((0:Nat):Int),0,dS,(L.drop M).take K⟩from rfl]at h1
   generalize bg ⟨1,((0:Nat):Int),0,dS,(L.drop M).take K⟩=B1 at*
   generalize lM (nH d 0 [])=O0 at*
   generalize lM (nH d 0 L)=O1 at*
   generalize lM (Hl d 0 L dk M)=O2 at*
   have hat: ∀j,j<L.length→L.getD j default=kZ 0 j (L.getD j default).ed:=ho.at_
   clear m3 m5 ho hmc hcb m1
   obtain⟨dn,dw,dq,dh,dl,dp⟩:=d
   obtain⟨cn,cw,cq,ch,cl,cp⟩:=c
   dsimp only at hN hW hq
   subst hN
   dsimp only[O6,Hl,nJ.av,nJ.cs,Rc.av,Rc.cs,fK,cond_true,kM,dS]at*
   rw[hcR]at t3 t5 hs
   dsimp only at t3 t5 hs
   refine K1.E 0x8002100000000008800000004000000000000000040001fffdfcf Tryz.func6 ?_
   repeat' ((conv=>whnf);first|refine K1.w ?_|refine K1.u ?_|refine K1.P1 hsh rfl ?_|refine K1.P1 hfc rfl ?_|refine K1.C 0 [] (hn) rfl ?_|refine K1.C 3 [(0,_)] (he) rfl ?_|refine K1.P1 hp rfl ?_|refine K1.C 1 [(0,_)] (htk) rfl ?_|refine K1.C 1 [(0,_)] (h1) rfl ?_|refine K1.C 1 [(0,_)] (h3) rfl ?_|refine K1.C 1 [(0,_)] (h5) rfl ?_|refine K1.P1 t3 rfl ?_|refine K1.P1 t5 rfl ?_|refine K1.P1 t1 rfl ?_|refine K1.C 1 [(0,_)] (hs) rfl ?_|refine PD.mk (bn.vs ⟨(L.length:Int),0,0,0,0⟩) (bn.vs ⟨(L.length:Int),0,0,0,0⟩) _ rfl rfl (uy _ _) ?_|refine yj.yes rfl ?_|refine aJ.dR ?_|refine K1.z ?_|refine K1.y (fun _=>?_) (fun _=>?_)|fail)
   all_goals(conv=>whnf)
   generalize hX:(L.drop M).take K=X at*
   have hXl:X.length≤20:=by omega
   refine aN.mk {j:Nat//j≤X.length} (fun j=>⟨[(11,.own 3),(15,.v (.int .i64 (M:Int))),(26,.box 11 0),(28,.v (.int .i64 (j.1:Int)))],[(11,.box 47 [.v (.int .i64 1),.v (.int .i64 ((0:Nat):Int)),.v (.int .i64 0),.v (.int .i64 0),.v (.int .i64 0),.v (.int .i64 0),.v (.int .i64 0),.v (.int .i64 0),.sl 12 X.length true (eG X)]),(3,fK L)],[],12⟩) (fun j=>X.length-j.1) ⟨0,Nat.zero_le _⟩ _
    (dO.mk' [] _ _ _ rfl ⟨aj,aT.int hM.symm,aj,aT.int rfl,trivial⟩ ⟨aH rfl,aH rfl,trivial⟩ rfl) ?_
   rintro⟨j,hj⟩
   dsimp only[fK]
   by_cases hjl:j<X.length
   · have hlen:M+j<L.length:=by
      have:=List.length_take_le K (L.drop M)
      rw[hX]at this
      omega
     have F5:Nat.ble (((M:Int)+(j:Int)).toNat+1) L.length=true:=Nat.ble_eq_true_of_le (by omega)
     have heq:X.getD (j:Int).toNat default=L.getD ((M:Int)+(j:Int)).toNat default:=by
      rw[show((M:Int)+(j:Int)).toNat=M+j by omega,show(j:Int).toNat=j by omega,←hX,List.getD,List.getD,List.getElem?_take,if_pos (by omega),List.getElem?_drop]
     clear hX hM
     repeat' ((conv=>whnf);first|refine K1.w ?_|refine K1.u ?_|refine iD.yes F5 ?_|refine PD.mk (Ev.vs (X.getD (j:Int).toNat default)) (Ev.vs (L.getD ((M:Int)+(j:Int)).toNat default)) _ rfl rfl (adI _ _) ?_|refine yj.yes heq ?_|refine K1.z ?_|refine K1.y (fun _=>?_) (fun _=>?_)|fail)
     all_goals(conv=>whnf)
     exact⟨⟨j+1,hjl⟩,_,dO.mk' [] _ _ _ rfl ⟨aj,aj,aj,aT.int rfl,trivial⟩ ⟨aH rfl,aH rfl,trivial⟩ rfl,by show X.length-(j+1)<X.length-j;omega⟩
   · repeat' ((conv=>whnf);first|refine K1.w ?_|refine K1.u ?_|refine aJ.dR ?_|refine K1.z ?_|refine K1.y (fun _=>?_) (fun _=>?_)|fail)
     all_goals(conv=>whnf)
     exact bG.mk (aj)
end
end Go.Proofs.YtimhagicagdkfaaGreat
