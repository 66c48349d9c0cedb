/-
  Contracts of the walk:NcT.
-/
import Derived.Test.YtimhagicagdkfaaGreatNh28
set_option maxHeartbeats 16000000
set_option maxRecDepth 100000
set_option linter.unusedVariables false
set_option linter.unusedSimpArgs false
namespace Go.Proofs.YtimhagicagdkfaaGreat
section
open Go.RowKit
theorem ae9 {n:Nat} {x:Int} (h:x=if(7:Int)<(n:Int)then 7 else(n:Int)):x.toNat=min 7 n:=by split at h<;>omega
theorem Qn (l:List Ed) (kd kp:Int) (hl: ∀e∈l,e.rng) (hln:l.length≤140737488355328) (hk:0≤kd∧kd≤255) (hp:0≤kp∧kp≤255) {q:Nat} (hq4:q<4) (hq:kd%4=(q:Int)):aH Tryz.prog 7 [.sl 4 l.length true (edF l),.v (.int .u8 kd),.v (.int .u8 kp)] (.v (.bool true)) []:=by
 have hsh:=Nk
 have hn:=PY oI 0 (by decide) (by decide)
 rw[←aeo oI (r:=0) (by decide)]at hn
 have he:=abY oI (r:=0) (by decide) (by decide) (l.take 7) (fun e he=>hl e (List.mem_of_mem_take he)) (by rw[List.length_take];omega)
 rw[List.take_of_length_le (l:=l.take 7) (by rw[List.length_take];omega)]at he
 obtain⟨ho,hle,_⟩:=Ip (c:=oI) (r:=0) (by decide) (l.take 7) (l.take 7).length (Nat.le_refl _)
 have hky:=IB oI 0 (l.take 7) (l.take 7).length (Nat.le_refl _)
 rw[List.take_length]at ho hle hky
 have hle:(qZ oI 0 (l.take 7)).length≤7:=by rw[List.length_take]at hle;omega
 have he': ∀ {n:Nat},n=min 7 l.length→aV Tryz.prog 13 [(0,.obs (gX (mV oI 0 [])))] [.box 0 0,.sl 4 n true (edF l)] (.own 3) [(0,.obs (gX (mV oI 0 (qZ oI 0 (l.take 7))))),(3,fC (qZ oI 0 (l.take 7)))]:=fun hn7=>
  he.args (.same (.of (fun X u hu=>aS.sl (by rw[hn7,List.length_take]) (fun i hi=>congrArg Ed.cs (by rw[List.getD,List.getD,List.getElem?_take,if_pos (by omega)])) X u hu) .nil))
 clear he
 generalize qZ oI 0 (l.take 7)=L at*
 have hs0:=KA (mV oI 0 L) (by show L.length≤1000000;omega) (Nat.zero_le _)
 have hcu:aV Tryz.prog 21 [(0,.obs (gX (mV oI 0 L)))] [.box 0 0,.v (.int .i64 kp)] (.dF []) [(0,.obs (gX (mF L kp)))]:=PZ (mV oI 0 L) kp
 obtain⟨dk,wt,lg,sn,hst,WW,hsn⟩:=Xh ho hle hp.1 hq4
 have hup:=Qc ⟨oI,0,true,dk,lg,sn,zU lg,[],wt⟩ rfl
 have aff:lg.length≤8:=by
  have:=IC L hq4
  rw[WW]
  split
  · split at this<;>split at this<;>omega
  · omega
 have hs1:=KA ⟨oI,0,true,dk,lg,sn,zU lg,[],wt⟩ (by show lg.length≤1000000;omega) (Nat.zero_le _)
 have BH:=Sz (Ej L kp q) rfl
 have hpu:=SQ (Ej L kp q) 18 (.inl ⟨rfl,rfl⟩)
 have hta:=SE (Ej L kp q) rfl (av:=iP) (.inl rfl)
 have RU:=(SX 0 (qy L q) (rY ho hle hq4)).thaw
 have zW:=aaj ho hq4
 have hcl0:=BZ (r:=0) (by decide) ho
 have hll:=IC L hq4
 have h7: ∀x:Int,x=(if(7:Int)<(l.length:Int)then 7 else(l.length:Int))→x.toNat=min 7 l.length:=fun x h=>ae9 h
 rcases(show q=0∨q=1∨q=2∨q=3 by omega)with rfl|rfl|rfl|rfl
 · have hop:=aar ho hle hky kp
   have DN:aH Tryz.prog 24 [KC (qy L 0) 1 (chunk 12 (ji 0 L.length lF).cs)] (.dF [.sl 1 (aB (qy L 0)).length true (aU (aB (qy L 0))),.v (.int .i64 0)]) []:=RU.args (.of (fun X u hu=>by
    obtain⟨us,e,ha⟩:=hu
    exact⟨us,e,aI.qJ (k:=8) rfl (x:= .sl 12 1 true (chunk 12 (ji 0 L.length lF).cs)) (y:= .sl 12 1 true (dX [ji 0 L.length lF])) (fun X u hu=>aS.sl rfl (fun i hi=>by
     obtain rfl:i=0:=by omega
     rfl) X u hu) ha⟩) .nil)
   clear RU
   cases hkq:uY L kp 0 with
   | false=>
     rw[hkq,if_neg Bool.false_ne_true]at WW hsn
     subst lg
     subst sn
     have hB:=Fa hkq
     rw[hcl0]at hs1 hst hup
     generalize aB (qy L 0)=B at*
     generalize gX (mV oI 0 [])=O0 at*
     generalize gX (mV oI 0 L)=O1 at*
     generalize gX (mF L kp)=O2 at*
     generalize gX (Ej L kp 0)=O3 at*
     generalize gX ⟨oI,0,true,dk,_,_,_,[],wt⟩=O4 at*
     clear ho hle hky hcl0 zW
     dsimp only[vF,mV,jD,oI,mQ.av,mQ.cs,Ed.av,Ev.av,Ev.cs,lF,KG,gq,bY,Nh,EH,ji,qy,zf,KC,cond_true,iP,fC]at*
     refine K1.E 0x10040100400000000000002000008001010800000040003fd2bffc7 Tryz.func7 ?_
     repeat' ((conv=>whnf);first|refine K1.w ?_|refine K1.u ?_|refine K1.P1 hsh rfl ?_|refine K1.C 0 [] (hn) rfl ?_|refine K1.C 3 [(0,_)] (he' (h7 _ rfl)) rfl ?_|refine K1.C 1 [(0,_)] (hs0) rfl ?_|refine K1.C 1 [(0,_)] (hcu) rfl ?_|refine K1.C 1 [(0,_)] (hop) rfl ?_|refine K1.P1 DN rfl ?_|refine K1.C 1 [(0,_)] (BH) rfl ?_|refine K1.C 1 [(0,_)] (hpu) rfl ?_|refine K1.C 1 [(0,_)] (hta) rfl ?_|refine K1.C 1 [(0,_)] (hst) rfl ?_|refine K1.C 1 [(0,_)] (hup) rfl ?_|refine K1.C 1 [(0,_)] (hs1) rfl ?_|refine Rm.is (by omega) (by omega) hq ?_|refine pF.mk (by decide) ?_|refine vg.mk (aW.vs ⟨(L.length:Int),0,0,0,0⟩) (aW.vs ⟨(L.length:Int),0,0,0,0⟩) _ rfl rfl (fZ _ _) ?_|refine vg.mk (aW.vs ⟨(L.length:Int)+1,0,0,0,0⟩) (aW.vs ⟨(L.length:Int)+1,0,0,0,0⟩) _ rfl rfl (fZ _ _) ?_|refine vg.mk (aW.vs ⟨(L.length:Int),1,0,0,0⟩) (aW.vs ⟨(L.length:Int),1,0,0,0⟩) _ rfl rfl (fZ _ _) ?_|refine uZ.yes rfl ?_|refine aJ.dO ?_|refine K1.z ?_|refine K1.y (fun _=>?_) (fun _=>?_)|fail)
     all_goals(conv=>whnf)
     all_goals exact bF.mk (aj)
   | true=>
     rw[hkq,if_pos rfl]at WW hsn
     subst lg
     subst sn
     have hB:=Cb hkq
     rw[zW]at hs1 hst hup
     generalize aB (qy L 0)=B at*
     generalize gX (mV oI 0 [])=O0 at*
     generalize gX (mV oI 0 L)=O1 at*
     generalize gX (mF L kp)=O2 at*
     generalize gX (Ej L kp 0)=O3 at*
     generalize gX ⟨oI,0,true,dk,_,_,_,[],wt⟩=O4 at*
     clear ho hle hky hcl0 zW
     dsimp only[vF,mV,jD,oI,mQ.av,mQ.cs,Ed.av,Ev.av,Ev.cs,lF,KG,gq,bY,Nh,EH,ji,qy,zf,KC,cond_true,iP,fC]at*
     refine K1.E 0x10040100400000000000002000008001010800000040003fd2bffc7 Tryz.func7 ?_
     repeat' ((conv=>whnf);first|refine K1.w ?_|refine K1.u ?_|refine K1.P1 hsh rfl ?_|refine K1.C 0 [] (hn) rfl ?_|refine K1.C 3 [(0,_)] (he' (h7 _ rfl)) rfl ?_|refine K1.C 1 [(0,_)] (hs0) rfl ?_|refine K1.C 1 [(0,_)] (hcu) rfl ?_|refine K1.C 1 [(0,_)] (hop) rfl ?_|refine K1.P1 DN rfl ?_|refine K1.C 1 [(0,_)] (BH) rfl ?_|refine K1.C 1 [(0,_)] (hpu) rfl ?_|refine K1.C 1 [(0,_)] (hta) rfl ?_|refine K1.C 1 [(0,_)] (hst) rfl ?_|refine K1.C 1 [(0,_)] (hup) rfl ?_|refine K1.C 1 [(0,_)] (hs1) rfl ?_|refine Rm.is (by omega) (by omega) hq ?_|refine pF.mk (by decide) ?_|refine vg.mk (aW.vs ⟨(L.length:Int),0,0,0,0⟩) (aW.vs ⟨(L.length:Int),0,0,0,0⟩) _ rfl rfl (fZ _ _) ?_|refine vg.mk (aW.vs ⟨(L.length:Int)+1,0,0,0,0⟩) (aW.vs ⟨(L.length:Int)+1,0,0,0,0⟩) _ rfl rfl (fZ _ _) ?_|refine vg.mk (aW.vs ⟨(L.length:Int),1,0,0,0⟩) (aW.vs ⟨(L.length:Int),1,0,0,0⟩) _ rfl rfl (fZ _ _) ?_|refine uZ.yes rfl ?_|refine aJ.dO ?_|refine K1.z ?_|refine K1.y (fun _=>?_) (fun _=>?_)|fail)
     all_goals(conv=>whnf)
     all_goals exact bF.mk (aj)
 · have hop:=aas ho hle kp
   have hfp:=(IK 0 ⟨4,((0:Nat):Int),0,bY,[gq]⟩ (by decide)).thaw
   have aev:aH Tryz.prog 15 [KC ⟨4,((0:Nat):Int),0,bY,[gq]⟩ 1 (chunk 12 gq.cs)] (.dF [.sl 1 (cO ⟨4,((0:Nat):Int),0,bY,[gq]⟩).length true (aU (cO ⟨4,((0:Nat):Int),0,bY,[gq]⟩)),.v (.int .i64 0)]) []:=hfp.args (.of (fun X u hu=>by
    obtain⟨us,e,ha⟩:=hu
    exact⟨us,e,aI.qJ (k:=8) rfl (x:= .sl 12 1 true (chunk 12 gq.cs)) (y:= .sl 12 1 true (dX [gq])) (fun X u hu=>aS.sl rfl (fun i hi=>by
     obtain rfl:i=0:=by omega
     rfl) X u hu) ha⟩) .nil)
   clear hfp
   have DN:aH Tryz.prog 24 [KC (qy L 1) 1 (chunk 12 gq.cs)] (.dF [.sl 1 (aB (qy L 1)).length true (aU (aB (qy L 1))),.v (.int .i64 0)]) []:=RU.args (.of (fun X u hu=>by
    obtain⟨us,e,ha⟩:=hu
    exact⟨us,e,aI.qJ (k:=8) rfl (x:= .sl 12 1 true (chunk 12 gq.cs)) (y:= .sl 12 1 true (dX [gq])) (fun X u hu=>aS.sl rfl (fun i hi=>by
     obtain rfl:i=0:=by omega
     rfl) X u hu) ha⟩) .nil)
   clear RU
   cases hkq:uY L kp 1 with
   | false=>
     rw[hkq,if_neg Bool.false_ne_true]at WW hsn
     subst lg
     subst sn
     have hB:=Fa hkq
     rw[hcl0]at hs1 hst hup
     generalize aB (qy L 1)=B at*
     generalize cO ⟨4,((0:Nat):Int),0,bY,[gq]⟩=P at*
     generalize gX (mV oI 0 [])=O0 at*
     generalize gX (mV oI 0 L)=O1 at*
     generalize gX (mF L kp)=O2 at*
     generalize gX (Ej L kp 1)=O3 at*
     generalize gX ⟨oI,0,true,dk,_,_,_,[],wt⟩=O4 at*
     clear ho hle hky hcl0 zW
     dsimp only[vF,mV,jD,oI,mQ.av,mQ.cs,Ed.av,Ev.av,Ev.cs,lF,KG,gq,bY,Nh,EH,ji,qy,zf,KC,cond_true,iP,fC]at*
     refine K1.E 0x10040100400000000000002000008001010800000040003fd2bffc7 Tryz.func7 ?_
     repeat' ((conv=>whnf);first|refine K1.w ?_|refine K1.u ?_|refine K1.P1 hsh rfl ?_|refine K1.C 0 [] (hn) rfl ?_|refine K1.C 3 [(0,_)] (he' (h7 _ rfl)) rfl ?_|refine K1.C 1 [(0,_)] (hs0) rfl ?_|refine K1.C 1 [(0,_)] (hcu) rfl ?_|refine K1.P1 aev rfl ?_|refine K1.C 1 [(0,_)] (hop) rfl ?_|refine K1.P1 DN rfl ?_|refine K1.C 1 [(0,_)] (BH) rfl ?_|refine K1.C 1 [(0,_)] (hpu) rfl ?_|refine K1.C 1 [(0,_)] (hta) rfl ?_|refine K1.C 1 [(0,_)] (hst) rfl ?_|refine K1.C 1 [(0,_)] (hup) rfl ?_|refine K1.C 1 [(0,_)] (hs1) rfl ?_|refine Rm.is (by omega) (by omega) hq ?_|refine pF.mk (by decide) ?_|refine vg.mk (aW.vs ⟨(L.length:Int),0,0,0,0⟩) (aW.vs ⟨(L.length:Int),0,0,0,0⟩) _ rfl rfl (fZ _ _) ?_|refine vg.mk (aW.vs ⟨(L.length:Int)+1,0,0,0,0⟩) (aW.vs ⟨(L.length:Int)+1,0,0,0,0⟩) _ rfl rfl (fZ _ _) ?_|refine vg.mk (aW.vs ⟨(L.length:Int),1,0,0,0⟩) (aW.vs ⟨(L.length:Int),1,0,0,0⟩) _ rfl rfl (fZ _ _) ?_|refine uZ.yes rfl ?_|refine aJ.dO ?_|refine K1.z ?_|refine K1.y (fun _=>?_) (fun _=>?_)|fail)
     all_goals(conv=>whnf)
     all_goals exact bF.mk (aj)
   | true=>
     rw[hkq,if_pos rfl]at WW hsn
     subst lg
     subst sn
     have hB:=Cb hkq
     rw[zW]at hs1 hst hup
     generalize aB (qy L 1)=B at*
     generalize cO ⟨4,((0:Nat):Int),0,bY,[gq]⟩=P at*
     generalize gX (mV oI 0 [])=O0 at*
     generalize gX (mV oI 0 L)=O1 at*
     generalize gX (mF L kp)=O2 at*
     generalize gX (Ej L kp 1)=O3 at*
     generalize gX ⟨oI,0,true,dk,_,_,_,[],wt⟩=O4 at*
     clear ho hle hky hcl0 zW
     dsimp only[vF,mV,jD,oI,mQ.av,mQ.cs,Ed.av,Ev.av,Ev.cs,lF,KG,gq,bY,Nh,EH,ji,qy,zf,KC,cond_true,iP,fC]at*
     refine K1.E 0x10040100400000000000002000008001010800000040003fd2bffc7 Tryz.func7 ?_
     repeat' ((conv=>whnf);first|refine K1.w ?_|refine K1.u ?_|refine K1.P1 hsh rfl ?_|refine K1.C 0 [] (hn) rfl ?_|refine K1.C 3 [(0,_)] (he' (h7 _ rfl)) rfl ?_|refine K1.C 1 [(0,_)] (hs0) rfl ?_|refine K1.C 1 [(0,_)] (hcu) rfl ?_|refine K1.P1 aev rfl ?_|refine K1.C 1 [(0,_)] (hop) rfl ?_|refine K1.P1 DN rfl ?_|refine K1.C 1 [(0,_)] (BH) rfl ?_|refine K1.C 1 [(0,_)] (hpu) rfl ?_|refine K1.C 1 [(0,_)] (hta) rfl ?_|refine K1.C 1 [(0,_)] (hst) rfl ?_|refine K1.C 1 [(0,_)] (hup) rfl ?_|refine K1.C 1 [(0,_)] (hs1) rfl ?_|refine Rm.is (by omega) (by omega) hq ?_|refine pF.mk (by decide) ?_|refine vg.mk (aW.vs ⟨(L.length:Int),0,0,0,0⟩) (aW.vs ⟨(L.length:Int),0,0,0,0⟩) _ rfl rfl (fZ _ _) ?_|refine vg.mk (aW.vs ⟨(L.length:Int)+1,0,0,0,0⟩) (aW.vs ⟨(L.length:Int)+1,0,0,0,0⟩) _ rfl rfl (fZ _ _) ?_|refine vg.mk (aW.vs ⟨(L.length:Int),1,0,0,0⟩) (aW.vs ⟨(L.length:Int),1,0,0,0⟩) _ rfl rfl (fZ _ _) ?_|refine uZ.yes rfl ?_|refine aJ.dO ?_|refine K1.z ?_|refine K1.y (fun _=>?_) (fun _=>?_)|fail)
     all_goals(conv=>whnf)
     all_goals exact bF.mk (aj)
 · have hfp:=ab2 ⟨2,((0:Nat):Int),(L.length:Int),bY,[]⟩ (SC (by decide) (by decide) (by omega)) rfl
   by_cases h0:L.length=0
   · have hop:=aat h0 kp
     clear RU hst hup hs1 WW hsn BH hpu hta
     generalize cO ⟨2,((0:Nat):Int),(L.length:Int),bY,[]⟩=P at*
     generalize gX (mV oI 0 [])=O0 at*
     generalize gX (mV oI 0 L)=O1 at*
     generalize gX (mF L kp)=O2 at*
     clear ho hle hky hcl0 zW
     dsimp only[vF,mV,jD,oI,mQ.av,mQ.cs,bY,cond_true,iP,fC]at*
     refine K1.E 0x10040100400000000000002000008001010800000040003fd2bffc7 Tryz.func7 ?_
     repeat' ((conv=>whnf);first|refine K1.w ?_|refine K1.u ?_|refine K1.P1 hsh rfl ?_|refine K1.C 0 [] (hn) rfl ?_|refine K1.C 3 [(0,_)] (he' (h7 _ rfl)) rfl ?_|refine K1.C 1 [(0,_)] (hs0) rfl ?_|refine K1.C 1 [(0,_)] (hcu) rfl ?_|refine K1.P1 hfp rfl ?_|refine K1.C 1 [(0,_)] (hop) rfl ?_|refine Rm.is (by omega) (by omega) hq ?_|refine aJ.dO ?_|refine K1.z ?_|refine K1.y (fun _=>?_) (fun _=>?_)|fail)
     all_goals(conv=>whnf)
     all_goals exact bF.mk (aj)
   have hop:=SY ho hle (by omega) kp
   have DN:aH Tryz.prog 24 [.agg [.v (.int .i64 (qy L 2).k),.v (.int .i64 (qy L 2).r),.v (.int .i64 (qy L 2).u),.v (.int .i64 0),.v (.int .i64 0),.v (.int .i64 0),.v (.int .i64 0),.v (.int .i64 0),iP]] (.dF [.sl 1 (aB (qy L 2)).length true (aU (aB (qy L 2))),.v (.int .i64 0)]) []:=RU.args (.of (fun X u hu=>by
    obtain⟨us,e,ha⟩:=hu
    exact⟨us,e,aI.qJ (k:=8) rfl (x:=iP) (y:= .sl 12 0 true (dX [])) (fun X u hu=>C1.iP (s:=12) (by decide) (show C1 X (.v (.slice none 0 0)) u from hu)) ha⟩) .nil)
   clear RU
   cases hkq:uY L kp 2 with
   | false=>
     rw[hkq,if_neg Bool.false_ne_true]at WW hsn
     subst lg
     subst sn
     have hB:=Fa hkq
     rw[hcl0]at hs1 hst hup
     generalize aB (qy L 2)=B at*
     generalize cO ⟨2,((0:Nat):Int),(L.length:Int),bY,[]⟩=P at*
     generalize gX (mV oI 0 [])=O0 at*
     generalize gX (mV oI 0 L)=O1 at*
     generalize gX (mF L kp)=O2 at*
     generalize gX (Ej L kp 2)=O3 at*
     generalize gX ⟨oI,0,true,dk,_,_,_,[],wt⟩=O4 at*
     clear ho hle hky hcl0 zW
     dsimp only[vF,mV,jD,oI,mQ.av,mQ.cs,Ed.av,Ev.av,Ev.cs,lF,KG,gq,bY,Nh,EH,ji,qy,zf,KC,cond_true,iP,fC]at*
     refine K1.E 0x10040100400000000000002000008001010800000040003fd2bffc7 Tryz.func7 ?_
     repeat' ((conv=>whnf);first|refine K1.w ?_|refine K1.u ?_|refine K1.P1 hsh rfl ?_|refine K1.C 0 [] (hn) rfl ?_|refine K1.C 3 [(0,_)] (he' (h7 _ rfl)) rfl ?_|refine K1.C 1 [(0,_)] (hs0) rfl ?_|refine K1.C 1 [(0,_)] (hcu) rfl ?_|refine K1.P1 hfp rfl ?_|refine K1.C 1 [(0,_)] (hop) rfl ?_|refine K1.P1 DN rfl ?_|refine K1.C 1 [(0,_)] (BH) rfl ?_|refine K1.C 1 [(0,_)] (hpu) rfl ?_|refine K1.C 1 [(0,_)] (hta) rfl ?_|refine K1.C 1 [(0,_)] (hst) rfl ?_|refine K1.C 1 [(0,_)] (hup) rfl ?_|refine K1.C 1 [(0,_)] (hs1) rfl ?_|refine Rm.is (by omega) (by omega) hq ?_|refine pF.mk (by decide) ?_|refine vg.mk (aW.vs ⟨(L.length:Int),0,0,0,0⟩) (aW.vs ⟨(L.length:Int),0,0,0,0⟩) _ rfl rfl (fZ _ _) ?_|refine vg.mk (aW.vs ⟨(L.length:Int)+1,0,0,0,0⟩) (aW.vs ⟨(L.length:Int)+1,0,0,0,0⟩) _ rfl rfl (fZ _ _) ?_|refine vg.mk (aW.vs ⟨(L.length:Int),1,0,0,0⟩) (aW.vs ⟨(L.length:Int),1,0,0,0⟩) _ rfl rfl (fZ _ _) ?_|refine uZ.yes rfl ?_|refine aJ.dO ?_|refine K1.z ?_|refine K1.y (fun _=>?_) (fun _=>?_)|fail)
     all_goals(conv=>whnf)
     all_goals exact bF.mk (aj)
   | true=>
     rw[hkq,if_pos rfl]at WW hsn
     subst lg
     subst sn
     have hB:=Cb hkq
     rw[zW]at hs1 hst hup
     generalize aB (qy L 2)=B at*
     generalize cO ⟨2,((0:Nat):Int),(L.length:Int),bY,[]⟩=P at*
     generalize gX (mV oI 0 [])=O0 at*
     generalize gX (mV oI 0 L)=O1 at*
     generalize gX (mF L kp)=O2 at*
     generalize gX (Ej L kp 2)=O3 at*
     generalize gX ⟨oI,0,true,dk,_,_,_,[],wt⟩=O4 at*
     clear ho hle hky hcl0 zW
     dsimp only[vF,mV,jD,oI,mQ.av,mQ.cs,Ed.av,Ev.av,Ev.cs,lF,KG,gq,bY,Nh,EH,ji,qy,zf,KC,cond_true,iP,fC]at*
     refine K1.E 0x10040100400000000000002000008001010800000040003fd2bffc7 Tryz.func7 ?_
     repeat' ((conv=>whnf);first|refine K1.w ?_|refine K1.u ?_|refine K1.P1 hsh rfl ?_|refine K1.C 0 [] (hn) rfl ?_|refine K1.C 3 [(0,_)] (he' (h7 _ rfl)) rfl ?_|refine K1.C 1 [(0,_)] (hs0) rfl ?_|refine K1.C 1 [(0,_)] (hcu) rfl ?_|refine K1.P1 hfp rfl ?_|refine K1.C 1 [(0,_)] (hop) rfl ?_|refine K1.P1 DN rfl ?_|refine K1.C 1 [(0,_)] (BH) rfl ?_|refine K1.C 1 [(0,_)] (hpu) rfl ?_|refine K1.C 1 [(0,_)] (hta) rfl ?_|refine K1.C 1 [(0,_)] (hst) rfl ?_|refine K1.C 1 [(0,_)] (hup) rfl ?_|refine K1.C 1 [(0,_)] (hs1) rfl ?_|refine Rm.is (by omega) (by omega) hq ?_|refine pF.mk (by decide) ?_|refine vg.mk (aW.vs ⟨(L.length:Int),0,0,0,0⟩) (aW.vs ⟨(L.length:Int),0,0,0,0⟩) _ rfl rfl (fZ _ _) ?_|refine vg.mk (aW.vs ⟨(L.length:Int)+1,0,0,0,0⟩) (aW.vs ⟨(L.length:Int)+1,0,0,0,0⟩) _ rfl rfl (fZ _ _) ?_|refine vg.mk (aW.vs ⟨(L.length:Int),1,0,0,0⟩) (aW.vs ⟨(L.length:Int),1,0,0,0⟩) _ rfl rfl (fZ _ _) ?_|refine uZ.yes rfl ?_|refine aJ.dO ?_|refine K1.z ?_|refine K1.y (fun _=>?_) (fun _=>?_)|fail)
     all_goals(conv=>whnf)
     all_goals exact bF.mk (aj)
 · have hop:=Xi ho hle kp
   have DN:=RU
   clear RU
   dsimp only[Rc.av,Rc.cs,qy,DT]at DN
   rw[show(⟨4,((0:Nat):Int),0,bY,L⟩:Rc)=qy L 3 from rfl]at DN
   cases hkq:uY L kp 3 with
   | false=>
     rw[hkq,if_neg Bool.false_ne_true]at WW hsn
     subst lg
     subst sn
     have hB:=Fa hkq
     rw[hcl0]at hs1 hst hup
     generalize aB (qy L 3)=B at*
     generalize gX (mV oI 0 [])=O0 at*
     generalize gX (mV oI 0 L)=O1 at*
     generalize gX (mF L kp)=O2 at*
     generalize gX (Ej L kp 3)=O3 at*
     generalize gX ⟨oI,0,true,dk,_,_,_,[],wt⟩=O4 at*
     clear ho hle hky hcl0 zW
     dsimp only[vF,mV,jD,oI,mQ.av,mQ.cs,Ed.av,Ev.av,Ev.cs,lF,KG,gq,bY,Nh,EH,ji,qy,zf,KC,cond_true,iP,fC]at*
     refine K1.E 0x10040100400000000000002000008001010800000040003fd2bffc7 Tryz.func7 ?_
     repeat' ((conv=>whnf);first|refine K1.w ?_|refine K1.u ?_|refine K1.P1 hsh rfl ?_|refine K1.C 0 [] (hn) rfl ?_|refine K1.C 3 [(0,_)] (he' (h7 _ rfl)) rfl ?_|refine K1.C 1 [(0,_)] (hs0) rfl ?_|refine K1.C 1 [(0,_)] (hcu) rfl ?_|refine K1.C 1 [(0,_)] (hop) rfl ?_|refine K1.P1 DN rfl ?_|refine K1.C 1 [(0,_)] (BH) rfl ?_|refine K1.C 1 [(0,_)] (hpu) rfl ?_|refine K1.C 1 [(0,_)] (hta) rfl ?_|refine K1.C 1 [(0,_)] (hst) rfl ?_|refine K1.C 1 [(0,_)] (hup) rfl ?_|refine K1.C 1 [(0,_)] (hs1) rfl ?_|refine Rm.is (by omega) (by omega) hq ?_|refine pF.mk (by decide) ?_|refine vg.mk (aW.vs ⟨(L.length:Int),0,0,0,0⟩) (aW.vs ⟨(L.length:Int),0,0,0,0⟩) _ rfl rfl (fZ _ _) ?_|refine vg.mk (aW.vs ⟨(L.length:Int)+1,0,0,0,0⟩) (aW.vs ⟨(L.length:Int)+1,0,0,0,0⟩) _ rfl rfl (fZ _ _) ?_|refine vg.mk (aW.vs ⟨(L.length:Int),1,0,0,0⟩) (aW.vs ⟨(L.length:Int),1,0,0,0⟩) _ rfl rfl (fZ _ _) ?_|refine uZ.yes rfl ?_|refine aJ.dO ?_|refine K1.z ?_|refine K1.y (fun _=>?_) (fun _=>?_)|fail)
     all_goals(conv=>whnf)
     all_goals exact bF.mk (aj)
   | true=>
     rw[hkq,if_pos rfl]at WW hsn
     subst lg
     subst sn
     have hB:=Cb hkq
     rw[zW]at hs1 hst hup
     generalize aB (qy L 3)=B at*
     generalize gX (mV oI 0 [])=O0 at*
     generalize gX (mV oI 0 L)=O1 at*
     generalize gX (mF L kp)=O2 at*
     generalize gX (Ej L kp 3)=O3 at*
     generalize gX ⟨oI,0,true,dk,_,_,_,[],wt⟩=O4 at*
     clear ho hle hky hcl0 zW
     dsimp only[vF,mV,jD,oI,mQ.av,mQ.cs,Ed.av,Ev.av,Ev.cs,lF,KG,gq,bY,Nh,EH,ji,qy,zf,KC,cond_true,iP,fC]at*
     refine K1.E 0x10040100400000000000002000008001010800000040003fd2bffc7 Tryz.func7 ?_
     repeat' ((conv=>whnf);first|refine K1.w ?_|refine K1.u ?_|refine K1.P1 hsh rfl ?_|refine K1.C 0 [] (hn) rfl ?_|refine K1.C 3 [(0,_)] (he' (h7 _ rfl)) rfl ?_|refine K1.C 1 [(0,_)] (hs0) rfl ?_|refine K1.C 1 [(0,_)] (hcu) rfl ?_|refine K1.C 1 [(0,_)] (hop) rfl ?_|refine K1.P1 DN rfl ?_|refine K1.C 1 [(0,_)] (BH) rfl ?_|refine K1.C 1 [(0,_)] (hpu) rfl ?_|refine K1.C 1 [(0,_)] (hta) rfl ?_|refine K1.C 1 [(0,_)] (hst) rfl ?_|refine K1.C 1 [(0,_)] (hup) rfl ?_|refine K1.C 1 [(0,_)] (hs1) rfl ?_|refine Rm.is (by omega) (by omega) hq ?_|refine pF.mk (by decide) ?_|refine vg.mk (aW.vs ⟨(L.length:Int),0,0,0,0⟩) (aW.vs ⟨(L.length:Int),0,0,0,0⟩) _ rfl rfl (fZ _ _) ?_|refine vg.mk (aW.vs ⟨(L.length:Int)+1,0,0,0,0⟩) (aW.vs ⟨(L.length:Int)+1,0,0,0,0⟩) _ rfl rfl (fZ _ _) ?_|refine vg.mk (aW.vs ⟨(L.length:Int),1,0,0,0⟩) (aW.vs ⟨(L.length:Int),1,0,0,0⟩) _ rfl rfl (fZ _ _) ?_|refine uZ.yes rfl ?_|refine aJ.dO ?_|refine K1.z ?_|refine K1.y (fun _=>?_) (fun _=>?_)|fail)
     all_goals(conv=>whnf)
     all_goals exact bF.mk (aj)
theorem Jk (l:List Ed) (kd kp:Int) (hl: ∀e∈l,e.rng) (hln:l.length≤140737488355328) (hk:0≤kd∧kd≤255) (hp:0≤kp∧kp≤255):aH Tryz.prog 7 [.sl 4 l.length true (edF l),.v (.int .u8 kd),.v (.int .u8 kp)] (.v (.bool true)) []:=
 Qn l kd kp hl hln hk hp (q:=(kd%4).toNat) (by omega) (by omega)
end
end Go.Proofs.YtimhagicagdkfaaGreat
