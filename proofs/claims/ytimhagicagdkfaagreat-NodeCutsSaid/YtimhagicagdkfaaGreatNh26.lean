/-
  Contracts of the walk:NdZ,NdY,OuB,OuS,NdW,NcP,NdS,NdU.
-/
import Derived.Test.YtimhagicagdkfaaGreatNh24
import Derived.Test.YtimhagicagdkfaaGreatNh25
import Derived.WalkKit
import Derived.RegionTactic
import Derived.RegionCalls
import Derived.Test.YtimhagicagdkfaaGreatNh13
set_option maxHeartbeats 16000000
set_option maxRecDepth 100000
set_option linter.unusedVariables false
set_option linter.unusedSimpArgs false
namespace Go.Proofs.YtimhagicagdkfaaGreat
section
open Go.RowKit
def SH (h:Nd) (l:List Ev):Rc:=⟨2,h.r,0,bY,l⟩
inductive KL (h:Nd) (l:List Ev):Nd→Int→Prop where
  |hold {d w:List Ev} {c':aW} (hd:mg h.ic (h.held++l)=(d,w,c')) (hw:h.c.h<(w.length:Int)):KL h l h 22
  |none {w:List Ev} {c':aW} (hd:mg h.ic (h.held++l)=([],w,c')) (hw:(w.length:Int)≤h.c.h):KL h l ⟨h.c,h.r,true,h.d,h.log,h.sent,c',w,h.wait⟩ 0
  |down {d w:List Ev} {c':aW} (hd:mg h.ic (h.held++l)=(d,w,c')) (hw:(w.length:Int)≤h.c.h) (hd0:0<d.length) (hm:iI (SH h d)=true) (hb:h.d.bs.length≤100000000) (dk:Dk) {y:Int} (hy:y≠0) (hwr:lI h.d (aB (SH h d))=(dk,y)):
     KL h l ⟨h.c,h.r,false,dk,h.log,h.sent,c',w,h.wait⟩ 18
  |ok {d w:List Ev} {c':aW} (hd:mg h.ic (h.held++l)=(d,w,c')) (hw:(w.length:Int)≤h.c.h) (hd0:0<d.length) (hm:iI (SH h d)=true) (hb:h.d.bs.length≤100000000) (dk:Dk) (hwr:lI h.d (aB (SH h d))=(dk,0)) (WW:h.log.length≤900000)
     (hap: ∀j,j<d.length→Ci (lJ (eqK (d.getD j default).key) (h.log++d.take j)) (d.getD j default)∧eG (d.getD j default)=0):
     KL h l ⟨h.c,h.r,true,dk,h.log++d,h.sent,c',w,h.wait⟩ 0
theorem SI (h h':Nd) (hu:h.up=true) (l:List UInt8) {x:Rc} (ht:yY l=(x,0)) (hx:x.r=(h.r:Int)) (hk:x.k=4) (hno: ∀j,j<x.ev.length→ ¬aep h.r h.c.n (x.ev.getD j default)) (hl:x.ev.length≤255) (hic: ∀q,0≤h.ic.at q∧h.ic.at q≤1000000) (hh:h.held.length≤400000) {y:Int}
  (hev:KL h x.ev h' y) {n:Nat} {F:Nat→List AV} (hF:bg F l) (hn:n=l.length):
  aV Tryz.prog 16 [(0,.obs (gX h))] [.box 0 0,.sl 1 n true F] (.v (.int .i64 y)) [(0,.obs (gX h'))]:=by
 refine yI (ho:=[]) 15 16 11 12 13 14 ⟨_,_,Tryz.func16,rfl,rfl⟩ rfl ?_ rfl
 rw[List.append_nil]
 have hf:=zV l ht hF hn
 clear ht hF
 obtain⟨c,r,up,dk,log,sent,ic,held,wait⟩:=h
 obtain⟨xk,xr,xu,⟨xc0,xc1,xc2,xc3,xc4⟩,ev⟩:=x
 dsimp only at hu hx hk hno hl hic hh hev
 subst hu hx hk
 dsimp only[Ac,Aa,yH,Rc.av,Rc.cs,abb]at hf⊢
 refine K1.M 0x41900003d0102173 Tryz.func16 40 ?_
 repeat' ((conv=>whnf);first|refine K1.w ?_|refine K1.u ?_|refine K1.P1 hf rfl ?_|refine K1.z ?_|refine K1.y (fun _=>?_) (fun _=>?_)|fail)
 conv=>whnf
 refine aN.mk {j:Nat//j≤ev.length} (fun j=>⟨[(0,.box 0 0),(5,.box 40 0),(30,.sl 12 ev.length true (dX ev)),(31,.v (.int .i64 (ev.length:Int))),(32,.v (.int .i64 (j.1:Int)))],
   [(40,.box 47 [.v (.int .i64 4),.v (.int .i64 (r:Int)),.v (.int .i64 xu),.v (.int .i64 xc0),.v (.int .i64 xc1),.v (.int .i64 xc2),.v (.int .i64 xc3),.v (.int .i64 xc4),.sl 12 ev.length true (dX ev)]),
    (0,Aa ⟨c,r,true,dk,log,sent,ic,held,wait⟩ (.box 8 0) (.own 10) (.box 11 0) (.box 12 0) (.box 13 0)),(8,IU (.own 9) dk),(11,.obs (vC log log.length)),(12,zY c.h ic (.sl 12 held.length true (dX held))),(13,Nl c.q c.w sent (.own 14)),(9,BI dk.bs),(10,fC log),(14,fC wait)],[[(0,.box 0 0),(1,.box 8 0),(2,.own 11),(3,.box 12 0),(4,.box 13 0),(5,.own 9),(6,.own 10),(7,.own 14)]],41⟩) (fun j=>ev.length-j.1) ⟨0,Nat.zero_le _⟩ _
  (dL.mk' [] _ _ _ rfl ⟨aj,aj,aj,aj,aS.int rfl,trivial⟩ ⟨aF rfl,aF rfl,aF rfl,aF rfl,aF rfl,aF rfl,aF rfl,aF rfl,aF rfl,trivial⟩ rfl) ?_
 rintro⟨j,hj⟩
 dsimp only[Aa]
 by_cases hjl:j<ev.length
 · have ho:=hno j hjl
   clear hno hev hic
   have h1: ¬ (ev.getD (j:Int).toNat default).r=(r:Int):=fun h=>ho (.inl h)
   have h2: ¬c.n≤(ev.getD (j:Int).toNat default).r:=fun h=>ho (.inr h)
   repeat' ((conv=>whnf);first|refine K1.w ?_|refine K1.u ?_|refine K1.z ?_|refine K1.y (fun _=>?_) (fun _=>?_)|fail)
   all_goals(conv=>whnf)
   exact⟨⟨j+1,hjl⟩,_,dL.mk' [] _ _ _ rfl ⟨aj,aj,aj,aj,aS.int rfl,trivial⟩ ⟨aF rfl,aF rfl,aF rfl,aF rfl,aF rfl,aF rfl,aF rfl,aF rfl,aF rfl,trivial⟩ rfl,by show ev.length-(j+1)<ev.length-j;omega⟩
 · clear hno
   rcases hev with⟨hd,hw⟩|⟨hd,hw⟩|⟨hd,hw,hd0,hm,hb,d',hy,hwr⟩|⟨hd,hw,hd0,hm,hb,d',hwr,WW,hap⟩
   · have hin:=WV c.h ic held ev hic hh (by omega) hd hw
     clear hd hic
     obtain⟨c0,c1,c2,c3,c4⟩:=ic
     dsimp only[ZW,Aa,zY,yH,iP]at hin⊢
     repeat' ((conv=>whnf);first|refine K1.w ?_|refine K1.u ?_|refine K1.C 1 [(0,_)] (hin) rfl ?_|refine K1.I 0x4008000f3 Tryz.func39 ?_|refine K1.z ?_|refine K1.y (fun _=>?_) (fun _=>?_)|fail)
     all_goals(conv=>whnf)
     exact⟨[(9,15),(10,16)],rfl,rfl,⟨aF rfl,aF rfl,aF rfl,aF rfl,aF rfl,aF rfl,aF rfl,aF rfl,trivial⟩,rfl,rfl,aj⟩
   · have hin:=DK c.h ic held ev hic hh (by omega) hd hw
     clear hd hic
     obtain⟨c0,c1,c2,c3,c4⟩:=ic
     dsimp only[ZW,Aa,zY,yH,iP,List.length_nil]at hin⊢
     repeat' ((conv=>whnf);first|refine K1.w ?_|refine K1.u ?_|refine K1.C 1 [(0,_)] (hin) rfl ?_|refine K1.I 0x4008000f3 Tryz.func39 ?_|refine K1.z ?_|refine K1.y (fun _=>?_) (fun _=>?_)|fail)
     all_goals(conv=>whnf)
     exact⟨[(9,15),(10,16)],rfl,rfl,⟨aF rfl,aF rfl,aF rfl,aF rfl,aF rfl,aF rfl,aF rfl,aF rfl,trivial⟩,rfl,rfl,aj⟩
   · rename_i d w c' y
     have hin:=DK c.h ic held ev hic hh (by omega) hd hw
     have hpu:=yJ (SH ⟨c,r,true,dk,log,sent,ic,held,wait⟩ d) hm (n:=d.length) (F:=dX d) rfl fun i hi=>rfl
     have hmx:=jC (SH ⟨c,r,true,dk,log,sent,ic,held,wait⟩ d) hm
     have hdk:=oH dk d' (aB (SH ⟨c,r,true,dk,log,sent,ic,held,wait⟩ d)) y (bg.bytes _) rfl (by dsimp only at hb;omega) (by omega) hwr
     generalize aB (SH ⟨c,r,true,dk,log,sent,ic,held,wait⟩ d)=wb at hpu hdk hmx hwr
     clear hd hic hm hwr
     obtain⟨c0,c1,c2,c3,c4⟩:=ic
     dsimp only[ZW,Aa,IU,zY,yH,iP,SH,KC,bY]at hin hpu hdk⊢
     repeat' ((conv=>whnf);first|refine K1.w ?_|refine K1.u ?_|refine K1.C 1 [(0,_)] (hin) rfl ?_|refine K1.P1 hpu rfl ?_|refine K1.C 2 [(0,_),(1,_)] (hdk) rfl ?_|refine K1.I 0x4008000f3 Tryz.func39 ?_|refine K1.I 0x8207b Tryz.func54 ?_|refine K1.I 0x85 Tryz.func47 ?_|refine K1.z ?_|refine K1.y (fun _=>?_) (fun _=>?_)|fail)
     all_goals(conv=>whnf)
     exact⟨[(43,15),(10,16)],rfl,rfl,⟨aF rfl,aF rfl,aF rfl,aF rfl,aF rfl,aF rfl,aF rfl,aF rfl,trivial⟩,rfl,rfl,aj⟩
   · rename_i d w c'
     have hin:=DK c.h ic held ev hic hh (by omega) hd hw
     have hpu:=yJ (SH ⟨c,r,true,dk,log,sent,ic,held,wait⟩ d) hm (n:=d.length) (F:=dX d) rfl fun i hi=>rfl
     have hmx:=jC (SH ⟨c,r,true,dk,log,sent,ic,held,wait⟩ d) hm
     have hdk:=oH dk d' (aB (SH ⟨c,r,true,dk,log,sent,ic,held,wait⟩ d)) 0 (bg.bytes _) rfl (by dsimp only at hb;omega) (by omega) hwr
     generalize aB (SH ⟨c,r,true,dk,log,sent,ic,held,wait⟩ d)=wb at hpu hdk hmx hwr
     have hdl:d.length≤4096:=by
      simp only[iI,SH,Bool.and_eq_true]at hm
      exact of_decide_eq_true hm.1.1.1.1.1.1.2
     clear hd hic hm hwr
     obtain⟨c0,c1,c2,c3,c4⟩:=ic
     dsimp only[ZW,Aa,IU,zY,yH,iP,SH,KC,bY]at hin hpu hdk hap WW⊢
     repeat' ((conv=>whnf);first|refine K1.w ?_|refine K1.u ?_|refine K1.C 1 [(0,_)] (hin) rfl ?_|refine K1.P1 hpu rfl ?_|refine K1.C 2 [(0,_),(1,_)] (hdk) rfl ?_|refine K1.I 0x4008000f3 Tryz.func39 ?_|refine K1.I 0x8207b Tryz.func54 ?_|refine K1.I 0x85 Tryz.func47 ?_|refine K1.I 0x78023 Tryz.func57 ?_|refine K1.o (id:=4) [(0,none),(1,none),(2,none),(3,none),(4,none),(5,some [4,3,1])] [(2,[1]),(3,[1]),(5,[4,3,1])] ?_|refine K1.z ?_|refine K1.y (fun _=>?_) (fun _=>?_)|fail)
     all_goals(conv=>whnf)
     refine aN.mk {i:Nat//i≤d.length} (fun i=>⟨[(0,.box 0 0),(15,.sl 12 d.length true (dX d)),(16,.v (.int .i64 (d.length:Int))),(17,.v (.int .i64 (i.1:Int)))],
       [(11,.obs (vC (log++d.take i.1) (log.length+i.1))),(44,fC (log++d)),(8,IU (.own 43) d'),(43,BI d'.bs),(0,Aa ⟨c,r,true,dk,log,sent,⟨c0,c1,c2,c3,c4⟩,held,wait⟩ (.box 8 0) (.own 44) (.box 11 0) (.box 12 0) (.box 13 0)),(12,zY c.h c' (yH w)),(13,Nl c.q c.w sent (.own 14)),(14,fC wait)],[[(37,.sl 12 d.length true (dX d)),(36,.box 0 0),(34,.v (.bool false)),(7,.v (.int .i64 0)),(23,.v (.bool false)),(6,.v (.int .i64 0)),(5,.sl 12 d.length true (dX d)),(4,.v (.int .i64 0)),(0,.box 0 0),(1,.sl 12 ev.length true (dX ev))],[(66,.sl 12 ev.length true (dX ev)),(65,.box 40 8),(64,.box 0 0),(62,.v (.bool true)),(56,.v (.bool false)),(55,.v (.int .i64 4)),(33,.v (.bool false)),(0,.box 0 0),(5,.box 40 0),(30,.sl 12 ev.length true (dX ev)),(31,.v (.int .i64 (ev.length:Int))),(32,.v (.int .i64 (j:Int)))],[(0,.box 0 0),(1,.box 8 0),(2,.own 11),(3,.box 12 0),(4,.box 13 0),(5,.own 9),(6,.own 10),(7,.own 14)]],46⟩) (fun i=>d.length-i.1) ⟨0,Nat.zero_le _⟩ _
      (dL.mk' [] _ _ _ rfl ⟨aj,aj,aj,aS.int rfl,trivial⟩ ⟨⟨_,rfl,by rw[List.take_zero,List.append_nil];exact bW.refl _⟩,⟨_,rfl,bW.row (by simp) fun m _=>els_app (c:=Ev.cs) (l:=log) rfl m⟩,aF rfl,aF rfl,aF rfl,aF rfl,aF rfl,aF rfl,trivial⟩ rfl) ?_
     rintro⟨i,hi⟩
     dsimp only[Aa,yH]
     by_cases hil:i<d.length
     · obtain⟨hnx,hmy⟩:=hap i hil
       have ha:=MW hnx hmy (by rw[List.length_append,List.length_take];omega) (log.length+i)
       rw[List.append_assoc,show d.take i++[d.getD i default]=d.take (i+1) by rw[List.take_add_one,List.getElem?_eq_getElem hil];simp[List.getD,hil]]at ha
       rw[show d.getD i default=d.getD (i:Int).toNat default from rfl]at ha
       clear hap hnx hmy
       dsimp only[Ev.av,Ev.cs]at ha
       repeat' ((conv=>whnf);first|refine K1.w ?_|refine K1.u ?_|refine K1.C 1 [(0,_)] (ha) rfl ?_|refine K1.I 0x78023 Tryz.func57 ?_|refine K1.o (id:=4) [(0,none),(1,none),(2,none),(3,none),(4,none),(5,some [4,3,1])] [(2,[1]),(3,[1]),(5,[4,3,1])] ?_|refine K1.z ?_|refine K1.y (fun _=>?_) (fun _=>?_)|fail)
       all_goals(conv=>whnf)
       exact⟨⟨i+1,hil⟩,_,dL.mk' [] _ _ _ rfl ⟨aj,aj,aj,aS.int rfl,trivial⟩ ⟨aF rfl,aF rfl,aF rfl,aF rfl,aF rfl,aF rfl,aF rfl,aF rfl,trivial⟩ rfl,by show d.length-(i+1)<d.length-i;omega⟩
     · obtain rfl:i=d.length:=by omega
       rw[List.take_length]
       repeat' ((conv=>whnf);first|refine K1.w ?_|refine K1.u ?_|refine K1.z ?_|refine K1.y (fun _=>?_) (fun _=>?_)|fail)
       all_goals(conv=>whnf)
       exact⟨[(43,15),(44,16)],rfl,rfl,⟨aF rfl,aF rfl,⟨_,rfl,by simp only[List.length_append];exact bW.refl _⟩,aF rfl,aF rfl,aF rfl,aF rfl,aF rfl,trivial⟩,rfl,rfl,aj⟩
end
section
open Go.RowKit
theorem Qc (h:Nd) (hu:h.up=true):aV Tryz.prog 26 [(0,.obs (gX h))] [.box 0 0] (.v (.int .i64 19)) [(0,.obs (gX h))]:=by
 refine oP (ho:=[]) ⟨_,_,Tryz.func26,rfl,rfl⟩ ?_ rfl
 obtain⟨c,r,up,d,log,sent,ic,held,wait⟩:=h
 dsimp only[Ac,Aa,iP,List.append_nil]at hu⊢
 subst hu
 refine K1.M 0x40c7800008bd Tryz.func26 40 ?_
 repeat' ((conv=>whnf);first|refine K1.w ?_|refine K1.u ?_|refine Es.scope dV 0x40c7800008bd ?_|refine Es.label ?_|refine K1.o (id:=15) [(0,none),(1,none),(2,none),(3,none),(4,none),(5,none),(6,some [4]),(7,none),(8,none),(9,some [4,3,7])] [(5,[4]),(6,[4]),(7,[4,3]),(8,[4,3,7]),(9,[4,3,7])] ?_|refine K1.o (id:=16) [(0,none),(1,none),(2,none),(3,none),(4,none),(5,none),(6,none),(7,some [6,4,2]),(8,none),(9,none),(10,some [6,4,2,8])] [(3,[2]),(4,[2]),(7,[6,4,2]),(8,[6,4,2]),(9,[6,4,2,8]),(10,[6,4,2,8])] ?_|refine K1.z ?_|refine K1.y (fun _=>?_) (fun _=>?_)|fail)
 all_goals(conv=>whnf)
 exact⟨[],rfl,rfl,⟨aF rfl,aF rfl,aF rfl,aF rfl,aF rfl,aF rfl,aF rfl,aF rfl,trivial⟩,rfl,rfl,aj⟩
theorem SK (x:Rc) (h:iI x=true):aV Tryz.prog 93 [(0,fC x.ev)] [.agg [.v (.int .i64 x.k),.v (.int .i64 x.r),.v (.int .i64 x.u),.v (.int .i64 x.c.c0),.v (.int .i64 x.c.c1),.v (.int .i64 x.c.c2),.v (.int .i64 x.c.c3),.v (.int .i64 x.c.c4),.own 0]] (.dF [.sl 1 (aB x).length true (aU (aB x)),.v (.int .i64 0)]) [(0,fC x.ev)]:=by
 refine⟨⟨_,_,Tryz.func93,rfl,rfl⟩,fun w keep ρ args hkp lK hnd hbl hargs=>?_⟩
 have hob:=lK _ (List.mem_singleton.2 rfl)
 obtain⟨us,hown,hs0,hfl,hsc,ha⟩:=hob
 have hown:w.ownsRow 0 42 12 (ρ 0) x.ev.length us:=hown
 have ha:aI (PC w keep) (flat x.ev.length (dX x.ev)) us:=ha
 obtain⟨u,rfl,vs,rfl,hv⟩:=rF hargs
 have hblk: ∀c∈blks (ρ 0),c<w.heap.size:=fun c hc=>(hbl c (aQ.2 ⟨_,List.mem_singleton.2 rfl,hc⟩)).1
 have hpc:PC w (fun c=>c∈blks (ρ 0)) (.sl 12 x.ev.length true (dX x.ev)) (ρ 0):=by
  have ha':=(acs (w':=w) (keep':=fun c=>c∈blks (ρ 0)) (fun y hy=>hsc rfl y hy) ha).1
  rcases hown.2 with⟨hv',hz⟩|⟨b,cap,cur,hv',_,hh,hnc,hcm,_⟩
  · rw[hv',hz]
    rw[hz]at ha' hown hfl hsc
    exact .sl 12 0 true _ none 0 us (by decide) (Nat.le_refl _) (by simp[maxLen]) hown.1 hfl hsc (by rw[hv']at ha';exact ha'.2) (.inl rfl)
  · rw[hv']
    refine .sl 12 _ true _ _ cap us (by decide) hnc hcm hown.1 hfl hsc (by rw[hv']at ha';exact ha'.2) (.inr ⟨b,0,rfl,List.mem_cons_self,fun j u hj=>?_⟩)
    have:=hown.cells (g:=b) (by rw[hv'];rfl) j u hj
    rwa [Addr.add_lit]at this
 have hax:aI (C1 ⟨w,fun c=>c∈blks (ρ 0),fun _=>undef⟩) [x.av] [.agg vs.toArray]:=by
  refine aI.cons ⟨vs,rfl,⟨hv.1,fun i y v hy hv'=>?_⟩⟩ aI.nil
  match i,hy with
  |0,hy=>cases hy;exact hv.2 0 _ v rfl hv'
  |1,hy=>cases hy;exact hv.2 1 _ v rfl hv'
  |2,hy=>cases hy;exact hv.2 2 _ v rfl hv'
  |3,hy=>cases hy;exact hv.2 3 _ v rfl hv'
  |4,hy=>cases hy;exact hv.2 4 _ v rfl hv'
  |5,hy=>cases hy;exact hv.2 5 _ v rfl hv'
  |6,hy=>cases hy;exact hv.2 6 _ v rfl hv'
  |7,hy=>cases hy;exact hv.2 7 _ v rfl hv'
  | 8,hy=>
    cases hy
    have:v=eP (ρ 0):=hv.2 8 _ v rfl hv'
    rw[this,gu hown]
    exact hpc
 refine((yA 1 x h).2 w (fun c=>c∈blks (ρ 0)) [.agg vs.toArray] hblk hax).mono ?_
 rintro e w' ⟨u',ρ',h1,h2,h3,h4,h5,h6⟩
 obtain⟨us',hown',hs',aaD,U7,hall⟩:=h4 _ (List.mem_singleton.2 rfl)
 have hown':w'.ownsRow 0 5 1 (ρ' 1) (aB x).length us':=hown'
 have hb0: ∀c∈blks (ρ 0),c<w.heap.size∧ ¬keep c:=fun c hc=>hbl c (aQ.2 ⟨_,List.mem_singleton.2 rfl,hc⟩)
 have hmem: ∀c,c<w.heap.size→w'.heap[c]? =w.heap[c]? :=fun c hc=>h2.block c hc
 have hkk: ∀c,keep c→aK (gU w keep (fun b=>b∈ah ρ [(0,fC x.ev)])) w' ρ [(0,fC x.ev)] c:=fun c hc=>
  ⟨Nat.lt_of_lt_of_le (hkp c hc) h2.size,fun _=> .inl hc,fun hm=>(hbl c hm).2 hc⟩
 refine⟨u',ρ,h1,.of h2,fun _ _ _ _ _=> .refl _, ?_,fun p hp=>?_,hnd,fun b hb=> .inr hb⟩
 · obtain⟨ts,rfl,ht⟩:=h3
   refine⟨ts,rfl,⟨ht.1,fun i y v hy hv'=>?_⟩⟩
   match i,hy with
   | 0,hy=>
     cases hy
     have:v=ρ' 1:=Eq.trans (show v=eP (ρ' 1)from ht.2 0 _ v rfl hv') (gu hown')
     subst this
     have ha':=(acs (w':=w') (keep':=aK (gU w keep (fun b=>b∈ah ρ [(0,fC x.ev)])) w' ρ [(0,fC x.ev)]) (fun y hy=>U7 rfl y hy) hall).1
     show PC w' (aK (gU w keep (fun b=>b∈ah ρ [(0,fC x.ev)])) w' ρ [(0,fC x.ev)]) (.sl 1 (aB x).length true (aU (aB x))) (ρ' 1)
     rcases hown'.2 with⟨hz,hn⟩|⟨g,cap,cur,hz,_,hh,hnc,hcm,_⟩
     · exact absurd hn (by have:=Ea x;omega)
     · have hge:w.heap.size≤g:=h6 g (aQ.2 ⟨_,List.mem_singleton.2 rfl,by rw[hz];exact List.mem_cons_self⟩)
       rw[hz]
       refine .sl 1 _ true _ _ cap us' (by decide) hnc hcm hown'.1 aaD U7 ha'.2 (.inr ⟨g,0,rfl,⟨(Array.getElem?_eq_some_iff.1 hh).1,fun hlt=>absurd (show g<w.heap.size from hlt) (by omega),fun h=>?_⟩,fun j u hj=>?_⟩)
       · have:=(hbl g h).1
         omega
       · have:=hown'.cells (g:=g) (by rw[hz];rfl) j u hj
         rwa [Addr.add_lit]at this
   |1,hy=>cases hy;exact ht.2 1 _ v rfl hv'
 · obtain rfl:=List.mem_singleton.1 hp
   exact bn.move (X:=⟨w,keep,ρ⟩) (id:=0) (o:=fC x.ev) hkk (fun c hc=>hmem c (hkp c hc)) rfl (fun c hc=>hmem c (hblk c hc)) rfl (lK _ (List.mem_singleton.2 rfl))
def Qd (h:Nd):Rc:=⟨4,h.r,h.sent,bY,h.log⟩
theorem SL (h:Nd) (hu:h.up=true) (hl:h.log.length≤4096) (hm:iI (Qd h)=true) (hb:h.d.bs.length≤100000000) (dk:Dk) (y:Int) (hw:lI h.d (aB (Qd h))=(dk,y)):
  aV Tryz.prog 23 [(0,.obs (gX h))] [.box 0 0] (.v (.int .i64 (if y=0 then 0 else 18))) [(0,.obs (gX ⟨h.c,h.r,if y=0 then true else false,dk,h.log,h.sent,h.ic,h.held,h.wait⟩))]:=by
 refine yI (ho:=[]) 15 10 11 12 13 14 ⟨_,_,Tryz.func23,rfl,rfl⟩ rfl ?_ rfl
 rw[List.append_nil]
 have hpu:=SK (Qd h) hm
 have hmx:=jC (Qd h) hm
 have hdk:=oH h.d dk (aB (Qd h)) y (bg.bytes _) rfl (by omega) (by omega) hw
 generalize aB (Qd h)=wb at hpu hdk hmx hw
 clear hm hw
 obtain⟨c,r,up,d,log,sent,ic,held,wait⟩:=h
 dsimp only at hu hl
 subst hu
 by_cases he:y=0
 · subst he
   dsimp only[Ac,ZW,Aa,IU,Qd,KC,bY,fC,BI]at hpu hdk⊢
   rw[if_pos rfl,if_pos rfl]
   refine K1.M 0x2085 Tryz.func23 40 ?_
   repeat' ((conv=>whnf);first|refine K1.w ?_|refine K1.u ?_|refine K1.C 1 [(0,_)] (hpu) rfl ?_|refine K1.C 2 [(0,_),(1,_)] (hdk) rfl ?_|refine K1.I 0x8207b Tryz.func54 ?_|refine K1.I 0x85 Tryz.func47 ?_|refine K1.o (id:=5) [(0,none),(1,none),(2,none),(3,none),(4,none),(5,none),(6,none),(7,none),(8,none),(9,none),(10,none),(11,none),(12,none),(13,none),(14,some [12,10,8,6,4,2]),(15,none)] [(3,[2]),(4,[2]),(7,[6]),(8,[6]),(11,[10]),(12,[10]),(13,[12,10,8,6,4,2]),(14,[12,10,8,6,4,2]),(15,[12,10,8,6,4,2])] ?_|refine K1.z ?_|refine K1.y (fun _=>?_) (fun _=>?_)|fail)
   all_goals(conv=>whnf)
   exact⟨[(42,15)],rfl,rfl,⟨aF rfl,aF rfl,aF rfl,aF rfl,aF rfl,aF rfl,aF rfl,aF rfl,trivial⟩,rfl,rfl,aj⟩
 · dsimp only[Ac,ZW,Aa,IU,Qd,KC,bY,fC,BI]at hpu hdk⊢
   rw[if_neg he,if_neg he]
   refine K1.M 0x2085 Tryz.func23 40 ?_
   repeat' ((conv=>whnf);first|refine K1.w ?_|refine K1.u ?_|refine K1.C 1 [(0,_)] (hpu) rfl ?_|refine K1.C 2 [(0,_),(1,_)] (hdk) rfl ?_|refine K1.I 0x8207b Tryz.func54 ?_|refine K1.I 0x85 Tryz.func47 ?_|refine K1.o (id:=5) [(0,none),(1,none),(2,none),(3,none),(4,none),(5,none),(6,none),(7,none),(8,none),(9,none),(10,none),(11,none),(12,none),(13,none),(14,some [12,10,8,6,4,2]),(15,none)] [(3,[2]),(4,[2]),(7,[6]),(8,[6]),(11,[10]),(12,[10]),(13,[12,10,8,6,4,2]),(14,[12,10,8,6,4,2]),(15,[12,10,8,6,4,2])] ?_|refine K1.z ?_|refine K1.y (fun _=>?_) (fun _=>?_)|fail)
   all_goals(conv=>whnf)
   exact⟨[(42,15)],rfl,rfl,⟨aF rfl,aF rfl,aF rfl,aF rfl,aF rfl,aF rfl,aF rfl,aF rfl,trivial⟩,rfl,rfl,aj⟩
end
section
open Go.RowKit
end
section
open Go.RowKit
end
section
open Go.RowKit
def Iu (h:Nd) (u:Int):Int:=if(if h.ic.at h.r<u then h.ic.at h.r else u)>h.sent then(if h.ic.at h.r<u then h.ic.at h.r else u)else h.sent
theorem Iw (h:Nd) (hu:h.up=true) (l:List UInt8) {x:Rc} (ht:yY l=(x,0)) (hr5:h.r<5) (hx:x.r=(h.r:Int)) (hk:x.k=2) (he:x.ev=[]) (hs:Iu h x.u=h.sent) {n:Nat} {F:Nat→List AV} (hF:bg F l) (hn:n=l.length):
  aV Tryz.prog 16 [(0,.obs (gX h))] [.box 0 0,.sl 1 n true F] (.v (.int .i64 0)) [(0,.obs (gX h))]:=by
 refine oP (ho:=[]) ⟨_,_,Tryz.func16,rfl,rfl⟩ ?_ rfl
 have hf:=zV l ht hF hn
 have hcl:=qL h.c.h h.ic (yH h.held) (.inr ⟨_,_,rfl⟩)
 obtain⟨c,r,up,d,log,sent,⟨c0,c1,c2,c3,c4⟩,held,wait⟩:=h
 obtain⟨xk,xr,xu,⟨xc0,xc1,xc2,xc3,xc4⟩,ev⟩:=x
 dsimp only at hu hx hk he hr5
 subst hu hx hk he
 dsimp only[Ac,Aa,zY,Rc.av,Rc.cs,abb,aW.av,aW.cs,Iu,List.append_nil,List.length_nil]at hf hcl hs⊢
 clear ht hF
 refine K1.M 0x41900003d0102173 Tryz.func16 40 ?_
 repeat' ((conv=>whnf);first|refine K1.w ?_|refine K1.u ?_|refine K1.P1 hf rfl ?_|refine K1.C 1 [(0,_)] (hcl) rfl ?_|refine K1.I 0x8020000073 Tryz.func38 ?_|(refine pF.five hr5 (fun e=>?_) (fun e=>?_) (fun e=>?_) (fun e=>?_) (fun e=>?_)<;>subst e)|refine aN.rounds 1 ?_|refine K1.o (id:=1) [(0,none),(1,none),(2,none),(3,none),(4,none),(5,none),(6,none),(7,none),(8,none),(10,none),(11,none),(12,none),(13,none),(9,some [8,6]),(14,none),(15,none),(16,none),(17,none)] [(7,[6]),(8,[6]),(9,[8,6]),(14,[8,6]),(15,[8,6]),(16,[8,6]),(17,[8,6])] ?_|refine K1.z ?_|refine K1.y (fun _=>?_) (fun _=>?_)|fail)
 all_goals(conv=>whnf)
 all_goals exact⟨[],rfl,rfl,⟨aF rfl,aF rfl,aF rfl,aF rfl,aF rfl,aF rfl,aF rfl,aF rfl,trivial⟩,rfl,rfl,aj⟩
theorem WX (x:Rc) (h:iI x=true) (he:x.ev.length=0):aH Tryz.prog 93 [.agg [.v (.int .i64 x.k),.v (.int .i64 x.r),.v (.int .i64 x.u),.v (.int .i64 x.c.c0),.v (.int .i64 x.c.c1),.v (.int .i64 x.c.c2),.v (.int .i64 x.c.c3),.v (.int .i64 x.c.c4),iP]] (.dF [.sl 1 (aB x).length true (aU (aB x)),.v (.int .i64 0)]) []:=
 (yA 0 x h).thaw.args (.of (fun X u hu=>by
  obtain⟨us,e,ha⟩:=hu
  exact⟨us,e,aI.qJ (k:=8) rfl (x:=iP) (y:= .sl 12 x.ev.length true (dX x.ev)) (fun X u hu=>by
   rw[he]
   exact C1.iP (s:=12) (by decide) (show C1 X (.v (.slice none 0 0)) u from hu)) ha⟩) .nil)
def rcS (h:Nd) (s:Int):Rc:=⟨3,h.r,s,bY,[]⟩
theorem Iy (h:Nd) (hu:h.up=true) (l:List UInt8) {x:Rc} (ht:yY l=(x,0)) (hr5:h.r<5) (hx:x.r=(h.r:Int)) (hk:x.k=2) (he:x.ev=[]) {s:Int} (hs:Iu h x.u=s) (hne:s≠h.sent) (hb:h.d.bs.length≤100000000)
  (hm:iI (rcS h s)=true) (d':Dk) {y:Int} (hy:y≠0) (hw:lI h.d (aB (rcS h s))=(d',y)) {n:Nat} {F:Nat→List AV} (hF:bg F l) (hn:n=l.length):
  aV Tryz.prog 16 [(0,.obs (gX h))] [.box 0 0,.sl 1 n true F] (.v (.int .i64 18)) [(0,.obs (gX ⟨h.c,h.r,false,d',h.log,h.sent,h.ic,h.held,h.wait⟩))]:=by
 refine yI (ho:=[]) 15 10 11 12 13 14 ⟨_,_,Tryz.func16,rfl,rfl⟩ rfl ?_ rfl
 have hf:=zV l ht hF hn
 have hcl:=qL h.c.h h.ic (yH h.held) (.inr ⟨_,_,rfl⟩)
 have hp:=WX (rcS h s) hm rfl
 have hmx:=jC (rcS h s) hm
 have hdk:=oH h.d d' (aB (rcS h s)) y (bg.bytes _) rfl (by omega) (by omega) hw
 generalize aB (rcS h s)=wb at hp hdk hmx hw
 obtain⟨c,r,up,d,log,sent,⟨c0,c1,c2,c3,c4⟩,held,wait⟩:=h
 obtain⟨xk,xr,xu,⟨xc0,xc1,xc2,xc3,xc4⟩,ev⟩:=x
 dsimp only at hu hx hk he hr5
 subst hu hx hk he
 dsimp only[Ac,ZW,Aa,zY,Nl,IU,rcS,iP,bY,Rc.av,Rc.cs,abb,aW.av,aW.cs,Iu,List.append_nil,List.length_nil]at hf hcl hs hne hp hdk⊢
 clear ht hF hm hw
 refine K1.M 0x41900003d0102173 Tryz.func16 40 ?_
 repeat' ((conv=>whnf);first|refine K1.w ?_|refine K1.u ?_|refine K1.P1 hf rfl ?_|refine K1.C 1 [(0,_)] (hcl) rfl ?_|refine K1.P1 hp rfl ?_|refine K1.C 2 [(0,_),(1,_)] (hdk) rfl ?_|refine K1.I 0x8020000073 Tryz.func38 ?_|refine K1.I 0x8207b Tryz.func54 ?_|refine K1.I 0x85 Tryz.func47 ?_|(refine pF.five hr5 (fun e=>?_) (fun e=>?_) (fun e=>?_) (fun e=>?_) (fun e=>?_)<;>subst e<;>simp only[aW.at]at hs<;>subst hs)|refine aN.rounds 1 ?_|refine K1.o (id:=1) [(0,none),(1,none),(2,none),(3,none),(4,none),(5,none),(6,none),(7,none),(8,none),(10,none),(11,none),(12,none),(13,none),(9,some [8,6]),(14,none),(15,none),(16,none),(17,none)] [(7,[6]),(8,[6]),(9,[8,6]),(14,[8,6]),(15,[8,6]),(16,[8,6]),(17,[8,6])] ?_|refine K1.z ?_|refine K1.y (fun _=>?_) (fun _=>?_)|fail)
 all_goals(conv=>whnf)
 all_goals exact⟨[(43,15)],rfl,rfl,⟨aF rfl,aF rfl,aF rfl,aF rfl,aF rfl,aF rfl,aF rfl,aF rfl,trivial⟩,rfl,rfl,aj⟩
end
section
open Go.RowKit
def oI:mQ:=⟨2,4,8,20,4,3⟩
def Nh:ByteArray:=⟨#[122,101,100]⟩
def EH:ByteArray:=⟨#[98,111,98]⟩
def lF:Ed:=⟨1,Nh,0,⟨#[]⟩⟩
def gq:Ev:=⟨1,1,bY,1,1,EH,0,⟨#[]⟩⟩
def qy (L:List Ev) (q:Nat):Rc:=match q with
  |0=>zf 0 (ji 0 L.length lF)
  |1=>⟨2,((0:Nat):Int),0,bY,[gq]⟩
  |2=>⟨3,((0:Nat):Int),(L.length:Int),bY,[]⟩
  |_=>⟨4,((0:Nat):Int),0,bY,L⟩
def WY (L:List Ev) (q:Nat):List Ev:=match q with
  |0=>L++[ji 0 L.length lF]
  |1=>L++[gq]
  |_=>L
def Qe (L:List Ev) (q:Nat):Int:=match q with
  |2=>(L.length:Int)
  |_=>0
theorem Qg (r:Nat): ∀ (L A:List Ev) (s:Int),(L.map (zf r)).foldl WL (A,s)=(A++L,s)
  |[],A,s=>by simp
  | v::L,A,s=>by
    rw[List.map_cons,List.foldl_cons,show WL (A,s) (zf r v)=(A++[v],s)from rfl,Qg r L]
    simp
theorem Iz (L:List Ev):MX (L.map (zf 0))=(L,0):=(Qg 0 L [] 0).trans (by simp)
theorem E8 (L:List Ev) {q:Nat} (hq:q<4):MX (L.map (zf 0)++[qy L q])=(WY L q,Qe L q):=by
 unfold MX
 rw[List.foldl_append,show(L.map (zf 0)).foldl WL ([],0)=(L,0)from Iz L]
 rcases(show q=0∨q=1∨q=2∨q=3 by omega)with rfl|rfl|rfl|rfl<;>rfl
theorem aag {r:Nat} (hr:r<5) {L:List Ev} (hm: ∀e∈L,eG e=0):Dt (BU r L) (L.map (zf r)) []:=by
 refine⟨fun x hx=>?_, ?_,DC⟩
 · obtain⟨v,hv,rfl⟩:=List.mem_map.1 hx
   exact E5 hr (hm v hv)
 · rw[List.append_nil]
   unfold BU kY
   rw[List.flatMap_map]
theorem aah {r:Nat} {L:List Ev} (h:Own r L) (j:Nat):Own r (L.take j):=by
 refine⟨fun i hi=>?_,fun e he=>h.ok e (List.mem_of_mem_take he)⟩
 rw[List.length_take]at hi
 rw[show(L.take j).getD i default=L.getD i default by rw[List.getD,List.getD,List.getElem?_take,if_pos (by omega)]]
 exact h.at_ i (by omega)
theorem rX {r:Nat} (hr:r<5) {L:List Ev} (h:Own r L) (hl:L.length≤1000):P5 L where
 len:=by omega
 nx j hj:=by
  have ht:=aah h j
  have hlen:(L.take j).length=j:=by rw[List.length_take];omega
  have:=UQ hr ht (e:=(L.getD j default).ed) (h.ok _ (by simp[List.getD,hj]))
  rw[hlen,←h.at_ j hj]at this
  exact this
 may j hj:=xG hr h (by omega) _ (by simp[List.getD,hj])
 r j hj:=by rw[h.at_ j hj];show(0:Int)≤r∧(r:Int)<5;omega
 n e he:=by
  obtain⟨i,hi,e1,_⟩:=kR h he
  rw[e1]
  show 0≤(i:Int)+1∧(i:Int)+1≤1000000
  omega
theorem BZ {r:Nat} (hr:r<5): ∀ {L:List Ev},Own r L→zU L=jD r L.length:=by
 intro L h
 have: ∀j,j≤L.length→zU (L.take j)=jD r j:=fun j=>by
  induction j with
  |zero=>intro _;rw[List.take_zero,show((0:Nat):Int)=0 from rfl,Z7 hr];rfl
  | succ j ih=>
    intro hj
    rw[KF (by omega),ih (by omega),h.at_ j (by omega)]
    show(jD r j).inc ((r:Int).toNat)=_
    rw[Int.toNat_natCast,P8 hr,show((j+1:Nat):Int)=(j:Int)+1 by omega]
 have h1:=this L.length (Nat.le_refl _)
 rwa [List.take_length]at h1
theorem abU (e:Ed): ∃n,(kU e).key=ks3 n:=by unfold kU;split<;>exact⟨_,rfl⟩
theorem IB (c:mQ) (r:Nat) (l:List Ed): ∀i,i≤l.length→ ∀e∈qZ c r (l.take i),∃n,e.key=ks3 n
  |0,_,e,he=>by cases he
  | i +1,h,e,he=>by
    rw[DJ c r h]at he
    rcases xH c r (qZ c r (l.take i)) (kU (l.getD i default))with⟨hs,_⟩|⟨x,hx,hs⟩
    · rw[hs]at he
      rcases List.mem_append.1 he with he|he
      · exact IB c r l i (by omega) e he
      · rw[List.mem_singleton.1 he];exact abU _
    · rw[hs]at he
      exact IB c r l i (by omega) e he
theorem aai (n:Nat):ks3 n=⟨#[97,110,110]⟩∨ks3 n=EH∨ks3 n=⟨#[99,121]⟩:=by unfold ks3 EH;split;exact .inl rfl;split;exact .inr (.inl rfl);exact .inr (.inr rfl)
theorem SN {a b c:Str} {l:List Str} (hp:l.Pairwise (· < ·)) (hm: ∀x∈l,x=a∨x=b∨x=c):l.length≤3:=by
 match l,hp,hm with
 |[],_,_=>simp
 |[_],_,_=>simp
 |[_,_],_,_=>simp
 |[_,_,_],_,_=>simp
 | x::y::z::w::t,hp,hm=>
   exfalso
   have h1:=List.pairwise_cons.1 hp
   have h2:=List.pairwise_cons.1 h1.2
   have h3:=List.pairwise_cons.1 h2.2
   have xy:=h1.1 y (by simp)
   have xz:=h1.1 z (by simp)
   have xw:=h1.1 w (by simp)
   have yz:=h2.1 z (by simp)
   have yw:=h2.1 w (by simp)
   have zw:=h3.1 w (by simp)
   have irr: ∀q:Str,¬q<q:=fun q=>List.lt_irrefl q
   rcases hm x (by simp)with hx|hx|hx<;>rcases hm y (by simp)with hy|hy|hy<;>rcases hm z (by simp)with hz|hz|hz<;>rcases hm w (by simp)with hw|hw|hw<;>subst_vars<;>first|exact irr _ xy|exact irr _ xz|exact irr _ xw|exact irr _ yz|exact irr _ yw|exact irr _ zw
theorem adE {L:List Ev} (h: ∀e∈L,∃n,e.key=ks3 n):(nU L).length≤3∧ ∀x∈nU L,∃n,x.key=ks3 n:=by
 have hk: ∀k∈keysB L,∃n,k=dI (ks3 n):=fun k hk=>by
  have h1:k∈(aG L).map fun e:Ev=>dI e.key:=((iM _).2 k).1 hk
  obtain⟨e,he,rfl⟩:=List.mem_map.1 h1
  obtain⟨n,hn⟩:=h e (List.mem_filter.1 he).1
  exact⟨n,by rw[hn]⟩
 refine⟨?_,fun x hx=>?_⟩
 · unfold nU
   rw[List.length_map]
   refine SN (a:=dI ⟨#[97,110,110]⟩) (b:=dI EH) (c:=dI ⟨#[99,121]⟩) (iM _).1 fun k hkm=>?_
   obtain⟨n,rfl⟩:=hk k hkm
   rcases aai n with e|e|e<;>rw[e]
   · exact .inl rfl
   · exact .inr (.inl rfl)
   · exact .inr (.inr rfl)
 · obtain⟨k,hkm,rfl⟩:=List.mem_map.1 hx
   obtain⟨n,rfl⟩:=hk k hkm
   exact⟨n,rfl⟩
theorem WZ {L:List Ev} (h: ∀e∈L,∃n,e.key=ks3 n):l9 4 3 (nU L) lF=0:=by
 obtain⟨h1,h2⟩:=adE h
 have hi:zI (nU L) lF.key= -1:=Uc fun i hi=>by
  obtain⟨n,hn⟩:=h2 ((nU L).getD i default) (by simp[List.getD,hi])
  rw[hn]
  rcases aai n with e|e|e<;>rw[e]<;>decide
 unfold l9
 rw[if_neg (by decide),if_pos (show lF.k=1 from rfl),if_pos hi,if_neg (by omega)]
theorem abV {L:List Ev} (h:Own 0 L):Ci (lJ (eqK gq.key) L) gq:=by
 have hs: ∀ {x:Ev},x∈lJ (eqK gq.key) L→x∈L:=fun hx=>(List.mem_filter.1 hx).1
 refine⟨HY,fun x hx=>?_,by decide,fun a ha b hb _ hbe=>?_,by decide,fun x hx=>DI (h.ok x (hs hx))⟩
 · obtain⟨i,_,e,_⟩:=kR h (hs hx)
   rw[e]
   show decide (0≤(1:Int)∧(1:Int)<5∧1≤(1:Int)∧(1:Int)≤0)=false
   decide
 · obtain⟨i,_,e,_⟩:=kR h (hs hb)
   rw[e]at hbe
   exact absurd (of_decide_eq_true hbe).2.2.2 (by show¬ (i:Int)+1≤0;omega)
theorem abW {L:List Ev} (h:Own 0 L) (hl:L.length≤7):P5 (L++[gq]) where
 len:=by rw[List.length_append];show L.length+1≤_;omega
 nx j hj:=by
  have ho:=rX (by decide) h (by omega)
  rw[List.length_append]at hj
  by_cases hjl:j<L.length
  · rw[show(L++[gq]).getD j default=L.getD j default by rw[List.getD,List.getD,List.getElem?_append_left hjl],List.take_append_of_le_length (by omega)]
    exact ho.nx j hjl
  · obtain rfl:j=L.length:=by have:j<L.length+1:=hj;omega
    rw[show(L++[gq]).getD L.length default=gq by simp[List.getD],List.take_append_of_le_length (Nat.le_refl _),List.take_length]
    exact abV h
 may j hj:=by
  have ho:=rX (by decide) h (by omega)
  rw[List.length_append]at hj
  by_cases hjl:j<L.length
  · rw[show(L++[gq]).getD j default=L.getD j default by rw[List.getD,List.getD,List.getElem?_append_left hjl]]
    exact ho.may j hjl
  · obtain rfl:j=L.length:=by have:j<L.length+1:=hj;omega
    rw[show(L++[gq]).getD L.length default=gq by simp[List.getD]]
    decide
 r j hj:=by
  have ho:=rX (by decide) h (by omega)
  rw[List.length_append]at hj
  by_cases hjl:j<L.length
  · rw[show(L++[gq]).getD j default=L.getD j default by rw[List.getD,List.getD,List.getElem?_append_left hjl]]
    exact ho.r j hjl
  · obtain rfl:j=L.length:=by have:j<L.length+1:=hj;omega
    rw[show(L++[gq]).getD L.length default=gq by simp[List.getD]]
    decide
 n e he:=by
  have ho:=rX (by decide) h (by omega)
  rcases List.mem_append.1 he with he|he
  · exact ho.n e he
  · rw[List.mem_singleton.1 he];decide
theorem abX {L:List Ev} (h:Own 0 L) (hl:L.length≤7) {q:Nat} (hq:q<4):P5 (WY L q):=by
 rcases(show q=0∨q=1∨q=2∨q=3 by omega)with rfl|rfl|rfl|rfl
 · exact rX (by decide) (h.snoc (e:=lF) (by decide)) (by show(L++[_]).length≤1000;rw[List.length_append];show L.length+1≤_;omega)
 · exact abW h hl
 · exact rX (by decide) h (by show L.length≤1000;omega)
 · exact rX (by decide) h (by show L.length≤1000;omega)
theorem aaj {L:List Ev} (h:Own 0 L) {q:Nat} (hq:q<4):zU (WY L q)=⟨(L.length:Int)+(if q=0 then 1 else 0),if q=1 then 1 else 0,0,0,0⟩:=by
 rcases(show q=0∨q=1∨q=2∨q=3 by omega)with rfl|rfl|rfl|rfl
 · have:=BZ (by decide) (h.snoc (e:=lF) (by decide))
   rw[List.length_append]at this
   exact this
 · show zU (L++[gq])=_
   unfold zU
   rw[List.foldl_append,show L.foldl (fun c e=>c.inc e.r.toNat) bY=jD 0 L.length from BZ (by decide) h]
   show(⟨(L.length:Int),0+1,0,0,0⟩:aW)=_
   rw[if_neg (by decide),if_pos rfl,Int.add_zero]
   rfl
 · rw[if_neg (by decide),if_neg (by decide),Int.add_zero]
   exact BZ (by decide) h
 · rw[if_neg (by decide),if_neg (by decide),Int.add_zero]
   exact BZ (by decide) h
theorem IC (L:List Ev) {q:Nat} (hq:q<4):((WY L q).length:Int)=(L.length:Int)+(if q=0 then 1 else 0)+(if q=1 then 1 else 0):=by
 rcases(show q=0∨q=1∨q=2∨q=3 by omega)with rfl|rfl|rfl|rfl<;>simp[WY]
theorem rY {L:List Ev} (h:Own 0 L) (hl:L.length≤7) {q:Nat} (hq:q<4):iI (qy L q)=true:=by
 rcases(show q=0∨q=1∨q=2∨q=3 by omega)with rfl|rfl|rfl|rfl
 · exact E5 (by decide) (Nb (by decide) (by omega) (by decide))
 · show iI ⟨2,((0:Nat):Int),0,bY,[gq]⟩=true
   decide
 · exact adA (by decide) (by decide) (by omega)
 · have ha:L.all (fun e=>decide (eG e=0))=true:=List.all_eq_true.2 fun e he=>decide_eq_true (xG (by decide) h (by omega) e he)
   show iI ⟨4,((0:Nat):Int),0,bY,L⟩=true
   unfold iI
   dsimp only
   rw[ha,decide_eq_true (show L.length≤4096 by omega)]
   rfl
end
section
open Go.RowKit
theorem abY (c:mQ) {r:Nat} (hr:r<5) (hq:0≤c.q) (l:List Ed) (hl: ∀e∈l,e.rng) (hn:l.length≤140737488355328):
  aV Tryz.prog 13 [(0,.obs (gX (mV c r [])))] [.box 0 0,.sl 4 l.length true (edF l)] (.own 3) [(0,.obs (gX (mV c r (qZ c r (l.take 30))))),(3,fC (qZ c r (l.take 30)))]:=by
 have hown:=Ip (c:=c) (r:=r) hq l
 have hsn:=fun i=>DJ c r (l:=l) (i:=i)
 have hfit: ∀i,i<l.length→aH Tryz.prog 32 [(l.getD i default).av] (kU (l.getD i default)).av []:=fun i hi=>by
  have:=hl (l.getD i default) (by simp[List.getD,hi])
  exact Rk _ this.1 this.2
 have hed: ∀i,i<l.length→i<30→ ∀ {L' v x},BX c r (qZ c r (l.take i)) (kU (l.getD i default))=(L',v,x)→aV Tryz.prog 22 [(0,.obs (gX (mV c r (qZ c r (l.take i)))))] [.box 0 0,(kU (l.getD i default)).av] (.dF [v.av,.v (.int .i64 x)]) [(0,.obs (gX (mV c r L')))]:=fun i hi h30 L' v x hs=>
  Z9 hr (hown i (by omega)).1 (by have:=(hown i (by omega)).2.1;omega) (O5 _) hs
 have hcs:=fun i=>xH c r (qZ c r (l.take i)) (kU (l.getD i default))
 have hle:=fun i (h:i≤l.length)=>(hown i h).2.1
 have h30: ∀i,¬i<l.length∨ ¬i<30→i≤l.length→i≤30→qZ c r (l.take 30)=qZ c r (l.take i):=fun i h h1 h2=>by
  congr 1
  rcases h with h|h
  · rw[List.take_of_length_le (by omega),List.take_of_length_le (by omega)]
  · rw[show i=30 by omega]
 have hz:qZ c r (l.take 0)=[]:=rfl
 clear hl hown
 generalize qZ c r=R at*
 generalize mV c r=S at*
 clear hr hq
 generalize BX c r=T at*
 refine K1.M 0x800201f3 Tryz.func13 40 ?_
 repeat' ((conv=>whnf);first|refine K1.w ?_|refine K1.u ?_|refine K1.z ?_|refine K1.y (fun _=>?_) (fun _=>?_)|fail)
 conv=>whnf
 refine aN.mk {j:Nat//j≤l.length∧j≤30} (fun j=>⟨[(0,.box 0 0),(1,.sl 4 l.length true (edF l)),(5,.own 40),(6,.v (.int .i64 (j.1:Int)))],[(40,fC (R (l.take j.1))),(0,.obs (gX (S (R (l.take j.1)))))],[[(0,.own 0)]],41⟩) (fun j=>l.length-j.1) ⟨0,Nat.zero_le _,Nat.zero_le _⟩ _
  (dL.mk' [] _ _ _ rfl ⟨aj,aj,aj,aS.int rfl,trivial⟩ ⟨⟨_,rfl,bW.row (by rw[hz];rfl) fun i hi=>absurd hi (Nat.not_lt_zero i)⟩,⟨_,rfl,by rw[hz];exact bW.refl _⟩,trivial⟩ rfl) ?_
 rintro⟨j,hj,hj3⟩
 dsimp only[fC]
 by_cases hjl:j<l.length
 · by_cases aak:j<30
   · have hf:=hfit j hjl
     have hlen:=hle j hj
     rcases hcs j with⟨e,_⟩|⟨x,hx,e⟩
     · have hd:=hed j hjl aak e
       have hn:=hsn j hjl
       rw[e]at hn
       dsimp only at hn
       clear hfit hed hcs hle h30 hsn e
       generalize R (l.take j)=L at*
       generalize ji r L.length (kU (l.getD j default))=v at*
       generalize kU (l.getD j default)=fe at*
       dsimp only[Ed.av,Ev.av,Ev.cs]at hf hd
       repeat' ((conv=>whnf);first|refine K1.w ?_|refine K1.u ?_|refine K1.P1 hf rfl ?_|refine K1.C 1 [(0,_)] (hd) rfl ?_|refine K1.z ?_|refine K1.y (fun _=>?_) (fun _=>?_)|fail)
       all_goals(conv=>whnf)
       exact⟨⟨j+1,hjl,aak⟩,_,dL.mk' [(44,40)] _ _ _ rfl ⟨aj,aj,aj,aS.int rfl,trivial⟩ ⟨⟨_,rfl,by rw[hn];exact bW.row (by simp) fun m hm=>bJ (c:=Ev.cs) (l:=L) rfl rfl m hm⟩,⟨_,rfl,by rw[hn];exact bW.refl _⟩,trivial⟩ rfl,by show l.length-(j+1)<l.length-j;omega⟩
     · have hd:=hed j hjl aak e
       have hn:=hsn j hjl
       rw[e]at hn
       dsimp only at hn
       clear hfit hed hcs hle h30 hsn e
       generalize R (l.take j)=L at*
       generalize kU (l.getD j default)=fe at*
       dsimp only[Ed.av,Ev.av,Ev.cs]at hf hd
       repeat' ((conv=>whnf);first|refine K1.w ?_|refine K1.u ?_|refine K1.P1 hf rfl ?_|refine K1.C 1 [(0,_)] (hd) rfl ?_|refine K1.z ?_|refine K1.y (fun _=>?_) (fun _=>?_)|fail)
       all_goals(conv=>whnf)
       exact⟨⟨j+1,hjl,aak⟩,_,dL.mk' [] _ _ _ rfl ⟨aj,aj,aj,aS.int rfl,trivial⟩ ⟨⟨_,rfl,by rw[hn];exact bW.refl _⟩,⟨_,rfl,by rw[hn];exact bW.refl _⟩,trivial⟩ rfl,by show l.length-(j+1)<l.length-j;omega⟩
   · rw[h30 j (.inr aak) hj hj3]
     repeat' ((conv=>whnf);first|refine K1.w ?_|refine K1.u ?_|refine K1.z ?_|refine K1.y (fun _=>?_) (fun _=>?_)|fail)
     all_goals(conv=>whnf)
     exact⟨[(40,3)],rfl,rfl,⟨aF rfl,aF rfl,trivial⟩,rfl,rfl,aj⟩
 · rw[h30 j (.inl hjl) hj hj3]
   repeat' ((conv=>whnf);first|refine K1.w ?_|refine K1.u ?_|refine K1.z ?_|refine K1.y (fun _=>?_) (fun _=>?_)|fail)
   all_goals(conv=>whnf)
   exact⟨[(40,3)],rfl,rfl,⟨aF rfl,aF rfl,trivial⟩,rfl,rfl,aj⟩
end
section
open Go.RowKit
theorem ae4 {l:List Ev} (h:l=[]):l.length=0:=by rw[h];rfl
theorem SQ (h:Nd) (x:Int) (hx:h.up=false∧x=18∨h.up=true∧h.wait.length=0∧x=24):
  aV Tryz.prog 17 [(0,.obs (gX h))] [.box 0 0] (.dF [iP,.v (.int .i64 x)]) [(0,.obs (gX h))]:=by
 refine oP (ho:=[]) ⟨_,_,Tryz.func17,rfl,rfl⟩ ?_ rfl
 obtain⟨c,r,up,d,log,sent,ic,held,wait⟩:=h
 dsimp only[Ac,Aa,Nl,iP,List.append_nil]at hx⊢
 rcases hx with⟨rfl,rfl⟩|⟨rfl,hw,rfl⟩
 all_goals
  refine K1.M 0x410d Tryz.func17 40 ?_
  repeat' ((conv=>whnf);first|refine K1.w ?_|refine K1.u ?_|refine K1.I 0x5 Tryz.func40 ?_|refine K1.o (id:=5) [(0,none),(1,none),(2,none),(3,none),(4,none),(5,none),(6,none),(7,none),(8,some [7,5]),(9,none),(10,some [7,5,3,1]),(11,none),(12,none),(13,none),(14,none)] [(2,[1]),(3,[1]),(6,[5]),(7,[5]),(8,[7,5]),(9,[7,5,3,1]),(10,[7,5,3,1]),(11,[7,5,3,1]),(12,[7,5,3,1]),(13,[7,5,3,1]),(14,[7,5,3,1])] ?_|refine K1.z ?_|refine K1.y (fun _=>?_) (fun _=>?_)|fail)
  all_goals(conv=>whnf)
  exact⟨[],rfl,rfl,⟨aF rfl,aF rfl,aF rfl,aF rfl,aF rfl,aF rfl,aF rfl,aF rfl,trivial⟩,rfl,rfl,aj⟩
end
end Go.Proofs.YtimhagicagdkfaaGreat
