/-
  Contracts of the walk:TkE,TkLaw,TkLawB.
-/
import Derived.Test.YtimhagicagdkfaaGreatNi12
import Derived.Test.YtimhagicagdkfaaGreatNi9
import Derived.Test.YtimhagicagdkfaaGreatNi8
set_option maxHeartbeats 16000000
set_option maxRecDepth 100000
set_option linter.unusedVariables false
set_option linter.unusedSimpArgs false
namespace Go.Proofs.YtimhagicagdkfaaGreat
section
open Go.RowKit
def Lu:Ev:=⟨0,0,⟨0,0,0,0,0⟩,0,0,⟨#[]⟩,0,⟨#[]⟩⟩
def mY (bs:List UInt8):Ev×Nat×Int:=if(dI bs (0,0)).2.2≠0 then(Lu,0,(dI bs (0,0)).2.2)else((dI bs (0,0)).1,(dI bs (0,0)).2.1,0)
def tkR (t:Ev×Nat×Int):AV:= .dL [t.1.av,.v (.int .i64 (t.2.1:Int)),.v (.int .i64 t.2.2)]
theorem lI {bs:List UInt8} {e:Ev} {s:Sq} (h:dI bs (0,0)=(e,s)) (h0:s.2=0):tkR (e,s.1,0)=tkR (mY bs):=by
 unfold mY;rw[h,if_neg (fun k=>k h0)]
theorem lJ {bs:List UInt8} {e:Ev} {s:Sq} (h:dI bs (0,0)=(e,s)) (h0: ¬s.2=0):tkR (Lu,0,s.2)=tkR (mY bs):=by
 unfold mY;rw[h,if_pos h0]
theorem acL {bs:List UInt8} {lo hi:Int} {s:Sq} (_h0:0≤lo) (h1:0≤hi):0≤(eY bs lo hi s).1∧(eY bs lo hi s).1≤hi:=by
 unfold eY
 split
 · exact⟨Int.le_refl _,h1⟩
 · split
   · exact⟨Int.le_refl _,h1⟩
   · split
     · rename_i h;exact⟨by omega,h.2⟩
     · exact⟨Int.le_refl _,h1⟩
theorem jr {bs:List UInt8} {lo hi c:Int} {s s':Sq} (h:fJ bs lo hi s=(c,s')) (hu:s.1≤bs.length):s'.1≤bs.length∧(0≤c∧c≤255):=by
 have h1:=aaq (lo:=lo) (hi:=hi) hu
 have h2:=acF (bs:=bs) (lo:=lo) (hi:=hi) (s:=s)
 rw[h]at h1 h2
 exact⟨h1,h2⟩
theorem fV {bs:List UInt8} {lo hi c:Int} {s s':Sq} (h:eY bs lo hi s=(c,s')) (hu:s.1≤bs.length) (h0:0≤lo) (h1:0≤hi):s'.1≤bs.length∧(0≤c∧c≤hi):=by
 have h3:=aaF (lo:=lo) (hi:=hi) hu
 have h2:=acL (bs:=bs) (lo:=lo) (hi:=hi) (s:=s) h0 h1
 rw[h]at h3 h2
 exact⟨h3,h2⟩
theorem wF {bs:List UInt8} {sz:Int} {may:ByteArray→Int} {c:ByteArray} {s s':Sq} (h:fU bs sz may s=(c,s')) (hu:s.1≤bs.length):s'.1≤bs.length:=by
 have h1:=Yn (sz:=sz) (may:=may) hu
 rw[h]at h1
 exact h1
theorem U8 (bs:List UInt8) (hl:bs.length≤1000000000):aG Tryz.prog 114 [.sl 1 bs.length true (aV bs)] (.dL [(mY bs).1.av,.v (.int .i64 ((mY bs).2.1:Int)),.v (.int .i64 (mY bs).2.2)]) []:=by
 obtain⟨⟨k,s1⟩,e1⟩: ∃p,fJ bs 1 5 (0,0)=p:=⟨_,rfl⟩
 obtain⟨q1,g1⟩:=jr e1 (Nat.zero_le _)
 obtain⟨⟨R,s2⟩,e2⟩: ∃p,fJ bs 0 4 s1=p:=⟨_,rfl⟩
 have hR0:=FM (bs:=bs) (lo:=0) (hi:=4) (s:=s1)
 rw[e2]at hR0
 obtain⟨q2,g2⟩:=jr e2 q1
 obtain⟨⟨N,s3⟩,e3⟩: ∃p,eY bs 1 1048576 s2=p:=⟨_,rfl⟩
 obtain⟨q3,g3⟩:=fV e3 q2 (by omega) (by omega)
 rcases(show R=0∨R=1∨R=2∨R=3∨R=4 by simp only at hR0;omega)with rfl|rfl|rfl|rfl|rfl
 · obtain⟨⟨c1,t2⟩,f1⟩: ∃p,eY bs 0 1048576 s3=p:=⟨_,rfl⟩
   obtain⟨p1,_⟩:=fV f1 q3 (by omega) (by omega)
   obtain⟨⟨c2,t3⟩,f2⟩: ∃p,eY bs 0 1048576 t2=p:=⟨_,rfl⟩
   obtain⟨p2,_⟩:=fV f2 p1 (by omega) (by omega)
   obtain⟨⟨c3,t4⟩,f3⟩: ∃p,eY bs 0 1048576 t3=p:=⟨_,rfl⟩
   obtain⟨p3,_⟩:=fV f3 p2 (by omega) (by omega)
   obtain⟨⟨c4,t5⟩,f4⟩: ∃p,eY bs 0 1048576 t4=p:=⟨_,rfl⟩
   obtain⟨p4,_⟩:=fV f4 p3 (by omega) (by omega)
   obtain⟨⟨H,s5⟩,e5⟩: ∃p,eY bs 1 16777216 t5=p:=⟨_,rfl⟩
   obtain⟨q5,g5⟩:=fV e5 p4 (by omega) (by omega)
   obtain⟨⟨ks,s6⟩,e6⟩: ∃p,fJ bs 1 8 s5=p:=⟨_,rfl⟩
   obtain⟨q6,g6⟩:=jr e6 q5
   obtain⟨⟨key,s7⟩,e7⟩: ∃p,fU bs ks keyE s6=p:=⟨_,rfl⟩
   have q7:=wF e7 q6
   obtain⟨⟨l,s8⟩,e8⟩: ∃p,fJ bs 0 1 s7=p:=⟨_,rfl⟩
   obtain⟨q8,g8⟩:=jr e8 q7
   obtain⟨⟨vs,s9⟩,e9⟩: ∃p,fJ bs 1 12 s8=p:=⟨_,rfl⟩
   obtain⟨q9,g9⟩:=jr e9 q8
   obtain⟨⟨v,s10⟩,e10⟩: ∃p,fU bs vs fA s9=p:=⟨_,rfl⟩
   have hF:dI bs (0,0)=if dM k then(⟨0,N,⟨N-1,c1,c2,c3,c4⟩,H,k,key,l,v⟩,s10)else(⟨0,N,⟨N-1,c1,c2,c3,c4⟩,H,k,key,0,⟨#[]⟩⟩,s7):=by
    simp[dI,iU,ku,kK,bn.rO,bn.put,e1,e2,e3,f1,f2,f3,f4,e5,e6,e7,e8,e9,e10]
   have hL:dM k=true→dI bs (0,0)=(⟨0,N,⟨N-1,c1,c2,c3,c4⟩,H,k,key,l,v⟩,s10):=fun h=>hF.trans (if_pos h)
   have hS:dM k=false→dI bs (0,0)=(⟨0,N,⟨N-1,c1,c2,c3,c4⟩,H,k,key,0,⟨#[]⟩⟩,s7):=fun h=>hF.trans (if_neg (by rw[h];exact Bool.false_ne_true))
   clear hF
   refine K1.E 0x100ff Tryz.func114 ?_
   repeat' ((conv=>whnf);first|refine K1.w ?_|refine K1.u ?_|refine K1.C 3 [(0,_),(1,_),(2,_)] (gB bs _ _ _ _ _ e1 hl) rfl ?_|refine K1.C 3 [(0,_),(1,_),(2,_)] (gB bs _ _ _ _ _ e2 hl) rfl ?_|refine K1.C 3 [(0,_),(1,_),(2,_)] (dV bs _ _ _ _ _ e3 (by assumption) hl (by omega) (by omega) (by omega)) rfl ?_|refine K1.C 3 [(0,_),(1,_),(2,_)] (dV bs _ _ _ _ _ f1 (by assumption) hl (by omega) (by omega) (by omega)) rfl ?_|refine K1.C 3 [(0,_),(1,_),(2,_)] (dV bs _ _ _ _ _ f2 (by assumption) hl (by omega) (by omega) (by omega)) rfl ?_|refine K1.C 3 [(0,_),(1,_),(2,_)] (dV bs _ _ _ _ _ f3 (by assumption) hl (by omega) (by omega) (by omega)) rfl ?_|refine K1.C 3 [(0,_),(1,_),(2,_)] (dV bs _ _ _ _ _ f4 (by assumption) hl (by omega) (by omega) (by omega)) rfl ?_|refine K1.C 3 [(0,_),(1,_),(2,_)] (dV bs _ _ _ _ _ e5 (by assumption) hl (by omega) (by omega) (by omega)) rfl ?_|refine K1.C 3 [(0,_),(1,_),(2,_)] (gB bs _ _ _ _ _ e6 hl) rfl ?_|refine K1.C 3 [(0,_),(1,_),(2,_)] (wz bs _ _ _ _ e7 (by assumption) hl (by assumption)) rfl ?_|refine K1.C 3 [(0,_),(1,_),(2,_)] (gB bs _ _ _ _ _ e8 hl) rfl ?_|refine K1.C 3 [(0,_),(1,_),(2,_)] (gB bs _ _ _ _ _ e9 hl) rfl ?_|refine K1.C 3 [(0,_),(1,_),(2,_)] (wB bs _ _ _ _ e10 (by assumption) hl (by assumption)) rfl ?_|refine K1.P1 (lX _) rfl ?_|refine aN.rounds 6 ?_|refine K1.I 0x4000004301c7 Tryz.func144 ?_|refine K1.o (id:=6) [(0,none),(1,none),(2,some []),(3,some []),(4,some [1])] [(2,[]),(3,[]),(4,[1])] ?_|refine K1.o (id:=7) [(0,none),(1,none),(2,some [0]),(3,some [0,1]),(4,some [0,1])] [(2,[0]),(3,[0,1]),(4,[0,1])] ?_|refine K1.z ?_|refine K1.y (fun _=>?_) (fun _=>?_)|fail)
   all_goals refine aJ.dR ?_
   all_goals(conv=>whnf)
   all_goals refine bG.mk (aT.of ?_)
   all_goals first|exact lI (hL ‹_›) ‹_› |exact lJ (hL ‹_›) ‹_› |exact lI (hS ‹_›) ‹_› |exact lJ (hS ‹_›) ‹_›
 · obtain⟨⟨c0,t1⟩,f0⟩: ∃p,eY bs 0 1048576 s3=p:=⟨_,rfl⟩
   obtain⟨p0,_⟩:=fV f0 q3 (by omega) (by omega)
   obtain⟨⟨c2,t3⟩,f2⟩: ∃p,eY bs 0 1048576 t1=p:=⟨_,rfl⟩
   obtain⟨p2,_⟩:=fV f2 p0 (by omega) (by omega)
   obtain⟨⟨c3,t4⟩,f3⟩: ∃p,eY bs 0 1048576 t3=p:=⟨_,rfl⟩
   obtain⟨p3,_⟩:=fV f3 p2 (by omega) (by omega)
   obtain⟨⟨c4,t5⟩,f4⟩: ∃p,eY bs 0 1048576 t4=p:=⟨_,rfl⟩
   obtain⟨p4,_⟩:=fV f4 p3 (by omega) (by omega)
   obtain⟨⟨H,s5⟩,e5⟩: ∃p,eY bs 1 16777216 t5=p:=⟨_,rfl⟩
   obtain⟨q5,g5⟩:=fV e5 p4 (by omega) (by omega)
   obtain⟨⟨ks,s6⟩,e6⟩: ∃p,fJ bs 1 8 s5=p:=⟨_,rfl⟩
   obtain⟨q6,g6⟩:=jr e6 q5
   obtain⟨⟨key,s7⟩,e7⟩: ∃p,fU bs ks keyE s6=p:=⟨_,rfl⟩
   have q7:=wF e7 q6
   obtain⟨⟨l,s8⟩,e8⟩: ∃p,fJ bs 0 1 s7=p:=⟨_,rfl⟩
   obtain⟨q8,g8⟩:=jr e8 q7
   obtain⟨⟨vs,s9⟩,e9⟩: ∃p,fJ bs 1 12 s8=p:=⟨_,rfl⟩
   obtain⟨q9,g9⟩:=jr e9 q8
   obtain⟨⟨v,s10⟩,e10⟩: ∃p,fU bs vs fA s9=p:=⟨_,rfl⟩
   have hF:dI bs (0,0)=if dM k then(⟨1,N,⟨c0,N-1,c2,c3,c4⟩,H,k,key,l,v⟩,s10)else(⟨1,N,⟨c0,N-1,c2,c3,c4⟩,H,k,key,0,⟨#[]⟩⟩,s7):=by
    simp[dI,iU,ku,kK,bn.rO,bn.put,e1,e2,e3,f0,f2,f3,f4,e5,e6,e7,e8,e9,e10]
   have hL:dM k=true→dI bs (0,0)=(⟨1,N,⟨c0,N-1,c2,c3,c4⟩,H,k,key,l,v⟩,s10):=fun h=>hF.trans (if_pos h)
   have hS:dM k=false→dI bs (0,0)=(⟨1,N,⟨c0,N-1,c2,c3,c4⟩,H,k,key,0,⟨#[]⟩⟩,s7):=fun h=>hF.trans (if_neg (by rw[h];exact Bool.false_ne_true))
   clear hF
   refine K1.E 0x100ff Tryz.func114 ?_
   repeat' ((conv=>whnf);first|refine K1.w ?_|refine K1.u ?_|refine K1.C 3 [(0,_),(1,_),(2,_)] (gB bs _ _ _ _ _ e1 hl) rfl ?_|refine K1.C 3 [(0,_),(1,_),(2,_)] (gB bs _ _ _ _ _ e2 hl) rfl ?_|refine K1.C 3 [(0,_),(1,_),(2,_)] (dV bs _ _ _ _ _ e3 (by assumption) hl (by omega) (by omega) (by omega)) rfl ?_|refine K1.C 3 [(0,_),(1,_),(2,_)] (dV bs _ _ _ _ _ f0 (by assumption) hl (by omega) (by omega) (by omega)) rfl ?_|refine K1.C 3 [(0,_),(1,_),(2,_)] (dV bs _ _ _ _ _ f2 (by assumption) hl (by omega) (by omega) (by omega)) rfl ?_|refine K1.C 3 [(0,_),(1,_),(2,_)] (dV bs _ _ _ _ _ f3 (by assumption) hl (by omega) (by omega) (by omega)) rfl ?_|refine K1.C 3 [(0,_),(1,_),(2,_)] (dV bs _ _ _ _ _ f4 (by assumption) hl (by omega) (by omega) (by omega)) rfl ?_|refine K1.C 3 [(0,_),(1,_),(2,_)] (dV bs _ _ _ _ _ e5 (by assumption) hl (by omega) (by omega) (by omega)) rfl ?_|refine K1.C 3 [(0,_),(1,_),(2,_)] (gB bs _ _ _ _ _ e6 hl) rfl ?_|refine K1.C 3 [(0,_),(1,_),(2,_)] (wz bs _ _ _ _ e7 (by assumption) hl (by assumption)) rfl ?_|refine K1.C 3 [(0,_),(1,_),(2,_)] (gB bs _ _ _ _ _ e8 hl) rfl ?_|refine K1.C 3 [(0,_),(1,_),(2,_)] (gB bs _ _ _ _ _ e9 hl) rfl ?_|refine K1.C 3 [(0,_),(1,_),(2,_)] (wB bs _ _ _ _ e10 (by assumption) hl (by assumption)) rfl ?_|refine K1.P1 (lX _) rfl ?_|refine aN.rounds 6 ?_|refine K1.I 0x4000004301c7 Tryz.func144 ?_|refine K1.o (id:=6) [(0,none),(1,none),(2,some []),(3,some []),(4,some [1])] [(2,[]),(3,[]),(4,[1])] ?_|refine K1.o (id:=7) [(0,none),(1,none),(2,some [0]),(3,some [0,1]),(4,some [0,1])] [(2,[0]),(3,[0,1]),(4,[0,1])] ?_|refine K1.z ?_|refine K1.y (fun _=>?_) (fun _=>?_)|fail)
   all_goals refine aJ.dR ?_
   all_goals(conv=>whnf)
   all_goals refine bG.mk (aT.of ?_)
   all_goals first|exact lI (hL ‹_›) ‹_› |exact lJ (hL ‹_›) ‹_› |exact lI (hS ‹_›) ‹_› |exact lJ (hS ‹_›) ‹_›
 · obtain⟨⟨c0,t1⟩,f0⟩: ∃p,eY bs 0 1048576 s3=p:=⟨_,rfl⟩
   obtain⟨p0,_⟩:=fV f0 q3 (by omega) (by omega)
   obtain⟨⟨c1,t2⟩,f1⟩: ∃p,eY bs 0 1048576 t1=p:=⟨_,rfl⟩
   obtain⟨p1,_⟩:=fV f1 p0 (by omega) (by omega)
   obtain⟨⟨c3,t4⟩,f3⟩: ∃p,eY bs 0 1048576 t2=p:=⟨_,rfl⟩
   obtain⟨p3,_⟩:=fV f3 p1 (by omega) (by omega)
   obtain⟨⟨c4,t5⟩,f4⟩: ∃p,eY bs 0 1048576 t4=p:=⟨_,rfl⟩
   obtain⟨p4,_⟩:=fV f4 p3 (by omega) (by omega)
   obtain⟨⟨H,s5⟩,e5⟩: ∃p,eY bs 1 16777216 t5=p:=⟨_,rfl⟩
   obtain⟨q5,g5⟩:=fV e5 p4 (by omega) (by omega)
   obtain⟨⟨ks,s6⟩,e6⟩: ∃p,fJ bs 1 8 s5=p:=⟨_,rfl⟩
   obtain⟨q6,g6⟩:=jr e6 q5
   obtain⟨⟨key,s7⟩,e7⟩: ∃p,fU bs ks keyE s6=p:=⟨_,rfl⟩
   have q7:=wF e7 q6
   obtain⟨⟨l,s8⟩,e8⟩: ∃p,fJ bs 0 1 s7=p:=⟨_,rfl⟩
   obtain⟨q8,g8⟩:=jr e8 q7
   obtain⟨⟨vs,s9⟩,e9⟩: ∃p,fJ bs 1 12 s8=p:=⟨_,rfl⟩
   obtain⟨q9,g9⟩:=jr e9 q8
   obtain⟨⟨v,s10⟩,e10⟩: ∃p,fU bs vs fA s9=p:=⟨_,rfl⟩
   have hF:dI bs (0,0)=if dM k then(⟨2,N,⟨c0,c1,N-1,c3,c4⟩,H,k,key,l,v⟩,s10)else(⟨2,N,⟨c0,c1,N-1,c3,c4⟩,H,k,key,0,⟨#[]⟩⟩,s7):=by
    simp[dI,iU,ku,kK,bn.rO,bn.put,e1,e2,e3,f0,f1,f3,f4,e5,e6,e7,e8,e9,e10]
   have hL:dM k=true→dI bs (0,0)=(⟨2,N,⟨c0,c1,N-1,c3,c4⟩,H,k,key,l,v⟩,s10):=fun h=>hF.trans (if_pos h)
   have hS:dM k=false→dI bs (0,0)=(⟨2,N,⟨c0,c1,N-1,c3,c4⟩,H,k,key,0,⟨#[]⟩⟩,s7):=fun h=>hF.trans (if_neg (by rw[h];exact Bool.false_ne_true))
   clear hF
   refine K1.E 0x100ff Tryz.func114 ?_
   repeat' ((conv=>whnf);first|refine K1.w ?_|refine K1.u ?_|refine K1.C 3 [(0,_),(1,_),(2,_)] (gB bs _ _ _ _ _ e1 hl) rfl ?_|refine K1.C 3 [(0,_),(1,_),(2,_)] (gB bs _ _ _ _ _ e2 hl) rfl ?_|refine K1.C 3 [(0,_),(1,_),(2,_)] (dV bs _ _ _ _ _ e3 (by assumption) hl (by omega) (by omega) (by omega)) rfl ?_|refine K1.C 3 [(0,_),(1,_),(2,_)] (dV bs _ _ _ _ _ f0 (by assumption) hl (by omega) (by omega) (by omega)) rfl ?_|refine K1.C 3 [(0,_),(1,_),(2,_)] (dV bs _ _ _ _ _ f1 (by assumption) hl (by omega) (by omega) (by omega)) rfl ?_|refine K1.C 3 [(0,_),(1,_),(2,_)] (dV bs _ _ _ _ _ f3 (by assumption) hl (by omega) (by omega) (by omega)) rfl ?_|refine K1.C 3 [(0,_),(1,_),(2,_)] (dV bs _ _ _ _ _ f4 (by assumption) hl (by omega) (by omega) (by omega)) rfl ?_|refine K1.C 3 [(0,_),(1,_),(2,_)] (dV bs _ _ _ _ _ e5 (by assumption) hl (by omega) (by omega) (by omega)) rfl ?_|refine K1.C 3 [(0,_),(1,_),(2,_)] (gB bs _ _ _ _ _ e6 hl) rfl ?_|refine K1.C 3 [(0,_),(1,_),(2,_)] (wz bs _ _ _ _ e7 (by assumption) hl (by assumption)) rfl ?_|refine K1.C 3 [(0,_),(1,_),(2,_)] (gB bs _ _ _ _ _ e8 hl) rfl ?_|refine K1.C 3 [(0,_),(1,_),(2,_)] (gB bs _ _ _ _ _ e9 hl) rfl ?_|refine K1.C 3 [(0,_),(1,_),(2,_)] (wB bs _ _ _ _ e10 (by assumption) hl (by assumption)) rfl ?_|refine K1.P1 (lX _) rfl ?_|refine aN.rounds 6 ?_|refine K1.I 0x4000004301c7 Tryz.func144 ?_|refine K1.o (id:=6) [(0,none),(1,none),(2,some []),(3,some []),(4,some [1])] [(2,[]),(3,[]),(4,[1])] ?_|refine K1.o (id:=7) [(0,none),(1,none),(2,some [0]),(3,some [0,1]),(4,some [0,1])] [(2,[0]),(3,[0,1]),(4,[0,1])] ?_|refine K1.z ?_|refine K1.y (fun _=>?_) (fun _=>?_)|fail)
   all_goals refine aJ.dR ?_
   all_goals(conv=>whnf)
   all_goals refine bG.mk (aT.of ?_)
   all_goals first|exact lI (hL ‹_›) ‹_› |exact lJ (hL ‹_›) ‹_› |exact lI (hS ‹_›) ‹_› |exact lJ (hS ‹_›) ‹_›
 · obtain⟨⟨c0,t1⟩,f0⟩: ∃p,eY bs 0 1048576 s3=p:=⟨_,rfl⟩
   obtain⟨p0,_⟩:=fV f0 q3 (by omega) (by omega)
   obtain⟨⟨c1,t2⟩,f1⟩: ∃p,eY bs 0 1048576 t1=p:=⟨_,rfl⟩
   obtain⟨p1,_⟩:=fV f1 p0 (by omega) (by omega)
   obtain⟨⟨c2,t3⟩,f2⟩: ∃p,eY bs 0 1048576 t2=p:=⟨_,rfl⟩
   obtain⟨p2,_⟩:=fV f2 p1 (by omega) (by omega)
   obtain⟨⟨c4,t5⟩,f4⟩: ∃p,eY bs 0 1048576 t3=p:=⟨_,rfl⟩
   obtain⟨p4,_⟩:=fV f4 p2 (by omega) (by omega)
   obtain⟨⟨H,s5⟩,e5⟩: ∃p,eY bs 1 16777216 t5=p:=⟨_,rfl⟩
   obtain⟨q5,g5⟩:=fV e5 p4 (by omega) (by omega)
   obtain⟨⟨ks,s6⟩,e6⟩: ∃p,fJ bs 1 8 s5=p:=⟨_,rfl⟩
   obtain⟨q6,g6⟩:=jr e6 q5
   obtain⟨⟨key,s7⟩,e7⟩: ∃p,fU bs ks keyE s6=p:=⟨_,rfl⟩
   have q7:=wF e7 q6
   obtain⟨⟨l,s8⟩,e8⟩: ∃p,fJ bs 0 1 s7=p:=⟨_,rfl⟩
   obtain⟨q8,g8⟩:=jr e8 q7
   obtain⟨⟨vs,s9⟩,e9⟩: ∃p,fJ bs 1 12 s8=p:=⟨_,rfl⟩
   obtain⟨q9,g9⟩:=jr e9 q8
   obtain⟨⟨v,s10⟩,e10⟩: ∃p,fU bs vs fA s9=p:=⟨_,rfl⟩
   have hF:dI bs (0,0)=if dM k then(⟨3,N,⟨c0,c1,c2,N-1,c4⟩,H,k,key,l,v⟩,s10)else(⟨3,N,⟨c0,c1,c2,N-1,c4⟩,H,k,key,0,⟨#[]⟩⟩,s7):=by
    simp[dI,iU,ku,kK,bn.rO,bn.put,e1,e2,e3,f0,f1,f2,f4,e5,e6,e7,e8,e9,e10]
   have hL:dM k=true→dI bs (0,0)=(⟨3,N,⟨c0,c1,c2,N-1,c4⟩,H,k,key,l,v⟩,s10):=fun h=>hF.trans (if_pos h)
   have hS:dM k=false→dI bs (0,0)=(⟨3,N,⟨c0,c1,c2,N-1,c4⟩,H,k,key,0,⟨#[]⟩⟩,s7):=fun h=>hF.trans (if_neg (by rw[h];exact Bool.false_ne_true))
   clear hF
   refine K1.E 0x100ff Tryz.func114 ?_
   repeat' ((conv=>whnf);first|refine K1.w ?_|refine K1.u ?_|refine K1.C 3 [(0,_),(1,_),(2,_)] (gB bs _ _ _ _ _ e1 hl) rfl ?_|refine K1.C 3 [(0,_),(1,_),(2,_)] (gB bs _ _ _ _ _ e2 hl) rfl ?_|refine K1.C 3 [(0,_),(1,_),(2,_)] (dV bs _ _ _ _ _ e3 (by assumption) hl (by omega) (by omega) (by omega)) rfl ?_|refine K1.C 3 [(0,_),(1,_),(2,_)] (dV bs _ _ _ _ _ f0 (by assumption) hl (by omega) (by omega) (by omega)) rfl ?_|refine K1.C 3 [(0,_),(1,_),(2,_)] (dV bs _ _ _ _ _ f1 (by assumption) hl (by omega) (by omega) (by omega)) rfl ?_|refine K1.C 3 [(0,_),(1,_),(2,_)] (dV bs _ _ _ _ _ f2 (by assumption) hl (by omega) (by omega) (by omega)) rfl ?_|refine K1.C 3 [(0,_),(1,_),(2,_)] (dV bs _ _ _ _ _ f4 (by assumption) hl (by omega) (by omega) (by omega)) rfl ?_|refine K1.C 3 [(0,_),(1,_),(2,_)] (dV bs _ _ _ _ _ e5 (by assumption) hl (by omega) (by omega) (by omega)) rfl ?_|refine K1.C 3 [(0,_),(1,_),(2,_)] (gB bs _ _ _ _ _ e6 hl) rfl ?_|refine K1.C 3 [(0,_),(1,_),(2,_)] (wz bs _ _ _ _ e7 (by assumption) hl (by assumption)) rfl ?_|refine K1.C 3 [(0,_),(1,_),(2,_)] (gB bs _ _ _ _ _ e8 hl) rfl ?_|refine K1.C 3 [(0,_),(1,_),(2,_)] (gB bs _ _ _ _ _ e9 hl) rfl ?_|refine K1.C 3 [(0,_),(1,_),(2,_)] (wB bs _ _ _ _ e10 (by assumption) hl (by assumption)) rfl ?_|refine K1.P1 (lX _) rfl ?_|refine aN.rounds 6 ?_|refine K1.I 0x4000004301c7 Tryz.func144 ?_|refine K1.o (id:=6) [(0,none),(1,none),(2,some []),(3,some []),(4,some [1])] [(2,[]),(3,[]),(4,[1])] ?_|refine K1.o (id:=7) [(0,none),(1,none),(2,some [0]),(3,some [0,1]),(4,some [0,1])] [(2,[0]),(3,[0,1]),(4,[0,1])] ?_|refine K1.z ?_|refine K1.y (fun _=>?_) (fun _=>?_)|fail)
   all_goals refine aJ.dR ?_
   all_goals(conv=>whnf)
   all_goals refine bG.mk (aT.of ?_)
   all_goals first|exact lI (hL ‹_›) ‹_› |exact lJ (hL ‹_›) ‹_› |exact lI (hS ‹_›) ‹_› |exact lJ (hS ‹_›) ‹_›
 · obtain⟨⟨c0,t1⟩,f0⟩: ∃p,eY bs 0 1048576 s3=p:=⟨_,rfl⟩
   obtain⟨p0,_⟩:=fV f0 q3 (by omega) (by omega)
   obtain⟨⟨c1,t2⟩,f1⟩: ∃p,eY bs 0 1048576 t1=p:=⟨_,rfl⟩
   obtain⟨p1,_⟩:=fV f1 p0 (by omega) (by omega)
   obtain⟨⟨c2,t3⟩,f2⟩: ∃p,eY bs 0 1048576 t2=p:=⟨_,rfl⟩
   obtain⟨p2,_⟩:=fV f2 p1 (by omega) (by omega)
   obtain⟨⟨c3,t4⟩,f3⟩: ∃p,eY bs 0 1048576 t3=p:=⟨_,rfl⟩
   obtain⟨p3,_⟩:=fV f3 p2 (by omega) (by omega)
   obtain⟨⟨H,s5⟩,e5⟩: ∃p,eY bs 1 16777216 t4=p:=⟨_,rfl⟩
   obtain⟨q5,g5⟩:=fV e5 p3 (by omega) (by omega)
   obtain⟨⟨ks,s6⟩,e6⟩: ∃p,fJ bs 1 8 s5=p:=⟨_,rfl⟩
   obtain⟨q6,g6⟩:=jr e6 q5
   obtain⟨⟨key,s7⟩,e7⟩: ∃p,fU bs ks keyE s6=p:=⟨_,rfl⟩
   have q7:=wF e7 q6
   obtain⟨⟨l,s8⟩,e8⟩: ∃p,fJ bs 0 1 s7=p:=⟨_,rfl⟩
   obtain⟨q8,g8⟩:=jr e8 q7
   obtain⟨⟨vs,s9⟩,e9⟩: ∃p,fJ bs 1 12 s8=p:=⟨_,rfl⟩
   obtain⟨q9,g9⟩:=jr e9 q8
   obtain⟨⟨v,s10⟩,e10⟩: ∃p,fU bs vs fA s9=p:=⟨_,rfl⟩
   have hF:dI bs (0,0)=if dM k then(⟨4,N,⟨c0,c1,c2,c3,N-1⟩,H,k,key,l,v⟩,s10)else(⟨4,N,⟨c0,c1,c2,c3,N-1⟩,H,k,key,0,⟨#[]⟩⟩,s7):=by
    simp[dI,iU,ku,kK,bn.rO,bn.put,e1,e2,e3,f0,f1,f2,f3,e5,e6,e7,e8,e9,e10]
   have hL:dM k=true→dI bs (0,0)=(⟨4,N,⟨c0,c1,c2,c3,N-1⟩,H,k,key,l,v⟩,s10):=fun h=>hF.trans (if_pos h)
   have hS:dM k=false→dI bs (0,0)=(⟨4,N,⟨c0,c1,c2,c3,N-1⟩,H,k,key,0,⟨#[]⟩⟩,s7):=fun h=>hF.trans (if_neg (by rw[h];exact Bool.false_ne_true))
   clear hF
   refine K1.E 0x100ff Tryz.func114 ?_
   repeat' ((conv=>whnf);first|refine K1.w ?_|refine K1.u ?_|refine K1.C 3 [(0,_),(1,_),(2,_)] (gB bs _ _ _ _ _ e1 hl) rfl ?_|refine K1.C 3 [(0,_),(1,_),(2,_)] (gB bs _ _ _ _ _ e2 hl) rfl ?_|refine K1.C 3 [(0,_),(1,_),(2,_)] (dV bs _ _ _ _ _ e3 (by assumption) hl (by omega) (by omega) (by omega)) rfl ?_|refine K1.C 3 [(0,_),(1,_),(2,_)] (dV bs _ _ _ _ _ f0 (by assumption) hl (by omega) (by omega) (by omega)) rfl ?_|refine K1.C 3 [(0,_),(1,_),(2,_)] (dV bs _ _ _ _ _ f1 (by assumption) hl (by omega) (by omega) (by omega)) rfl ?_|refine K1.C 3 [(0,_),(1,_),(2,_)] (dV bs _ _ _ _ _ f2 (by assumption) hl (by omega) (by omega) (by omega)) rfl ?_|refine K1.C 3 [(0,_),(1,_),(2,_)] (dV bs _ _ _ _ _ f3 (by assumption) hl (by omega) (by omega) (by omega)) rfl ?_|refine K1.C 3 [(0,_),(1,_),(2,_)] (dV bs _ _ _ _ _ e5 (by assumption) hl (by omega) (by omega) (by omega)) rfl ?_|refine K1.C 3 [(0,_),(1,_),(2,_)] (gB bs _ _ _ _ _ e6 hl) rfl ?_|refine K1.C 3 [(0,_),(1,_),(2,_)] (wz bs _ _ _ _ e7 (by assumption) hl (by assumption)) rfl ?_|refine K1.C 3 [(0,_),(1,_),(2,_)] (gB bs _ _ _ _ _ e8 hl) rfl ?_|refine K1.C 3 [(0,_),(1,_),(2,_)] (gB bs _ _ _ _ _ e9 hl) rfl ?_|refine K1.C 3 [(0,_),(1,_),(2,_)] (wB bs _ _ _ _ e10 (by assumption) hl (by assumption)) rfl ?_|refine K1.P1 (lX _) rfl ?_|refine aN.rounds 6 ?_|refine K1.I 0x4000004301c7 Tryz.func144 ?_|refine K1.o (id:=6) [(0,none),(1,none),(2,some []),(3,some []),(4,some [1])] [(2,[]),(3,[]),(4,[1])] ?_|refine K1.o (id:=7) [(0,none),(1,none),(2,some [0]),(3,some [0,1]),(4,some [0,1])] [(2,[0]),(3,[0,1]),(4,[0,1])] ?_|refine K1.z ?_|refine K1.y (fun _=>?_) (fun _=>?_)|fail)
   all_goals refine aJ.dR ?_
   all_goals(conv=>whnf)
   all_goals refine bG.mk (aT.of ?_)
   all_goals first|exact lI (hL ‹_›) ‹_› |exact lJ (hL ‹_›) ‹_› |exact lI (hS ‹_›) ‹_› |exact lJ (hS ‹_›) ‹_›
end
theorem Ou {n:Nat} (h:n<256):(UInt8.ofNat n).toNat=n:=by
 rw[UInt8.toNat_ofNat',Nat.mod_eq_of_lt (by omega)]
theorem abL {a b:UInt8} (h:a.toNat=b.toNat):a=b:=UInt8.toNat_inj.1 h
theorem Gg (t:List UInt8): ∀ (f i n acc:Nat),i+f=9→n*128^i≤4294967296→(0<i→n≠0)→n<128^(f+1)→
  gZ ((gJ f n++t).take (10-i)) i acc=(acc+n*128^i,i+(gJ f n).length,0)
  | 0,i,n,acc,hi,hn,h0,_=>by
    have:i=9:=by omega
    subst this
    exfalso
    have:n=0∨1≤n:=by omega
    rcases this with h|h
    · exact h0 (by omega) h
    · have h2:128^9=9223372036854775808:=by decide
      rw[h2]at hn
      omega
  | f + 1,i,n,acc,hi,hn,h0,hlt=>by
    have h10:10-i=(10-(i+1))+1:=by omega
    by_cases h:n<128
    · simp only[gJ,if_pos h,List.cons_append,List.nil_append,h10,List.take_succ_cons,gZ,Ou (show n<256 by omega)]
      rw[if_neg (by omega),if_neg]
      · simp
      · rintro(⟨h1,h2⟩|⟨h1,h2⟩)
        · exact h0 h1 h2
        · omega
    · have hq:n%128+128<256:=by omega
      have e:n/128*128^(i+1)+n%128*128^i=n*128^i:=by
       rw[Nat.pow_succ,Nat.mul_comm (128^i) 128,←Nat.mul_assoc,←Nat.add_mul]
       congr 1
       omega
      have ih:=Gg t f (i+1) (n/128) (acc+(n%128)*128^i) (by omega) (by omega) (fun _=>by omega) (by
       rw[Nat.pow_succ]at hlt
       exact Nat.div_lt_of_lt_mul (by omega))
      simp only[gJ,if_neg h,List.cons_append,h10,List.take_succ_cons,gZ,Ou hq]
      rw[if_pos (by omega),show n%128+128-128=n%128 by omega,ih]
      simp only[List.length_cons,Prod.mk.injEq,and_true]
      exact⟨by omega,by omega⟩
theorem sW (n:Nat) (t:List UInt8) (h:n≤4294967296):dG (aA n++t)=(n,(aA n).length,0):=by
 have:=Gg t 9 0 n 0 rfl (by simpa using h) (fun h=>absurd h (by omega)) (by
  have:128^(9+1)=1180591620717411303424:=by decide
  omega)
 simpa[dG,aA]using this
theorem Jp: ∀ (l:List UInt8) (i acc m k:Nat),i+l.length≤10→gZ l i acc=(m,k,0)→ ∃n,m=acc+n*128^i∧k=i+(gJ (9-i) n).length∧k≤i+l.length∧l.take (k-i)=gJ (9-i) n∧(0<i→n≠0)
  | [],i,acc,m,k,hl,h=>by
    simp only[gZ]at h
    split at h<;>cases h
  | c :: r,i,acc,m,k,hl,h=>by
    simp only[gZ]at h
    simp only[List.length_cons]at hl
    have hc:=UInt8.toNat_lt c
    by_cases h1:128≤c.toNat
    · rw [if_pos h1]at h
      obtain⟨n,e1,e2,e3,e4,e5⟩:=Jp r (i+1) _ m k (by omega) h
      have hn:=e5 (by omega)
      have h9:9-i=(9-(i+1))+1:=by
       have:1≤r.length:=by
        cases r with
        | nil=>
          simp only[gZ]at h
          split at h<;>cases h
        |cons=>simp
       omega
      refine⟨n*128+(c.toNat-128), ?_, ?_,by simp only[List.length_cons];omega, ?_,fun _=>by omega⟩
      · rw[e1,Nat.pow_succ,Nat.add_mul]
        have:n*(128^i*128)=n*128*128^i:=by rw[Nat.mul_comm (128^i) 128,Nat.mul_assoc]
        omega
      · rw[h9,gJ,if_neg (by omega),List.length_cons,show(n*128+(c.toNat-128))/128=n by omega]
        omega
      · have hk:k-i=(k-(i+1))+1:=by
         have:=xM (9-(i+1)) n
         omega
        rw[hk,List.take_succ_cons,e4,h9,gJ,if_neg (by omega),show(n*128+(c.toNat-128))/128=n by omega]
        have hcc:UInt8.ofNat ((n*128+(c.toNat-128))%128+128)=c:=abL (by rw[Ou (by omega)];omega)
        rw[hcc]
    · rw [if_neg h1]at h
      split at h
      · cases h
      · rename_i h2
        simp only[Prod.mk.injEq,and_true]at h
        obtain⟨h3,h4⟩:=h
        refine⟨c.toNat,h3.symm, ?_,by simp only[List.length_cons];omega, ?_,fun hi e=>h2 (.inl ⟨hi,e⟩)⟩
        all_goals subst h4
        · cases h9:9-i with
          |zero=>simp[gJ]
          |succ f=>simp[gJ,show c.toNat<128 by omega]
        · rw[show i+1-i=0+1 by omega,List.take_succ_cons,List.take_zero]
          have:UInt8.ofNat c.toNat=c:=by simp
          cases h9:9-i with
          |zero=>simp[gJ,this]
          |succ f=>simp[gJ,show c.toNat<128 by omega,this]
theorem YB {l:List UInt8} {m k:Nat} (h:dG l=(m,k,0)):k=(aA m).length∧k≤l.length∧l.take k=aA m:=by
 obtain⟨n,e1,e2,e3,e4,_⟩:=Jp (l.take 10) 0 0 m k (by rw[List.length_take];omega) h
 simp only[Nat.pow_zero,Nat.mul_one,Nat.zero_add,Nat.sub_zero]at e1 e2 e3 e4
 subst e1
 rw[List.length_take]at e3
 refine⟨e2,by omega, ?_⟩
 rw[List.take_take,Nat.min_eq_left (by omega)]at e4
 exact e4
theorem Gh: ∀ (l:List UInt8) (i acc:Nat),(gZ l i acc).2.2=0∨(gZ l i acc).2.2=2∨(gZ l i acc).2.2=3
  |[],i,acc=>by simp only[gZ];split<;>simp
  | c::r,i,acc=>by
    simp only[gZ]
    split
    · exact Gh r _ _
    · split<;>simp
theorem Gi: ∀ (f i n acc j:Nat),i+f≤9→j<(gJ f n).length→gZ ((gJ f n).take j) i acc=(0,0,2)
  |f,i,n,acc,0,hi,_=>by simp[gZ];omega
  |0,i,n,acc,j+1,hi,hj=>by simp[gJ]at hj
  | f +1,i,n,acc,j+1,hi,hj=>by
    by_cases h:n<128
    · simp[gJ,h]at hj
    · have hq:n%128+128<256:=by omega
      simp only[gJ,if_neg h,List.length_cons]at hj
      simp only[gJ,if_neg h,List.take_succ_cons,gZ,Ou hq]
      rw[if_pos (by omega)]
      exact Gi f (i+1) (n/128) _ j (by omega) (by omega)
theorem U9 {n j:Nat} (hj:j<(aA n).length):dG ((aA n).take j)=(0,0,2):=by
 have:=bU 9 n
 unfold dG
 rw[List.take_take,Nat.min_eq_right (by unfold aA at hj;omega)]
 exact Gi 9 0 n 0 j (by omega) hj
theorem drop_cons {bs t:List UInt8} {u:Nat} {b:UInt8} (h:bs.drop u=b::t):u<bs.length∧bs.getD u 0=b∧bs.drop (u+1)=t:=by
 have hlt:u<bs.length:=by
  rcases Nat.lt_or_ge u bs.length with h'|h'
  · exact h'
  · rw[List.drop_of_length_le h']at h;cases h
 refine⟨hlt, ?_, ?_⟩
 · rw[List.drop_eq_getElem_cons hlt]at h
   rw[List.getD_eq_getElem?_getD,List.getElem?_eq_getElem hlt]
   exact(List.cons.inj h).1
 · rw[List.drop_eq_getElem_cons hlt]at h
   exact(List.cons.inj h).2
theorem Ov {bs l t:List UInt8} {u:Nat} (h:bs.drop u=l++t):bs.drop (u+l.length)=t:=by
 rw[←List.drop_drop,h,List.drop_left]
theorem bW {bs t:List UInt8} {u:Nat} {b:UInt8} {lo hi:Int} (h:bs.drop u=b::t) (h1:lo≤(b.toNat:Int)) (h2:(b.toNat:Int)≤hi):fJ bs lo hi (u,0)=((b.toNat:Int),(u+1,0))∧bs.drop (u+1)=t:=by
 obtain⟨h3,h4,h5⟩:=drop_cons h
 refine⟨?_,h5⟩
 unfold fJ
 rw[if_neg (by simp),if_neg (by simpa using h3),h4,if_pos ⟨h1,h2⟩]
theorem aX {bs t:List UInt8} {u n:Nat} {lo hi:Int} (h:bs.drop u=aA n++t) (hn:n≤4294967296) (h1:lo≤(n:Int)) (h2:(n:Int)≤hi):eY bs lo hi (u,0)=((n:Int),(u+(aA n).length,0))∧bs.drop (u+(aA n).length)=t:=by
 refine⟨?_,Ov h⟩
 unfold eY
 simp only[h,sW n t hn]
 rw[if_neg (by simp),if_neg (by simp),if_pos ⟨h1,h2⟩]
theorem iC {bs t:List UInt8} {u:Nat} {s:ByteArray} {may:ByteArray→Int} (h:bs.drop u=s.data.toList++t) (h0:1≤s.size) (h1:may s=0):fU bs (s.size:Int) may (u,0)=(s,(u+s.size,0))∧bs.drop (u+s.size)=t:=by
 have hs:s.data.toList.length=s.size:=rfl
 have hc:H8 bs u s.size=s:=by
  unfold H8
  rw[h,←hs,List.take_left]
 have hl:s.size≤bs.length-u:=by
  have:=congrArg List.length h
  rw[List.length_drop,List.length_append]at this
  omega
 refine⟨?_,by have:=Ov h;rwa [hs]at this⟩
 unfold fU
 rw[if_neg (by simp),if_neg (by dsimp only;omega)]
 simp only[Int.toNat_natCast,hc,h1,if_true]
theorem fP {n:Int} (h0:0≤n) (h1:n≤255):((byteOf n).toNat:Int)=n:=by
 unfold byteOf
 rw[UInt8.toNat_ofNat',Nat.mod_eq_of_lt (by omega)]
 omega
theorem sZ {s:ByteArray} (h:s.size≤255):((UInt8.ofNat s.size).toNat:Int)=s.size:=by
 rw[UInt8.toNat_ofNat',Nat.mod_eq_of_lt (by omega)]
theorem dU (n:Nat):iM (n:Int)=aA n:=by simp[iM]
theorem size_nil {s:ByteArray} (h:s.size=0):s=⟨#[]⟩:=by
 cases s with
 | mk d=>
   have:d= #[]:=Array.eq_empty_of_size_eq_zero h
   rw[this]
theorem Va (e:Ev) (h:fB e=0) (rest:List UInt8):dI (aS e++rest) (0,0)=(e,((aS e).length,0)):=by
 have m:=xO h
 have g:=qy m.ed
 obtain⟨r,n,⟨c0,c1,c2,c3,c4⟩,hh,k,key,l,v⟩:=e
 obtain⟨r0,r4,n1,n2,h1,h2,a0,a1,a2,a3,a4,own,ed⟩:=m
 dsimp only[Ev.ed]at r0 r4 n1 n2 h1 h2 a0 a1 a2 a3 a4 g own
 obtain⟨g1,g2,g3,g4,g5,g6,g7⟩:=g
 clear ed h
 obtain⟨n,rfl⟩:=Int.eq_ofNat_of_zero_le (show 0≤n by omega)
 obtain⟨hh,rfl⟩:=Int.eq_ofNat_of_zero_le (show 0≤hh by omega)
 obtain⟨c0,rfl⟩:=Int.eq_ofNat_of_zero_le a0.1
 obtain⟨c1,rfl⟩:=Int.eq_ofNat_of_zero_le a1.1
 obtain⟨c2,rfl⟩:=Int.eq_ofNat_of_zero_le a2.1
 obtain⟨c3,rfl⟩:=Int.eq_ofNat_of_zero_le a3.1
 obtain⟨c4,rfl⟩:=Int.eq_ofNat_of_zero_le a4.1
 have hkey:keyE key=0:=by unfold keyE;rw[if_pos ⟨g3,g4,g5⟩]
 have bk:=fP (n:=k) (by omega) (by omega)
 have Ic:=sZ (s:=key) (by omega)
 rcases(show r=0∨r=1∨r=2∨r=3∨r=4 by omega)with rfl|rfl|rfl|rfl|rfl
 · simp only[bn.get]at own;simp at own
   have br:((byteOf 0).toNat:Int)=0:=fP (by omega) (by omega)
   cases hl:dM k with
   | true=>
     obtain⟨x1,x2,x3,x4⟩:=g6 hl
     have bl:=fP (n:=l) (by omega) (by omega)
     have bv:=sZ (s:=v) (by omega)
     have hval:fA v=0:=by unfold fA;rw[if_pos ⟨x3,x4⟩]
     generalize hbs:aS _++rest=bs
     generalize hlen:(aS _).length=len
     have d0:bs.drop 0=byteOf k::byteOf 0::(aA n++(aA c1++(aA c2++(aA c3++(aA c4++((aA hh++(UInt8.ofNat key.size::(key.data.toList++(byteOf l::UInt8.ofNat v.size::(v.data.toList++rest))))))))))):=by
      rw[←hbs];simp[aS,others,words,dU,hl]
     obtain⟨e1,d1⟩:=bW (lo:=1) (hi:=5) d0 (by omega) (by omega)
     obtain⟨e2,d2⟩:=bW (lo:=0) (hi:=4) d1 (by omega) (by omega)
     obtain⟨e3,d3⟩:=aX (lo:=1) (hi:=1048576) d2 (by omega) (by omega) (by omega)
     obtain⟨f1,d11⟩:=aX (lo:=0) (hi:=1048576) d3 (by omega) (by omega) (by omega)
     obtain⟨f2,d12⟩:=aX (lo:=0) (hi:=1048576) d11 (by omega) (by omega) (by omega)
     obtain⟨f3,d13⟩:=aX (lo:=0) (hi:=1048576) d12 (by omega) (by omega) (by omega)
     obtain⟨f4,QJ⟩:=aX (lo:=0) (hi:=1048576) d13 (by omega) (by omega) (by omega)
     obtain⟨e5,d5⟩:=aX (lo:=1) (hi:=16777216) QJ (by omega) (by omega) (by omega)
     obtain⟨e6,d6⟩:=bW (lo:=1) (hi:=8) d5 (by omega) (by omega)
     obtain⟨e7,d7⟩:=iC (may:=keyE) d6 g3 hkey
     obtain⟨e8,d8⟩:=bW (lo:=0) (hi:=1) d7 (by omega) (by omega)
     obtain⟨e9,d9⟩:=bW (lo:=1) (hi:=12) d8 (by omega) (by omega)
     obtain⟨e10,d10⟩:=iC (may:=fA) d9 x3 hval
     rw[bk]at e1;rw[br]at e2;rw[Ic]at e6;rw[bl]at e8;rw[bv]at e9
     simp[dI,iU,ku,kK,bn.rO,bn.put,e1,e2,e3,f1,f2,f3,f4,e5,e6,e7,e8,e9,e10,hl]
     refine⟨?_, ?_⟩
     · simp[own]
     · rw[←hlen];simp[aS,others,words,dU,hl];omega
   | false=>
     obtain⟨x1,x2⟩:=g7 hl
     have hv0:v=⟨#[]⟩:=size_nil x2
     generalize hbs:aS _++rest=bs
     generalize hlen:(aS _).length=len
     have d0:bs.drop 0=byteOf k::byteOf 0::(aA n++(aA c1++(aA c2++(aA c3++(aA c4++((aA hh++(UInt8.ofNat key.size::(key.data.toList++(rest)))))))))):=by
      rw[←hbs];simp[aS,others,words,dU,hl]
     obtain⟨e1,d1⟩:=bW (lo:=1) (hi:=5) d0 (by omega) (by omega)
     obtain⟨e2,d2⟩:=bW (lo:=0) (hi:=4) d1 (by omega) (by omega)
     obtain⟨e3,d3⟩:=aX (lo:=1) (hi:=1048576) d2 (by omega) (by omega) (by omega)
     obtain⟨f1,d11⟩:=aX (lo:=0) (hi:=1048576) d3 (by omega) (by omega) (by omega)
     obtain⟨f2,d12⟩:=aX (lo:=0) (hi:=1048576) d11 (by omega) (by omega) (by omega)
     obtain⟨f3,d13⟩:=aX (lo:=0) (hi:=1048576) d12 (by omega) (by omega) (by omega)
     obtain⟨f4,QJ⟩:=aX (lo:=0) (hi:=1048576) d13 (by omega) (by omega) (by omega)
     obtain⟨e5,d5⟩:=aX (lo:=1) (hi:=16777216) QJ (by omega) (by omega) (by omega)
     obtain⟨e6,d6⟩:=bW (lo:=1) (hi:=8) d5 (by omega) (by omega)
     obtain⟨e7,d7⟩:=iC (may:=keyE) d6 g3 hkey
     rw[bk]at e1;rw[br]at e2;rw[Ic]at e6
     simp[dI,iU,ku,kK,bn.rO,bn.put,e1,e2,e3,f1,f2,f3,f4,e5,e6,e7,hl]
     refine⟨?_, ?_⟩
     · simp[own,x1,hv0]
     · rw[←hlen];simp[aS,others,words,dU,hl];omega
 · simp only[bn.get]at own;simp at own
   have br:((byteOf 1).toNat:Int)=1:=fP (by omega) (by omega)
   cases hl:dM k with
   | true=>
     obtain⟨x1,x2,x3,x4⟩:=g6 hl
     have bl:=fP (n:=l) (by omega) (by omega)
     have bv:=sZ (s:=v) (by omega)
     have hval:fA v=0:=by unfold fA;rw[if_pos ⟨x3,x4⟩]
     generalize hbs:aS _++rest=bs
     generalize hlen:(aS _).length=len
     have d0:bs.drop 0=byteOf k::byteOf 1::(aA n++(aA c0++(aA c2++(aA c3++(aA c4++((aA hh++(UInt8.ofNat key.size::(key.data.toList++(byteOf l::UInt8.ofNat v.size::(v.data.toList++rest))))))))))):=by
      rw[←hbs];simp[aS,others,words,dU,hl]
     obtain⟨e1,d1⟩:=bW (lo:=1) (hi:=5) d0 (by omega) (by omega)
     obtain⟨e2,d2⟩:=bW (lo:=0) (hi:=4) d1 (by omega) (by omega)
     obtain⟨e3,d3⟩:=aX (lo:=1) (hi:=1048576) d2 (by omega) (by omega) (by omega)
     obtain⟨f0,d10⟩:=aX (lo:=0) (hi:=1048576) d3 (by omega) (by omega) (by omega)
     obtain⟨f2,d12⟩:=aX (lo:=0) (hi:=1048576) d10 (by omega) (by omega) (by omega)
     obtain⟨f3,d13⟩:=aX (lo:=0) (hi:=1048576) d12 (by omega) (by omega) (by omega)
     obtain⟨f4,QJ⟩:=aX (lo:=0) (hi:=1048576) d13 (by omega) (by omega) (by omega)
     obtain⟨e5,d5⟩:=aX (lo:=1) (hi:=16777216) QJ (by omega) (by omega) (by omega)
     obtain⟨e6,d6⟩:=bW (lo:=1) (hi:=8) d5 (by omega) (by omega)
     obtain⟨e7,d7⟩:=iC (may:=keyE) d6 g3 hkey
     obtain⟨e8,d8⟩:=bW (lo:=0) (hi:=1) d7 (by omega) (by omega)
     obtain⟨e9,d9⟩:=bW (lo:=1) (hi:=12) d8 (by omega) (by omega)
     obtain⟨e10,d10⟩:=iC (may:=fA) d9 x3 hval
     rw[bk]at e1;rw[br]at e2;rw[Ic]at e6;rw[bl]at e8;rw[bv]at e9
     simp[dI,iU,ku,kK,bn.rO,bn.put,e1,e2,e3,f0,f2,f3,f4,e5,e6,e7,e8,e9,e10,hl]
     refine⟨?_, ?_⟩
     · simp[own]
     · rw[←hlen];simp[aS,others,words,dU,hl];omega
   | false=>
     obtain⟨x1,x2⟩:=g7 hl
     have hv0:v=⟨#[]⟩:=size_nil x2
     generalize hbs:aS _++rest=bs
     generalize hlen:(aS _).length=len
     have d0:bs.drop 0=byteOf k::byteOf 1::(aA n++(aA c0++(aA c2++(aA c3++(aA c4++((aA hh++(UInt8.ofNat key.size::(key.data.toList++(rest)))))))))):=by
      rw[←hbs];simp[aS,others,words,dU,hl]
     obtain⟨e1,d1⟩:=bW (lo:=1) (hi:=5) d0 (by omega) (by omega)
     obtain⟨e2,d2⟩:=bW (lo:=0) (hi:=4) d1 (by omega) (by omega)
     obtain⟨e3,d3⟩:=aX (lo:=1) (hi:=1048576) d2 (by omega) (by omega) (by omega)
     obtain⟨f0,d10⟩:=aX (lo:=0) (hi:=1048576) d3 (by omega) (by omega) (by omega)
     obtain⟨f2,d12⟩:=aX (lo:=0) (hi:=1048576) d10 (by omega) (by omega) (by omega)
     obtain⟨f3,d13⟩:=aX (lo:=0) (hi:=1048576) d12 (by omega) (by omega) (by omega)
     obtain⟨f4,QJ⟩:=aX (lo:=0) (hi:=1048576) d13 (by omega) (by omega) (by omega)
     obtain⟨e5,d5⟩:=aX (lo:=1) (hi:=16777216) QJ (by omega) (by omega) (by omega)
     obtain⟨e6,d6⟩:=bW (lo:=1) (hi:=8) d5 (by omega) (by omega)
     obtain⟨e7,d7⟩:=iC (may:=keyE) d6 g3 hkey
     rw[bk]at e1;rw[br]at e2;rw[Ic]at e6
     simp[dI,iU,ku,kK,bn.rO,bn.put,e1,e2,e3,f0,f2,f3,f4,e5,e6,e7,hl]
     refine⟨?_, ?_⟩
     · simp[own,x1,hv0]
     · rw[←hlen];simp[aS,others,words,dU,hl];omega
 · simp only[bn.get]at own;simp at own
   have br:((byteOf 2).toNat:Int)=2:=fP (by omega) (by omega)
   cases hl:dM k with
   | true=>
     obtain⟨x1,x2,x3,x4⟩:=g6 hl
     have bl:=fP (n:=l) (by omega) (by omega)
     have bv:=sZ (s:=v) (by omega)
     have hval:fA v=0:=by unfold fA;rw[if_pos ⟨x3,x4⟩]
     generalize hbs:aS _++rest=bs
     generalize hlen:(aS _).length=len
     have d0:bs.drop 0=byteOf k::byteOf 2::(aA n++(aA c0++(aA c1++(aA c3++(aA c4++((aA hh++(UInt8.ofNat key.size::(key.data.toList++(byteOf l::UInt8.ofNat v.size::(v.data.toList++rest))))))))))):=by
      rw[←hbs];simp[aS,others,words,dU,hl]
     obtain⟨e1,d1⟩:=bW (lo:=1) (hi:=5) d0 (by omega) (by omega)
     obtain⟨e2,d2⟩:=bW (lo:=0) (hi:=4) d1 (by omega) (by omega)
     obtain⟨e3,d3⟩:=aX (lo:=1) (hi:=1048576) d2 (by omega) (by omega) (by omega)
     obtain⟨f0,d10⟩:=aX (lo:=0) (hi:=1048576) d3 (by omega) (by omega) (by omega)
     obtain⟨f1,d11⟩:=aX (lo:=0) (hi:=1048576) d10 (by omega) (by omega) (by omega)
     obtain⟨f3,d13⟩:=aX (lo:=0) (hi:=1048576) d11 (by omega) (by omega) (by omega)
     obtain⟨f4,QJ⟩:=aX (lo:=0) (hi:=1048576) d13 (by omega) (by omega) (by omega)
     obtain⟨e5,d5⟩:=aX (lo:=1) (hi:=16777216) QJ (by omega) (by omega) (by omega)
     obtain⟨e6,d6⟩:=bW (lo:=1) (hi:=8) d5 (by omega) (by omega)
     obtain⟨e7,d7⟩:=iC (may:=keyE) d6 g3 hkey
     obtain⟨e8,d8⟩:=bW (lo:=0) (hi:=1) d7 (by omega) (by omega)
     obtain⟨e9,d9⟩:=bW (lo:=1) (hi:=12) d8 (by omega) (by omega)
     obtain⟨e10,d10⟩:=iC (may:=fA) d9 x3 hval
     rw[bk]at e1;rw[br]at e2;rw[Ic]at e6;rw[bl]at e8;rw[bv]at e9
     simp[dI,iU,ku,kK,bn.rO,bn.put,e1,e2,e3,f0,f1,f3,f4,e5,e6,e7,e8,e9,e10,hl]
     refine⟨?_, ?_⟩
     · simp[own]
     · rw[←hlen];simp[aS,others,words,dU,hl];omega
   | false=>
     obtain⟨x1,x2⟩:=g7 hl
     have hv0:v=⟨#[]⟩:=size_nil x2
     generalize hbs:aS _++rest=bs
     generalize hlen:(aS _).length=len
     have d0:bs.drop 0=byteOf k::byteOf 2::(aA n++(aA c0++(aA c1++(aA c3++(aA c4++((aA hh++(UInt8.ofNat key.size::(key.data.toList++(rest)))))))))):=by
      rw[←hbs];simp[aS,others,words,dU,hl]
     obtain⟨e1,d1⟩:=bW (lo:=1) (hi:=5) d0 (by omega) (by omega)
     obtain⟨e2,d2⟩:=bW (lo:=0) (hi:=4) d1 (by omega) (by omega)
     obtain⟨e3,d3⟩:=aX (lo:=1) (hi:=1048576) d2 (by omega) (by omega) (by omega)
     obtain⟨f0,d10⟩:=aX (lo:=0) (hi:=1048576) d3 (by omega) (by omega) (by omega)
     obtain⟨f1,d11⟩:=aX (lo:=0) (hi:=1048576) d10 (by omega) (by omega) (by omega)
     obtain⟨f3,d13⟩:=aX (lo:=0) (hi:=1048576) d11 (by omega) (by omega) (by omega)
     obtain⟨f4,QJ⟩:=aX (lo:=0) (hi:=1048576) d13 (by omega) (by omega) (by omega)
     obtain⟨e5,d5⟩:=aX (lo:=1) (hi:=16777216) QJ (by omega) (by omega) (by omega)
     obtain⟨e6,d6⟩:=bW (lo:=1) (hi:=8) d5 (by omega) (by omega)
     obtain⟨e7,d7⟩:=iC (may:=keyE) d6 g3 hkey
     rw[bk]at e1;rw[br]at e2;rw[Ic]at e6
     simp[dI,iU,ku,kK,bn.rO,bn.put,e1,e2,e3,f0,f1,f3,f4,e5,e6,e7,hl]
     refine⟨?_, ?_⟩
     · simp[own,x1,hv0]
     · rw[←hlen];simp[aS,others,words,dU,hl];omega
 · simp only[bn.get]at own;simp at own
   have br:((byteOf 3).toNat:Int)=3:=fP (by omega) (by omega)
   cases hl:dM k with
   | true=>
     obtain⟨x1,x2,x3,x4⟩:=g6 hl
     have bl:=fP (n:=l) (by omega) (by omega)
     have bv:=sZ (s:=v) (by omega)
     have hval:fA v=0:=by unfold fA;rw[if_pos ⟨x3,x4⟩]
     generalize hbs:aS _++rest=bs
     generalize hlen:(aS _).length=len
     have d0:bs.drop 0=byteOf k::byteOf 3::(aA n++(aA c0++(aA c1++(aA c2++(aA c4++((aA hh++(UInt8.ofNat key.size::(key.data.toList++(byteOf l::UInt8.ofNat v.size::(v.data.toList++rest))))))))))):=by
      rw[←hbs];simp[aS,others,words,dU,hl]
     obtain⟨e1,d1⟩:=bW (lo:=1) (hi:=5) d0 (by omega) (by omega)
     obtain⟨e2,d2⟩:=bW (lo:=0) (hi:=4) d1 (by omega) (by omega)
     obtain⟨e3,d3⟩:=aX (lo:=1) (hi:=1048576) d2 (by omega) (by omega) (by omega)
     obtain⟨f0,d10⟩:=aX (lo:=0) (hi:=1048576) d3 (by omega) (by omega) (by omega)
     obtain⟨f1,d11⟩:=aX (lo:=0) (hi:=1048576) d10 (by omega) (by omega) (by omega)
     obtain⟨f2,d12⟩:=aX (lo:=0) (hi:=1048576) d11 (by omega) (by omega) (by omega)
     obtain⟨f4,QJ⟩:=aX (lo:=0) (hi:=1048576) d12 (by omega) (by omega) (by omega)
     obtain⟨e5,d5⟩:=aX (lo:=1) (hi:=16777216) QJ (by omega) (by omega) (by omega)
     obtain⟨e6,d6⟩:=bW (lo:=1) (hi:=8) d5 (by omega) (by omega)
     obtain⟨e7,d7⟩:=iC (may:=keyE) d6 g3 hkey
     obtain⟨e8,d8⟩:=bW (lo:=0) (hi:=1) d7 (by omega) (by omega)
     obtain⟨e9,d9⟩:=bW (lo:=1) (hi:=12) d8 (by omega) (by omega)
     obtain⟨e10,d10⟩:=iC (may:=fA) d9 x3 hval
     rw[bk]at e1;rw[br]at e2;rw[Ic]at e6;rw[bl]at e8;rw[bv]at e9
     simp[dI,iU,ku,kK,bn.rO,bn.put,e1,e2,e3,f0,f1,f2,f4,e5,e6,e7,e8,e9,e10,hl]
     refine⟨?_, ?_⟩
     · simp[own]
     · rw[←hlen];simp[aS,others,words,dU,hl];omega
   | false=>
     obtain⟨x1,x2⟩:=g7 hl
     have hv0:v=⟨#[]⟩:=size_nil x2
     generalize hbs:aS _++rest=bs
     generalize hlen:(aS _).length=len
     have d0:bs.drop 0=byteOf k::byteOf 3::(aA n++(aA c0++(aA c1++(aA c2++(aA c4++((aA hh++(UInt8.ofNat key.size::(key.data.toList++(rest)))))))))):=by
      rw[←hbs];simp[aS,others,words,dU,hl]
     obtain⟨e1,d1⟩:=bW (lo:=1) (hi:=5) d0 (by omega) (by omega)
     obtain⟨e2,d2⟩:=bW (lo:=0) (hi:=4) d1 (by omega) (by omega)
     obtain⟨e3,d3⟩:=aX (lo:=1) (hi:=1048576) d2 (by omega) (by omega) (by omega)
     obtain⟨f0,d10⟩:=aX (lo:=0) (hi:=1048576) d3 (by omega) (by omega) (by omega)
     obtain⟨f1,d11⟩:=aX (lo:=0) (hi:=1048576) d10 (by omega) (by omega) (by omega)
     obtain⟨f2,d12⟩:=aX (lo:=0) (hi:=1048576) d11 (by omega) (by omega) (by omega)
     obtain⟨f4,QJ⟩:=aX (lo:=0) (hi:=1048576) d12 (by omega) (by omega) (by omega)
     obtain⟨e5,d5⟩:=aX (lo:=1) (hi:=16777216) QJ (by omega) (by omega) (by omega)
     obtain⟨e6,d6⟩:=bW (lo:=1) (hi:=8) d5 (by omega) (by omega)
     obtain⟨e7,d7⟩:=iC (may:=keyE) d6 g3 hkey
     rw[bk]at e1;rw[br]at e2;rw[Ic]at e6
     simp[dI,iU,ku,kK,bn.rO,bn.put,e1,e2,e3,f0,f1,f2,f4,e5,e6,e7,hl]
     refine⟨?_, ?_⟩
     · simp[own,x1,hv0]
     · rw[←hlen];simp[aS,others,words,dU,hl];omega
 · simp only[bn.get]at own;simp at own
   have br:((byteOf 4).toNat:Int)=4:=fP (by omega) (by omega)
   cases hl:dM k with
   | true=>
     obtain⟨x1,x2,x3,x4⟩:=g6 hl
     have bl:=fP (n:=l) (by omega) (by omega)
     have bv:=sZ (s:=v) (by omega)
     have hval:fA v=0:=by unfold fA;rw[if_pos ⟨x3,x4⟩]
     generalize hbs:aS _++rest=bs
     generalize hlen:(aS _).length=len
     have d0:bs.drop 0=byteOf k::byteOf 4::(aA n++(aA c0++(aA c1++(aA c2++(aA c3++((aA hh++(UInt8.ofNat key.size::(key.data.toList++(byteOf l::UInt8.ofNat v.size::(v.data.toList++rest))))))))))):=by
      rw[←hbs];simp[aS,others,words,dU,hl]
     obtain⟨e1,d1⟩:=bW (lo:=1) (hi:=5) d0 (by omega) (by omega)
     obtain⟨e2,d2⟩:=bW (lo:=0) (hi:=4) d1 (by omega) (by omega)
     obtain⟨e3,d3⟩:=aX (lo:=1) (hi:=1048576) d2 (by omega) (by omega) (by omega)
     obtain⟨f0,d10⟩:=aX (lo:=0) (hi:=1048576) d3 (by omega) (by omega) (by omega)
     obtain⟨f1,d11⟩:=aX (lo:=0) (hi:=1048576) d10 (by omega) (by omega) (by omega)
     obtain⟨f2,d12⟩:=aX (lo:=0) (hi:=1048576) d11 (by omega) (by omega) (by omega)
     obtain⟨f3,d13⟩:=aX (lo:=0) (hi:=1048576) d12 (by omega) (by omega) (by omega)
     obtain⟨e5,d5⟩:=aX (lo:=1) (hi:=16777216) d13 (by omega) (by omega) (by omega)
     obtain⟨e6,d6⟩:=bW (lo:=1) (hi:=8) d5 (by omega) (by omega)
     obtain⟨e7,d7⟩:=iC (may:=keyE) d6 g3 hkey
     obtain⟨e8,d8⟩:=bW (lo:=0) (hi:=1) d7 (by omega) (by omega)
     obtain⟨e9,d9⟩:=bW (lo:=1) (hi:=12) d8 (by omega) (by omega)
     obtain⟨e10,d10⟩:=iC (may:=fA) d9 x3 hval
     rw[bk]at e1;rw[br]at e2;rw[Ic]at e6;rw[bl]at e8;rw[bv]at e9
     simp[dI,iU,ku,kK,bn.rO,bn.put,e1,e2,e3,f0,f1,f2,f3,e5,e6,e7,e8,e9,e10,hl]
     refine⟨?_, ?_⟩
     · simp[own]
     · rw[←hlen];simp[aS,others,words,dU,hl];omega
   | false=>
     obtain⟨x1,x2⟩:=g7 hl
     have hv0:v=⟨#[]⟩:=size_nil x2
     generalize hbs:aS _++rest=bs
     generalize hlen:(aS _).length=len
     have d0:bs.drop 0=byteOf k::byteOf 4::(aA n++(aA c0++(aA c1++(aA c2++(aA c3++((aA hh++(UInt8.ofNat key.size::(key.data.toList++(rest)))))))))):=by
      rw[←hbs];simp[aS,others,words,dU,hl]
     obtain⟨e1,d1⟩:=bW (lo:=1) (hi:=5) d0 (by omega) (by omega)
     obtain⟨e2,d2⟩:=bW (lo:=0) (hi:=4) d1 (by omega) (by omega)
     obtain⟨e3,d3⟩:=aX (lo:=1) (hi:=1048576) d2 (by omega) (by omega) (by omega)
     obtain⟨f0,d10⟩:=aX (lo:=0) (hi:=1048576) d3 (by omega) (by omega) (by omega)
     obtain⟨f1,d11⟩:=aX (lo:=0) (hi:=1048576) d10 (by omega) (by omega) (by omega)
     obtain⟨f2,d12⟩:=aX (lo:=0) (hi:=1048576) d11 (by omega) (by omega) (by omega)
     obtain⟨f3,d13⟩:=aX (lo:=0) (hi:=1048576) d12 (by omega) (by omega) (by omega)
     obtain⟨e5,d5⟩:=aX (lo:=1) (hi:=16777216) d13 (by omega) (by omega) (by omega)
     obtain⟨e6,d6⟩:=bW (lo:=1) (hi:=8) d5 (by omega) (by omega)
     obtain⟨e7,d7⟩:=iC (may:=keyE) d6 g3 hkey
     rw[bk]at e1;rw[br]at e2;rw[Ic]at e6
     simp[dI,iU,ku,kK,bn.rO,bn.put,e1,e2,e3,f0,f1,f2,f3,e5,e6,e7,hl]
     refine⟨?_, ?_⟩
     · simp[own,x1,hv0]
     · rw[←hlen];simp[aS,others,words,dU,hl];omega
end Go.Proofs.YtimhagicagdkfaaGreat
