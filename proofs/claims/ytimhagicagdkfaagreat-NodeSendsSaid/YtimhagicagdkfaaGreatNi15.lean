/-
  Contracts of the walk:TkLawC,TkLawD,TkF,FrT,FrU,FrLaw,FrN.
-/
import Derived.Test.YtimhagicagdkfaaGreatNi14
import Derived.Test.YtimhagicagdkfaaGreatNi6
import Derived.Test.YtimhagicagdkfaaGreatNi13
set_option maxHeartbeats 16000000
set_option maxRecDepth 100000
set_option linter.unusedVariables false
set_option linter.unusedSimpArgs false
namespace Go.Proofs.YtimhagicagdkfaaGreat
theorem dH {bs:List UInt8} {lo hi c:Int} {s s':Sq} (h:fJ bs lo hi s=(c,s')) (h0:s'.2=0):s.2=0∧lo≤c∧c≤hi∧0≤c∧c≤255∧s'.1≤bs.length∧bs.drop s.1=byteOf c::bs.drop s'.1:=by
 unfold fJ at h
 split at h
 · rename_i h1;cases h;exact absurd h0 h1
 · rename_i h1
   split at h
   · cases h;cases h0
   · rename_i h2
     split at h
     · rename_i h3
       cases h
       have hb:=UInt8.toNat_lt (bs.getD s.1 0)
       refine⟨by simpa using h1,h3.1,h3.2,by omega,by omega,by dsimp only;omega, ?_⟩
       have hlt:s.1<bs.length:=by omega
       rw[List.drop_eq_getElem_cons hlt]
       congr 1
       apply abL
       have:=fP (n:=((bs.getD s.1 0).toNat:Int)) (by omega) (by omega)
       have e:bs.getD s.1 0=bs[s.1]:=by rw[List.getD_eq_getElem?_getD,List.getElem?_eq_getElem hlt];rfl
       rw[e]at this⊢
       omega
     · cases h;cases h0
theorem bF {bs:List UInt8} {lo hi c:Int} {s s':Sq} (h:eY bs lo hi s=(c,s')) (h0:s'.2=0) (hs:s.1≤bs.length):s.2=0∧lo≤c∧c≤hi∧0≤c∧s'.1≤bs.length∧bs.drop s.1=iM c++bs.drop s'.1:=by
 unfold eY at h
 split at h
 · rename_i h1;cases h;exact absurd h0 h1
 · rename_i h1
   split at h
   · rename_i h2;cases h;exact absurd h0 h2
   · rename_i h2
     split at h
     · rename_i h3
       cases h
       have h2':(dG (bs.drop s.1)).2.2=0:=by simpa using h2
       obtain⟨k1,k2,k3⟩:=YB (l:=bs.drop s.1) (m:=(dG (bs.drop s.1)).1) (k:=(dG (bs.drop s.1)).2.1) (by rw[←h2'])
       rw[List.length_drop]at k2
       refine⟨by simpa using h1,h3.1,h3.2,by omega,by dsimp only;omega, ?_⟩
       have e:iM (((dG (bs.drop s.1)).1:Nat):Int)=aA (dG (bs.drop s.1)).1:=dU _
       rw[e,←k3,←List.drop_drop,List.take_append_drop]
     · cases h;cases h0
theorem iW {bs:List UInt8} {sz:Int} {may:ByteArray→Int} {c:ByteArray} {s s':Sq} (h:fU bs sz may s=(c,s')) (h0:s'.2=0) (hs:s.1≤bs.length) (hz:0≤sz):s.2=0∧(c.size:Int)=sz∧may c=0∧s'.1≤bs.length∧bs.drop s.1=c.data.toList++bs.drop s'.1:=by
 unfold fU at h
 split at h
 · rename_i h1;cases h;exact absurd h0 h1
 · rename_i h1
   split at h
   · cases h;cases h0
   · rename_i h2
     cases h
     dsimp only at h0
     have h3:may (H8 bs s.1 sz.toNat)=0:=by
      split at h0
      · assumption
      · cases h0
     refine⟨by simpa using h1, ?_,h3,by dsimp only;omega, ?_⟩
     · show((H8 bs s.1 sz.toNat).data.size:Int)=sz
       simp only[H8,List.size_toArray,List.length_take,List.length_drop]
       omega
     · simp only[H8]
       rw[←List.drop_drop,List.take_append_drop]
theorem wG {k:Int} (h:dM k=false):k=1∨k=2:=by
 simp only[dM,Bool.and_eq_false_iff,bne_eq_false_iff_eq]at h
 exact h
theorem lK {s:ByteArray} (h:keyE s=0):1≤s.size∧s.size≤8∧vW s=true:=by
 unfold keyE at h
 split at h
 · assumption
 · cases h
theorem iY (s:ByteArray) {c:Int} (h:(s.size:Int)=c):byteOf c::s.data.toList=words s:=by
 subst h
 simp[words,byteOf]
theorem oN {e:Ed} (h1:1≤e.k∧e.k≤5) (h2:keyE e.key=0) (h3:e.k=1∨e.k=2) (h4:e.l=0) (h5:e.v.size=0):jF e=0:=by
 unfold jF
 rw[if_neg (by omega),if_neg (by simp[h2]),if_pos h3,if_neg (by simp[h4]),if_neg (by simp[h5])]
theorem qC {e:Ed} (h1:1≤e.k∧e.k≤5) (h2:keyE e.key=0) (h3:dM e.k=true) (h4:0≤e.l∧e.l<2) (h5:fA e.v=0):jF e=0:=by
 have hk: ¬ (e.k=1∨e.k=2):=by
  simp only[dM,Bool.and_eq_true,bne_iff_ne,ne_eq]at h3
  omega
 have hlab:lT e.l=0:=by unfold lT;rw[if_pos h4]
 unfold jF
 rw[if_neg (by omega),if_neg (by simp[h2]),if_neg hk,if_neg (by simp[hlab]),h5]
theorem gQ {bs:List UInt8} {lo hi c:Int} {s s':Sq} (h:fJ bs lo hi s=(c,s')) (h0:s'.2=0):s.2=0:=(dH h h0).1
theorem bY {bs:List UInt8} {lo hi c:Int} {s s':Sq} (h:eY bs lo hi s=(c,s')) (h0:s'.2=0):s.2=0:=by
 unfold eY at h
 split at h
 · rename_i h1;cases h;exact absurd h0 h1
 · rename_i h1;simpa using h1
theorem jW {bs:List UInt8} {sz:Int} {may:ByteArray→Int} {c:ByteArray} {s s':Sq} (h:fU bs sz may s=(c,s')) (h0:s'.2=0):s.2=0:=by
 unfold fU at h
 split at h
 · rename_i h1;cases h;exact absurd h0 h1
 · rename_i h1;simpa using h1
theorem oq {bs l:List UInt8} {m:Nat} (_hm:m≤bs.length) (h:bs=l++bs.drop m):bs.take m=l:=by
 have h1:bs=bs.take m++bs.drop m:=(List.take_append_drop m bs).symm
 exact List.append_cancel_right (h1.symm.trans h)
theorem YC (bs:List UInt8) {e:Ev} {m:Nat} (h:dI bs (0,0)=(e,(m,0))):fB e=0∧m≤bs.length∧bs.take m=aS e:=by
 obtain⟨⟨k,s1⟩,e1⟩: ∃p,fJ bs 1 5 (0,0)=p:=⟨_,rfl⟩
 obtain⟨⟨R,s2⟩,e2⟩: ∃p,fJ bs 0 4 s1=p:=⟨_,rfl⟩
 obtain⟨⟨N,s3⟩,e3⟩: ∃p,eY bs 1 1048576 s2=p:=⟨_,rfl⟩
 have hR0:=FM (bs:=bs) (lo:=0) (hi:=4) (s:=s1)
 rw[e2]at hR0
 rcases(show R=0∨R=1∨R=2∨R=3∨R=4 by simp only at hR0;omega)with rfl|rfl|rfl|rfl|rfl
 · obtain⟨⟨c1,t2⟩,f1⟩: ∃p,eY bs 0 1048576 s3=p:=⟨_,rfl⟩
   obtain⟨⟨c2,t3⟩,f2⟩: ∃p,eY bs 0 1048576 t2=p:=⟨_,rfl⟩
   obtain⟨⟨c3,t4⟩,f3⟩: ∃p,eY bs 0 1048576 t3=p:=⟨_,rfl⟩
   obtain⟨⟨c4,t5⟩,f4⟩: ∃p,eY bs 0 1048576 t4=p:=⟨_,rfl⟩
   obtain⟨⟨H,s5⟩,e5⟩: ∃p,eY bs 1 16777216 t5=p:=⟨_,rfl⟩
   obtain⟨⟨ks,s6⟩,e6⟩: ∃p,fJ bs 1 8 s5=p:=⟨_,rfl⟩
   obtain⟨⟨key,s7⟩,e7⟩: ∃p,fU bs ks keyE s6=p:=⟨_,rfl⟩
   obtain⟨⟨l,s8⟩,e8⟩: ∃p,fJ bs 0 1 s7=p:=⟨_,rfl⟩
   obtain⟨⟨vs,s9⟩,e9⟩: ∃p,fJ bs 1 12 s8=p:=⟨_,rfl⟩
   obtain⟨⟨v,s10⟩,e10⟩: ∃p,fU bs vs fA s9=p:=⟨_,rfl⟩
   have hF:dI bs (0,0)=if dM k then(⟨0,N,⟨N-1,c1,c2,c3,c4⟩,H,k,key,l,v⟩,s10)else(⟨0,N,⟨N-1,c1,c2,c3,c4⟩,H,k,key,0,⟨#[]⟩⟩,s7):=by
    simp[dI,iU,ku,kK,bn.rO,bn.put,e1,e2,e3,f1,f2,f3,f4,e5,e6,e7,e8,e9,e10]
   rw[hF]at h
   cases hl:dM k with
   | false=>
     rw[hl]at h
     simp only[Bool.false_eq_true,if_false,Prod.mk.injEq]at h
     obtain⟨rfl,hs⟩:=h
     have y7:s7.2=0:=by rw[hs]
     have hm:s7.1=m:=by rw[hs]
     have y6:=(jW e7 y7)
     have y5:=(gQ e6 y6)
     have yp:=(bY e5 y5)
     have Gj:=(bY f4 yp)
     have Gl:=(bY f3 Gj)
     have Gm:=(bY f2 Gl)
     have y3:=(bY f1 Gm)
     have y2:=(bY e3 y3)
     have y1:=(gQ e2 y2)
     obtain⟨_,k1,k2,_,_,u1,b1⟩:=dH e1 y1
     obtain⟨_,r1,r2,_,_,u2,b2⟩:=dH e2 y2
     obtain⟨_,n1,n2,_,u3,b3⟩:=bF e3 y3 u2
     obtain⟨_,m1,mm1,_,v1,g1⟩:=bF f1 Gm u3
     obtain⟨_,m2,mm2,_,v2,g2⟩:=bF f2 Gl v1
     obtain⟨_,m3,mm3,_,v3,g3⟩:=bF f3 Gj v2
     obtain⟨_,m4,mm4,_,v4,g4⟩:=bF f4 yp v3
     obtain⟨_,h1,h2,_,u5,b5⟩:=bF e5 y5 v4
     obtain⟨_,k3,k4,k5,_,u6,b6⟩:=dH e6 y6
     obtain⟨_,q1,q2,u7,b7⟩:=iW e7 y7 u6 k5
     obtain⟨q3,q4,q5⟩:=lK q2
     refine⟨og ⟨by dsimp only;omega,by dsimp only;omega,n1,n2,h1,h2,by dsimp only;omega,by dsimp only;omega,by dsimp only;omega,by dsimp only;omega,by dsimp only;omega,by simp[bn.get], ?_⟩,by rw[←hm];exact u7, ?_⟩
     · exact oN (e:=⟨k,key,0,⟨#[]⟩⟩) ⟨by dsimp only;omega,by dsimp only;omega⟩ q2 (wG hl) rfl rfl
     · refine oq (by rw[←hm];exact u7) (l:=aS _) ?_
       rw[←hm]
       have b0:bs=bs.drop (0,(0:Int)).1:=rfl
       conv=>lhs;rw[b0,b1,b2,b3,g1,g2,g3,g4,b5,b6,b7]
       simp[aS,others,hl,←iY key q1]
   | true=>
     rw[hl]at h
     simp only[if_true,Prod.mk.injEq]at h
     obtain⟨rfl,hs⟩:=h
     have Tv:s10.2=0:=by rw[hs]
     have hm:s10.1=m:=by rw[hs]
     have y9:=(jW e10 Tv)
     have y8:=(gQ e9 y9)
     have y7:=(gQ e8 y8)
     have y6:=(jW e7 y7)
     have y5:=(gQ e6 y6)
     have yp:=(bY e5 y5)
     have Gj:=(bY f4 yp)
     have Gl:=(bY f3 Gj)
     have Gm:=(bY f2 Gl)
     have y3:=(bY f1 Gm)
     have y2:=(bY e3 y3)
     have y1:=(gQ e2 y2)
     obtain⟨_,k1,k2,_,_,u1,b1⟩:=dH e1 y1
     obtain⟨_,r1,r2,_,_,u2,b2⟩:=dH e2 y2
     obtain⟨_,n1,n2,_,u3,b3⟩:=bF e3 y3 u2
     obtain⟨_,m1,mm1,_,v1,g1⟩:=bF f1 Gm u3
     obtain⟨_,m2,mm2,_,v2,g2⟩:=bF f2 Gl v1
     obtain⟨_,m3,mm3,_,v3,g3⟩:=bF f3 Gj v2
     obtain⟨_,m4,mm4,_,v4,g4⟩:=bF f4 yp v3
     obtain⟨_,h1,h2,_,u5,b5⟩:=bF e5 y5 v4
     obtain⟨_,k3,k4,k5,_,u6,b6⟩:=dH e6 y6
     obtain⟨_,q1,q2,u7,b7⟩:=iW e7 y7 u6 k5
     obtain⟨q3,q4,q5⟩:=lK q2
     obtain⟨_,l1,l2,_,_,u8,b8⟩:=dH e8 y8
     obtain⟨_,l3,l4,l5,_,u9,b9⟩:=dH e9 y9
     obtain⟨_,p1,p2,u10,b10⟩:=iW e10 Tv u9 l5
     refine⟨og ⟨by dsimp only;omega,by dsimp only;omega,n1,n2,h1,h2,by dsimp only;omega,by dsimp only;omega,by dsimp only;omega,by dsimp only;omega,by dsimp only;omega,by simp[bn.get], ?_⟩,by rw[←hm];exact u10, ?_⟩
     · exact qC (e:=⟨k,key,l,v⟩) ⟨by dsimp only;omega,by dsimp only;omega⟩ q2 hl (by dsimp only;omega) p2
     · refine oq (by rw[←hm];exact u10) (l:=aS _) ?_
       rw[←hm]
       have b0:bs=bs.drop (0,(0:Int)).1:=rfl
       conv=>lhs;rw[b0,b1,b2,b3,g1,g2,g3,g4,b5,b6,b7,b8,b9,b10]
       simp[aS,others,hl,←iY key q1,←iY v p1]
 · obtain⟨⟨c0,t1⟩,f0⟩: ∃p,eY bs 0 1048576 s3=p:=⟨_,rfl⟩
   obtain⟨⟨c2,t3⟩,f2⟩: ∃p,eY bs 0 1048576 t1=p:=⟨_,rfl⟩
   obtain⟨⟨c3,t4⟩,f3⟩: ∃p,eY bs 0 1048576 t3=p:=⟨_,rfl⟩
   obtain⟨⟨c4,t5⟩,f4⟩: ∃p,eY bs 0 1048576 t4=p:=⟨_,rfl⟩
   obtain⟨⟨H,s5⟩,e5⟩: ∃p,eY bs 1 16777216 t5=p:=⟨_,rfl⟩
   obtain⟨⟨ks,s6⟩,e6⟩: ∃p,fJ bs 1 8 s5=p:=⟨_,rfl⟩
   obtain⟨⟨key,s7⟩,e7⟩: ∃p,fU bs ks keyE s6=p:=⟨_,rfl⟩
   obtain⟨⟨l,s8⟩,e8⟩: ∃p,fJ bs 0 1 s7=p:=⟨_,rfl⟩
   obtain⟨⟨vs,s9⟩,e9⟩: ∃p,fJ bs 1 12 s8=p:=⟨_,rfl⟩
   obtain⟨⟨v,s10⟩,e10⟩: ∃p,fU bs vs fA s9=p:=⟨_,rfl⟩
   have hF:dI bs (0,0)=if dM k then(⟨1,N,⟨c0,N-1,c2,c3,c4⟩,H,k,key,l,v⟩,s10)else(⟨1,N,⟨c0,N-1,c2,c3,c4⟩,H,k,key,0,⟨#[]⟩⟩,s7):=by
    simp[dI,iU,ku,kK,bn.rO,bn.put,e1,e2,e3,f0,f2,f3,f4,e5,e6,e7,e8,e9,e10]
   rw[hF]at h
   cases hl:dM k with
   | false=>
     rw[hl]at h
     simp only[Bool.false_eq_true,if_false,Prod.mk.injEq]at h
     obtain⟨rfl,hs⟩:=h
     have y7:s7.2=0:=by rw[hs]
     have hm:s7.1=m:=by rw[hs]
     have y6:=(jW e7 y7)
     have y5:=(gQ e6 y6)
     have yp:=(bY e5 y5)
     have Gj:=(bY f4 yp)
     have Gl:=(bY f3 Gj)
     have Gm:=(bY f2 Gl)
     have y3:=(bY f0 Gm)
     have y2:=(bY e3 y3)
     have y1:=(gQ e2 y2)
     obtain⟨_,k1,k2,_,_,u1,b1⟩:=dH e1 y1
     obtain⟨_,r1,r2,_,_,u2,b2⟩:=dH e2 y2
     obtain⟨_,n1,n2,_,u3,b3⟩:=bF e3 y3 u2
     obtain⟨_,m0,mm0,_,v0,g0⟩:=bF f0 Gm u3
     obtain⟨_,m2,mm2,_,v2,g2⟩:=bF f2 Gl v0
     obtain⟨_,m3,mm3,_,v3,g3⟩:=bF f3 Gj v2
     obtain⟨_,m4,mm4,_,v4,g4⟩:=bF f4 yp v3
     obtain⟨_,h1,h2,_,u5,b5⟩:=bF e5 y5 v4
     obtain⟨_,k3,k4,k5,_,u6,b6⟩:=dH e6 y6
     obtain⟨_,q1,q2,u7,b7⟩:=iW e7 y7 u6 k5
     obtain⟨q3,q4,q5⟩:=lK q2
     refine⟨og ⟨by dsimp only;omega,by dsimp only;omega,n1,n2,h1,h2,by dsimp only;omega,by dsimp only;omega,by dsimp only;omega,by dsimp only;omega,by dsimp only;omega,by simp[bn.get], ?_⟩,by rw[←hm];exact u7, ?_⟩
     · exact oN (e:=⟨k,key,0,⟨#[]⟩⟩) ⟨by dsimp only;omega,by dsimp only;omega⟩ q2 (wG hl) rfl rfl
     · refine oq (by rw[←hm];exact u7) (l:=aS _) ?_
       rw[←hm]
       have b0:bs=bs.drop (0,(0:Int)).1:=rfl
       conv=>lhs;rw[b0,b1,b2,b3,g0,g2,g3,g4,b5,b6,b7]
       simp[aS,others,hl,←iY key q1]
   | true=>
     rw[hl]at h
     simp only[if_true,Prod.mk.injEq]at h
     obtain⟨rfl,hs⟩:=h
     have Tv:s10.2=0:=by rw[hs]
     have hm:s10.1=m:=by rw[hs]
     have y9:=(jW e10 Tv)
     have y8:=(gQ e9 y9)
     have y7:=(gQ e8 y8)
     have y6:=(jW e7 y7)
     have y5:=(gQ e6 y6)
     have yp:=(bY e5 y5)
     have Gj:=(bY f4 yp)
     have Gl:=(bY f3 Gj)
     have Gm:=(bY f2 Gl)
     have y3:=(bY f0 Gm)
     have y2:=(bY e3 y3)
     have y1:=(gQ e2 y2)
     obtain⟨_,k1,k2,_,_,u1,b1⟩:=dH e1 y1
     obtain⟨_,r1,r2,_,_,u2,b2⟩:=dH e2 y2
     obtain⟨_,n1,n2,_,u3,b3⟩:=bF e3 y3 u2
     obtain⟨_,m0,mm0,_,v0,g0⟩:=bF f0 Gm u3
     obtain⟨_,m2,mm2,_,v2,g2⟩:=bF f2 Gl v0
     obtain⟨_,m3,mm3,_,v3,g3⟩:=bF f3 Gj v2
     obtain⟨_,m4,mm4,_,v4,g4⟩:=bF f4 yp v3
     obtain⟨_,h1,h2,_,u5,b5⟩:=bF e5 y5 v4
     obtain⟨_,k3,k4,k5,_,u6,b6⟩:=dH e6 y6
     obtain⟨_,q1,q2,u7,b7⟩:=iW e7 y7 u6 k5
     obtain⟨q3,q4,q5⟩:=lK q2
     obtain⟨_,l1,l2,_,_,u8,b8⟩:=dH e8 y8
     obtain⟨_,l3,l4,l5,_,u9,b9⟩:=dH e9 y9
     obtain⟨_,p1,p2,u10,b10⟩:=iW e10 Tv u9 l5
     refine⟨og ⟨by dsimp only;omega,by dsimp only;omega,n1,n2,h1,h2,by dsimp only;omega,by dsimp only;omega,by dsimp only;omega,by dsimp only;omega,by dsimp only;omega,by simp[bn.get], ?_⟩,by rw[←hm];exact u10, ?_⟩
     · exact qC (e:=⟨k,key,l,v⟩) ⟨by dsimp only;omega,by dsimp only;omega⟩ q2 hl (by dsimp only;omega) p2
     · refine oq (by rw[←hm];exact u10) (l:=aS _) ?_
       rw[←hm]
       have b0:bs=bs.drop (0,(0:Int)).1:=rfl
       conv=>lhs;rw[b0,b1,b2,b3,g0,g2,g3,g4,b5,b6,b7,b8,b9,b10]
       simp[aS,others,hl,←iY key q1,←iY v p1]
 · obtain⟨⟨c0,t1⟩,f0⟩: ∃p,eY bs 0 1048576 s3=p:=⟨_,rfl⟩
   obtain⟨⟨c1,t2⟩,f1⟩: ∃p,eY bs 0 1048576 t1=p:=⟨_,rfl⟩
   obtain⟨⟨c3,t4⟩,f3⟩: ∃p,eY bs 0 1048576 t2=p:=⟨_,rfl⟩
   obtain⟨⟨c4,t5⟩,f4⟩: ∃p,eY bs 0 1048576 t4=p:=⟨_,rfl⟩
   obtain⟨⟨H,s5⟩,e5⟩: ∃p,eY bs 1 16777216 t5=p:=⟨_,rfl⟩
   obtain⟨⟨ks,s6⟩,e6⟩: ∃p,fJ bs 1 8 s5=p:=⟨_,rfl⟩
   obtain⟨⟨key,s7⟩,e7⟩: ∃p,fU bs ks keyE s6=p:=⟨_,rfl⟩
   obtain⟨⟨l,s8⟩,e8⟩: ∃p,fJ bs 0 1 s7=p:=⟨_,rfl⟩
   obtain⟨⟨vs,s9⟩,e9⟩: ∃p,fJ bs 1 12 s8=p:=⟨_,rfl⟩
   obtain⟨⟨v,s10⟩,e10⟩: ∃p,fU bs vs fA s9=p:=⟨_,rfl⟩
   have hF:dI bs (0,0)=if dM k then(⟨2,N,⟨c0,c1,N-1,c3,c4⟩,H,k,key,l,v⟩,s10)else(⟨2,N,⟨c0,c1,N-1,c3,c4⟩,H,k,key,0,⟨#[]⟩⟩,s7):=by
    simp[dI,iU,ku,kK,bn.rO,bn.put,e1,e2,e3,f0,f1,f3,f4,e5,e6,e7,e8,e9,e10]
   rw[hF]at h
   cases hl:dM k with
   | false=>
     rw[hl]at h
     simp only[Bool.false_eq_true,if_false,Prod.mk.injEq]at h
     obtain⟨rfl,hs⟩:=h
     have y7:s7.2=0:=by rw[hs]
     have hm:s7.1=m:=by rw[hs]
     have y6:=(jW e7 y7)
     have y5:=(gQ e6 y6)
     have yp:=(bY e5 y5)
     have Gj:=(bY f4 yp)
     have Gl:=(bY f3 Gj)
     have Ox:=(bY f1 Gl)
     have y3:=(bY f0 Ox)
     have y2:=(bY e3 y3)
     have y1:=(gQ e2 y2)
     obtain⟨_,k1,k2,_,_,u1,b1⟩:=dH e1 y1
     obtain⟨_,r1,r2,_,_,u2,b2⟩:=dH e2 y2
     obtain⟨_,n1,n2,_,u3,b3⟩:=bF e3 y3 u2
     obtain⟨_,m0,mm0,_,v0,g0⟩:=bF f0 Ox u3
     obtain⟨_,m1,mm1,_,v1,g1⟩:=bF f1 Gl v0
     obtain⟨_,m3,mm3,_,v3,g3⟩:=bF f3 Gj v1
     obtain⟨_,m4,mm4,_,v4,g4⟩:=bF f4 yp v3
     obtain⟨_,h1,h2,_,u5,b5⟩:=bF e5 y5 v4
     obtain⟨_,k3,k4,k5,_,u6,b6⟩:=dH e6 y6
     obtain⟨_,q1,q2,u7,b7⟩:=iW e7 y7 u6 k5
     obtain⟨q3,q4,q5⟩:=lK q2
     refine⟨og ⟨by dsimp only;omega,by dsimp only;omega,n1,n2,h1,h2,by dsimp only;omega,by dsimp only;omega,by dsimp only;omega,by dsimp only;omega,by dsimp only;omega,by simp[bn.get], ?_⟩,by rw[←hm];exact u7, ?_⟩
     · exact oN (e:=⟨k,key,0,⟨#[]⟩⟩) ⟨by dsimp only;omega,by dsimp only;omega⟩ q2 (wG hl) rfl rfl
     · refine oq (by rw[←hm];exact u7) (l:=aS _) ?_
       rw[←hm]
       have b0:bs=bs.drop (0,(0:Int)).1:=rfl
       conv=>lhs;rw[b0,b1,b2,b3,g0,g1,g3,g4,b5,b6,b7]
       simp[aS,others,hl,←iY key q1]
   | true=>
     rw[hl]at h
     simp only[if_true,Prod.mk.injEq]at h
     obtain⟨rfl,hs⟩:=h
     have Tv:s10.2=0:=by rw[hs]
     have hm:s10.1=m:=by rw[hs]
     have y9:=(jW e10 Tv)
     have y8:=(gQ e9 y9)
     have y7:=(gQ e8 y8)
     have y6:=(jW e7 y7)
     have y5:=(gQ e6 y6)
     have yp:=(bY e5 y5)
     have Gj:=(bY f4 yp)
     have Gl:=(bY f3 Gj)
     have Ox:=(bY f1 Gl)
     have y3:=(bY f0 Ox)
     have y2:=(bY e3 y3)
     have y1:=(gQ e2 y2)
     obtain⟨_,k1,k2,_,_,u1,b1⟩:=dH e1 y1
     obtain⟨_,r1,r2,_,_,u2,b2⟩:=dH e2 y2
     obtain⟨_,n1,n2,_,u3,b3⟩:=bF e3 y3 u2
     obtain⟨_,m0,mm0,_,v0,g0⟩:=bF f0 Ox u3
     obtain⟨_,m1,mm1,_,v1,g1⟩:=bF f1 Gl v0
     obtain⟨_,m3,mm3,_,v3,g3⟩:=bF f3 Gj v1
     obtain⟨_,m4,mm4,_,v4,g4⟩:=bF f4 yp v3
     obtain⟨_,h1,h2,_,u5,b5⟩:=bF e5 y5 v4
     obtain⟨_,k3,k4,k5,_,u6,b6⟩:=dH e6 y6
     obtain⟨_,q1,q2,u7,b7⟩:=iW e7 y7 u6 k5
     obtain⟨q3,q4,q5⟩:=lK q2
     obtain⟨_,l1,l2,_,_,u8,b8⟩:=dH e8 y8
     obtain⟨_,l3,l4,l5,_,u9,b9⟩:=dH e9 y9
     obtain⟨_,p1,p2,u10,b10⟩:=iW e10 Tv u9 l5
     refine⟨og ⟨by dsimp only;omega,by dsimp only;omega,n1,n2,h1,h2,by dsimp only;omega,by dsimp only;omega,by dsimp only;omega,by dsimp only;omega,by dsimp only;omega,by simp[bn.get], ?_⟩,by rw[←hm];exact u10, ?_⟩
     · exact qC (e:=⟨k,key,l,v⟩) ⟨by dsimp only;omega,by dsimp only;omega⟩ q2 hl (by dsimp only;omega) p2
     · refine oq (by rw[←hm];exact u10) (l:=aS _) ?_
       rw[←hm]
       have b0:bs=bs.drop (0,(0:Int)).1:=rfl
       conv=>lhs;rw[b0,b1,b2,b3,g0,g1,g3,g4,b5,b6,b7,b8,b9,b10]
       simp[aS,others,hl,←iY key q1,←iY v p1]
 · obtain⟨⟨c0,t1⟩,f0⟩: ∃p,eY bs 0 1048576 s3=p:=⟨_,rfl⟩
   obtain⟨⟨c1,t2⟩,f1⟩: ∃p,eY bs 0 1048576 t1=p:=⟨_,rfl⟩
   obtain⟨⟨c2,t3⟩,f2⟩: ∃p,eY bs 0 1048576 t2=p:=⟨_,rfl⟩
   obtain⟨⟨c4,t5⟩,f4⟩: ∃p,eY bs 0 1048576 t3=p:=⟨_,rfl⟩
   obtain⟨⟨H,s5⟩,e5⟩: ∃p,eY bs 1 16777216 t5=p:=⟨_,rfl⟩
   obtain⟨⟨ks,s6⟩,e6⟩: ∃p,fJ bs 1 8 s5=p:=⟨_,rfl⟩
   obtain⟨⟨key,s7⟩,e7⟩: ∃p,fU bs ks keyE s6=p:=⟨_,rfl⟩
   obtain⟨⟨l,s8⟩,e8⟩: ∃p,fJ bs 0 1 s7=p:=⟨_,rfl⟩
   obtain⟨⟨vs,s9⟩,e9⟩: ∃p,fJ bs 1 12 s8=p:=⟨_,rfl⟩
   obtain⟨⟨v,s10⟩,e10⟩: ∃p,fU bs vs fA s9=p:=⟨_,rfl⟩
   have hF:dI bs (0,0)=if dM k then(⟨3,N,⟨c0,c1,c2,N-1,c4⟩,H,k,key,l,v⟩,s10)else(⟨3,N,⟨c0,c1,c2,N-1,c4⟩,H,k,key,0,⟨#[]⟩⟩,s7):=by
    simp[dI,iU,ku,kK,bn.rO,bn.put,e1,e2,e3,f0,f1,f2,f4,e5,e6,e7,e8,e9,e10]
   rw[hF]at h
   cases hl:dM k with
   | false=>
     rw[hl]at h
     simp only[Bool.false_eq_true,if_false,Prod.mk.injEq]at h
     obtain⟨rfl,hs⟩:=h
     have y7:s7.2=0:=by rw[hs]
     have hm:s7.1=m:=by rw[hs]
     have y6:=(jW e7 y7)
     have y5:=(gQ e6 y6)
     have yp:=(bY e5 y5)
     have Gj:=(bY f4 yp)
     have Gm:=(bY f2 Gj)
     have Ox:=(bY f1 Gm)
     have y3:=(bY f0 Ox)
     have y2:=(bY e3 y3)
     have y1:=(gQ e2 y2)
     obtain⟨_,k1,k2,_,_,u1,b1⟩:=dH e1 y1
     obtain⟨_,r1,r2,_,_,u2,b2⟩:=dH e2 y2
     obtain⟨_,n1,n2,_,u3,b3⟩:=bF e3 y3 u2
     obtain⟨_,m0,mm0,_,v0,g0⟩:=bF f0 Ox u3
     obtain⟨_,m1,mm1,_,v1,g1⟩:=bF f1 Gm v0
     obtain⟨_,m2,mm2,_,v2,g2⟩:=bF f2 Gj v1
     obtain⟨_,m4,mm4,_,v4,g4⟩:=bF f4 yp v2
     obtain⟨_,h1,h2,_,u5,b5⟩:=bF e5 y5 v4
     obtain⟨_,k3,k4,k5,_,u6,b6⟩:=dH e6 y6
     obtain⟨_,q1,q2,u7,b7⟩:=iW e7 y7 u6 k5
     obtain⟨q3,q4,q5⟩:=lK q2
     refine⟨og ⟨by dsimp only;omega,by dsimp only;omega,n1,n2,h1,h2,by dsimp only;omega,by dsimp only;omega,by dsimp only;omega,by dsimp only;omega,by dsimp only;omega,by simp[bn.get], ?_⟩,by rw[←hm];exact u7, ?_⟩
     · exact oN (e:=⟨k,key,0,⟨#[]⟩⟩) ⟨by dsimp only;omega,by dsimp only;omega⟩ q2 (wG hl) rfl rfl
     · refine oq (by rw[←hm];exact u7) (l:=aS _) ?_
       rw[←hm]
       have b0:bs=bs.drop (0,(0:Int)).1:=rfl
       conv=>lhs;rw[b0,b1,b2,b3,g0,g1,g2,g4,b5,b6,b7]
       simp[aS,others,hl,←iY key q1]
   | true=>
     rw[hl]at h
     simp only[if_true,Prod.mk.injEq]at h
     obtain⟨rfl,hs⟩:=h
     have Tv:s10.2=0:=by rw[hs]
     have hm:s10.1=m:=by rw[hs]
     have y9:=(jW e10 Tv)
     have y8:=(gQ e9 y9)
     have y7:=(gQ e8 y8)
     have y6:=(jW e7 y7)
     have y5:=(gQ e6 y6)
     have yp:=(bY e5 y5)
     have Gj:=(bY f4 yp)
     have Gm:=(bY f2 Gj)
     have Ox:=(bY f1 Gm)
     have y3:=(bY f0 Ox)
     have y2:=(bY e3 y3)
     have y1:=(gQ e2 y2)
     obtain⟨_,k1,k2,_,_,u1,b1⟩:=dH e1 y1
     obtain⟨_,r1,r2,_,_,u2,b2⟩:=dH e2 y2
     obtain⟨_,n1,n2,_,u3,b3⟩:=bF e3 y3 u2
     obtain⟨_,m0,mm0,_,v0,g0⟩:=bF f0 Ox u3
     obtain⟨_,m1,mm1,_,v1,g1⟩:=bF f1 Gm v0
     obtain⟨_,m2,mm2,_,v2,g2⟩:=bF f2 Gj v1
     obtain⟨_,m4,mm4,_,v4,g4⟩:=bF f4 yp v2
     obtain⟨_,h1,h2,_,u5,b5⟩:=bF e5 y5 v4
     obtain⟨_,k3,k4,k5,_,u6,b6⟩:=dH e6 y6
     obtain⟨_,q1,q2,u7,b7⟩:=iW e7 y7 u6 k5
     obtain⟨q3,q4,q5⟩:=lK q2
     obtain⟨_,l1,l2,_,_,u8,b8⟩:=dH e8 y8
     obtain⟨_,l3,l4,l5,_,u9,b9⟩:=dH e9 y9
     obtain⟨_,p1,p2,u10,b10⟩:=iW e10 Tv u9 l5
     refine⟨og ⟨by dsimp only;omega,by dsimp only;omega,n1,n2,h1,h2,by dsimp only;omega,by dsimp only;omega,by dsimp only;omega,by dsimp only;omega,by dsimp only;omega,by simp[bn.get], ?_⟩,by rw[←hm];exact u10, ?_⟩
     · exact qC (e:=⟨k,key,l,v⟩) ⟨by dsimp only;omega,by dsimp only;omega⟩ q2 hl (by dsimp only;omega) p2
     · refine oq (by rw[←hm];exact u10) (l:=aS _) ?_
       rw[←hm]
       have b0:bs=bs.drop (0,(0:Int)).1:=rfl
       conv=>lhs;rw[b0,b1,b2,b3,g0,g1,g2,g4,b5,b6,b7,b8,b9,b10]
       simp[aS,others,hl,←iY key q1,←iY v p1]
 · obtain⟨⟨c0,t1⟩,f0⟩: ∃p,eY bs 0 1048576 s3=p:=⟨_,rfl⟩
   obtain⟨⟨c1,t2⟩,f1⟩: ∃p,eY bs 0 1048576 t1=p:=⟨_,rfl⟩
   obtain⟨⟨c2,t3⟩,f2⟩: ∃p,eY bs 0 1048576 t2=p:=⟨_,rfl⟩
   obtain⟨⟨c3,t4⟩,f3⟩: ∃p,eY bs 0 1048576 t3=p:=⟨_,rfl⟩
   obtain⟨⟨H,s5⟩,e5⟩: ∃p,eY bs 1 16777216 t4=p:=⟨_,rfl⟩
   obtain⟨⟨ks,s6⟩,e6⟩: ∃p,fJ bs 1 8 s5=p:=⟨_,rfl⟩
   obtain⟨⟨key,s7⟩,e7⟩: ∃p,fU bs ks keyE s6=p:=⟨_,rfl⟩
   obtain⟨⟨l,s8⟩,e8⟩: ∃p,fJ bs 0 1 s7=p:=⟨_,rfl⟩
   obtain⟨⟨vs,s9⟩,e9⟩: ∃p,fJ bs 1 12 s8=p:=⟨_,rfl⟩
   obtain⟨⟨v,s10⟩,e10⟩: ∃p,fU bs vs fA s9=p:=⟨_,rfl⟩
   have hF:dI bs (0,0)=if dM k then(⟨4,N,⟨c0,c1,c2,c3,N-1⟩,H,k,key,l,v⟩,s10)else(⟨4,N,⟨c0,c1,c2,c3,N-1⟩,H,k,key,0,⟨#[]⟩⟩,s7):=by
    simp[dI,iU,ku,kK,bn.rO,bn.put,e1,e2,e3,f0,f1,f2,f3,e5,e6,e7,e8,e9,e10]
   rw[hF]at h
   cases hl:dM k with
   | false=>
     rw[hl]at h
     simp only[Bool.false_eq_true,if_false,Prod.mk.injEq]at h
     obtain⟨rfl,hs⟩:=h
     have y7:s7.2=0:=by rw[hs]
     have hm:s7.1=m:=by rw[hs]
     have y6:=(jW e7 y7)
     have y5:=(gQ e6 y6)
     have yp:=(bY e5 y5)
     have Gl:=(bY f3 yp)
     have Gm:=(bY f2 Gl)
     have Ox:=(bY f1 Gm)
     have y3:=(bY f0 Ox)
     have y2:=(bY e3 y3)
     have y1:=(gQ e2 y2)
     obtain⟨_,k1,k2,_,_,u1,b1⟩:=dH e1 y1
     obtain⟨_,r1,r2,_,_,u2,b2⟩:=dH e2 y2
     obtain⟨_,n1,n2,_,u3,b3⟩:=bF e3 y3 u2
     obtain⟨_,m0,mm0,_,v0,g0⟩:=bF f0 Ox u3
     obtain⟨_,m1,mm1,_,v1,g1⟩:=bF f1 Gm v0
     obtain⟨_,m2,mm2,_,v2,g2⟩:=bF f2 Gl v1
     obtain⟨_,m3,mm3,_,v3,g3⟩:=bF f3 yp v2
     obtain⟨_,h1,h2,_,u5,b5⟩:=bF e5 y5 v3
     obtain⟨_,k3,k4,k5,_,u6,b6⟩:=dH e6 y6
     obtain⟨_,q1,q2,u7,b7⟩:=iW e7 y7 u6 k5
     obtain⟨q3,q4,q5⟩:=lK q2
     refine⟨og ⟨by dsimp only;omega,by dsimp only;omega,n1,n2,h1,h2,by dsimp only;omega,by dsimp only;omega,by dsimp only;omega,by dsimp only;omega,by dsimp only;omega,by simp[bn.get], ?_⟩,by rw[←hm];exact u7, ?_⟩
     · exact oN (e:=⟨k,key,0,⟨#[]⟩⟩) ⟨by dsimp only;omega,by dsimp only;omega⟩ q2 (wG hl) rfl rfl
     · refine oq (by rw[←hm];exact u7) (l:=aS _) ?_
       rw[←hm]
       have b0:bs=bs.drop (0,(0:Int)).1:=rfl
       conv=>lhs;rw[b0,b1,b2,b3,g0,g1,g2,g3,b5,b6,b7]
       simp[aS,others,hl,←iY key q1]
   | true=>
     rw[hl]at h
     simp only[if_true,Prod.mk.injEq]at h
     obtain⟨rfl,hs⟩:=h
     have Tv:s10.2=0:=by rw[hs]
     have hm:s10.1=m:=by rw[hs]
     have y9:=(jW e10 Tv)
     have y8:=(gQ e9 y9)
     have y7:=(gQ e8 y8)
     have y6:=(jW e7 y7)
     have y5:=(gQ e6 y6)
     have yp:=(bY e5 y5)
     have Gl:=(bY f3 yp)
     have Gm:=(bY f2 Gl)
     have Ox:=(bY f1 Gm)
     have y3:=(bY f0 Ox)
     have y2:=(bY e3 y3)
     have y1:=(gQ e2 y2)
     obtain⟨_,k1,k2,_,_,u1,b1⟩:=dH e1 y1
     obtain⟨_,r1,r2,_,_,u2,b2⟩:=dH e2 y2
     obtain⟨_,n1,n2,_,u3,b3⟩:=bF e3 y3 u2
     obtain⟨_,m0,mm0,_,v0,g0⟩:=bF f0 Ox u3
     obtain⟨_,m1,mm1,_,v1,g1⟩:=bF f1 Gm v0
     obtain⟨_,m2,mm2,_,v2,g2⟩:=bF f2 Gl v1
     obtain⟨_,m3,mm3,_,v3,g3⟩:=bF f3 yp v2
     obtain⟨_,h1,h2,_,u5,b5⟩:=bF e5 y5 v3
     obtain⟨_,k3,k4,k5,_,u6,b6⟩:=dH e6 y6
     obtain⟨_,q1,q2,u7,b7⟩:=iW e7 y7 u6 k5
     obtain⟨q3,q4,q5⟩:=lK q2
     obtain⟨_,l1,l2,_,_,u8,b8⟩:=dH e8 y8
     obtain⟨_,l3,l4,l5,_,u9,b9⟩:=dH e9 y9
     obtain⟨_,p1,p2,u10,b10⟩:=iW e10 Tv u9 l5
     refine⟨og ⟨by dsimp only;omega,by dsimp only;omega,n1,n2,h1,h2,by dsimp only;omega,by dsimp only;omega,by dsimp only;omega,by dsimp only;omega,by dsimp only;omega,by simp[bn.get], ?_⟩,by rw[←hm];exact u10, ?_⟩
     · exact qC (e:=⟨k,key,l,v⟩) ⟨by dsimp only;omega,by dsimp only;omega⟩ q2 hl (by dsimp only;omega) p2
     · refine oq (by rw[←hm];exact u10) (l:=aS _) ?_
       rw[←hm]
       have b0:bs=bs.drop (0,(0:Int)).1:=rfl
       conv=>lhs;rw[b0,b1,b2,b3,g0,g1,g2,g3,b5,b6,b7,b8,b9,b10]
       simp[aS,others,hl,←iY key q1,←iY v p1]

section
open Go.RowKit
def WB (x:Int):Prop:=x=0∨x=2∨x=3
theorem wH {bs:List UInt8} {lo hi:Int} {s:Sq} (h:WB s.2):WB (fJ bs lo hi s).2.2:=by
 unfold fJ
 split
 · exact h
 · split
   · exact .inr (.inl rfl)
   · split
     · exact .inl rfl
     · exact .inr (.inr rfl)
theorem Gn {bs:List UInt8} {lo hi:Int} {s:Sq} (h:WB s.2):WB (eY bs lo hi s).2.2:=by
 unfold eY
 split
 · exact h
 · split
   · have h:gZ ((bs.drop s.1).take 10) 0 0=dG (bs.drop s.1):=rfl
     have:=Gh ((bs.drop s.1).take 10) 0 0
     rw[h]at this
     exact this
   · split
     · exact .inl rfl
     · exact .inr (.inr rfl)
theorem Jq {bs:List UInt8} {sz:Int} {may:ByteArray→Int} {s:Sq} (h:WB s.2):WB (fU bs sz may s).2.2:=by
 unfold fU
 split
 · exact h
 · split
   · exact .inr (.inl rfl)
   · dsimp only
     split
     · exact .inl rfl
     · exact .inr (.inr rfl)
theorem Vb {bs:List UInt8} {r:Int} {j:Nat} {s:Sq} (h:WB s.2):WB (kK bs r j s).2.2:=by
 unfold kK
 split
 · exact h
 · exact Gn h
theorem Jr {bs:List UInt8} {r:Int} {s:Sq} (h:WB s.2): ∀j,WB (ku bs r s j).2.2
  |0=>h
  |j+1=>Vb (Jr h j)
theorem QK (bs:List UInt8):WB (dI bs (0,0)).2.2:=by
 have h6:WB (fU bs (fJ bs 1 8 (eY bs 1 16777216 (iU bs (fJ bs 0 4 (fJ bs 1 5 (0,0)).2).1 (eY bs 1 1048576 (fJ bs 0 4 (fJ bs 1 5 (0,0)).2).2).2).2).2).1 keyE (fJ bs 1 8 (eY bs 1 16777216 (iU bs (fJ bs 0 4 (fJ bs 1 5 (0,0)).2).1 (eY bs 1 1048576 (fJ bs 0 4 (fJ bs 1 5 (0,0)).2).2).2).2).2).2).2.2:=
  Jq (wH (Gn (Jr (Gn (wH (wH (.inl rfl)))) 5)))
 unfold dI
 dsimp only
 split
 · exact Jq (wH (wH h6))
 · exact h6
theorem uG (bs:List UInt8):(∃e m,mY bs=(e,m,0)∧fB e=0∧m≤bs.length∧bs.take m=aS e∧m=(aS e).length)∨mY bs=(Lu,0,2)∨mY bs=(Lu,0,3):=by
 obtain⟨⟨e,m,x⟩,hf⟩: ∃p,dI bs (0,0)=p:=⟨_,rfl⟩
 have he:=QK bs
 rw[hf]at he
 unfold mY
 rw[hf]
 rcases he with h|h|h<;>dsimp only at h<;>subst h
 · obtain⟨h1,h2,h3⟩:=YC bs hf
   refine .inl ⟨e,m,by simp,h1,h2,h3, ?_⟩
   rw[←h3,List.length_take]
   omega
 · exact .inr (.inl (by simp))
 · exact .inr (.inr (by simp))
theorem Vd (e:Ev) (h:fB e=0) (rest:List UInt8):mY (aS e++rest)=(e,(aS e).length,0):=by
 unfold mY
 rw[Va e h rest]
 simp
theorem Ch.pF {n:Nat} {sc:Bool} {F:Nat→List AV} {l:List UInt8} {xs ys:List AV} (h:bD F l) (hn:n=l.length) (k:Ch xs ys):Ch (.sl 1 n sc F::xs) (.sl 1 l.length sc (aV l)::ys):=
 .of (fun X u hu=>aT.pF (sc:=sc) h hn X u hu) k
theorem take_any {n:Nat} {F:Nat→List AV} (l:List UInt8) {e:Ev} {m:Nat} {x:Int} (ht:mY l=(e,m,x)) (hF:bD F l) (hn:n=l.length) (hl:l.length≤1000000000):
  aG Tryz.prog 114 [.sl 1 n true F] (.dL [e.av,.v (.int .i64 (m:Int)),.v (.int .i64 x)]) []:=by
 have h:=U8 l hl
 rw[ht]at h
 exact h.args (Ch.pF hF hn .nil)
end
section
open Go.RowKit
def kS (b:List UInt8):Option (Nat×Nat):=if(dG b).2.2=0∧(dG b).1≤1048576 then some ((dG b).1,(dG b).2.1)else none
theorem pX {n:Nat} {F:Nat→List AV} (l:List UInt8) {m k:Nat} (h:kS l=some (m,k)) (hF:bD F l) (hn:n=l.length):aG Tryz.prog 82 [.sl 1 n true F] (.dL [.v (.int .i64 (m:Int)),.v (.int .i64 (k:Int)),.v (.bool true)]) []:=by
 obtain⟨⟨a,c,e⟩,hv⟩: ∃p,dG l=p:=⟨_,rfl⟩
 have hs:=iV l hF hn
 unfold kS at h
 rw[hv]at hs h
 dsimp only at hs h
 split at h
 · rename_i h0
   obtain⟨h0,h1⟩:=h0
   simp only[Option.some.injEq,Prod.mk.injEq]at h
   obtain⟨rfl,rfl⟩:=h
   subst h0
   refine K1.E 0x800fd Tryz.func82 ?_
   repeat' ((conv=>whnf);first|refine K1.w ?_|refine K1.u ?_|refine K1.P1 hs rfl ?_|refine aJ.dR ?_|refine K1.z ?_|refine K1.y (fun _=>?_) (fun _=>?_)|fail)
   conv=>whnf
   exact bG.mk (aj)
 · cases h
theorem pY {n:Nat} {F:Nat→List AV} (l:List UInt8) (h:kS l=none) (hF:bD F l) (hn:n=l.length):aG Tryz.prog 82 [.sl 1 n true F] (.dL [.v (.int .i64 0),.v (.int .i64 0),.v (.bool false)]) []:=by
 obtain⟨⟨a,c,e⟩,hv⟩: ∃p,dG l=p:=⟨_,rfl⟩
 have hs:=iV l hF hn
 unfold kS at h
 rw[hv]at hs h
 dsimp only at hs h
 split at h
 · cases h
 · rename_i h0
   refine K1.E 0x800fd Tryz.func82 ?_
   repeat' ((conv=>whnf);first|refine K1.w ?_|refine K1.u ?_|refine K1.P1 hs rfl ?_|refine aJ.dR ?_|refine K1.z ?_|refine K1.y (fun _=>?_) (fun _=>?_)|fail)
   all_goals(conv=>whnf)
   all_goals first
     |exact bG.mk (aj)
     |(exfalso;apply h0;constructor<;>omega)
def je (b:List UInt8):Nat→Option (List Ev×List UInt8)
  |0=>some ([],b)
  | j+1=>match je b j with
    |none=>none
    |some (l,r)=>if(mY r).2.2=0 then some (l++[(mY r).1],r.drop (mY r).2.1)else none
def Ie:List UInt8→Option (List Ev)
  |[]=>none
  |c::r=>(je r c.toNat).map (·.1)
theorem nU {b:List UInt8}: ∀ {j:Nat} {l:List Ev} {r:List UInt8},je b j=some (l,r)→l.length=j∧r.length≤b.length
  | 0,l,r,h=>by
    simp only[je,Option.some.injEq,Prod.mk.injEq]at h
    obtain⟨rfl,rfl⟩:=h
    exact⟨rfl,Nat.le_refl _⟩
  | j + 1,l,r,h=>by
    unfold je at h
    cases h0:je b j with
    |none=>rw[h0]at h;cases h
    | some p=>
      obtain⟨l0,r0⟩:=p
      rw[h0]at h
      dsimp only at h
      have ih:=nU h0
      split at h
      · simp only[Option.some.injEq,Prod.mk.injEq]at h
        obtain⟨rfl,rfl⟩:=h
        refine⟨by simp[ih.1], ?_⟩
        rw[List.length_drop]
        omega
      · cases h
theorem qE {b:List UInt8} {j:Nat} {l:List Ev} {r:List UInt8} {e:Ev} {m:Nat} (h:je b j=some (l,r)) (ht:mY r=(e,m,0)):je b (j+1)=some (l++[e],r.drop m):=by
 unfold je
 rw[h]
 dsimp only
 rw[ht]
 rfl
theorem uH {b:List UInt8} {j:Nat} {l:List Ev} {r:List UInt8} (h:je b j=some (l,r)) (ht:(mY r).2.2≠0):je b (j+1)=none:=by
 unfold je
 rw[h]
 dsimp only
 rw[if_neg ht]
theorem uI {b:List UInt8} {j:Nat} (h:je b j=none): ∀n,j≤n→je b n=none:=by
 intro n hn
 obtain⟨d,rfl⟩:=Nat.le.dest hn
 clear hn
 induction d with
 |zero=>exact h
 | succ d ih=>
   show je b (j+d+1)=none
   unfold je
   rw[ih]
theorem C1.adN {X:CX} {f:Nat→List AV} {u:Value} (h:C1 X (.v (.slice none 0 0)) u):C1 X (.sl 12 0 true f) u:=by
 have h:u= .slice none 0 0:=h
 subst h
 exact(show C0 X (.sl 12 0 true f) (.slice none 0 0)from .sl 12 0 true f none 0 [] (by omega) (Nat.le_refl _) (by simp[maxLen]) (by simp) (fun i hi=>absurd hi (Nat.not_lt_zero i)) (fun _ x hx=>by simp[flat]at hx) (fun i x u hx=>by simp[flat]at hx) (.inl rfl))
theorem aF.hd {R:AV→Value→Prop} {x y:AV} {xs:List AV} {us:List Value} (h:aF R (x::xs) us) (hi: ∀u,R x u→R y u):aF R (y::xs) us:=by
 rcases us with _|⟨u,us⟩
 · have:=h.1;simp at this
 · exact aF.cons (hi u (h.2 0 _ _ rfl rfl)) ⟨by have:=h.1;simpa using this,fun i a b ha hb=>h.2 (i+1) a b (by simpa using ha) (by simpa using hb)⟩
theorem aT.aaL {b:AV} (f:Nat→List AV):aT (.dL [.v (.slice none 0 0),b]) (.dL [.sl 12 0 true f,b]):=by
 rintro X u ⟨us,e,ha⟩
 exact⟨us,e,ha.hd fun u hu=>C1.adN hu⟩
def Ig:Option (List Ev)→AV
  |none=> .dL [.v (.slice none 0 0),.v (.bool false)]
  |some l=> .dL [.sl 12 l.length true (eG l),.v (.bool true)]
theorem Gp {n m:Nat} {F G:Nat→List AV} (a b:List UInt8) (hF:bD F a) (hn:n=a.length) (hG:bD G b) (hm:m=b.length):aG Tryz.prog 46 [.sl 1 n true F,.sl 1 m true G] (.v (.bool (decide (a=b)))) []:=by
 refine K1.E 0x13 Tryz.func46 ?_
 repeat' ((conv=>whnf);first|refine K1.w ?_|refine K1.u ?_|refine Bs.of a hF hn ?_|refine Bs.of b hG hm ?_|refine aJ.dR ?_|refine K1.z ?_|refine K1.y (fun _=>?_) (fun _=>?_)|fail)
 all_goals(conv=>whnf)
 all_goals(refine bG.mk (aT.of ?_))
 · have h:(⟨a.toArray⟩:ByteArray)=⟨b.toArray⟩:=by assumption
   have:a=b:=by simpa using h
   simp[this]
 · have h: ¬ (⟨a.toArray⟩:ByteArray)=⟨b.toArray⟩:=by assumption
   have: ¬a=b:=by simpa using h
   simp[this]
theorem YD (b:List UInt8) (hl:b.length≤1000000000):aG Tryz.prog 81 [.sl 1 b.length true (aV b)] (Ig (Ie b)) []:=by
 rcases b with _|⟨c,t⟩
 · show aG Tryz.prog 81 [.sl 1 0 true (aV [])] _ []
   refine K1.E 0x101c09fd Tryz.func81 ?_
   repeat' ((conv=>whnf);first|refine K1.w ?_|refine K1.u ?_|refine aJ.dR ?_|refine K1.z ?_|refine K1.y (fun _=>?_) (fun _=>?_)|fail)
   all_goals(conv=>whnf)
   all_goals exact bG.mk (aj)
 · have hc:=UInt8.toNat_lt c
   rw[List.length_cons]at hl⊢
   refine K1.E 0x101c09fd Tryz.func81 ?_
   repeat' ((conv=>whnf);first|refine K1.w ?_|refine K1.u ?_|refine aJ.dR ?_|refine K1.z ?_|refine K1.y (fun _=>?_) (fun _=>?_)|fail)
   conv=>whnf
   refine aN.mk {p:Nat×List Ev×List UInt8//je t p.1=some p.2∧p.1≤c.toNat} (fun p=>match p with
     |⟨(0,_,r),_⟩=>⟨[(0,.sl 1 r.length true (aV r)),(4,.v (.slice none 0 0)),(18,.v (.int .i64 (c.toNat:Int))),(19,.v (.int .i64 0))],[],[],0⟩
     |⟨(i+1,l,r),_⟩=>⟨[(0,.sl 1 r.length true (aV r)),(4,.own 90),(18,.v (.int .i64 (c.toNat:Int))),(19,.v (.int .i64 ((i:Int)+1)))],[(90,.row 42 12 l.length true (eG l))],[],91⟩)
     (fun p=>c.toNat-p.1.1) ⟨(0,[],t),rfl,Nat.zero_le _⟩ _
     (dO.mk' [] _ _ _ rfl ⟨aT.pF (bD.drop (bD.bytes (c::t)) 1) (by simp),aj,aj,aT.int rfl,trivial⟩ trivial rfl) ?_
   rintro⟨⟨_|i,l,r⟩,hp,hj⟩
   · dsimp only at hp hj
     obtain⟨hl0,hr0⟩:=nU hp
     obtain rfl:l=[]:=List.eq_nil_of_length_eq_zero hl0
     have hz:c.toNat=0→Ie (c::t)=some []:=fun h=>by show(je t c.toNat).map (·.1)=_;rw[h,hp];rfl
     rcases uG r with⟨e,m,ht,-,hm,-⟩|ht|ht
     · dsimp only
       repeat' ((conv=>whnf);first|refine K1.w ?_|refine K1.u ?_|refine K1.P1 (take_any r ht (bD.bytes r) rfl (by omega)) rfl ?_|refine aJ.dR ?_|refine K1.z ?_|refine K1.y (fun _=>?_) (fun _=>?_)|fail)
       all_goals(conv=>whnf)
       · refine⟨⟨(0+1,[]++[e],r.drop m),qE hp ht,by omega⟩,_,dO.mk' [(2,90)] _ _ _ rfl ⟨aT.pF (bD.drop (bD.bytes r) m) (by simp),aj,aj,aT.int rfl,trivial⟩ ⟨⟨_,rfl,cO.row rfl (fun i hi=>?_)⟩,trivial⟩ rfl,by show c.toNat-(0+1)<c.toNat-0;omega⟩
         have hi:i<1:=hi
         obtain rfl:i=0:=by omega
         rfl
       · rw[hz (by omega)]
         exact bG.mk (aT.aaL _)
     all_goals
      have hno:0<c.toNat→Ie (c::t)=none:=fun h=>by show(je t c.toNat).map (·.1)=_;rw[uI (uH hp (by rw[ht];decide)) c.toNat (by omega)];rfl
      dsimp only
      repeat' ((conv=>whnf);first|refine K1.w ?_|refine K1.u ?_|refine K1.P1 (take_any r ht (bD.bytes r) rfl (by omega)) rfl ?_|refine aJ.dR ?_|refine K1.z ?_|refine K1.y (fun _=>?_) (fun _=>?_)|fail)
      all_goals(conv=>whnf)
      · rw[hno (by omega)]
        exact bG.mk (aj)
      · rw[hz (by omega)]
        exact bG.mk (aT.aaL _)
   · dsimp only at hp hj
     obtain⟨hl0,hr0⟩:=nU hp
     have hz:c.toNat=i+1→Ie (c::t)=some l:=fun h=>by show(je t c.toNat).map (·.1)=_;rw[h,hp];rfl
     rcases uG r with⟨e,m,ht,-,hm,-⟩|ht|ht
     · dsimp only
       repeat' ((conv=>whnf);first|refine K1.w ?_|refine K1.u ?_|refine K1.P1 (take_any r ht (bD.bytes r) rfl (by omega)) rfl ?_|refine aJ.dR ?_|refine K1.z ?_|refine K1.y (fun _=>?_) (fun _=>?_)|fail)
       all_goals(conv=>whnf)
       · refine⟨⟨(i+1+1,l++[e],r.drop m),qE hp ht,by omega⟩,_,dO.mk' [(93,90)] _ _ _ rfl ⟨aT.pF (bD.drop (bD.bytes r) m) (by simp),aj,aj,aT.int rfl,trivial⟩ ⟨⟨_,rfl,cO.row (by simp) (fun m hm=>bJ (c:=Ev.cs) rfl rfl m hm)⟩,trivial⟩ rfl,by show c.toNat-(i+1+1)<c.toNat-(i+1);omega⟩
       · rw[hz (by omega)]
         exact bG.mk (aj)
     all_goals
      have hno:i+1<c.toNat→Ie (c::t)=none:=fun h=>by show(je t c.toNat).map (·.1)=_;rw[uI (uH hp (by rw[ht];decide)) c.toNat (by omega)];rfl
      dsimp only
      repeat' ((conv=>whnf);first|refine K1.w ?_|refine K1.u ?_|refine K1.P1 (take_any r ht (bD.bytes r) rfl (by omega)) rfl ?_|refine aJ.dR ?_|refine K1.z ?_|refine K1.y (fun _=>?_) (fun _=>?_)|fail)
      all_goals(conv=>whnf)
      · rw[hno (by omega)]
        exact bG.mk (aj)
      · rw[hz (by omega)]
        exact bG.mk (aj)
theorem Oy {n:Nat} {F:Nat→List AV} (b:List UInt8) (hF:bD F b) (hn:n=b.length) (hl:b.length≤1000000000):aG Tryz.prog 81 [.sl 1 n true F] (Ig (Ie b)) []:=
 (YD b hl).args (Ch.pF hF hn .nil)
end
section
open Go.RowKit
end
def zH (b:List UInt8):bn×Bool:=
 match kS b with
 |none=>(⟨0,0,0,0,0⟩,false)
 | some (n0,k0)=>match kS (b.drop k0)with
   |none=>(⟨n0,0,0,0,0⟩,false)
   | some (n1,k1)=>match kS ((b.drop k0).drop k1)with
     |none=>(⟨n0,n1,0,0,0⟩,false)
     | some (n2,k2)=>match kS (((b.drop k0).drop k1).drop k2)with
       |none=>(⟨n0,n1,n2,0,0⟩,false)
       | some (n3,k3)=>match kS ((((b.drop k0).drop k1).drop k2).drop k3)with
         |none=>(⟨n0,n1,n2,n3,0⟩,false)
         |some (n4,_)=>(⟨n0,n1,n2,n3,n4⟩,true)
def YE:Rc:=⟨0,0,0,dS,[]⟩
def rdB (k r:Int) (t:List UInt8):Rc×Bool:=
 if k=1∨k=4 then(match Ie t with|none=>(⟨k,r,0,dS,[]⟩,false)|some l=>(⟨k,r,0,dS,l⟩,true))
 else if k=2 then(match kS t with|none=>(⟨k,r,0,dS,[]⟩,false)|some (n,_)=>(⟨k,r,n,dS,[]⟩,true))
 else if k=3∨k=5 then(⟨k,r,0,(zH t).1,[]⟩,(zH t).2)
 else(⟨k,r,0,dS,[]⟩,false)
def jv (b:List UInt8):Rc×Bool:=
 if(dG b).2.2≠0∨b.length<(dG b).2.1+2 then(YE,false)
 else rdB ((b.getD (dG b).2.1 default).toNat:Int) ((b.getD ((dG b).2.1+1) default).toNat:Int) (b.drop ((dG b).2.1+2))
theorem mZ {n:Nat} (h:n≤1048576) (t:List UInt8):kS (aA n++t)=some (n,(aA n).length):=by
 unfold kS
 rw[sW n t (by omega),if_pos ⟨rfl,h⟩]
theorem Cc (l:List Ev) (h: ∀e∈l,fB e=0) (t:List UInt8): ∀j,j≤l.length→je (fZ l++t) j=some (l.take j,fZ (l.drop j)++t)
  |0,_=>by simp[je]
  | j+1,hj=>by
    have ih:=Cc l h t j (by omega)
    have e0:l.drop j=l[j]::l.drop (j+1):=List.drop_eq_getElem_cons (by omega)
    have e1:fZ (l.drop j)++t=aS l[j]++(fZ (l.drop (j+1))++t):=by
     rw[e0]
     show aS l[j]++fZ (l.drop (j+1))++t=_
     rw[List.append_assoc]
    have ht:=Vd l[j] (h _ (List.getElem_mem _)) (fZ (l.drop (j+1))++t)
    rw[←e1]at ht
    rw[qE ih ht,e1,List.drop_left]
    congr 2
    exact List.take_append_getElem (by omega)
theorem YF (l:List Ev) (h: ∀e∈l,fB e=0) (hl:l.length≤255) (t:List UInt8):Ie (UInt8.ofNat l.length::(fZ l++t))=some l:=by
 show(je (fZ l++t) (UInt8.ofNat l.length).toNat).map (·.1)=_
 rw[Ou (by omega),Cc l h t _ (Nat.le_refl _),List.take_length]
 rfl
theorem Tz {c0 c1 c2 c3 c4:Nat} (h0:c0≤1048576) (h1:c1≤1048576) (h2:c2≤1048576) (h3:c3≤1048576) (h4:c4≤1048576) (t:List UInt8):
  zH (aA c0++(aA c1++(aA c2++(aA c3++(aA c4++t)))))=(⟨c0,c1,c2,c3,c4⟩,true):=by
 unfold zH
 rw[mZ h0]
 dsimp only
 rw[List.drop_left,mZ h1]
 dsimp only
 rw[List.drop_left,mZ h2]
 dsimp only
 rw[List.drop_left,mZ h3]
 dsimp only
 rw[List.drop_left,mZ h4]
theorem Ve (x:Rc) (h:iK x=true) (n:Nat) (hn:n≤4294967296) (t:List UInt8):jv (aA n++(jV x++t))=(x,true):=by
 have m:=oh h
 obtain⟨k,r,u,⟨c0,c1,c2,c3,c4⟩,ev⟩:=x
 obtain⟨mk,mr,mu,wC,uO,me0,⟨m0,m1,m2,m3,m4⟩,ml,Lp,yw⟩:=m
 dsimp only at mk mr mu ml m0 m1 m2 m3 m4 wC uO me0 yw Lp
 have Gf:=AU yw
 obtain⟨rest,hrest⟩: ∃rest,rest=(if zl k then UInt8.ofNat ev.length::fZ ev else [])++(if zn k then iM u else [])++(if zo k then zk ⟨c0,c1,c2,c3,c4⟩else [])++t:=⟨_,rfl⟩
 have hb:aA n++(jV ⟨k,r,u,⟨c0,c1,c2,c3,c4⟩,ev⟩++t)=aA n++([byteOf k,byteOf r]++rest):=by
  rw[hrest];simp[jV]
 have g0:((aA n++([byteOf k,byteOf r]++rest)).getD (aA n).length default)=byteOf k:=by
  rw[List.getD,List.getElem?_append_right (Nat.le_refl _),Nat.sub_self];rfl
 have g1:((aA n++([byteOf k,byteOf r]++rest)).getD ((aA n).length+1) default)=byteOf r:=by
  rw[List.getD,List.getElem?_append_right (by omega),Nat.add_sub_cancel_left];rfl
 have g2:(aA n++([byteOf k,byteOf r]++rest)).drop ((aA n).length+2)=rest:=by
  rw[←List.drop_drop,List.drop_left];rfl
 rw[hb]
 unfold jv
 rw[sW n _ hn]
 rw[if_neg (by simp)]
 dsimp only
 rw[g0,g1,g2,fP (by omega) (by omega),fP (by omega) (by omega)]
 clear g0 g1 g2 hb
 unfold rdB
 rcases(show(k=1∨k=4)∨k=2∨(k=3∨k=5) by omega)with hk|hk|hk
 · have hU:zn k=false:=by simp[zn];omega
   have hC:zo k=false:=by simp[zo];omega
   have hE:zl k=true:=by simp[zl];omega
   rw[hU]at wC hrest;rw[hC]at uO hrest;rw[hE]at hrest
   simp only[Bool.false_eq_true,false_or]at wC uO
   rw[if_pos hk,hrest]
   simp only[if_true,Bool.false_eq_true,if_false,List.append_nil,List.cons_append]
   rw[YF ev (pK Gf) (by omega)]
   rw[wC,uO]
 · have hU:zn k=true:=by simp[zn];omega
   have hC:zo k=false:=by simp[zo];omega
   have hE:zl k=false:=by simp[zl];omega
   rw[hU]at hrest;rw[hC]at uO hrest;rw[hE]at me0 hrest
   simp only[Bool.false_eq_true,false_or]at me0 uO
   obtain⟨un,rfl,hun⟩:=gq mu
   rw[if_neg (by omega),if_pos hk,hrest]
   simp only[if_true,Bool.false_eq_true,if_false,List.append_nil,List.nil_append]
   rw[dU,mZ hun]
   dsimp only
   rw[List.eq_nil_of_length_eq_zero me0,uO]
 · have hU:zn k=false:=by simp[zn];omega
   have hC:zo k=true:=by simp[zo];omega
   have hE:zl k=false:=by simp[zl];omega
   rw[hU]at wC hrest;rw[hC]at hrest;rw[hE]at me0 hrest
   simp only[Bool.false_eq_true,false_or]at wC me0
   obtain⟨c0,rfl,hc0⟩:=gq m0
   obtain⟨c1,rfl,hc1⟩:=gq m1
   obtain⟨c2,rfl,hc2⟩:=gq m2
   obtain⟨c3,rfl,hc3⟩:=gq m3
   obtain⟨c4,rfl,hc4⟩:=gq m4
   rw[if_neg (by omega),if_neg (by omega),if_pos hk,hrest]
   simp only[if_true,Bool.false_eq_true,if_false,List.append_nil,List.nil_append,zk,dU,List.append_assoc]
   rw[Tz hc0 hc1 hc2 hc3 hc4]
   dsimp only
   rw[List.eq_nil_of_length_eq_zero me0,wC]
instance (l:List UInt8):Decidable (rW l):=inferInstanceAs (Decidable (_∧_))
def inner (l:List UInt8):List UInt8:=l.take (l.length-4)
theorem zq (m:List UInt8):inner (eX m)=m:=by
 unfold inner
 rw[eH,Nat.add_sub_cancel]
 simp[eX]
theorem TA (m:List UInt8):rW (eX m):=by
 refine⟨by rw[eH];omega, ?_⟩
 have:=zq m
 unfold inner at this
 rw[this]
theorem AX {l:List UInt8} (h:rW l):l=eX (inner l):=h.2
def AY (l:List UInt8):Rc×Int:=
 if 2048<l.length then(YE,5)else if rW l then
  if(jv (inner l)).2=true∧iK (jv (inner l)).1=true∧bg (jv (inner l)).1=l then((jv (inner l)).1,0)else(YE,3)
 else(YE,4)
theorem Gq (x:Rc) (h:iK x=true):2≤(jV x).length∧(jV x).length≤1000:=by
 have m:=oh h
 have hv (n:Nat):(aA n).length≤10:=bU 9 _
 have Vf (n:Int):(iM n).length≤10:=hv _
 have he:=sU (pK (AU m.ev))
 have hl:=m.l
 have e1:(jV x).length=2+(if zl x.k then 1+(fZ x.ev).length else 0)+(if zn x.k then(iM x.u).length else 0)+(if zo x.k then(zk x.c).length else 0):=by
  unfold jV
  simp only[List.length_append]
  congr 1
  · congr 1
    · congr 1
      split<;>simp
      omega
    · split<;>rfl
  · split<;>rfl
 have hc:(zk x.c).length≤50:=by
  have:=Vf x.c.c0;have:=Vf x.c.c1;have:=Vf x.c.c2;have:=Vf x.c.c3;have:=Vf x.c.c4
  unfold zk
  simp only[List.length_append]
  omega
 have:=Vf x.u
 rw[e1]
 refine⟨by omega, ?_⟩
 split<;>split<;>split<;>omega
theorem Oz (x:Rc) (h:iK x=true):(bg x).length≤2048:=by
 have:=Gq x h
 have hv:(aA (jV x).length).length≤10:=bU 9 _
 unfold bg
 rw[eH,List.length_append]
 omega
theorem xX (x:Rc) (h:iK x=true):AY (bg x)=(x,0):=by
 have hb:=Gq x h
 have hr:=Ve x h (jV x).length (by omega) []
 rw[List.append_nil]at hr
 have hi:inner (bg x)=aA (jV x).length++jV x:=zq _
 have ho:rW (bg x):=TA _
 unfold AY
 rw[if_neg (by have:=Oz x h;omega),if_pos ho,hi,hr,if_pos ⟨rfl,h,rfl⟩]
section
open Go.RowKit
theorem aT.ig {a1 a2 a3 a4 a5 a6 a7 a8 b:AV} (f:Nat→List AV):aT (.dL [.agg [a1,a2,a3,a4,a5,a6,a7,a8,.v (.slice none 0 0)],b]) (.dL [.agg [a1,a2,a3,a4,a5,a6,a7,a8,.sl 12 0 true f],b]):=by
 rintro X u ⟨us,e,ha⟩
 exact⟨us,e,ha.hd fun u hu=>C1.Tn hu⟩
theorem uJ {b:List UInt8} {m k:Nat} (h:kS b=some (m,k)):k≤b.length∧m≤1048576:=by
 have hle:=vZ b
 unfold kS at h
 split at h
 · rename_i h0
   simp only[Option.some.injEq,Prod.mk.injEq]at h
   omega
 · cases h
theorem aG.res {P:Program} {f:FuncId} {cu:List AV} {r r':AV} {h:List (Nat×AO)} (hs:aG P f cu r h) (hr:aT r r'):aG P f cu r' h:=
 ⟨hs.1,fun w keep args hk ha=>(hs.2 w keep args hk ha).mono fun _ _ ⟨u,ρ,h1,h2,h3,h4⟩=>⟨u,ρ,h1,h2,hr _ _ h3,h4⟩⟩
end
end Go.Proofs.YtimhagicagdkfaaGreat
